/- Lists of floats. -/
import Derived.Test.YtmgfaeineklccaaGreatMY1
import Derived.Test.YtmgfaeineklccaaGreatMC4
import Derived.Test.YtmgfaeineklccaaGreatX0
set_option linter.unusedSimpArgs false
set_option linter.unusedVariables false
namespace Go.Proofs.YtmgfaeineklccaaGreat
open Go.RowKit Go.Lib
def FsAt(w:World)(A:Option Addr)(n:Nat)(f:Nat->Nat):Prop:=∀i,i<n->∃b o,∃u:Fin 18446744073709551616,A=some ⟨b,o,none⟩/\w.cell? ⟨b,o+i,none⟩=some (.float .f64 u)/\nz u=f i
theorem FsAt.keep{W w1:World}{A:Option Addr}{n:Nat}{f:Nat->Nat}(hb:Below W.heap.size W w1)(h:FsAt W A n f):FsAt w1 A n f:=λi hi=>by
 obtain⟨b,o,u,e,h1,h2⟩:=h i hi
 exact⟨b,o,u,e,keep_cell hb h1,h2⟩
theorem FsAt.congr{w:World}{A:Option Addr}{n:Nat}{f g:Nat->Nat}(h:FsAt w A n f)(e:∀i,i<n->f i=g i):FsAt w A n g:=λi hi=>by rw[<-e i hi];exact h i hi
theorem FsAt.nil(w:World)(A:Option Addr)(f:Nat->Nat):FsAt w A 0 f:=λi hi=>by omega
abbrev Wd:=Fin 18446744073709551616
def fltV(L:List Wd):List Value:=L.map λu:Wd=>Value.float .f64 u.val
theorem fltV_app(L:List Wd)(u:Wd):fltV L++[Value.float .f64 (u:Nat)]=fltV (L++[u]):=by unfold fltV;rw[List.map_append];rfl
def OwnL(w:World)(base:Nat)(v:Value)(L:List Wd):Prop:=w.ownsRow base 33 1 v L.length (fltV L)
theorem OwnL.nil(w:World)(base:Nat):OwnL w base (.slice none 0 0) []:=World.ownsRow_nil _ _ _ _
theorem OwnL.fs{w:World}{base:Nat}{v:Value}{L:List Wd}(h:OwnL w base v L):∃A c,v=.slice A L.length c/\FsAt w A L.length (λi=>nz (L.getD i 0))/\L.length<=c/\c<=maxLen/\(∀b o,A=some ⟨b,o,none⟩->base<=b):=by
 obtain⟨A,c,rfl,hc,h1,h2,h3⟩:=owns_cells h
 refine⟨A,c,rfl,λi hi=>?_,h1,h2,h3⟩
 obtain⟨b,o,e,hx⟩:=hc i (.float .f64 ((L[i]:Wd):Nat)) (by unfold fltV;simp[hi])
 exact⟨b,o,L[i],e,hx,by show _=nz (L.getD i 0);rw[List.getD_eq_getElem?_getD,List.getElem?_eq_getElem hi];rfl⟩
theorem info_float:(Tryz.prog.info? 33).map (λi=>(i.zero,i.size,i.bytes))=some (some (.float .f64 0),1,8):=by kernel_rfl
theorem bs_float(u:Wd)(w:World):(Instr.buildSlice 53 1 #[(0,.float .f64 (u:Nat))]).run Tryz.prog w=.ok (.slice (some ⟨w.heap.size,0,none⟩) 1 1) (w.alloc (.cells #[.float .f64 (u:Nat)] 33)):=by
 obtain⟨i0,hi,hz0,hz1,hz2⟩:=info_parts info_float
 refine run_buildSlice w 53 33 1 _ #[.float .f64 (u:Nat)] i0 _ Tryz.underlying53 hi hz0 (by rw[hz1];decide) (by rw[hz1];decide) ?_
 rw[hz1]
 have hr:Array.range 1=#[0]:=by decide
 simp[Instr.fill,Value.cells,hr]
def Apart(v1 v2:Value):Prop:=∀g,v1.ownBlock=some g->v2.ownBlock≠some g
theorem Apart.symm{v1 v2:Value}(h:Apart v1 v2):Apart v2 v1:=λg e1 e2=>h g e2 e1
theorem OwnL.kept{w w':World}{base:Nat}{v v2:Value}{L:List Wd}(h:OwnL w base v L)(hg:w.grownBy w' v2.ownBlock)(ha:Apart v2 v):OwnL w' base v L:=by
 refine World.ownsRow.kept h hg ?_
 cases e:v.ownBlock with
 |none=>exact .inl rfl
 |some g=>exact .inr (λe2=>ha g e2.symm e)
theorem OwnL.below{w w':World}{base:Nat}{v:Value}{L:List Wd}(h:OwnL w base v L)(hb:Below w.heap.size w w'):OwnL w' base v L:=owns_below h hb
theorem OwnL.lt{w:World}{base:Nat}{v:Value}{L:List Wd}(h:OwnL w base v L)(g:Nat)(e:v.ownBlock=some g):base<=g/\g<w.heap.size:=World.ownsRow.lt h g e
theorem Apart.next{w:World}{base:Nat}{v1 v2:Value}{M:List Wd}{g n c:Nat}(h:Apart v1 v2)(h2:OwnL w base v2 M)(hL:v1.ownBlock=some g\/g=w.heap.size):Apart (.slice (some ⟨g,0,none⟩) n c) v2:=by
 intro k e1 e2
 have e1:g=k:=by
  have:(Value.slice (some ⟨g,0,none⟩) n c).ownBlock=some g:=rfl
  rw[this] at e1
  simpa using e1
 subst e1
 rcases hL with hL|hL
 ·exact h g hL e2
 ·have:=(h2.lt g e2).2
  omega
end Go.Proofs.YtmgfaeineklccaaGreat
