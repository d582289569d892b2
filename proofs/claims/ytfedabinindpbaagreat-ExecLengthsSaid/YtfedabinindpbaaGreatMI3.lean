/- Lists of floats. -/
import Derived.Test.YtfedabinindpbaaGreatMY1
import Derived.Test.YtfedabinindpbaaGreatMC4
import Derived.Test.YtfedabinindpbaaGreatX0
set_option linter.unusedSimpArgs false
set_option linter.unusedVariables false
namespace Go.Proofs.YtfedabinindpbaaGreat
open Go.RowKit Go.Lib
def FsAt(w:World)(A:Option Addr)(n:Nat)(f:Nat->Nat):Prop:=∀i,i<n->∃b o,∃u:Fin 18446744073709551616,A=some ⟨b,o,none⟩/\w.cell? ⟨b,o+i,none⟩=some (.float .f64 u)/\nz u=f i
theorem FsAt.keep{W w1:World}{A:Option Addr}{n:Nat}{f:Nat->Nat}(hb:Below W.heap.size W w1)(h:FsAt W A n f):FsAt w1 A n f:=λi hi=>by
 obtain⟨b,o,u,e,h1,h2⟩:=h i hi
 exact⟨b,o,u,e,keep_cell hb h1,h2⟩
theorem FsAt.congr{w:World}{A:Option Addr}{n:Nat}{f g:Nat->Nat}(h:FsAt w A n f)(e:∀i,i<n->f i=g i):FsAt w A n g:=λi hi=>by rw[<-e i hi];exact h i hi
theorem FsAt.nil(w:World)(A:Option Addr)(f:Nat->Nat):FsAt w A 0 f:=λi hi=>by omega
abbrev Wd:=Fin 18446744073709551616
def fltV(L:List Wd):List Value:=L.map λu:Wd=>Value.float .f64 u.val
theorem fltV_app(L:List Wd)(u:Wd):fltV L++[Value.float .f64 (u:Nat)]=fltV (L++[u]):=by unfold fltV;rw[List.map_append];rfl
def OwnL(w:World)(base:Nat)(v:Value)(L:List Wd):Prop:=w.ownsRow base 24 1 v L.length (fltV L)
theorem OwnL.nil(w:World)(base:Nat):OwnL w base (.slice none 0 0) []:=World.ownsRow_nil _ _ _ _
theorem OwnL.fs{w:World}{base:Nat}{v:Value}{L:List Wd}(h:OwnL w base v L):∃A c,v=.slice A L.length c/\FsAt w A L.length (λi=>nz (L.getD i 0))/\L.length<=c/\c<=maxLen/\(∀b o,A=some ⟨b,o,none⟩->base<=b):=by
 obtain⟨A,c,rfl,hc,h1,h2,h3⟩:=owns_cells h
 refine⟨A,c,rfl,λi hi=>?_,h1,h2,h3⟩
 obtain⟨b,o,e,hx⟩:=hc i (.float .f64 ((L[i]:Wd):Nat)) (by unfold fltV;simp[hi])
 exact⟨b,o,L[i],e,hx,by show _=nz (L.getD i 0);rw[List.getD_eq_getElem?_getD,List.getElem?_eq_getElem hi];rfl⟩
theorem info_float:(Tryz.prog.info? 24).map (λi=>(i.zero,i.size,i.bytes))=some (some (.float .f64 0),1,8):=by kernel_rfl
theorem bs_float(u:Wd)(w:World):(Instr.buildSlice 35 1 #[(0,.float .f64 (u:Nat))]).run Tryz.prog w=.ok (.slice (some ⟨w.heap.size,0,none⟩) 1 1) (w.alloc (.cells #[.float .f64 (u:Nat)] 24)):=by
 obtain⟨i0,hi,hz0,hz1,hz2⟩:=info_parts info_float
 refine run_buildSlice w 35 24 1 _ #[.float .f64 (u:Nat)] i0 _ Tryz.underlying35 hi hz0 (by rw[hz1];decide) (by rw[hz1];decide) ?_
 rw[hz1]
 have hr:Array.range 1=#[0]:=by decide
 simp[Instr.fill,Value.cells,hr]
def Apart(v1 v2:Value):Prop:=∀g,v1.ownBlock=some g->v2.ownBlock≠some g
theorem Apart.symm{v1 v2:Value}(h:Apart v1 v2):Apart v2 v1:=λg e1 e2=>h g e2 e1
theorem OwnL.kept{w w':World}{base:Nat}{v v2:Value}{L:List Wd}(h:OwnL w base v L)(hg:w.grownBy w' v2.ownBlock)(ha:Apart v2 v):OwnL w' base v L:=by
 refine World.ownsRow.kept h hg ?_
 cases e:v.ownBlock with
 |none=>exact .inl rfl
 |some g=>exact .inr (λe2=>ha g e2.symm e)
theorem OwnL.below{w w':World}{base:Nat}{v:Value}{L:List Wd}(h:OwnL w base v L)(hb:Below w.heap.size w w'):OwnL w' base v L:=owns_below h hb
theorem OwnL.lt{w:World}{base:Nat}{v:Value}{L:List Wd}(h:OwnL w base v L)(g:Nat)(e:v.ownBlock=some g):base<=g/\g<w.heap.size:=World.ownsRow.lt h g e
theorem Apart.next{w:World}{base:Nat}{v1 v2:Value}{M:List Wd}{g n c:Nat}(h:Apart v1 v2)(h2:OwnL w base v2 M)(hL:v1.ownBlock=some g\/g=w.heap.size):Apart (.slice (some ⟨g,0,none⟩) n c) v2:=by
 intro k e1 e2
 have e1:g=k:=by
  have:(Value.slice (some ⟨g,0,none⟩) n c).ownBlock=some g:=rfl
  rw[this] at e1
  simpa using e1
 subst e1
 rcases hL with hL|hL
 ·exact h g hL e2
 ·have:=(h2.lt g e2).2
  omega
theorem wpList_appX{ops:Array Oper}{rest:List Oper}{o:Oper}{a:Act}{w:World}{Q:Exit->Act->World->Prop}(hgd:o.guard=none)(s x:Operand)(ho:o.op=.call {callee:=.builtin .append,args:=#[s,x],argTypes:=#[23,23]})(base:Nat)(v:Value)(L:List Rx)(hs:a.eval s=v)(hown:OwnX w base v L)(b c:Nat)(u:Rx)(hx:a.eval x=.slice (some ⟨b,0,none⟩) 1 c)(hc:w.cell? ⟨b,0,none⟩=some (.float .f64 (u.1:Nat)))(hc2:w.cell? ⟨b,1,none⟩=some (.float .f64 (u.2:Nat)))(hk:L.length+1<=1099511627776)(hbase:base<=w.heap.size)(h:∀v' w',Hid (OwnX w' base v' (L++[u]))->Hid (w.grownBy w' v.ownBlock)->wpList Tryz.prog ops Q rest (a.put o.dst v') w'):wpList Tryz.prog ops Q (o::rest) a w:=by
 refine wpList_appG hgd s x _ _ ho 2 16 (.agg #[.float .f64 0,.float .f64 0]) Tryz.underlying23 info_C rfl (by decide) (by decide) base v L.length (cxV L) hs hown b c [.float .f64 (u.1:Nat),.float .f64 (u.2:Nat)] rfl hx ?_ ?_ hk hbase ?_
 ·intro j z hj
  rcases j with _|_|j
  ·obtain rfl:Value.float .f64 (u.1:Nat)=z:=by simpa using hj
   exact hc
  ·obtain rfl:Value.float .f64 (u.2:Nat)=z:=by simpa using hj
   exact hc2
  ·simp at hj
 ·intro z hz
  simp at hz
  rcases hz with rfl|rfl<;>rfl
 ·intro v' w' h1 h2
  refine h v' w' (aZ ?_) h2
  have h3:=h1.out
  rw[cxV_app] at h3
  show w'.ownsRow base _ 2 v' (L++[u]).length (cxV (L++[u]))
  rw[List.length_append]
  exact h3
theorem bs_C(u:Rx)(w:World):(Instr.buildSlice 23 1 #[(0,cV u)]).run Tryz.prog w=.ok (.slice (some ⟨w.heap.size,0,none⟩) 1 1) (w.alloc (.cells #[.float .f64 (u.1:Nat),.float .f64 (u.2:Nat)] 29)):=by
 obtain⟨i0,hi,hz0,hz1,hz2⟩:=info_parts info_C
 refine run_buildSlice w 23 29 1 _ #[.float .f64 (u.1:Nat),.float .f64 (u.2:Nat)] i0 _ Tryz.underlying23 hi hz0 (by rw[hz1];decide) (by rw[hz1];decide) ?_
 rw[hz1]
 have hr:Array.range 1=#[0]:=by decide
 have hr2:Array.range 2=#[0,1]:=by decide
 simp[Instr.fill,Value.cells,hr,hr2]
theorem wp_app1{o:Oper}{a:Act}{w:World}{K:Act->World->Prop}{Q:Exit->Act->World->Prop}(s x:Operand)(t e:TypeId)(ho:o.op=.call {callee:=.builtin .append,args:=#[s,x],argTypes:=#[t,t]})(sz bytes:Nat)(z:Value)(hU:Tryz.prog.underlying t=some (.slice e))(hI:(Tryz.prog.info? e).map (λi=>(i.zero,i.size,i.bytes))=some (some z,sz,bytes))(hzs:z.cells.size=sz)(hsz:0<sz)(hby:bytes<=128)(base:Nat)(v:Value)(k:Nat)(xs:List Value)(hs:a.eval s=v)(hown:w.ownsRow base e sz v k xs)(b c:Nat)(news:List Value)(hl:news.length=sz)(hx:a.eval x=.slice (some ⟨b,0,none⟩) 1 c)(hn:∀j u,news[j]?=some u->w.cell? ⟨b,j,none⟩=some u)(h1:∀u∈news,u.oneCell'=true)(hk:k+1<=1048576)(hbase:base<=w.heap.size)(h:∀g cap w',Hid (w'.ownsRow base e sz (.slice (some ⟨g,0,none⟩) (k+1) cap) (k+1) (xs++news))->Hid (w.grownBy w' v.ownBlock)->Hid (v.ownBlock=some g\/g=w.heap.size)->K (a.put o.dst (.slice (some ⟨g,0,none⟩) (k+1) cap)) w'):Oper.wp Tryz.prog o a w K Q:=by
 obtain⟨i0,hi,hz0,hz1,hz2⟩:=info_parts hI
 refine wp_append_lies w s x t ho base e i0 z sz bytes hU hi hz0 hz1 hz2 hzs hsz v k xs hs hown ⟨b,0,none⟩ 1 c news hx (by omega) ?_ h1 (by omega) (by unfold maxLen;omega) ?_ hbase _ rfl ?_
 ·intro j u hj
  have:=hn j u hj
  rw[Addr.add]
  split
  ·rename_i e;subst e;exact this
  ·simpa using this
 ·have:(k+1)*bytes<=1048576*128:=Nat.mul_le_mul hk hby
  omega
 ·intro g cap w' h1 h2 h3 _
  exact h g cap w' (aZ h1) (aZ h2) (aZ h3)
theorem wp_app1L{o:Oper}{a:Act}{w:World}{K:Act->World->Prop}{Q:Exit->Act->World->Prop}(s x:Operand)(ho:o.op=.call {callee:=.builtin .append,args:=#[s,x],argTypes:=#[35,35]})(base:Nat)(v:Value)(L:List Wd)(hs:a.eval s=v)(hown:OwnL w base v L)(b c:Nat)(u:Wd)(hx:a.eval x=.slice (some ⟨b,0,none⟩) 1 c)(hc:w.cell? ⟨b,0,none⟩=some (.float .f64 (u:Nat)))(hk:L.length+1<=1048576)(hbase:base<=w.heap.size)(h:∀g cap w',Hid (OwnL w' base (.slice (some ⟨g,0,none⟩) (L.length+1) cap) (L++[u]))->Hid (w.grownBy w' v.ownBlock)->Hid (v.ownBlock=some g\/g=w.heap.size)->K (a.put o.dst (.slice (some ⟨g,0,none⟩) (L.length+1) cap)) w'):Oper.wp Tryz.prog o a w K Q:=by
 refine wp_app1 s x _ _ ho 1 8 (.float .f64 0) Tryz.underlying35 info_float rfl (by decide) (by decide) base v L.length (fltV L) hs hown b c [.float .f64 (u:Nat)] rfl hx ?_ ?_ hk hbase ?_
 ·intro j z hj
  rcases j with _|j
  ·obtain rfl:Value.float .f64 (u:Nat)=z:=by simpa using hj
   exact hc
  ·simp at hj
 ·intro z hz
  simp at hz
  subst hz;rfl
 ·intro g cap w' h1 h2 h3
  refine h g cap w' (aZ ?_) h2 h3
  have h4:=h1.out
  rw[fltV_app] at h4
  show w'.ownsRow base _ 1 _ (L++[u]).length (fltV (L++[u]))
  rw[List.length_append]
  exact h4
theorem wp_app1X{o:Oper}{a:Act}{w:World}{K:Act->World->Prop}{Q:Exit->Act->World->Prop}(s x:Operand)(ho:o.op=.call {callee:=.builtin .append,args:=#[s,x],argTypes:=#[23,23]})(base:Nat)(v:Value)(L:List Rx)(hs:a.eval s=v)(hown:OwnX w base v L)(b c:Nat)(u:Rx)(hx:a.eval x=.slice (some ⟨b,0,none⟩) 1 c)(hc:w.cell? ⟨b,0,none⟩=some (.float .f64 (u.1:Nat)))(hc2:w.cell? ⟨b,1,none⟩=some (.float .f64 (u.2:Nat)))(hk:L.length+1<=1048576)(hbase:base<=w.heap.size)(h:∀g cap w',Hid (OwnX w' base (.slice (some ⟨g,0,none⟩) (L.length+1) cap) (L++[u]))->Hid (w.grownBy w' v.ownBlock)->Hid (v.ownBlock=some g\/g=w.heap.size)->K (a.put o.dst (.slice (some ⟨g,0,none⟩) (L.length+1) cap)) w'):Oper.wp Tryz.prog o a w K Q:=by
 refine wp_app1 s x _ _ ho 2 16 (.agg #[.float .f64 0,.float .f64 0]) Tryz.underlying23 info_C rfl (by decide) (by decide) base v L.length (cxV L) hs hown b c [.float .f64 (u.1:Nat),.float .f64 (u.2:Nat)] rfl hx ?_ ?_ hk hbase ?_
 ·intro j z hj
  rcases j with _|_|j
  ·obtain rfl:Value.float .f64 (u.1:Nat)=z:=by simpa using hj
   exact hc
  ·obtain rfl:Value.float .f64 (u.2:Nat)=z:=by simpa using hj
   exact hc2
  ·simp at hj
 ·intro z hz
  simp at hz
  rcases hz with rfl|rfl<;>rfl
 ·intro g cap w' h1 h2 h3
  refine h g cap w' (aZ ?_) h2 h3
  have h4:=h1.out
  rw[cxV_app] at h4
  show w'.ownsRow base _ 2 _ (L++[u]).length (cxV (L++[u]))
  rw[List.length_append]
  exact h4
end Go.Proofs.YtfedabinindpbaaGreat
