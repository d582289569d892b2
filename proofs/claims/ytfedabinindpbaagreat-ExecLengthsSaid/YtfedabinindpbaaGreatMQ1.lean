/- Complex floats: two words, every NaN made one; rows of them in memory; rings of them as values behind the interface. -/
import Derived.Test.YtfedabinindpbaaGreatRM
import Derived.Test.YtfedabinindpbaaGreatMS1
import Derived.Test.YtfedabinindpbaaGreatX0
import Derived.Test.YtfedabinindpbaaGreatW12a
import Derived.Test.YtfedabinindpbaaGreatZ3
import Derived.Test.YtfedabinindpbaaGreatMW1
import Derived.Laws.FloatArith
set_option linter.unusedSimpArgs false
set_option linter.unusedVariables false
set_option maxRecDepth 100000
set_option maxHeartbeats 4000000
namespace Go.Proofs.YtfedabinindpbaaGreat
open Go.RowKit Go.Lib
@[go_sem] theorem run_storeF{P:Program}(w:World)(a:Addr)(m:Mode)(k:FloatKind)(b:Nat):(store a (.float k b) m).run P w=stored P w a (.float k b) m:=run_store P w a _ m rfl
def nz(x:Nat):Nat:=if(FloatKind.f64.decode x).isNaN then 9221120237041090560 else x
abbrev Cx:=Nat×Nat
abbrev Rx:=Fin 18446744073709551616×Fin 18446744073709551616
def nC(u:Rx):Cx:=(nz u.1,nz u.2)
abbrev cV(u:Rx):Value:=.agg #[.float .f64 u.1,.float .f64 u.2]
def CsAt(w:World)(A:Option Addr)(n:Nat)(f:Nat->Cx):Prop:=∀i,i<n->∃b o,∃u:Rx,A=some ⟨b,o,none⟩/\w.cell? ⟨b,o+i*2,none⟩=some (.float .f64 u.1)/\w.cell? ⟨b,o+i*2+1,none⟩=some (.float .f64 u.2)/\nC u=f i
theorem CsAt.of{w w1:World}{A:Option Addr}{n:Nat}{f:Nat->Cx}(h:CsAt w A n f)(H:∀b o,0<n->A=some ⟨b,o,none⟩->∀i v,w.cell? ⟨b,i,none⟩=some v->w1.cell? ⟨b,i,none⟩=some v):CsAt w1 A n f:=λi hi=>by
 obtain⟨b,o,u,e,h1,h2,h3⟩:=h i hi
 exact⟨b,o,u,e,H b o (by omega) e _ _ h1,H b o (by omega) e _ _ h2,h3⟩
theorem CsAt.keep{W w1:World}{A:Option Addr}{n:Nat}{f:Nat->Cx}(hb:Below W.heap.size W w1)(h:CsAt W A n f):CsAt w1 A n f:=h.of λ_ _ _ _ _ _ hc=>keep_cell hb hc
theorem CsAt.drew{w:World}{A:Option Addr}{n:Nat}{f:Nat->Cx}(h:CsAt w A n f):CsAt w.drew A n f:=h
theorem CsAt.only{W w1:World}{c n:Nat}{A:Option Addr}{f:Nat->Cx}(ho:OnlyB c W w1)(hbc:∀b o,A=some ⟨b,o,none⟩->b≠c)(h:CsAt W A n f):CsAt w1 A n f:=
 h.of λb o _ e i v hc=>by rw[ho.cell (p:=⟨b,i,none⟩) (World.block_lt_of_cell? _ _ hc) (hbc b o e)];exact hc
theorem CsAt.congr{w:World}{A:Option Addr}{n:Nat}{f g:Nat->Cx}(h:CsAt w A n f)(e:∀i,i<n->f i=g i):CsAt w A n g:=λi hi=>by rw[<-e i hi];exact h i hi
theorem CsAt.nil(w:World)(A:Option Addr)(f:Nat->Cx):CsAt w A 0 f:=λi hi=>by omega
def RowC(w:World)(b n:Nat)(f:Nat->Cx):Prop:=∀i,i<n->∃u:Rx,w.cell? ⟨b,i*2,none⟩=some (.float .f64 u.1)/\w.cell? ⟨b,i*2+1,none⟩=some (.float .f64 u.2)/\w.frozen? ⟨b,i*2,none⟩=false/\w.frozen? ⟨b,i*2+1,none⟩=false/\nC u=f i
theorem RowC.of{w w1:World}{b n:Nat}{f:Nat->Cx}(h:RowC w b n f)(H:∀i v,w.cell? ⟨b,i,none⟩=some v->w1.cell? ⟨b,i,none⟩=some v/\w1.frozen? ⟨b,i,none⟩=w.frozen? ⟨b,i,none⟩):RowC w1 b n f:=λi hi=>by
 obtain⟨u,h1,h2,h3,h4,h5⟩:=h i hi
 exact⟨u,(H _ _ h1).1,(H _ _ h2).1,(H _ _ h1).2.trans h3,(H _ _ h2).2.trans h4,h5⟩
theorem RowC.keep{W w1:World}{b n:Nat}{f:Nat->Cx}(hb:Below W.heap.size W w1)(h:RowC W b n f):RowC w1 b n f:=
 h.of λ_ _ hc=>⟨keep_cell hb hc,by rw[World.frozen?_of_block (w:=W) (Below.block hb _ (World.block_lt_of_cell? _ _ hc))]⟩
theorem RowC.drew{w:World}{b n:Nat}{f:Nat->Cx}(h:RowC w b n f):RowC w.drew b n f:=h
theorem RowC.only{W w1:World}{b c n:Nat}{f:Nat->Cx}(ho:OnlyB c W w1)(hbc:b≠c)(h:RowC W b n f):RowC w1 b n f:=h.of λi _ hc=>by
 have hl:=World.block_lt_of_cell? _ _ hc
 exact⟨by rw[ho.cell (p:=⟨b,i,none⟩) hl hbc];exact hc,ho.frozen (p:=⟨b,i,none⟩) hl hbc⟩
theorem RowC.congr{w:World}{b n:Nat}{f g:Nat->Cx}(h:RowC w b n f)(e:∀i,i<n->f i=g i):RowC w b n g:=λi hi=>by rw[<-e i hi];exact h i hi
theorem RowC.cs{w:World}{b n:Nat}{f:Nat->Cx}(h:RowC w b n f):CsAt w (some ⟨b,0,none⟩) n f:=λi hi=>by
 obtain⟨u,h1,h2,h3,h4,h5⟩:=h i hi
 exact⟨b,0,u,rfl,by rw[Nat.zero_add];exact h1,by rw[Nat.zero_add];exact h2,h5⟩
def putC(w:World)(b i:Nat)(u:Rx):World:=(w.setCell ⟨b,i*2,none⟩ (.float .f64 u.1)).setCell ⟨b,i*2+1,none⟩ (.float .f64 u.2)
theorem RowC.set{w:World}{b n:Nat}{f:Nat->Cx}(h:RowC w b n f){j:Nat}(hj:j<n)(u:Rx):RowC (putC w b j u) b n (updT f j (nC u)):=λi hi=>by
 obtain⟨v,h1,h2,h3,h4,h5⟩:=h i hi
 unfold updT putC
 have ne:∀{x y:Nat},x≠y->(⟨b,x,none⟩:Addr)≠⟨b,y,none⟩:=λh e=>h (congrArg Addr.off e)
 by_cases e:i=j
 ·subst e
  refine⟨u,?_,?_,by simp only[World.frozen?_setCell];exact h3,by simp only[World.frozen?_setCell];exact h4,by rw[if_pos rfl]⟩
  ·rw[World.cell?_setCell_other _ _ _ _ (ne (by omega))]
   exact World.cell?_setCell_same _ _ _ h1
  ·refine World.cell?_setCell_same _ _ _ (u:=.float .f64 v.2) ?_
   rw[World.cell?_setCell_other _ _ _ _ (ne (by omega))]
   exact h2
 ·refine⟨v,?_,?_,by simp only[World.frozen?_setCell];exact h3,by simp only[World.frozen?_setCell];exact h4,by rw[if_neg e];exact h5⟩
  ·rw[World.cell?_setCell_other _ _ _ _ (ne (by omega)),World.cell?_setCell_other _ _ _ _ (ne (by omega))]
   exact h1
  ·rw[World.cell?_setCell_other _ _ _ _ (ne (by omega)),World.cell?_setCell_other _ _ _ _ (ne (by omega))]
   exact h2
theorem only_putC(b:Nat)(w:World)(i:Nat)(u:Rx):OnlyB b w (putC w b i u):=((OnlyB.refl b w).setCell _ _ _).setCell _ _ _
def zsC(n:Nat):Array Value:=madeCells #[.float .f64 0,.float .f64 0] (n*2)
theorem info_C:(Tryz.prog.info? 29).map (λi=>(i.zero,i.size,i.bytes))=some (some (.agg #[.float .f64 0,.float .f64 0]),2,16):=by kernel_rfl
theorem mk_C(n:Nat)(hn:n<=8796093022208)(w:World):(Instr.makeSlice 23 (.int .i64 n) (.int .i64 n)).run Tryz.prog w=.ok (.slice (some ⟨w.heap.size,0,none⟩) n n) (w.alloc (.cells (zsC n) 29)):=by
 obtain⟨i0,hi,hz0,hz1,hz2⟩:=info_parts info_C
 have h:=run_make (P:=Tryz.prog) w 23 29 i0 _ Tryz.underlying23 hi hz0 .i64 .i64 n n (by omega) (by omega) (by rw[hz2];omega) (by omega)
 rw[hz1] at h
 simpa[zsC,Value.cells] using h
theorem nC_zero:nC (0,0)=(0,0):=by kernel_rfl
theorem zs_rowC(n:Nat)(w:World)(t:TypeId):RowC (w.alloc (.cells (zsC n) t)) w.heap.size n (λ_=>(0,0)):=by
 intro i hi
 refine⟨(0,0),?_,?_,World.frozen?_alloc_new _ _ _ _,World.frozen?_alloc_new _ _ _ _,nC_zero⟩
 ·rw[World.cell?_alloc_new,zsC]
  simp[madeCells,show i*2<n*2 from by omega]
 ·rw[World.cell?_alloc_new,zsC]
  simp[madeCells,show i*2+1<n*2 from by omega,Nat.add_mod]
theorem boxC(w:World)(u:Rx)(t:TypeId):∃W,W=w.alloc (.cells #[.float .f64 u.1,.float .f64 u.2] t)/\Below w.heap.size w W/\W.cell? ⟨w.heap.size,0,none⟩=some (.float .f64 u.1)/\W.cell? ⟨w.heap.size,1,none⟩=some (.float .f64 u.2)/\W.heap.size=w.heap.size+1:=
 ⟨_,rfl,(Below.refl _ w).alloc (Nat.le_refl _) _,by rw[World.cell?_alloc_new];rfl,by rw[World.cell?_alloc_new];rfl,by simp⟩
theorem OnlyB.putC{b:Nat}{x y:World}(h:OnlyB b x y)(i:Nat)(u:Rx):OnlyB b x (putC y b i u):=(h.setCell _ _ _).setCell _ _ _
section
variable {M : Mem}
structure OwnC(M:Mem)(w:World)(b n:Nat)(f:Nat->Cx):Prop where
 row:RowC w b n f
 lt:b<w.heap.size
 pv:¬M.Pv w b
theorem OwnC.keep(H:M.Ok){w w':World}{b n:Nat}{f:Nat->Cx}(h:OwnC M w b n f)(k:M.On w w')(hs:M.St w):OwnC M w' b n f:=
 ⟨h.row.of λi v hc=>⟨H.cell hs k.fr hc,H.free hs k.fr hc⟩,Nat.lt_of_lt_of_le h.lt (H.size k.fr),H.pv hs k.fr h.lt h.pv⟩
theorem CsAt.keepM(H:M.Ok){w w':World}{A:Option Addr}{n:Nat}{f:Nat->Cx}(h:CsAt w A n f)(k:M.On w w')(hs:M.St w):CsAt w' A n f:=h.of λ_ _ _ _ _ _ hc=>H.cell hs k.fr hc
theorem OwnC.write(H:M.Ok){D w w':World}{b n:Nat}{f g:Nat->Cx}(h:OwnC M w b n f)(k:M.On D w)(hD:D.heap.size<=b)(ho:OnlyB b w w')(hr:RowC w' b n g):OwnC M w' b n g/\M.On D w':=by
 have h1:=H.only k.st k.fr hD h.pv ho
 exact⟨⟨hr,Nat.lt_of_lt_of_le h.lt ho.size,H.onlypv k.st h.pv ho h.lt h.pv⟩,⟨h1.1,h1.2⟩⟩
theorem OwnC.set(H:M.Ok){D w:World}{b n:Nat}{f:Nat->Cx}(h:OwnC M w b n f)(k:M.On D w)(hD:D.heap.size<=b){j:Nat}(hj:j<n)(u:Rx):
  OwnC M (putC w b j u) b n (updT f j (nC u))/\M.On D (putC w b j u):=h.write H k hD (only_putC _ _ _ _) (h.row.set hj u)
theorem OwnC.make(H:M.Ok){D w:World}(k:M.On D w)(n:Nat)(t:TypeId):OwnC M (w.alloc (.cells (zsC n) t)) w.heap.size n (λ_=>(0,0))/\M.On D (w.alloc (.cells (zsC n) t)):=
 ⟨⟨zs_rowC n w t,by simp,H.new k.st ((Below.refl _ w).alloc (Nat.le_refl _) _) (Nat.le_refl _)⟩,k.below H ((Below.refl _ w).alloc (Nat.le_refl _) _)⟩
theorem OwnC.congr{w:World}{b n:Nat}{f g:Nat->Cx}(h:OwnC M w b n f)(e:∀i,i<n->f i=g i):OwnC M w b n g:=⟨h.row.congr e,h.lt,h.pv⟩
theorem OwnC.cs{w:World}{b n:Nat}{f:Nat->Cx}(h:OwnC M w b n f):CsAt w (some ⟨b,0,none⟩) n f:=h.row.cs
theorem OwnC.other(H:M.Ok){w w':World}{b n g:Nat}{f:Nat->Cx}(h:OwnC M w b n f)(hs:M.St w)(hg:¬M.Pv w g)(ho:OnlyB g w w')(hne:b≠g):OwnC M w' b n f:=
 ⟨h.row.only ho hne,Nat.lt_of_lt_of_le h.lt ho.size,H.onlypv hs hg ho h.lt h.pv⟩
structure BoxC(M:Mem)(w:World)(b:Nat)(u:Rx):Prop where
 c0:w.cell? ⟨b,0,none⟩=some (.float .f64 u.1)
 c1:w.cell? ⟨b,1,none⟩=some (.float .f64 u.2)
 f0:w.frozen? ⟨b,0,none⟩=false
 f1:w.frozen? ⟨b,1,none⟩=false
 lt:b<w.heap.size
 pv:¬M.Pv w b
theorem BoxC.new(H:M.Ok){D w:World}(k:M.On D w)(u:Rx)(t:TypeId):BoxC M (w.alloc (.cells #[.float .f64 u.1,.float .f64 u.2] t)) w.heap.size u/\M.On D (w.alloc (.cells #[.float .f64 u.1,.float .f64 u.2] t)):=
 ⟨⟨by rw[World.cell?_alloc_new];rfl,by rw[World.cell?_alloc_new];rfl,World.frozen?_alloc_new _ _ _ _,World.frozen?_alloc_new _ _ _ _,by simp,H.new k.st ((Below.refl _ w).alloc (Nat.le_refl _) _) (Nat.le_refl _)⟩,k.below H ((Below.refl _ w).alloc (Nat.le_refl _) _)⟩
theorem BoxC.zero(H:M.Ok){D w:World}(k:M.On D w)(t:TypeId):BoxC M (w.alloc (.cells #[.float .f64 0,.float .f64 0] t)) w.heap.size (0,0)/\M.On D (w.alloc (.cells #[.float .f64 0,.float .f64 0] t)):=BoxC.new H k (0,0) t
theorem BoxC.keep(H:M.Ok){w w':World}{b:Nat}{u:Rx}(h:BoxC M w b u)(k:M.On w w')(hs:M.St w):BoxC M w' b u:=
 ⟨H.cell hs k.fr h.c0,H.cell hs k.fr h.c1,(H.free hs k.fr h.c0).trans h.f0,(H.free hs k.fr h.c1).trans h.f1,Nat.lt_of_lt_of_le h.lt (H.size k.fr),H.pv hs k.fr h.lt h.pv⟩
def setB(w:World)(b:Nat)(u:Rx):World:=(w.setCell ⟨b,0,none⟩ (.float .f64 u.1)).setCell ⟨b,1,none⟩ (.float .f64 u.2)
theorem OnlyB.setB{b:Nat}{x y:World}(h:OnlyB b x y)(u:Rx):OnlyB b x (setB y b u):=(h.setCell _ _ _).setCell _ _ _
theorem BoxC.set(H:M.Ok){D w:World}{b:Nat}{u:Rx}(h:BoxC M w b u)(k:M.On D w)(hD:D.heap.size<=b)(v:Rx):BoxC M (setB w b v) b v/\M.On D (setB w b v):=by
 have ho:OnlyB b w (setB w b v):=(OnlyB.refl b w).setB v
 have h1:=H.only k.st k.fr hD h.pv ho
 have ne:∀{x y:Nat},x≠y->(⟨b,x,none⟩:Addr)≠⟨b,y,none⟩:=λh e=>h (congrArg Addr.off e)
 refine⟨⟨?_,?_,?_,?_,Nat.lt_of_lt_of_le h.lt ho.size,H.onlypv k.st h.pv ho h.lt h.pv⟩,⟨h1.1,h1.2⟩⟩
 ·unfold Go.Proofs.YtfedabinindpbaaGreat.setB
  rw[World.cell?_setCell_other _ _ _ _ (ne (by omega))]
  exact World.cell?_setCell_same _ _ _ h.c0
 ·unfold Go.Proofs.YtfedabinindpbaaGreat.setB
  refine World.cell?_setCell_same _ _ _ (u:=.float .f64 u.2) ?_
  rw[World.cell?_setCell_other _ _ _ _ (ne (by omega))]
  exact h.c1
 ·unfold Go.Proofs.YtfedabinindpbaaGreat.setB;simp only[World.frozen?_setCell];exact h.f0
 ·unfold Go.Proofs.YtfedabinindpbaaGreat.setB;simp only[World.frozen?_setCell];exact h.f1
theorem BoxC.other(H:M.Ok){w w':World}{b g:Nat}{u:Rx}(h:BoxC M w b u)(hs:M.St w)(hg:¬M.Pv w g)(ho:OnlyB g w w')(hne:b≠g):BoxC M w' b u:=
 ⟨by rw[ho.cell (p:=⟨b,0,none⟩) h.lt hne];exact h.c0,by rw[ho.cell (p:=⟨b,1,none⟩) h.lt hne];exact h.c1,by rw[ho.frozen (p:=⟨b,0,none⟩) h.lt hne];exact h.f0,by rw[ho.frozen (p:=⟨b,1,none⟩) h.lt hne];exact h.f1,Nat.lt_of_lt_of_le h.lt ho.size,H.onlypv hs hg ho h.lt h.pv⟩
def upToC(k:Nat)(G:Nat->Cx):Nat->Cx:=λx=>if x<k then G x else(0,0)
theorem upToC_next(k:Nat)(G:Nat->Cx)(i:Nat):updT (upToC k G) k (G k) i=upToC (k+1) G i:=by
 unfold updT upToC
 by_cases e:i=k
 ·rw[if_pos e,if_pos (by omega),e]
 ·rw[if_neg e]
  by_cases e2:i<k
  ·simp[e2,show i<k+1 from by omega]
  ·simp[e2,show ¬i<k+1 from by omega]
theorem OwnC.next{w:World}{b n k:Nat}{G:Nat->Cx}(h:OwnC M w b n (updT (upToC k G) k (G k))):OwnC M w b n (upToC (k+1) G):=h.congr λi _=>upToC_next k G i
theorem OwnC.nextC{w:World}{b n k:Nat}{G:Nat->Cx}{v:Cx}(h:OwnC M w b n (updT (upToC k G) k v))(e:v=G k):OwnC M w b n (upToC (k+1) G):=by subst e;exact h.next
theorem OwnC.full{w:World}{b n:Nat}{G:Nat->Cx}(h:OwnC M w b n (upToC n G)):OwnC M w b n G:=h.congr λi hi=>by unfold upToC;rw[if_pos hi]
theorem OwnC.empty{w:World}{b n:Nat}{G:Nat->Cx}(h:OwnC M w b n (λ_=>(0,0))):OwnC M w b n (upToC 0 G):=h.congr λi hi=>by unfold upToC;rw[if_neg (by omega)]
end
structure RingC where
 t:TypeId
 v:Value
 fz:FuncId
 fa:FuncId
 fs:FuncId
 fm:FuncId
 fo:FuncId
 fr:FuncId
 R:Rg Cx
structure RingC.Ok(M:Mem)(ρ:RingC):Prop where
 mem:M.Ok
 nz:∀w,(nilAhead 344 ρ.t ρ.v "Zero").run Tryz.prog w=.ok (some false) w
 mz:∀w,(method 344 ρ.t ρ.v "Zero").run Tryz.prog w=.ok (ρ.fz,ρ.v) w
 na:∀w,(nilAhead 344 ρ.t ρ.v "Add").run Tryz.prog w=.ok (some false) w
 ma:∀w,(method 344 ρ.t ρ.v "Add").run Tryz.prog w=.ok (ρ.fa,ρ.v) w
 ns:∀w,(nilAhead 344 ρ.t ρ.v "Sub").run Tryz.prog w=.ok (some false) w
 ms:∀w,(method 344 ρ.t ρ.v "Sub").run Tryz.prog w=.ok (ρ.fs,ρ.v) w
 nm:∀w,(nilAhead 344 ρ.t ρ.v "Mul").run Tryz.prog w=.ok (some false) w
 mm:∀w,(method 344 ρ.t ρ.v "Mul").run Tryz.prog w=.ok (ρ.fm,ρ.v) w
 no:∀w,(nilAhead 344 ρ.t ρ.v "Over").run Tryz.prog w=.ok (some false) w
 mo:∀w,(method 344 ρ.t ρ.v "Over").run Tryz.prog w=.ok (ρ.fo,ρ.v) w
 nr:∀w,(nilAhead 344 ρ.t ρ.v "Root").run Tryz.prog w=.ok (some false) w
 mr:∀w,(method 344 ρ.t ρ.v "Root").run Tryz.prog w=.ok (ρ.fr,ρ.v) w
 cz:∀(args:Array Value) w,(callFunc ρ.fz args).run Tryz.prog w=.ok (.enter ρ.fz args) w
 ca:∀(args:Array Value) w,(callFunc ρ.fa args).run Tryz.prog w=.ok (.enter ρ.fa args) w
 cs:∀(args:Array Value) w,(callFunc ρ.fs args).run Tryz.prog w=.ok (.enter ρ.fs args) w
 cm:∀(args:Array Value) w,(callFunc ρ.fm args).run Tryz.prog w=.ok (.enter ρ.fm args) w
 co:∀(args:Array Value) w,(callFunc ρ.fo args).run Tryz.prog w=.ok (.enter ρ.fo args) w
 cr:∀(args:Array Value) w,(callFunc ρ.fr args).run Tryz.prog w=.ok (.enter ρ.fr args) w
 zero:∀w,M.St w->Calls Tryz.prog ρ.fz #[ρ.v] w λz w'=>(∃r,z=.returned (cV r)/\nC r=ρ.R.zero)/\M.On w w'
 add:∀(a b:Rx) w,M.St w->Calls Tryz.prog ρ.fa #[ρ.v,cV a,cV b] w λz w'=>(∃r,z=.returned (cV r)/\nC r=ρ.R.add (nC a) (nC b))/\M.On w w'
 sub:∀(a b:Rx) w,M.St w->Calls Tryz.prog ρ.fs #[ρ.v,cV a,cV b] w λz w'=>(∃r,z=.returned (cV r)/\nC r=ρ.R.sub (nC a) (nC b))/\M.On w w'
 mul:∀(a b:Rx) w,M.St w->Calls Tryz.prog ρ.fm #[ρ.v,cV a,cV b] w λz w'=>(∃r,z=.returned (cV r)/\nC r=ρ.R.mul (nC a) (nC b))/\M.On w w'
 over:∀(a:Rx) (n:Nat) w,1<=n->n<=32768->M.St w->Calls Tryz.prog ρ.fo #[ρ.v,cV a,.int .i64 n] w λz w'=>(∃r,z=.returned (cV r)/\nC r=ρ.R.over (nC a) n)/\M.On w w'
 root:∀(k:Int) (n:Nat) w,-4294967296<=k->k<=4294967296->1<=n->n<=65536->M.St w->Calls Tryz.prog ρ.fr #[ρ.v,.int .i64 k,.int .i64 n] w λz w'=>(∃r,z=.returned (cV r)/\nC r=ρ.R.root k n)/\M.On w w'
 z0:ρ.R.zero=(0,0)
theorem GatherC_any(A:Option Addr)(n c off st cnt:Nat)(f:Nat->Cx)(w:World)(hA:CsAt w A n f)(hn:n<=4398046511104)(hst:1<=st)(hs2:st<=4398046511104)(hc:cnt<=4398046511104)(ho:off<=4398046511104)(h:Fits n off st cnt):
  Calls Tryz.prog 156 #[.slice A n c,.int .i64 off,.int .i64 st,.int .i64 cnt] w λz w'=>z=.returned (.tuple #[.slice (some ⟨w.heap.size,0,none⟩) cnt cnt,.int .i64 0])/\w.heap.size<w'.heap.size/\RowC w' w.heap.size cnt (gathT f off st)/\Below w.heap.size w w':=by
 have HP:=aZ (strided_any n off st cnt w (by omega) hst (by omega) (by omega) (by omega) h)
 have hmk:=mk_C cnt (by omega)
 have HA:=aZ hA
 have H:=aZ h
 clear hA h
 go_enter Tryz.func156,Tryz.ntmps156
 go_wp2_with fail
 refine HP.out.mono ?_
 rintro z w' ⟨rfl,rfl⟩
 go_wp2
 go_loopw [12,26] (λq i wr=>∃k:Nat,k<=cnt/\i=.int .i64 k/\Hid (RowC wr w.heap.size cnt (upToC k (gathT f off st)))/\Hid (w.heap.size<wr.heap.size)/\Hid (Below w.heap.size w wr)) (λ_ i _=>cnt-(intOf i).toNat)
 case atStart=>exact⟨0,by omega,rfl,aZ ((zs_rowC cnt w _).congr λi hi=>by unfold upToC;simp),aZ (by simp),aZ ((Below.refl _ w).alloc (Nat.le_refl _) _)⟩
 case round=>
  obtain⟨k,hk,rfl,hr,hsz,hb⟩:=hrel
  by_cases hlt:k<cnt
  ·obtain⟨a1,a2⟩:=H.out.at' hlt
   obtain⟨y,hy⟩:∃y,off+k*st=y:=⟨_,rfl⟩
   obtain⟨m,hm⟩:∃m,k*st=m:=⟨_,rfl⟩
   rw[hy] at a1
   rw[hm] at a2
   obtain⟨b,o,u,rfl,hcl,hcl2,hu⟩:=HA.out.keep hb.out y a1
   obtain⟨v0,r1,r2,r3,r4,-⟩:=hr.out k hlt
   have HS:Hid (RowC (putC wr w.heap.size k u) w.heap.size cnt (upToC (k+1) (gathT f off st))):=aZ ((hr.out.set hlt u).congr λi hi=>by
    rw[hu,<-upToC_next]
    show _=updT _ k (f (off+k*st)) i
    rw[hy])
   have HB2:Hid (Below w.heap.size w (putC wr w.heap.size k u)):=aZ ((hb.out.setCell (p:=⟨_,_,_⟩) (Nat.le_refl _) _).setCell (p:=⟨_,_,_⟩) (Nat.le_refl _) _)
   have HZ2:Hid (w.heap.size<(putC wr w.heap.size k u).heap.size):=aZ (by simpa[putC] using hsz.out)
   clear hu
   have hki:(k:Int)<cnt:=by omega
   have hmc:(k:Int)*st=(m:Int):=by rw[<-Int.natCast_mul,hm]
   have hwm:wrap64 ((k:Int)*st)=(m:Int):=by rw[hmc];exact wrap64_nat m (by omega)
   have hyc:(off:Int)+(m:Int)=(y:Int):=by omega
   clear hm hy hmc
   go_wp2
   go_roundw
   case rel=>exact⟨k+1,by omega,by go_num,HS,HZ2,HB2⟩
   case measure=>clear hwm;simp[intOf];omega
  ·obtain rfl:k=cnt:=by omega
   have HR:Hid (RowC wr w.heap.size k (gathT f off st)):=aZ (hr.out.congr λi hi=>by unfold upToC;rw[if_pos hi])
   go_wp2
   go_ret2
   exact⟨rfl,hsz.out,HR.out,hb.out⟩
theorem gatherC_any(A:Option Addr)(n c off st cnt:Nat)(f:Nat->Cx)(w:World)(hA:CsAt w A n f)(hn:n<=4398046511104)(hst:1<=st)(hs2:st<=4398046511104)(hc:cnt<=4398046511104)(ho:off<=4398046511104)(h:Fits n off st cnt):
  Calls Tryz.prog 131 #[.slice A n c,.int .i64 off,.int .i64 st,.int .i64 cnt] w λz w'=>z=.returned (.slice (some ⟨w.heap.size,0,none⟩) cnt cnt)/\w.heap.size<w'.heap.size/\RowC w' w.heap.size cnt (gathT f off st)/\Below w.heap.size w w':=by
 have HG:=aZ (GatherC_any A n c off st cnt f w hA hn hst hs2 hc ho h)
 clear hA h
 go_enter Tryz.func131,Tryz.ntmps131
 go_wp2_with fail
 refine HG.out.mono ?_
 rintro z w' ⟨rfl,h1,h2,h3⟩
 have H1:=aZ h1
 have H2:=aZ h2
 have H3:=aZ h3
 clear h1 h2 h3
 go_wp2
 go_ret
 exact⟨rfl,H1.out,H2.out,H3.out⟩
theorem ScatterC_any(b n c:Nat)(A':Option Addr)(m c' off st:Nat)(g f:Nat->Cx)(w:World)(hA:RowC w b n g)(hA':CsAt w A' m f)(hd:0<m->∀b' o,A'=some ⟨b',o,none⟩->b'≠b)(hn:n<=4398046511104)(hm:m<=4398046511104)(hst:1<=st)(hs2:st<=4398046511104)(ho:off<=4398046511104)(h:Fits n off st m):
  Calls Tryz.prog 130 #[.slice (some ⟨b,0,none⟩) n c,.slice A' m c',.int .i64 off,.int .i64 st] w λz w'=>z=.returned (.int .i64 0)/\RowC w' b n (scatT g f off st m)/\OnlyB b w w':=by
 have HP:=aZ (strided_any n off st m w (by omega) hst (by omega) (by omega) (by omega) h)
 have HA:=aZ hA
 have HA':=aZ hA'
 have HD:=aZ hd
 have H:=aZ h
 clear hA hA' h hd
 go_enter Tryz.func130,Tryz.ntmps130
 go_wp2_with fail
 refine HP.out.mono ?_
 rintro z w' ⟨rfl,rfl⟩
 go_wp2
 go_loopw [10,11,24] (λq r i wr=>∃k:Nat,k<=m/\i=.int .i64 k/\Hid (RowC wr b n (scatT g f off st k))/\Hid (OnlyB b w wr)) (λ_ _ i _=>m-(intOf i).toNat)
 case atStart=>exact⟨0,by omega,rfl,HA,aZ (OnlyB.refl _ _)⟩
 case round=>
  obtain⟨k,hk,rfl,hr,ho'⟩:=hrel
  by_cases hlt:k<m
  ·obtain⟨a1,a2⟩:=H.out.at' hlt
   obtain⟨b',o,u,rfl,hcl,hcl2,hu⟩:=HA'.out.only ho'.out (λb o e=>HD.out (by omega) b o e) k hlt
   have HU:=aZ hu
   obtain⟨y,hy⟩:∃y,off+k*st=y:=⟨_,rfl⟩
   have HY:=aZ hy
   obtain⟨j,hj⟩:∃j,k*st=j:=⟨_,rfl⟩
   rw[hy] at a1
   rw[hj] at a2
   have hki:(k:Int)<m:=by omega
   have hmc:(k:Int)*st=(j:Int):=by rw[<-Int.natCast_mul,hj]
   have hwm:wrap64 ((k:Int)*st)=(j:Int):=by rw[hmc];exact wrap64_nat j (by omega)
   have hyc:(off:Int)+(j:Int)=(y:Int):=by omega
   clear hj hy hmc hu
   go_upto_region 7 with(fail)
   obtain⟨W1,hW1,hb1,c0,c1,-⟩:=boxC wr u 29
   rw[<-hW1]
   have hr1:=hr.out.keep hb1
   have HS0:Hid (RowC (putC W1 b y u) b n (scatT g f off st (k+1))):=aZ ((hr1.set a1 u).congr λi hi=>by rw[HU.out,<-HY.out];rfl)
   have HO2:Hid (OnlyB b w (putC W1 b y u)):=aZ ((ho'.out.trans (OnlyB.of_below hb1)).putC y u)
   obtain⟨v0,r1,r2,r3,r4,-⟩:=hr1 y a1
   clear hr1 hW1 hb1
   go_wp2
   go_roundw
   case rel=>exact⟨k+1,by omega,by go_num,HS0,HO2⟩
   case measure=>clear hwm;simp[intOf];omega
  ·obtain rfl:k=m:=by omega
   go_wp2
   go_ret
   exact⟨rfl,hr.out,ho'.out⟩
section
variable {M : Mem} {ρ : RingC}
theorem SumC_r(H:ρ.Ok M)(A:Option Addr)(n c:Nat)(f:Nat->Cx)(w:World)(hA:CsAt w A n f)(hn:n<=4398046511104)(hw:M.St w):
  Calls Tryz.prog 136 #[.iface ρ.t ρ.v,.slice A n c] w λz w'=>∃r,z=.returned (cV r)/\nC r=sumT ρ.R n f/\M.On w w':=by
 have HH:=aZ H
 have HA:=aZ hA
 have HW:=aZ hw
 have e1:=H.nz
 have e2:=H.mz
 have e3:=H.na
 have e4:=H.ma
 have e5:=H.cz
 have e6:=H.ca
 clear hA hw H
 go_enter Tryz.func136,Tryz.ntmps136
 go_upto_region 1 with(fail)
 obtain⟨HX4,HO4⟩:=BoxC.zero HH.out.mem (HH.out.mem.on_refl HW.out) 29
 obtain⟨W,hWW⟩:∃W,W=w.alloc (.cells #[.float .f64 0,.float .f64 0] 29):=⟨_,rfl⟩
 obtain⟨b4,hb4⟩:∃b4,b4=w.heap.size:=⟨_,rfl⟩
 rw[<-hWW] at HX4 HO4|-
 rw[<-hb4] at HX4|-
 have HB4:=aZ hb4
 have HX4:=aZ HX4
 have HO4:=aZ HO4
 clear hWW hb4
 go_wp2_with fail
 refine(HH.out.zero _ HO4.out.st).mono ?_
 rintro z w1 ⟨⟨r,rfl,hr⟩,hb1⟩
 have HB1:=aZ (HO4.out.trans HH.out.mem hb1)
 have HX1:=aZ (HX4.out.keep HH.out.mem hb1 HO4.out.st)
 have HR1:=aZ hr
 clear hb1 hr
 go_upto_region 2 with(fail)
 obtain⟨h5,ho5⟩:=BoxC.new HH.out.mem HB1.out r 29
 have HX5:=aZ (HX1.out.keep HH.out.mem ((HH.out.mem.on_refl HB1.out.st).below HH.out.mem ((Below.refl _ w1).alloc (Nat.le_refl _) (.cells #[.float .f64 r.1,.float .f64 r.2] 29))) HB1.out.st)
 obtain⟨W,hWW⟩:∃W,W=w1.alloc (.cells #[.float .f64 r.1,.float .f64 r.2] 29):=⟨_,rfl⟩
 obtain⟨b5,hb5⟩:∃b5,b5=w1.heap.size:=⟨_,rfl⟩
 have HN:Hid (w.heap.size<=b5/\b4≠b5):=aZ (by have:=HX1.out.lt;have:=HB4.out;omega)
 rw[<-hWW] at h5 ho5 HX5|-
 rw[<-hb5] at h5|-
 have H5:=aZ h5
 have HO5:=aZ ho5
 clear hWW hb5 h5 ho5
 go_wp2
 go_loopw [12] (λvi wr=>∃(k:Nat) (u:Rx),k<=n/\vi=.int .i64 k/\Hid (nC u=sumT ρ.R k f)/\Hid (BoxC M wr b4 (0,0))/\Hid (BoxC M wr b5 u)/\Hid (M.On w wr)) (λvi _=>n-(intOf vi).toNat)
 case atStart=>exact⟨0,r,by omega,rfl,HR1,HX5,H5,HO5⟩
 case round=>
  clear HB1 HR1 HX5 H5 HO5 HX1 HX4 HO4
  obtain⟨k,u,hk,rfl,hu,h4,h5,hb⟩:=hrel
  by_cases hlt:k<n
  ·obtain⟨b,o,v,rfl,hc1,hc2,hv⟩:=HA.out.keepM HH.out.mem hb.out HW.out k hlt
   have HV:=aZ hv
   clear hv
   have hki:(k:Int)<n:=by omega
   go_upto_region 5 with(fail)
   obtain⟨W1,hW1,hb1,c0,c1,-⟩:=boxC wr v 29
   rw[<-hW1]
   have hon:=(HH.out.mem.on_refl hb.out.st).below HH.out.mem hb1
   have HO1:=aZ (hb.out.trans HH.out.mem hon)
   have HX4:=aZ (h4.out.keep HH.out.mem hon hb.out.st)
   have HX5:=aZ (h5.out.keep HH.out.mem hon hb.out.st)
   obtain⟨d0,d1,-,-,-,-⟩:=HX5.out
   clear hon hW1 hb1 h4 h5 hb
   go_wp2_with fail
   refine(HH.out.add _ _ _ HO1.out.st).mono ?_
   rintro z w2 ⟨⟨r2,rfl,hr2⟩,hb2⟩
   have HB2:=aZ (HO1.out.trans HH.out.mem hb2)
   have h42:=HX4.out.keep HH.out.mem hb2 HO1.out.st
   have h52:=HX5.out.keep HH.out.mem hb2 HO1.out.st
   have HR2:Hid (nC r2=sumT ρ.R (k+1) f):=aZ (by rw[hr2,hu.out,HV.out];rfl)
   have HS:=aZ (h52.set HH.out.mem HB2.out HN.out.1 r2)
   have H42:Hid (BoxC M (setB w2 b5 r2) b4 (0,0)):=aZ (h42.other HH.out.mem HB2.out.st h52.pv ((OnlyB.refl b5 w2).setB r2) HN.out.2)
   obtain⟨e0,e1,e2,e3,-,-⟩:=h52
   clear hb2 hr2 c0 c1 d0 d1 h42
   go_wp2
   exact⟨⟨k+1,r2,by omega,by go_num,HR2,H42,aZ HS.out.1,aZ HS.out.2⟩,by simp[intOf];omega⟩
  ·obtain rfl:k=n:=by omega
   obtain⟨d0,d1,-,-,-,-⟩:=h5.out
   obtain⟨e0,e1,e2,e3,-,-⟩:=h4.out
   have HE:=aZ (h4.out.set HH.out.mem hb.out (by have:=HB4.out;omega) u)
   obtain⟨q0,q1,-,-,-,-⟩:=HE.out.1
   unfold setB at q0 q1
   go_wp2
   exact bodyPost_ret (v:=cV u) (by simp[results,Tryz.results136,go_sem,q0,q1]) rfl ⟨u.1,u.2,rfl,hu.out,HE.out.2⟩
theorem OverC_r(H:ρ.Ok M)(A:Option Addr)(n c d:Nat)(f:Nat->Cx)(w:World)(hA:CsAt w A n f)(hn:n<=4398046511104)(d1:1<=d)(d2:d<=32768)(hw:M.St w):
  Calls Tryz.prog 84 #[.iface ρ.t ρ.v,.slice A n c,.int .i64 d] w λz w'=>z=.returned (.slice (some ⟨w.heap.size,0,none⟩) n n)/\OwnC M w' w.heap.size n (overF ρ.R f d)/\M.On w w':=by
 have HH:=aZ H
 have HA:=aZ hA
 have HW:=aZ hw
 have e1:=H.no
 have e2:=H.mo
 have e3:=H.co
 have hmk:=mk_C n (by omega)
 clear hA hw H
 go_enter Tryz.func84,Tryz.ntmps84
 go_wp2
 go_loopw [15] (λvi wr=>∃k:Nat,k<=n/\vi=.int .i64 k/\Hid (OwnC M wr w.heap.size n (upToC k (overF ρ.R f d)))/\Hid (M.On w wr)) (λvi _=>n-(intOf vi).toNat)
 case atStart=>
  obtain⟨h1,h2⟩:=OwnC.make HH.out.mem (HH.out.mem.on_refl HW.out) n 29
  exact⟨0,by omega,rfl,aZ h1.empty,aZ h2⟩
 case round=>
  obtain⟨k,hk,rfl,hr,hb⟩:=hrel
  by_cases hlt:k<n
  ·obtain⟨b,o,v,rfl,hc1,hc2,hv⟩:=HA.out.keepM HH.out.mem hb.out HW.out k hlt
   have HV:=aZ hv
   clear hv
   have hki:(k:Int)<n:=by omega
   go_upto_region 5 with(fail)
   obtain⟨W1,hW1,hb1,c0,c1,-⟩:=boxC wr v 29
   rw[<-hW1]
   have hon:=(HH.out.mem.on_refl hb.out.st).below HH.out.mem hb1
   have HO1:=aZ (hb.out.trans HH.out.mem hon)
   have HR1:=aZ (hr.out.keep HH.out.mem hon hb.out.st)
   clear hon hW1 hb1 hr hb
   go_wp2_with fail
   refine(HH.out.over _ _ _ d1 d2 HO1.out.st).mono ?_
   rintro z w2 ⟨⟨q,rfl,hq⟩,hb2⟩
   have hr2:=HR1.out.keep HH.out.mem hb2 HO1.out.st
   have hb3:=HO1.out.trans HH.out.mem hb2
   obtain⟨u0,r1,r2,r3,r4,-⟩:=hr2.row k hlt
   have HN:=aZ (hr2.set HH.out.mem hb3 (Nat.le_refl _) hlt q)
   have HQ:Hid (nC q=overF ρ.R f d k):=aZ (by rw[hq,HV.out];rfl)
   clear hb2 hr2 hb3 hq
   go_wp2
   exact⟨⟨k+1,by omega,by go_num,aZ (HN.out.1.nextC HQ.out),aZ HN.out.2⟩,by simp[intOf];omega⟩
  ·obtain rfl:k=n:=by omega
   have HR:=aZ hr.out.full
   go_wp2
   go_ret
   exact⟨rfl,HR.out,hb.out⟩
theorem on_cell(H:M.Ok){D w:World}(hD:M.St D)(k:Hid (M.On D w)){b o:Nat}{v:Value}(h:D.cell? ⟨b,o,none⟩=some v):w.cell? ⟨b,o,none⟩=some v:=H.cell hD k.out.fr h
theorem TimesC_r(H:ρ.Ok M)(A B:Option Addr)(n c c':Nat)(f h:Nat->Cx)(w:World)(hA:CsAt w A n f)(hB:CsAt w B n h)(hn:n<=4398046511104)(hw:M.St w):
  Calls Tryz.prog 138 #[.iface ρ.t ρ.v,.slice A n c,.slice B n c'] w λz w'=>z=.returned (.slice (some ⟨w.heap.size,0,none⟩) n n)/\OwnC M w' w.heap.size n (timesF ρ.R f h)/\M.On w w':=by
 have HH:=aZ H
 have HA:=aZ hA
 have HB:=aZ hB
 have HW:=aZ hw
 have e1:=H.nm
 have e2:=H.mm
 have e3:=H.cm
 have hmk:=mk_C n (by omega)
 clear hA hB hw H
 go_enter Tryz.func138,Tryz.ntmps138
 go_wp2
 go_loopw [20] (λvi wr=>∃k:Nat,k<=n/\vi=.int .i64 k/\Hid (OwnC M wr w.heap.size n (upToC k (timesF ρ.R f h)))/\Hid (M.On w wr)) (λvi _=>n-(intOf vi).toNat)
 case atStart=>
  obtain⟨h1,h2⟩:=OwnC.make HH.out.mem (HH.out.mem.on_refl HW.out) n 29
  exact⟨0,by omega,rfl,aZ h1.empty,aZ h2⟩
 case round=>
  obtain⟨k,hk,rfl,hr,hb⟩:=hrel
  by_cases hlt:k<n
  ·obtain⟨b,o,u,rfl,hc1,hc2,hu⟩:=HA.out.keepM HH.out.mem hb.out HW.out k hlt
   obtain⟨b',o',v,rfl,hd1,hd2,hv⟩:=HB.out.keepM HH.out.mem hb.out HW.out k hlt
   have HU:=aZ hu
   have HV:=aZ hv
   clear hu hv
   have hki:(k:Int)<n:=by omega
   go_upto_region 7 with(fail)
   obtain⟨W1,hW1,hb1,c0,c1,-⟩:=boxC wr u 29
   rw[<-hW1]
   have hd1:=keep_cell hb1 hd1
   have hd2:=keep_cell hb1 hd2
   have hon:=(HH.out.mem.on_refl hb.out.st).below HH.out.mem hb1
   have HO1:=aZ (hb.out.trans HH.out.mem hon)
   have HR1:=aZ (hr.out.keep HH.out.mem hon hb.out.st)
   obtain⟨bx,hbx⟩:∃bx,bx=wr.heap.size:=⟨_,rfl⟩
   rw[<-hbx] at c0 c1|-
   clear hon hW1 hb1 hr hb hc1 hc2 hbx
   refine wp_region_T (λw'=>w'.cell? ⟨bx,0,none⟩=some (.float .f64 u.1)/\w'.cell? ⟨bx,1,none⟩=some (.float .f64 u.2)/\w'.cell? ⟨b',o'+k*2,none⟩=some (.float .f64 v.1)/\w'.cell? ⟨b',o'+k*2+1,none⟩=some (.float .f64 v.2)/\Hid (M.On W1 w')) 12 ⟨c0,c1,hd1,hd2,aZ ((HH.out.mem.on_refl HO1.out.st).drew HH.out.mem)⟩ (λhS0=>?_)
   refine Takes.intro [0,1,2,3,4,5,6,7,8,9,10] ?_
   repeat(refine Takes.go (v:=?_) hS0 ?_;try simp only[nrm,Act.put])
   refine Takes.nil ?_
   refine wpAnyS_1 11 (λK hK=>?_)
   go_simp
   refine(HH.out.mul _ _ _ hS0.2.2.2.2.out.st).mono ?_
   rintro z w2 ⟨⟨q,rfl,hq⟩,hb2⟩
   have HO:=aZ (hS0.2.2.2.2.out.trans HH.out.mem hb2)
   have hS1:w2.cell? ⟨bx,0,none⟩=some (.float .f64 u.1)/\w2.cell? ⟨bx,1,none⟩=some (.float .f64 u.2)/\w2.cell? ⟨b',o'+k*2,none⟩=some (.float .f64 v.1)/\w2.cell? ⟨b',o'+k*2+1,none⟩=some (.float .f64 v.2)/\Hid (M.On W1 w2):=⟨on_cell HH.out.mem HO1.out.st HO c0,on_cell HH.out.mem HO1.out.st HO c1,on_cell HH.out.mem HO1.out.st HO hd1,on_cell HH.out.mem HO1.out.st HO hd2,HO⟩
   clear hb2
   refine hK.out _ _ (λ_=>hS1) ?_
   clear hK K
   try simp only[nrm,Act.put]
   refine wpAnyS_fin 2 12 ?_
   simp only[nrd]
   have hr2:=HR1.out.keep HH.out.mem HO.out HO1.out.st
   have hb3:=HO1.out.trans HH.out.mem HO.out
   obtain⟨u0,r1,r2,r3,r4,-⟩:=hr2.row k hlt
   have HN:=aZ (hr2.set HH.out.mem hb3 (Nat.le_refl _) hlt q)
   have HQ:Hid (nC q=timesF ρ.R f h k):=aZ (by rw[hq,HU.out,HV.out];rfl)
   clear hr2 hb3 hS0 hS1 hq
   go_wp2
   exact⟨⟨k+1,by omega,by go_num,aZ (HN.out.1.nextC HQ.out),aZ HN.out.2⟩,by simp[intOf];omega⟩
  ·obtain rfl:k=n:=by omega
   have HR:=aZ hr.out.full
   go_wp2
   go_ret
   exact⟨rfl,HR.out,hb.out⟩
end
section
variable {M : Mem} {ρ : RingC}
theorem unit_wrap(s:Int)(k:Nat)(hk:k<=1073741824):IntKind.i64.wrap (unitI s*(k:Int))=unitI s*(k:Int)/\-1073741824<=unitI s*(k:Int)/\unitI s*(k:Int)<=1073741824:=by
 unfold unitI
 by_cases h:s<0
 ·rw[if_pos h,IntKind.wrap_i64];omega
 ·rw[if_neg h,IntKind.wrap_i64];omega
theorem dot_step{T:Type}(R:Rg T)(n:Nat)(s:Int)(f:Nat->T)(j m:Nat):dotF R n s f j (m+1)=R.add (dotF R n s f j m) (R.mul (f m) (R.root (unitI s*((j*m%n:Nat):Int)) n)):=rfl
def rootsF{T:Type}(R:Rg T)(n:Nat)(s:Int):Nat->T:=λx=>R.root (unitI s*(x:Int)) n
theorem DirectC_r(H:ρ.Ok M)(A:Option Addr)(n c:Nat)(s:Int)(f:Nat->Cx)(w:World)(hA:CsAt w A n f)(hn:n<=32768)(hw:M.St w):
  Calls Tryz.prog 115 #[.iface ρ.t ρ.v,.slice A n c,.int .i64 s] w λz w'=>∃g,z=.returned (.slice (some ⟨g,0,none⟩) n n)/\w.heap.size<=g/\OwnC M w' g n (directF ρ.R n s f)/\M.On w w':=by
 have HH:=aZ H
 have HU:=aZ (unit_any s)
 have HA:=aZ hA
 have HW:=aZ hw
 have hmk:=mk_C n (by omega)
 have e1:=H.nz
 have e2:=H.mz
 have e3:=H.cz
 have e4:=H.nr
 have e5:=H.mr
 have e6:=H.cr
 have e7:=H.nm
 have e8:=H.mm
 have e9:=H.cm
 have e10:=H.na
 have e11:=H.ma
 have e12:=H.ca
 clear hA hw H
 go_enter Tryz.func115,Tryz.ntmps115
 go_wp2
 go_loopw [19] (λvi wr=>∃k:Nat,k<=n/\vi=.int .i64 k/\Hid (OwnC M wr w.heap.size n (upToC k (rootsF ρ.R n s)))/\Hid (M.On w wr)) (λvi _=>n-(intOf vi).toNat)
 case atStart=>
  obtain⟨h1,h2⟩:=OwnC.make HH.out.mem (HH.out.mem.on_refl HW.out) n 29
  exact⟨0,by omega,rfl,aZ h1.empty,aZ h2⟩
 case round=>
  obtain⟨k,hk,rfl,hr,hb⟩:=hrel
  by_cases hlt:k<n
  ·have hki:(k:Int)<n:=by omega
   obtain⟨hw,hw1,hw2⟩:=unit_wrap s k (by omega)
   have HX:Hid (-1073741824<=unitI s*(k:Int)/\unitI s*(k:Int)<=1073741824):=aZ ⟨hw1,hw2⟩
   go_upto_region 6 with(fail)
   refine wp_region_S (λw'=>Hid (M.On wr w')) 12 (by kernel_rfl) ?_
   have hS0:=aZ ((HH.out.mem.on_refl hb.out.st).drew HH.out.mem)
   refine Takes.intro [0,1,2,3,5,7,8,9,10] ?_
   repeat(refine Takes.go (v:=?_) hS0 ?_;try simp only[nrm,Act.put])
   refine Takes.nil ?_
   refine wpAnyS_1 4 (λK hK=>?_)
   go_simp
   refine(HU.out _).mono ?_
   rintro z w2 ⟨rfl,rfl⟩
   have hS1:=hS0
   refine hK.out _ _ (λ_=>hS1) ?_
   clear hK K
   try simp only[nrm,Act.put]
   refine Takes.intro [6] ?_
   repeat(refine Takes.go (v:=?_) hS1 ?_;try simp only[nrm,Act.put])
   refine Takes.nil ?_
   refine wpAnyS_1 11 (λK hK=>?_)
   go_simp
   refine(HH.out.root _ _ _ (by have:=HX.out;omega) (by have:=HX.out;omega) (by omega) (by omega) hS1.out.st).mono ?_
   rintro z w2 ⟨⟨q,rfl,hq⟩,hb2⟩
   have hS2:Hid (M.On wr w2):=aZ (hS1.out.trans HH.out.mem hb2)
   clear hb2
   refine hK.out _ _ (λ_=>hS2) ?_
   clear hK K
   try simp only[nrm,Act.put]
   refine wpAnyS_fin 2 12 ?_
   simp only[nrd]
   have hr2:=hr.out.keep HH.out.mem hS2.out hb.out.st
   have hb3:=hb.out.trans HH.out.mem hS2.out
   obtain⟨u0,r1,r2,r3,r4,-⟩:=hr2.row k hlt
   have HN:=aZ (hr2.set HH.out.mem hb3 (Nat.le_refl _) hlt q)
   have HQ:Hid (nC q=rootsF ρ.R n s k):=aZ hq
   clear hr2 hb3 hS0 hS1 hS2 hq
   go_wp2
   exact⟨⟨k+1,by omega,by go_num,aZ (HN.out.1.nextC HQ.out),aZ HN.out.2⟩,by simp[intOf];omega⟩
  ·obtain rfl:k=n:=by omega
   have HR1:Hid (OwnC M wr w.heap.size k (rootsF ρ.R k s)):=aZ hr.out.full
   obtain⟨W1,hW1⟩:∃W1,W1=wr:=⟨_,rfl⟩
   rw[<-hW1] at hb HR1|-
   clear hr hW1
   have HA1:=aZ (HA.out.keepM HH.out.mem hb.out HW.out)
   have HS1:=aZ hb.out.st
   go_wp2
   go_loopw [40] (λvj wx=>∃j:Nat,j<=k/\vj=.int .i64 j/\Hid (OwnC M wx W1.heap.size k (upToC j (directF ρ.R k s f)))/\Hid (M.On W1 wx)) (λvj _=>k-(intOf vj).toNat)
   case atStart=>
    obtain⟨h1,h2⟩:=OwnC.make HH.out.mem (HH.out.mem.on_refl HS1.out) k 29
    exact⟨0,by omega,rfl,aZ h1.empty,aZ h2⟩
   case round=>
    rename World=>wx
    obtain⟨j,hj,rfl,hrj,hbj⟩:=hrel
    by_cases hjt:j<k
    ·have hji:(j:Int)<k:=by omega
     go_wp2_with fail
     refine(HH.out.zero _ hbj.out.st).mono ?_
     rintro z w2 ⟨⟨q,rfl,hq⟩,hb2⟩
     have hr2:=hrj.out.keep HH.out.mem hb2 hbj.out.st
     have hb3:=hbj.out.trans HH.out.mem hb2
     obtain⟨u0,r1,r2,r3,r4,-⟩:=hr2.row j hjt
     have hN:=hr2.set HH.out.mem hb3 (Nat.le_refl _) hjt q
     rw[hq] at hN
     have HN:=aZ hN
     clear hb2 hr2 hb3 hrj hbj hN hq
     go_wp2
     go_loopw [50] (λvm wy=>∃m:Nat,m<=k/\vm=.int .i64 m/\Hid (OwnC M wy W1.heap.size k (updT (upToC j (directF ρ.R k s f)) j (dotF ρ.R k s f j m)))/\Hid (M.On W1 wy)) (λvm _=>k-(intOf vm).toNat)
     case atStart=>exact⟨0,by omega,rfl,aZ HN.out.1,aZ HN.out.2⟩
     case round=>
      clear HN r1 r2 r3 r4
      rename World=>wy
      obtain⟨m,hm,rfl,hrm,hbm⟩:=hrel
      by_cases hmt:m<k
      ·have hmi:(m:Int)<k:=by omega
       obtain⟨b,o,u,rfl,hx0,hx1,hu⟩:=HA1.out.keepM HH.out.mem hbm.out HS1.out m hmt
       have HU2:=aZ hu
       have hjm:j*m<=32768*32768:=Nat.mul_le_mul (by omega) (by omega)
       have hrk:j*m%k<k:=Nat.mod_lt _ (by omega)
       have HDs:=aZ (dot_step ρ.R k s f j m)
       obtain⟨x,hx⟩:∃x,j*m=x:=⟨_,rfl⟩
       rw[hx] at hjm hrk HDs
       obtain⟨r,hr⟩:∃r,x%k=r:=⟨_,rfl⟩
       rw[hr] at hrk HDs
       obtain⟨q,c0,c1,-,-,hq⟩:=(HR1.out.keep HH.out.mem hbm.out HS1.out).row r hrk
       have HDs:Hid (dotF ρ.R k s f j (m+1)=ρ.R.add (dotF ρ.R k s f j m) (ρ.R.mul (nC u) (nC q))):=aZ (by rw[hq,hu];exact HDs.out)
       obtain⟨dd,d0,d1,-,-,hd⟩:=hrm.out.row j hjt
       have HDD:Hid (nC dd=dotF ρ.R k s f j m):=aZ (by rw[hd];unfold updT;rw[if_pos rfl])
       have hw1:IntKind.i64.wrap ((j:Int)*m)=(x:Int):=by rw[<-Int.natCast_mul,hx];exact wrapI_nat x (by omega)
       have hk0:¬(k:Int)=0:=by omega
       have hk0n:¬k=0:=by omega
       have hri:(r:Int)<k:=by omega
       have hr0:(0:Int)<=r:=by omega
       have hrt:(x:Int).tmod k=(r:Int):=by rw[Int.tmod_eq_emod_of_nonneg (by omega),<-Int.natCast_emod,hr]
       have hre:(x:Int)%k=(r:Int):=by rw[<-Int.natCast_emod,hr]
       clear hx hq hu hd hjm
       go_upto_region 16 with(fail)
       refine wp_region_T (λw'=>w'.cell? ⟨b,o+m*2,none⟩=some (.float .f64 u.1)/\w'.cell? ⟨b,o+m*2+1,none⟩=some (.float .f64 u.2)/\w'.cell? ⟨w.heap.size,r*2,none⟩=some (.float .f64 q.1)/\w'.cell? ⟨w.heap.size,r*2+1,none⟩=some (.float .f64 q.2)/\w'.cell? ⟨W1.heap.size,j*2,none⟩=some (.float .f64 dd.1)/\w'.cell? ⟨W1.heap.size,j*2+1,none⟩=some (.float .f64 dd.2)/\Hid (M.On wy w')) 29 ⟨hx0,hx1,c0,c1,d0,d1,aZ ((HH.out.mem.on_refl hbm.out.st).drew HH.out.mem)⟩ (λhS0=>?_)
       refine Takes.intro [0,1,2,3,4,5,6,7,8,9,10,11,12,13,14,15,16,17,18,19,20,21,22,23,25,26,27] ?_
       repeat(refine Takes.go (v:=?_) hS0 ?_;try simp only[nrm,Act.put])
       refine Takes.nil ?_
       refine wpAnyS_1 24 (λK hK=>?_)
       go_simp
       refine(HH.out.mul _ _ _ hS0.2.2.2.2.2.2.out.st).mono ?_
       rintro z w2 ⟨⟨z1,rfl,hz⟩,hb2⟩
       have HZ1:=aZ hz
       have HO1:=aZ (hS0.2.2.2.2.2.2.out.trans HH.out.mem hb2)
       have hS1:w2.cell? ⟨b,o+m*2,none⟩=some (.float .f64 u.1)/\w2.cell? ⟨b,o+m*2+1,none⟩=some (.float .f64 u.2)/\w2.cell? ⟨w.heap.size,r*2,none⟩=some (.float .f64 q.1)/\w2.cell? ⟨w.heap.size,r*2+1,none⟩=some (.float .f64 q.2)/\w2.cell? ⟨W1.heap.size,j*2,none⟩=some (.float .f64 dd.1)/\w2.cell? ⟨W1.heap.size,j*2+1,none⟩=some (.float .f64 dd.2)/\Hid (M.On wy w2):=⟨on_cell HH.out.mem hbm.out.st HO1 hx0,on_cell HH.out.mem hbm.out.st HO1 hx1,on_cell HH.out.mem hbm.out.st HO1 c0,on_cell HH.out.mem hbm.out.st HO1 c1,on_cell HH.out.mem hbm.out.st HO1 d0,on_cell HH.out.mem hbm.out.st HO1 d1,HO1⟩
       clear hb2 hz
       refine hK.out _ _ (λ_=>hS1) ?_
       clear hK K
       try simp only[nrm,Act.put]
       refine wpAnyS_1 28 (λK hK=>?_)
       go_simp
       refine(HH.out.add _ _ _ hS1.2.2.2.2.2.2.out.st).mono ?_
       rintro z w3 ⟨⟨z2,rfl,hz⟩,hb2⟩
       have HZ2:=aZ hz
       have HO2:=aZ (hS1.2.2.2.2.2.2.out.trans HH.out.mem hb2)
       have hS2:w3.cell? ⟨b,o+m*2,none⟩=some (.float .f64 u.1)/\w3.cell? ⟨b,o+m*2+1,none⟩=some (.float .f64 u.2)/\w3.cell? ⟨w.heap.size,r*2,none⟩=some (.float .f64 q.1)/\w3.cell? ⟨w.heap.size,r*2+1,none⟩=some (.float .f64 q.2)/\w3.cell? ⟨W1.heap.size,j*2,none⟩=some (.float .f64 dd.1)/\w3.cell? ⟨W1.heap.size,j*2+1,none⟩=some (.float .f64 dd.2)/\Hid (M.On wy w3):=⟨on_cell HH.out.mem hbm.out.st HO2 hx0,on_cell HH.out.mem hbm.out.st HO2 hx1,on_cell HH.out.mem hbm.out.st HO2 c0,on_cell HH.out.mem hbm.out.st HO2 c1,on_cell HH.out.mem hbm.out.st HO2 d0,on_cell HH.out.mem hbm.out.st HO2 d1,HO2⟩
       clear hb2 hz
       refine hK.out _ _ (λ_=>hS2) ?_
       clear hK K
       try simp only[nrm,Act.put]
       refine wpAnyS_fin 2 29 ?_
       simp only[nrd]
       have hr2:=hrm.out.keep HH.out.mem hS2.2.2.2.2.2.2.out hbm.out.st
       have hb3:=hbm.out.trans HH.out.mem hS2.2.2.2.2.2.2.out
       obtain⟨u0,r1,r2,r3,r4,-⟩:=hr2.row j hjt
       have HN:=aZ (hr2.set HH.out.mem hb3 (Nat.le_refl _) hjt z2)
       have HZ:Hid (nC z2=dotF ρ.R k s f j (m+1)):=aZ (by rw[HZ2.out,HZ1.out,HDD.out,HDs.out])
       clear hr2 hb3 hS0 hS1 hS2
       go_wp2
       refine⟨⟨m+1,by omega,by go_num,aZ (HN.out.1.congr λi _=>?_),aZ HN.out.2⟩,by simp[intOf];omega⟩
       rw[HZ.out]
       unfold updT
       by_cases e:i=j
       ·rw[if_pos e,if_pos e]
       ·rw[if_neg e,if_neg e,if_neg e]
      ·obtain rfl:m=k:=by omega
       go_wp2
       exact⟨⟨j+1,by omega,by go_num,aZ (hrm.out.next (G:=directF ρ.R m s f)),hbm⟩,by simp[intOf];omega⟩
    ·obtain rfl:j=k:=by omega
     have HR:=aZ hrj.out.full
     have HO:=aZ (hb.out.trans HH.out.mem hbj.out)
     have HZ:=aZ (HH.out.mem.size hb.out.fr)
     go_wp2
     go_ret
     exact⟨_,rfl,HZ.out,HR.out,HO.out⟩
end
end Go.Proofs.YtfedabinindpbaaGreat
