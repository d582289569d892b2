/- build. -/
import Derived.Test.YteaimnemobnknaaX0
import Derived.Test.YteaimnemobnknaaD2
import Derived.Test.YteaimnemobnknaaD5L19
set_option maxRecDepth 100000
set_option maxHeartbeats 4000000
set_option linter.unusedSimpArgs false
set_option linter.unusedVariables false
namespace Go.Proofs.Yteaimnemobnknaa
open Go.RowKit Go.Lib
theorem build_all19:∀j:Nat,j<=16->BuildC19 (16-j):=by
 intro j
 induction j with
 |zero=>intro _;exact build_step19 16 (by omega) (λh=>by omega)
 |succ j ih=>
   intro hj
   refine build_step19 (16-(j+1)) (by omega) (λ_=>?_)
   have:=ih (by omega)
   rw[show 16-(j+1)+1=16-j from by omega]
   exact this
structure BldS(w W:World)(Al:Option Addr)(nl cl:Nat):Prop where
 sz:W.heap.size=w.heap.size+5
 b:Below w.heap.size w W
 l:W.cell? ⟨w.heap.size,0,none⟩=some (.slice Al nl cl)
 p:PlBox W (w.heap.size+1) 0 0 0 none 0 0/\PlFree W (w.heap.size+1)
 q:PlBox W (w.heap.size+1+1) 0 0 0 none 0 0/\PlFree W (w.heap.size+1+1)
 a:IntBox W (w.heap.size+1+1+1) ((0:Nat):Int)
 n:W.cell? ⟨w.heap.size+1+1+1+1,0,none⟩=some (bdF (w.heap.size+1+1+1) w.heap.size (w.heap.size+1+1+1+1))
theorem BldS.start(w:World)(Al:Option Addr)(nl cl:Nat)(t1 t2 t3 t4 t5:TypeId)(W:World)(hW:W=((((w.alloc (.cells #[.slice Al nl cl] t1)).alloc (.cells #[.int .i64 0,.int .i64 0,.int .i64 0,.slice none 0 0] t2)).alloc (.cells #[.int .i64 0,.int .i64 0,.int .i64 0,.slice none 0 0] t3)).alloc (.cells #[.int .i64 0] t4)).alloc (.cells #[bdF (w.heap.size+1+1+1) w.heap.size (w.heap.size+1+1+1+1)] t5)):BldS w W Al nl cl:=by
 subst hW
 obtain⟨w1,hw1⟩:∃w1,w1=w.alloc (.cells #[.slice Al nl cl] t1):=⟨_,rfl⟩
 have b1:Below w.heap.size w w1:=by rw[hw1];exact(Below.refl _ w).alloc (Nat.le_refl _) _
 have s1:w1.heap.size=w.heap.size+1:=by rw[hw1];simp
 have l1:w1.cell? ⟨w.heap.size,0,none⟩=some (.slice Al nl cl):=by rw[hw1];go_simp
 rw[<-hw1]
 obtain⟨w2,hw2⟩:∃w2,w2=w1.alloc (.cells #[.int .i64 0,.int .i64 0,.int .i64 0,.slice none 0 0] t2):=⟨_,rfl⟩
 have b2:Below w1.heap.size w1 w2:=by rw[hw2];exact(Below.refl _ w1).alloc (Nat.le_refl _) _
 have s2:w2.heap.size=w.heap.size+1+1:=by rw[hw2];simp[s1]
 have p2:PlBox w2 (w.heap.size+1) 0 0 0 none 0 0/\PlFree w2 (w.heap.size+1):=by rw[hw2,<-s1];exact⟨PlBox.new _ _ _ _ _ _ _ _,PlFree.new _ _ _ _ _ _⟩
 rw[<-hw2]
 obtain⟨w3,hw3⟩:∃w3,w3=w2.alloc (.cells #[.int .i64 0,.int .i64 0,.int .i64 0,.slice none 0 0] t3):=⟨_,rfl⟩
 have b3:Below w2.heap.size w2 w3:=by rw[hw3];exact(Below.refl _ w2).alloc (Nat.le_refl _) _
 have s3:w3.heap.size=w.heap.size+1+1+1:=by rw[hw3];simp[s2]
 have p3:PlBox w3 (w.heap.size+1+1) 0 0 0 none 0 0/\PlFree w3 (w.heap.size+1+1):=by rw[hw3,<-s2];exact⟨PlBox.new _ _ _ _ _ _ _ _,PlFree.new _ _ _ _ _ _⟩
 rw[<-hw3]
 obtain⟨w4,hw4⟩:∃w4,w4=w3.alloc (.cells #[.int .i64 0] t4):=⟨_,rfl⟩
 have b4:Below w3.heap.size w3 w4:=by rw[hw4];exact(Below.refl _ w3).alloc (Nat.le_refl _) _
 have s4:w4.heap.size=w.heap.size+1+1+1+1:=by rw[hw4];simp[s3]
 have a4:IntBox w4 (w.heap.size+1+1+1) ((0:Nat):Int):=by rw[hw4,<-s3];constructor<;>simp[go_sem]
 rw[<-hw4]
 obtain⟨w5,hw5⟩:∃w5,w5=w4.alloc (.cells #[bdF (w.heap.size+1+1+1) w.heap.size (w.heap.size+1+1+1+1)] t5):=⟨_,rfl⟩
 have b5:Below w4.heap.size w4 w5:=by rw[hw5];exact(Below.refl _ w4).alloc (Nat.le_refl _) _
 have s5:w5.heap.size=w.heap.size+5:=by rw[hw5];simp[s4]
 have n5:w5.cell? ⟨w.heap.size+1+1+1+1,0,none⟩=some (bdF (w.heap.size+1+1+1) w.heap.size (w.heap.size+1+1+1+1)):=by rw[hw5,<-s4];go_simp
 rw[<-hw5]
 have e:∀j,j<w.heap.size+1+1->w5.heap[j]?=w2.heap[j]?:=λj hj=>(b5.block j (by omega)).trans ((b4.block j (by omega)).trans (b3.block j (by omega)))
 have e3:∀j,j<w.heap.size+1+1+1->w5.heap[j]?=w3.heap[j]?:=λj hj=>(b5.block j (by omega)).trans (b4.block j (by omega))
 exact⟨s5,b1.trans ((b2.mono b1.size).trans ((b3.mono (by omega)).trans ((b4.mono (by omega)).trans (b5.mono (by omega))))),cell_same l1 ((e _ (by omega)).trans (b2.block _ (by omega))),⟨p2.1.same (e _ (by omega)),p2.2.same (e _ (by omega))⟩,⟨p3.1.same (e3 _ (by omega)),p3.2.same (e3 _ (by omega))⟩,a4.same (b5.block _ (by omega)),n5⟩
theorem bld_fin{w W W3:World}{Al:Option Addr}{nl cl:Nat}(S:BldS w W Al nl cl)(ho:OnlyB (w.heap.size+1+1+1) W W3)(k n r:Int)(q:Fo)(B:Option Addr)(c:Nat)(B':Option Addr)(c':Nat)(h1:KY W.heap.size none W3 B q)(h2:KY W.heap.size none W3 B' q)(V:World)(hV:V=(((((((W3.setCell ⟨w.heap.size+1,0,none⟩ (.int .i64 k)).setCell ⟨w.heap.size+1,1,none⟩ (.int .i64 n)).setCell ⟨w.heap.size+1,2,none⟩ (.int .i64 r)).setCell ⟨w.heap.size+1,3,none⟩ (.slice B q.len c)).setCell ⟨w.heap.size+1+1,0,none⟩ (.int .i64 k)).setCell ⟨w.heap.size+1+1,1,none⟩ (.int .i64 n)).setCell ⟨w.heap.size+1+1,2,none⟩ (.int .i64 r)).setCell ⟨w.heap.size+1+1,3,none⟩ (.slice B' q.len c')):
  PlBox V (w.heap.size+1) k n r B q.len c/\PlBox V (w.heap.size+1+1) k n r B' q.len c'/\Kids V B 0 q/\Kids V B' 0 q/\Below w.heap.size w V:=by
 have hs:=S.sz
 obtain⟨V1,hV1⟩:∃V1,V1=(((W3.setCell ⟨w.heap.size+1,0,none⟩ (.int .i64 k)).setCell ⟨w.heap.size+1,1,none⟩ (.int .i64 n)).setCell ⟨w.heap.size+1,2,none⟩ (.int .i64 r)).setCell ⟨w.heap.size+1,3,none⟩ (.slice B q.len c):=⟨_,rfl⟩
 have p1:PlBox V1 (w.heap.size+1) k n r B q.len c:=by rw[hV1];exact(S.p.1.same (ho.block _ (by omega) (by omega))).put k n r B q.len c
 have e1:∀j,j≠w.heap.size+1->V1.heap[j]?=W3.heap[j]?:=λj hj=>by rw[hV1];exact(heap_set _ hj).trans ((heap_set _ hj).trans ((heap_set _ hj).trans (heap_set _ hj)))
 have z1:V1.heap.size=W3.heap.size:=by rw[hV1];simp[World.setCell]
 have o1:V1.os=W3.os/\V1.tape=W3.tape/\V1.output=W3.output:=by rw[hV1];exact⟨rfl,rfl,rfl⟩
 rw[<-hV1] at hV
 have p2:PlBox V (w.heap.size+1+1) k n r B' q.len c':=by rw[hV];exact((S.q.1.same (ho.block _ (by omega) (by omega))).same (e1 _ (by omega))).put k n r B' q.len c'
 have e2:∀j,j≠w.heap.size+1+1->V.heap[j]?=V1.heap[j]?:=λj hj=>by rw[hV];exact(heap_set _ hj).trans ((heap_set _ hj).trans ((heap_set _ hj).trans (heap_set _ hj)))
 have z2:V.heap.size=V1.heap.size:=by rw[hV];simp[World.setCell]
 have o2:V.os=V1.os/\V.tape=V1.tape/\V.output=V1.output:=by rw[hV];exact⟨rfl,rfl,rfl⟩
 have e:∀j,j≠w.heap.size+1->j≠w.heap.size+1+1->V.heap[j]?=W3.heap[j]?:=λj h h'=>(e2 j h').trans (e1 j h)
 have hz:=ho.size
 exact⟨p1.same (e2 _ (by omega)),p2,h1 V (λj hj _ _=>e j (by omega) (by omega)),h2 V (λj hj _ _=>e j (by omega) (by omega)),
  ⟨o2.1.trans (o1.1.trans (ho.os.trans S.b.os)),o2.2.1.trans (o1.2.1.trans (ho.tape.trans S.b.tape)),o2.2.2.trans (o1.2.2.trans (ho.output.trans S.b.output)),by have:=S.b.size;omega,λj hj=>(e j (by omega) (by omega)).trans ((ho.block j (by omega) (by omega)).trans (S.b.block j hj))⟩⟩
@[go_sem] theorem run_store_func19(P:Program)(w:World)(a:Addr)(m:Mode)(f:Fn)(x y:Array Value):(store a (.func f x y) m).run P w=stored P w a (.func f x y) m:=run_store P w a _ m rfl
theorem build19(Al:Option Addr)(nl cl:Nat)(f:Nat->Nat->Int)(w:World)(hN:NodesAt w Al nl f)(hnl:nl<=1125899906842624):
  Calls Try.prog 36 #[.slice Al nl cl] w λz w'=>∃(k n r:Int) (q:Fo) (B:Option Addr) (c:Nat) (B':Option Addr) (c':Nat),z=.returned (.tuple #[plV k n r B q.len c,plV k n r B' q.len c'])/\q.count<=549755813888/\Kids w' B 0 q/\Kids w' B' 0 q/\Below w.heap.size w w':=by
 have HN:=aZ hN
 clear hN
 obtain⟨W,hW⟩:∃W,W=((((w.alloc (.cells #[.slice Al nl cl] 65)).alloc (.cells #[.int .i64 0,.int .i64 0,.int .i64 0,.slice none 0 0] 26)).alloc (.cells #[.int .i64 0,.int .i64 0,.int .i64 0,.slice none 0 0] 29)).alloc (.cells #[.int .i64 0] 3)).alloc (.cells #[bdF (w.heap.size+1+1+1) w.heap.size (w.heap.size+1+1+1+1)] 79):=⟨_,rfl⟩
 have HS:=aZ (BldS.start w Al nl cl _ _ _ _ _ W hW)
 go_enter Try.func36,Try.ntmps36
 go_wp2_with fail
 rw[<-hW]
 clear hW
 have hs:=HS.out.sz
 have HB:=build_all19 16 (Nat.le_refl _)
 rw[show 16-16=0 from rfl] at HB
 refine(HB W Al nl cl f (w.heap.size+1+1+1) w.heap.size (w.heap.size+1+1+1+1) 0 (HN.out.keep HS.out.b) hnl HS.out.a (by omega) HS.out.l HS.out.n ⟨by omega,by omega,by omega,by omega,by omega,λh0 b o e=>by have:=HN.out.block h0 b o e;omega⟩).mono ?_
 rintro z W3 ⟨k,n,r,q,B,c,B',c',a',rfl,hq,hk1,hk2,ho,-,-⟩
 have HFN:=aZ (bld_fin HS.out ho k n r q B c B' c' hk1 hk2 _ rfl)
 have e17:(4:Nat)^(17-0)=17179869184:=by decide
 rw[e17] at hq
 have HQ:Hid (q.count<=549755813888):=aZ (by omega)
 obtain⟨⟨p0,p1,p2,p3⟩,pf⟩:=(⟨HS.out.p.1.same (ho.block _ (by omega) (by omega)),HS.out.p.2.same (ho.block _ (by omega) (by omega))⟩:PlBox W3 (w.heap.size+1) 0 0 0 none 0 0/\PlFree W3 (w.heap.size+1))
 obtain⟨⟨q0,q1,q2,q3⟩,qf⟩:=(⟨HS.out.q.1.same (ho.block _ (by omega) (by omega)),HS.out.q.2.same (ho.block _ (by omega) (by omega))⟩:PlBox W3 (w.heap.size+1+1) 0 0 0 none 0 0/\PlFree W3 (w.heap.size+1+1))
 have pf0:=pf 0 (by omega)
 have pf1:=pf 1 (by omega)
 have pf2:=pf 2 (by omega)
 have pf3:=pf 3 (by omega)
 have qf0:=qf 0 (by omega)
 have qf1:=qf 1 (by omega)
 have qf2:=qf 2 (by omega)
 have qf3:=qf 3 (by omega)
 clear pf qf hk1 hk2 ho hs HS HB hq e17
 go_wp2
 obtain⟨s0,s1,s2,s3⟩:=HFN.out.1
 obtain⟨u0,u1,u2,u3⟩:=HFN.out.2.1
 exact bodyPost_ret (v:=.tuple #[plV k n r B q.len c,plV k n r B' q.len c']) (by simp[results,Try.results36,go_sem,s0,s1,s2,s3,u0,u1,u2,u3]) rfl ⟨k,n,r,q,B,c,B',c',rfl,HQ.out,HFN.out.2.2.1,HFN.out.2.2.2.1,HFN.out.2.2.2.2⟩
end Go.Proofs.Yteaimnemobnknaa
