/- The plan of the split radix over complex floats. -/
import Derived.Test.YtfedabinindpbaaGreatX0
import Derived.Test.YtfedabinindpbaaGreatY7
import Derived.Test.YtfedabinindpbaaGreatMQ3
import Derived.Test.YtfedabinindpbaaGreatMY2
import Derived.Test.YtfedabinindpbaaGreatMQ4
import Derived.Test.YtfedabinindpbaaGreatMC3
set_option maxRecDepth 100000
set_option maxHeartbeats 2000000
set_option linter.unusedSimpArgs false
set_option linter.unusedVariables false
set_option linter.unusedSectionVars false
namespace Go.Proofs.YtfedabinindpbaaGreat
open Go.RowKit Go.Lib
section
variable {M : Mem} {ρ : RingC}
theorem planX_split(H:ρ.Ok M)(N e:Nat)(he:N=2^e)(h1:1<=N)(h2:N<=32768)(kids:Fo):PlanX M ρ 2 N 0 kids N (splitF ρ.R N N):=by
 refine⟨λs hs w A c X cx x hk hX hw=>?_⟩
 have HH:=aZ H
 have HS:=aZ hs
 have HX:=aZ hX
 have HW:=aZ hw
 have HE:=aZ he
 clear H hk hX hw hs he
 go_enter Tryz.func79,Tryz.ntmps79
 go_wp2_with fail
 have hb1:=boxes_on HH.out.mem HW.out (.cells #[.iface ρ.t ρ.v,.int .i64 s] 131) (.cells #[.int .i64 2,.int .i64 N,.int .i64 0,.slice A kids.len c] 46)
 refine(SplitC_r HH.out s HS.out N N e HE.out (by omega) h2 _ X cx x (HX.out.keepM HH.out.mem hb1 HW.out) hb1.st).mono ?_
 rintro z w1 ⟨g,rfl,hg,ho,hb2⟩
 have HB:=aZ (hb1.trans HH.out.mem hb2)
 have HO:=aZ ho
 have HG:Hid (w.heap.size<=g):=aZ (by have:=HH.out.mem.size hb1.fr;omega)
 clear hb1 hb2 ho hg
 go_wp2
 go_ret
 exact⟨g,rfl,HG.out,HO.out,HB.out⟩
end
section
variable {M : Mem} {ρ : RingC}
def nodeC(ρ:RingC)(kind n r:Int)(kids:Fo):Tr Cx:=nodeF ρ.R pwF kind n.toNat r.toNat kids.sizes (kids.runs ρ.R pwF)
def Fo.AllX(M:Mem)(ρ:RingC):Fo->Prop
 |.nil=>True
 |.cons kind n r kids rest=>PlanX M ρ kind n r kids n.toNat (nodeC ρ kind n r kids)/\rest.AllX M ρ
theorem planX_radix(H:ρ.Ok M)(N p d:Nat)(hp:2<=p)(hd:1<=d)(hpd:p*d=N)(h2:N<=32768)(a0 n0 r0 a1 n1 r1:Int)(q0 q1:Fo)(F0 F1:Tr Cx)(P0:PlanX M ρ a0 n0 r0 q0 p F0)(P1:PlanX M ρ a1 n1 r1 q1 d F1):
  PlanX M ρ 1 N p (.cons a0 n0 r0 q0 (.cons a1 n1 r1 q1 .nil)) N (radixF ρ.R N p F0 F1):=by
 have hdd:N/p=d:=by rw[<-hpd];exact Nat.mul_div_cancel_left _ (by omega)
 have hN1:1<=N:=by rw[<-hpd];exact Nat.mul_pos (by omega) hd
 refine⟨λs hs w A c X cx x hk hX hw=>?_⟩
 have HH:=aZ H
 have HS:=aZ hs
 have HX:=aZ hX
 have HW:=aZ hw
 have HK:=aZ hk
 have HP:=aZ hpd
 have HP0:=aZ P0
 have HP1:=aZ P1
 clear H hk hX hw hs hpd hdd P0 P1
 go_enter Tryz.func79,Tryz.ntmps79
 go_wp2_with fail
 have hb1:=boxes_on HH.out.mem HW.out (.cells #[.iface ρ.t ρ.v,.int .i64 s] 131) (.cells #[.int .i64 1,.int .i64 N,.int .i64 p,.slice A 2 c] 46)
 refine(RadixC_r HH.out s HS.out N p d hp hd HP.out h2 a0 n0 r0 a1 n1 r1 q0 q1 F0 F1 HP0.out HP1.out _ A c X cx x (Kids.keep HH.out.mem hb1 HW.out HK.out) (HX.out.keepM HH.out.mem hb1 HW.out) hb1.st).mono ?_
 rintro z w1 ⟨g,rfl,hg,ho,hb2⟩
 have HB:=aZ (hb1.trans HH.out.mem hb2)
 have HO:=aZ ho
 have HG:Hid (w.heap.size<=g):=aZ (by have:=HH.out.mem.size hb1.fr;omega)
 clear hb1 hb2 ho hg
 go_wp2
 go_ret
 exact⟨g,rfl,HG.out,HO.out,HB.out⟩
theorem planX_rader(H:ρ.Ok M)(N l:Nat)(hl:l+1=N)(hR:Rooted N)(h2:N<=32768)(a0 r0:Int)(q0:Fo)(K:Tr Cx)(P0:PlanX M ρ a0 l r0 q0 l K):PlanX M ρ 3 N 0 (.cons a0 l r0 q0 .nil) N (raderF ρ.R N (pwF N) K):=by
 have hn3:=hR.p3
 refine⟨λs hs w A c X cx x hk hX hw=>?_⟩
 have HH:=aZ H
 have HS:=aZ hs
 have HX:=aZ hX
 have HW:=aZ hw
 have HK:=aZ hk
 have HR:=aZ hR
 have HP0:=aZ P0
 clear H hk hX hw hs hR P0
 go_enter Tryz.func79,Tryz.ntmps79
 go_wp2_with fail
 have hb1:=boxes_on HH.out.mem HW.out (.cells #[.iface ρ.t ρ.v,.int .i64 s] 131) (.cells #[.int .i64 3,.int .i64 N,.int .i64 0,.slice A 1 c] 46)
 refine(RaderC_r HH.out s HS.out N l hl HR.out h2 a0 r0 q0 K HP0.out _ A c X cx x (Kids.keep HH.out.mem hb1 HW.out HK.out) (HX.out.keepM HH.out.mem hb1 HW.out) hb1.st).mono ?_
 rintro z w1 ⟨g,rfl,hg,ho,hb2⟩
 have HB:=aZ (hb1.trans HH.out.mem hb2)
 have HO:=aZ ho
 have HG:Hid (w.heap.size<=g):=aZ (by have:=HH.out.mem.size hb1.fr;omega)
 clear hb1 hb2 ho hg
 go_wp2
 go_ret
 exact⟨g,rfl,HG.out,HO.out,HB.out⟩
theorem planX_blue(H:ρ.Ok M)(N m:Nat)(h1:1<=N)(h2:N<=16384)(hm:2*N-1<=m)(hm2:m<=32768)(a0 r0:Int)(q0:Fo)(K:Tr Cx)(P0:PlanX M ρ a0 m r0 q0 m K):PlanX M ρ 4 N 0 (.cons a0 m r0 q0 .nil) N (blueF ρ.R N m K):=by
 refine⟨λs hs w A c X cx x hk hX hw=>?_⟩
 have HH:=aZ H
 have HS:=aZ hs
 have HX:=aZ hX
 have HW:=aZ hw
 have HK:=aZ hk
 have HP0:=aZ P0
 clear H hk hX hw hs P0
 go_enter Tryz.func79,Tryz.ntmps79
 go_wp2_with fail
 have hb1:=boxes_on HH.out.mem HW.out (.cells #[.iface ρ.t ρ.v,.int .i64 s] 131) (.cells #[.int .i64 4,.int .i64 N,.int .i64 0,.slice A 1 c] 46)
 refine(BlueC_r HH.out s HS.out N m h1 h2 hm hm2 a0 r0 q0 K HP0.out _ A c X cx x (Kids.keep HH.out.mem hb1 HW.out HK.out) (HX.out.keepM HH.out.mem hb1 HW.out) hb1.st).mono ?_
 rintro z w1 ⟨g,rfl,hg,ho,hb2⟩
 have HB:=aZ (hb1.trans HH.out.mem hb2)
 have HO:=aZ ho
 have HG:Hid (w.heap.size<=g):=aZ (by have:=HH.out.mem.size hb1.fr;omega)
 clear hb1 hb2 ho hg
 go_wp2
 go_ret
 exact⟨g,rfl,HG.out,HO.out,HB.out⟩
theorem nodeC_all(H:ρ.Ok M)(kind n r:Int)(kids:Fo)(hf:FineN kind n r kids.sizes)(hk:kids.Fine)(ih:kids.AllX M ρ):PlanX M ρ kind n r kids n.toNat (nodeC ρ kind n r kids):=by
 obtain⟨N,rfl,h1,h2,h⟩:=hf
 have e:(N:Int).toNat=N:=by omega
 unfold nodeC
 rw[e]
 rcases h with⟨rfl,rfl,-⟩|⟨rfl,p,d,rfl,hp,hd,hpd,hs⟩|⟨rfl,rfl,-,ex,he⟩|⟨rfl,rfl,hR,hs⟩|⟨rfl,rfl,hN,m,hm,hm2,hs⟩
 ·exact planX_leaf H N h1 h2 kids
 ·obtain⟨a0,n0,r0,q0,a1,n1,r1,q1,rfl,e0,e1⟩:=sizes_two hs
  obtain⟨c0,c1,-⟩:=ih
  rw[e0] at c0
  rw[e1] at c1
  exact planX_radix H N p d hp hd hpd h2 _ _ _ _ _ _ _ _ _ _ c0 c1
 ·exact planX_split H N ex he h1 h2 kids
 ·obtain⟨a0,n0,r0,q0,rfl,e0⟩:=sizes_one hs
  obtain⟨c0,-⟩:=ih
  have hn0:n0=((N-1:Nat):Int):=by have:=hR.p3;omega
  subst hn0
  rw[e0] at c0
  exact planX_rader H N (N-1) (by omega) hR h2 a0 r0 q0 _ c0
 ·obtain⟨a0,n0,r0,q0,rfl,e0⟩:=sizes_one hs
  obtain⟨c0,-⟩:=ih
  have hn0:n0=(m:Int):=by omega
  subst hn0
  rw[e0] at c0
  have:=planX_blue H N m h1 hN hm hm2 a0 r0 q0 _ c0
  exact this
theorem plansC_all(H:ρ.Ok M):∀fo:Fo,fo.Fine->fo.AllX M ρ
 |.nil,_=>trivial
 |.cons kind n r kids rest,⟨h,hk,hr⟩=>⟨nodeC_all H kind n r kids h hk (plansC_all H kids hk),plansC_all H rest hr⟩
end
theorem word_of{x v:Nat}(h:nz x=v)(hv:v≠9221120237041090560):x=v:=by
 rw[nz_eq] at h
 cases e:isN x
 ·rw[e] at h;exact h
 ·rw[e] at h;exact absurd h.symm hv
def exF(kind n r:Int)(q:Fo):Tr Cx:=nodeF ringR pwF kind n.toNat r.toNat q.sizes (q.runs ringR pwF)
theorem chkC_of(kind n r:Int)(q:Fo)(want:Int)(h:checkE kind n r q want=0)(hN:q.count<=549755813888):ChkC kind n r q want 0:=by
 have:=Check_any kind n r q want hN
 rwa [h] at this
theorem planE_all{B:Nat}(hB:4*B<=2048)(kind r:Int)(N:Nat)(q:Fo)(h:checkE kind N r q N=0)(hN:N<=B):PlanE kind r q N (exF kind N r q):=λm=>by
 obtain⟨⟨hf,hk,-⟩,-,-⟩:=check_fine hB h (by omega)
 have:=nodeC_all (ringC_ok m) kind N r q hf hk (plansC_all (ringC_ok m) q hk)
 exact this
end Go.Proofs.YtfedabinindpbaaGreat
