/- The contract of mod.Inverse. -/
import Derived.Test.YteaimnemobnknaaX0
import Derived.Test.YteaimnemobnknaaMB1
import Derived.Test.YteaimnemobnknaaZ3
import Derived.Test.YteaimnemobnknaaMC6
import Derived.Test.YteaimnemobnknaaME1
import Derived.Test.YteaimnemobnknaaMD2
import Derived.Test.YteaimnemobnknaaMC3
set_option maxRecDepth 100000
set_option maxHeartbeats 4000000
set_option linter.unusedSimpArgs false
set_option linter.unusedVariables false
namespace Go.Proofs.Yteaimnemobnknaa
open Go.RowKit Go.Lib
structure EuS(m a r0 r1:Nat)(s0 s1:Int):Prop where
 p0:1<=r0
 l0:r0<=m
 l1:r1<=m
 g:Nat.gcd r0 r1=1
 d0:(m:Int)∣r0-s0*a
 d1:(m:Int)∣r1-s1*a
 t:∃t0 t1:Nat,(s0=t0/\s1=-t1\/s0=-t0/\s1=t1)/\t0*r1+t1*r0=m/\t0<=m
theorem EuS.start{m a:Nat}(a1:1<=a)(ha:a<=m)(hg:Nat.gcd a m=1):EuS m a a m 1 0 where
 p0:=a1
 l0:=ha
 l1:=Nat.le_refl _
 g:=hg
 d0:=by rw[Int.one_mul,Int.sub_self];exact Int.dvd_zero _
 d1:=by rw[Int.zero_mul,Int.sub_zero];exact Int.dvd_refl _
 t:=⟨1,0,.inl ⟨rfl,rfl⟩,by omega,by omega⟩
theorem EuS.step{m a r0 r1:Nat}{s0 s1:Int}(E:EuS m a r0 r1 s0 s1)(h1:1<=r1):
  EuS m a r1 (r0%r1) s1 (s0-(r0/r1:Nat)*s1)/\-(m:Int)<=(r0/r1:Nat)*s1/\((r0/r1:Nat):Int)*s1<=m/\-(m:Int)<=s0-(r0/r1:Nat)*s1/\s0-((r0/r1:Nat):Int)*s1<=m:=by
 obtain⟨t0,t1,ht,hm,h0⟩:=E.t
 have hp0:=E.p0
 have hl0:=E.l0
 have hl1:=E.l1
 have hd:=Nat.div_add_mod r0 r1
 have hlt:=Nat.mod_lt r0 (show 0<r1 by omega)
 have hg:Nat.gcd r1 (r0%r1)=1:=by rw[Nat.gcd_comm,<-Nat.gcd_rec,Nat.gcd_comm];exact E.g
 have d0:=E.d0
 have d1:=E.d1
 generalize r0/r1=q at*
 generalize r0%r1=r2 at*
 have key:t1*r2+(t0+q*t1)*r1=m:=by rw[<-hm,<-hd];grind
 have hb:t0+q*t1<=m:=by
  have:(t0+q*t1)*1<=(t0+q*t1)*r1:=Nat.mul_le_mul_left _ h1
  omega
 have hb1:t1<=m:=by
  have:t1*1<=t1*r0:=Nat.mul_le_mul_left _ hp0
  omega
 have hq:(q:Int)*(t1:Int)=((q*t1:Nat):Int):=(Int.natCast_mul _ _).symm
 have hd2:(m:Int)∣(r2:Nat)-(s0-(q:Int)*s1)*a:=by
  have e:((r2:Nat):Int)-(s0-(q:Int)*s1)*a=(r0-s0*a)-(q:Int)*(r1-s1*a):=by
   have:(r0:Int)=(r1:Int)*q+r2:=by rw[<-hd];push_cast;rfl
   rw[this];grind
  rw[e]
  exact Int.dvd_sub d0 (Int.dvd_trans d1 ⟨q,by rw[Int.mul_comm]⟩)
 refine⟨⟨h1,hl1,by omega,hg,d1,hd2,?_⟩,?_⟩
 ·rcases ht with⟨rfl,rfl⟩|⟨rfl,rfl⟩
  ·exact⟨t1,t0+q*t1,.inr ⟨rfl,by rw[Int.mul_neg,hq];omega⟩,key,hb1⟩
  ·exact⟨t1,t0+q*t1,.inl ⟨rfl,by rw[hq];omega⟩,key,hb1⟩
 ·rcases ht with⟨rfl,rfl⟩|⟨rfl,rfl⟩
  ·rw[Int.mul_neg,hq];omega
  ·rw[hq];omega
theorem EuS.done{m a r0:Nat}{s0 s1:Int}(E:EuS m a r0 0 s0 s1):r0=1/\(m:Int)∣1-s0*a/\-(m:Int)<=s0/\s0<=m:=by
 have h:=E.g
 rw[Nat.gcd_zero_right] at h
 subst h
 obtain⟨t0,t1,ht,hm,h0⟩:=E.t
 exact⟨rfl,E.d0,by omega,by omega⟩
theorem EuS.bd{m a r0 r1:Nat}{s0 s1:Int}(E:EuS m a r0 r1 s0 s1):-(m:Int)<=s0/\s0<=m/\-(m:Int)<=s1/\s1<=m:=by
 obtain⟨t0,t1,ht,hm,h0⟩:=E.t
 have hp0:=E.p0
 have:t1*1<=t1*r0:=Nat.mul_le_mul_left _ hp0
 omega
structure Duo(w:World)(b:Nat)(x y:Int):Prop where
 c0:w.cell? ⟨b,0,none⟩=some (.int .i64 x)
 c1:w.cell? ⟨b,1,none⟩=some (.int .i64 y)
 f0:w.frozen? ⟨b,0,none⟩=false
 f1:w.frozen? ⟨b,1,none⟩=false
theorem Duo.put{w:World}{b:Nat}{x y:Int}(h:Duo w b x y)(u v:Int):Duo ((w.setCell ⟨b,0,none⟩ (.int .i64 u)).setCell ⟨b,1,none⟩ (.int .i64 v)) b u v:=by
 obtain⟨c0,c1,f0,f1⟩:=h
 refine⟨?_,?_,?_,?_⟩<;>simp[go_sem,c0,c1,f0,f1]
theorem Duo.other{w:World}{b b' o:Nat}{x y:Int}(h:Duo w b x y)(u:Value)(hne:b'≠b):Duo (w.setCell ⟨b',o,none⟩ u) b x y:=by
 have e:∀o',(w.setCell ⟨b',o,none⟩ u).cell? ⟨b,o',none⟩=w.cell? ⟨b,o',none⟩:=λo'=>World.cell?_setCell_other _ _ _ _ (by intro e;have:=congrArg Addr.block e;first|exact hne this|exact hne this.symm)
 exact⟨(e 0).trans h.c0,(e 1).trans h.c1,by rw[World.frozen?_setCell];exact h.f0,by rw[World.frozen?_setCell];exact h.f1⟩
def cellN(w:World)(b o:Nat):Nat:=match w.cell? ⟨b,o,none⟩ with|some v=>(intOf v).toNat|none=>0
theorem cellN_of{w:World}{b o:Nat}{n:Nat}(h:w.cell? ⟨b,o,none⟩=some (.int .i64 n)):cellN w b o=n:=by unfold cellN;rw[h];simp[intOf]
theorem below_duo{w W:World}{b:Nat}(h:Below w.heap.size w W)(hb:w.heap.size<=b)(u v:Value):Below w.heap.size w ((W.setCell ⟨b,0,none⟩ u).setCell ⟨b,1,none⟩ v):=
 (h.setCell (p:=⟨b,0,none⟩) hb _).setCell (p:=⟨b,1,none⟩) hb _
theorem Inverse_any(n:Int)(a m:Nat)(ha:n%(m:Int)=a)(a1:1<=a)(hg:Nat.gcd a m=1)(m1:1<=m)(hm:m<=4503599627370496)(n0:-9223372036854775808<=n)(n1:n<=9223372036854775807)(w:World):
  Calls Try.prog 98 #[.int .i64 n,.int .i64 m] w λz w'=>∃u:Nat,u<m/\(m:Int)∣1-u*a/\z=.returned (.tuple #[.int .i64 u,.bool true])/\Below w.heap.size w w':=by
 have al:a<m:=by have:=Int.emod_lt_of_pos n (show(0:Int)<m by omega);omega
 have hE:=EuS.start a1 (Nat.le_of_lt al) hg
 have HMo:=aZ (λw=>modulus_any m (by omega) (by omega) w)
 have hr:=λw=>rest_any n m w (by omega) (by omega) n0 n1
 rw[ha] at hr
 have HRe:=aZ hr
 have HRs:=aZ (λ(s:Int) (h0:-(m:Int)<=s) (h1:s<=m) w=>rest_any s m w (by omega) (by omega) (by omega) (by omega))
 have HE:=aZ hE
 clear hE hr ha hg
 obtain⟨W0,hW0⟩:∃W0,W0=(w.alloc (.cells #[.int .i64 a,.int .i64 m] 160)).alloc (.cells #[.int .i64 1,.int .i64 0] 160):=⟨_,rfl⟩
 have hb0:Below w.heap.size w W0:=by rw[hW0];exact((Below.refl _ w).alloc (Nat.le_refl _) _).alloc (by simp) _
 have hr0:Duo W0 w.heap.size a m:=by rw[hW0];refine⟨?_,?_,?_,?_⟩<;>simp[go_sem]
 have hs0:Duo W0 (w.heap.size+1) 1 0:=by rw[hW0];refine⟨?_,?_,?_,?_⟩<;>simp[go_sem]
 have HB0:=aZ hb0
 have HR0:=aZ hr0
 have HS0:=aZ hs0
 clear hb0 hr0 hs0
 go_enter Try.func98,Try.ntmps98
 go_wp2_with fail
 refine(HMo.out _).mono ?_
 rintro z w' ⟨rfl,rfl⟩
 go_wp2_with fail
 refine(HRe.out _).mono ?_
 rintro z w' ⟨rfl,rfl⟩
 go_wp2_with fail
 rw[<-hW0]
 clear hW0
 go_loopw [8] (λv8 wr=>∃(r0 r1:Nat) (s0 s1:Int),Hid (EuS m a r0 r1 s0 s1)/\Hid (Duo wr w.heap.size r0 r1)/\Hid (Duo wr (w.heap.size+1) s0 s1)/\Hid (Below w.heap.size w wr)) (λ_ wr=>cellN wr w.heap.size 1)
 case atStart=>exact⟨a,m,1,0,HE,HR0,HS0,HB0⟩
 case round=>
  clear HE HR0 HS0 HB0
  obtain⟨r0,r1,s0,s1,hE,hR,hS,hB⟩:=hrel
  obtain⟨a0,a1',fa0,fa1⟩:=hR.out
  obtain⟨c0,c1,fc0,fc1⟩:=hS.out
  have hEb:=hE.out.bd
  have hE0:=hE.out.l0
  have hE1:=hE.out.l1
  have hmeas:=cellN_of a1'
  by_cases h0:r1=0
  ·subst h0
   obtain⟨rfl,hd,hd1,hd2⟩:=hE.out.done
   have HD:=aZ hd
   have hlt:=Int.emod_lt_of_pos s0 (show(0:Int)<m by omega)
   have hnn:=Int.emod_nonneg s0 (show(m:Int)≠0 by omega)
   have HRz:=HRs.out s0 hd1 hd2
   obtain⟨u,hu⟩:=Int.eq_ofNat_of_zero_le hnn
   rw[hu] at HRz hlt hnn
   have HDu:Hid ((m:Int)∣1-u*a):=aZ (by
    obtain⟨k,hk⟩:=HD.out
    have h2:=Int.mul_ediv_add_emod s0 m
    rw[hu] at h2
    refine⟨k+s0/m*a,?_⟩
    have:(1:Int)-u*a=(1-s0*a)+(s0-u)*a:=by grind
    rw[this,hk,show s0-(u:Int)=m*(s0/m) from by omega]
    grind)
   have HRZ:=aZ HRz
   clear hu hd HRz hmeas hEb
   go_wp2_with fail
   refine(HRZ.out _).mono ?_
   rintro z w' ⟨rfl,rfl⟩
   go_wp2
   go_ret2
   exact⟨u,by omega,HDu.out,rfl,hB.out⟩
  ·obtain⟨hN,e1,e2,e3,e4⟩:=hE.out.step (by omega)
   have hq:=Nat.div_add_mod r0 r1
   have hql:=Nat.div_le_self r0 r1
   have hml:=Nat.mod_lt r0 (show 0<r1 by omega)
   have hdi:(r0:Int)/(r1:Int)=((r0/r1:Nat):Int):=(Int.natCast_ediv _ _).symm
   obtain⟨q,hqe⟩:∃q,r0/r1=q:=⟨_,rfl⟩
   obtain⟨r2,hre⟩:∃r2,r0%r1=r2:=⟨_,rfl⟩
   rw[hqe] at hN e1 e2 e3 e4 hq hql hdi
   rw[hre] at hN hq hml
   obtain⟨p,hp⟩:∃p,r1*q=p:=⟨_,rfl⟩
   have hqr:(q:Int)*(r1:Int)=(p:Int):=by rw[<-hp,Nat.mul_comm];push_cast;rfl
   rw[hp] at hq
   obtain⟨x,hx⟩:∃x,(q:Int)*s1=x:=⟨_,rfl⟩
   rw[hx] at hN e1 e2 e3 e4
   have hsub:(r0:Int)-(p:Int)=(r2:Int):=by omega
   have HN:=aZ hN
   have hr10:¬(r1:Int)=0:=by omega
   have hr1b:((r1:Int) != 0)=true:=by rw[bne_iff_ne];omega
   have HR2:=aZ (hR.out.put r1 r2)
   have HR3:=aZ ((HR2.out.other (b':=w.heap.size+1) (o:=0) (.int .i64 s1) (by omega)).other (b':=w.heap.size+1) (o:=1) (.int .i64 (s0-x)) (by omega))
   have HS3:=aZ (((hS.out.other (b':=w.heap.size) (o:=0) (.int .i64 r1) (by omega)).other (b':=w.heap.size) (o:=1) (.int .i64 r2) (by omega)).put s1 (s0-x))
   have HB3:=aZ (below_duo (below_duo hB.out (Nat.le_refl _) (.int .i64 r1) (.int .i64 r2)) (show w.heap.size<=w.heap.size+1 by omega) (.int .i64 s1) (.int .i64 (s0-x)))
   have HM:=aZ (cellN_of HR3.out.c1)
   clear hN hq hqe hre hp
   go_wp2_with fail
   exact⟨⟨r1,r2,s1,s0-x,HN,HR3,HS3,HB3⟩,by rw[HM.out,hmeas];exact hml⟩
theorem fzero_any(q v N:Nat)(w:World):Calls Try.prog 155 #[rgV q v N] w λz w'=>z=.returned (.int .i64 0)/\Below w.heap.size w w':=by
 go_enter Try.func155,Try.ntmps155
 go_wp2
 go_ret
 exact⟨rfl,(Below.refl _ _).alloc (Nat.le_refl _) _⟩
theorem fadd_any(q v N:Nat)(a b:Int)(q1:1<=q)(hq:q<=4503599627370496)(a0:0<=a)(a1:a<q)(b0:0<=b)(b1:b<q)(w:World):Calls Try.prog 153 #[rgV q v N,.int .i64 a,.int .i64 b] w λz w'=>z=.returned (.int .i64 ((a+b)%q))/\Below w.heap.size w w':=by
 have hq0:¬(q:Int)=0:=by omega
 go_enter Try.func153,Try.ntmps153
 go_wp2
 go_ret
 exact⟨rfl,(Below.refl _ _).alloc (Nat.le_refl _) _⟩
theorem fsub_any(q v N:Nat)(a b:Int)(q1:1<=q)(hq:q<=4503599627370496)(a0:0<=a)(a1:a<q)(b0:0<=b)(b1:b<q)(w:World):Calls Try.prog 154 #[rgV q v N,.int .i64 a,.int .i64 b] w λz w'=>z=.returned (.int .i64 ((a-b+q)%q))/\Below w.heap.size w w':=by
 have hq0:¬(q:Int)=0:=by omega
 have hp:0<=a-b+q:=by omega
 go_enter Try.func154,Try.ntmps154
 go_wp2
 go_ret
 exact⟨rfl,(Below.refl _ _).alloc (Nat.le_refl _) _⟩
theorem fmul_any(q v N:Nat)(a b:Int)(q1:1<=q)(hq:q<=4503599627370496)(a0:-9223372036854775808<=a)(a1:a<=9223372036854775807)(b0:-9223372036854775808<=b)(b1:b<=9223372036854775807)(w:World):Calls Try.prog 41 #[rgV q v N,.int .i64 a,.int .i64 b] w λz w'=>z=.returned (.int .i64 (a*b%q))/\Below w.heap.size w w':=by
 have HM:=aZ (λw=>Mul52_any a b q q1 hq a0 a1 b0 b1 w)
 go_enter Try.func41,Try.ntmps41
 go_wp2_with fail
 refine(HM.out _).mono ?_
 rintro z w' ⟨rfl,hq⟩
 have HB:=aZ (((Below.refl _ w).alloc (Nat.le_refl _) (.cells #[.int .i64 q,.int .i64 v,.int .i64 N] 60)).trans (hq.below.mono (by simp)))
 clear hq
 go_wp2
 go_ret
 exact⟨rfl,HB.out⟩
theorem frest_any(q v N:Nat)(a:Int)(q1:1<=q)(hq:q<=4503599627370496)(a0:-9223372036854775808<=a)(a1:a<=9223372036854775807)(w:World):Calls Try.prog 96 #[rgV q v N,.int .i64 a] w λz w'=>z=.returned (.int .i64 (a%q))/\Below w.heap.size w w':=by
 have hM:=λw=>Mul52_any a 1 q q1 hq a0 a1 (by omega) (by omega) w
 rw[Int.mul_one] at hM
 have HM:=aZ hM
 clear hM
 go_enter Try.func96,Try.ntmps96
 go_wp2_with fail
 refine(HM.out _).mono ?_
 rintro z w' ⟨rfl,hq⟩
 have HB:=aZ (((Below.refl _ w).alloc (Nat.le_refl _) (.cells #[.int .i64 q,.int .i64 v,.int .i64 N] 60)).trans (hq.below.mono (by simp)))
 clear hq
 go_wp2
 go_ret
 exact⟨rfl,HB.out⟩
theorem prm_gcd{q n:Nat}(hp:Prm q)(n1:1<=n)(hn:n<q):Nat.gcd n q=1:=by
 rcases hp.2 _ (Nat.gcd_dvd_right n q) with h|h
 ·exact h
 ·have:=Nat.le_of_dvd n1 (Nat.gcd_dvd_left n q)
  omega
theorem over_inv{q:Nat}{a:Int}{n u:Nat}(hp:Prm q)(n1:1<=n)(hn:n<q)(hu:(q:Int)∣1-u*n):a*u%(q:Int)=(overN q a n:Nat):=by
 have hq0:NeZero q:=⟨by have:=hp.1;omega⟩
 have h2:=hp.1
 have hov:hq q ((overN q a n:Nat):Int)*hq q n=hq q a:=by
  have hf:=fermat hp (a:=n) (λh=>by have:=Nat.le_of_dvd n1 h;omega)
  have e:pw q n (q-1)=pw q n (q-2)*Fin.ofNat q n:=by
   rw[show q-1=q-2+1 from by omega,pw_add]
   unfold pw
   rw[Nat.pow_one]
  rw[hq_nat,hq_nat]
  unfold overN
  have e2:Fin.ofNat q ((a%(q:Int)).toNat*pmod (((n:Nat):Int)%(q:Int)).toNat (q-2) q%q)=hq q a*pw q n (q-2):=by
   rw[show ∀x:Nat,Fin.ofNat q (x%q)=Fin.ofNat q x from λx=>ofNat_congr (Nat.mod_mod _ _),ofNat_mul]
   congr 1
   unfold pw pmod
   apply ofNat_congr
   rw[Nat.mod_mod,<-Int.natCast_emod,Int.toNat_natCast,<-Nat.pow_mod]
  rw[e2]
  rw[e] at hf
  grind
 have hun:hq q (u:Int)*hq q n=1:=by
  obtain⟨k,hk⟩:=hu
  rw[<-hq_mul,show(u:Int)*n=1-q*k from by omega,hq_sub,hq_mul,hq_q,hq_one]
  grind
 have h0:=Int.emod_nonneg (a*u) (show(q:Int)≠0 by omega)
 have h1:=Int.emod_lt_of_pos (a*u) (show(0:Int)<q by omega)
 have ho:=overN_lt q (by omega) a n
 refine hq_inj h0 h1 (by omega) (by omega) ?_
 rw[hq_mod,hq_mul]
 refine mul_cancel hp (hq_ne hp n1 hn) ?_
 rw[hov]
 grind
theorem fover_any(q v N:Nat)(a:Int)(n:Nat)(hp:Prm q)(hq:q<=4503599627370496)(a0:-9223372036854775808<=a)(a1:a<=9223372036854775807)(n1:1<=n)(hn:n<q)(w:World):Calls Try.prog 66 #[rgV q v N,.int .i64 a,.int .i64 n] w λz w'=>z=.returned (.int .i64 (overN q a n:Nat))/\Below w.heap.size w w':=by
 have h2:=hp.1
 have HI:=aZ (λw=>Inverse_any n n q (Int.emod_eq_of_lt (by omega) (by omega)) n1 (prm_gcd hp n1 hn) (by omega) hq (by omega) (by omega) w)
 have HM:=aZ (λ(u:Nat) (hu:u<q) w=>fmul_any q v N a u (by omega) hq a0 a1 (by omega) (by omega) w)
 have HO:=aZ (λu h=>over_inv (a:=a) (u:=u) hp n1 hn h)
 have hT:=Tri.new w q v N 60
 obtain⟨W0,hW0⟩:∃W0,W0=w.alloc (.cells #[.int .i64 q,.int .i64 v,.int .i64 N] 60):=⟨_,rfl⟩
 have hb0:Below w.heap.size w W0:=by rw[hW0];exact(Below.refl _ w).alloc (Nat.le_refl _) _
 rw[<-hW0] at hT
 have HT:=aZ hT
 have HB0:=aZ hb0
 obtain⟨t0,t1,t2⟩:=hT
 clear hb0
 go_enter Try.func66,Try.ntmps66
 go_wp2_with fail
 try rw[<-hW0]
 refine(HI.out _).mono ?_
 rintro z w1 ⟨u,hu,hd,rfl,hb1⟩
 have HB1:=aZ (HB0.out.trans (hb1.mono HB0.out.size))
 have hT1:=HT.out.below hb1
 have HMu:=aZ (HM.out u hu)
 have HOu:=aZ (HO.out u hd)
 obtain⟨s0,s1,s2⟩:=hT1
 clear hb1 hd t0 t1 t2 hW0 HO HM
 go_wp2_with fail
 refine(HMu.out _).mono ?_
 rintro z w2 ⟨rfl,hb2⟩
 have HB2:=aZ (HB1.out.trans (hb2.mono HB1.out.size))
 clear hb2
 go_wp2
 go_ret
 exact⟨by rw[HOu.out];rfl,HB2.out⟩
theorem tmod_cases(k n:Int)(n1:1<=n):(k.tmod n<0->k.tmod n+n=k%n)/\(¬k.tmod n<0->k.tmod n=k%n):=by
 have h1:=Int.tmod_add_mul_tdiv k n
 have hb:=Int.lt_tmod_of_pos k (show(0:Int)<n by omega)
 have h3:k.tmod n<n:=Int.tmod_lt_of_pos k (by omega)
 generalize k.tmod n=t at*
 generalize k.tdiv n=d at*
 subst h1
 refine⟨λh=>?_,λh=>?_⟩
 ·rw[show t+n*d=(t+n)+n*(d-1) from by rw[Int.mul_sub];omega,Int.add_mul_emod_self_left]
  exact(Int.emod_eq_of_lt (by omega) (by omega)).symm
 ·rw[Int.add_mul_emod_self_left]
  exact(Int.emod_eq_of_lt (by omega) (by omega)).symm
theorem froot_any(q v N:Nat)(k:Int)(n:Nat)(q1:1<=q)(hq:q<=4503599627370496)(hv:v<=4503599627370496)(N1:1<=N)(hN:N<=4503599627370496)(hk:-4503599627370496<=k)(hk2:k<=4503599627370496)(n1:1<=n)(hn:n<=4503599627370496)(w:World):Calls Try.prog 42 #[rgV q v N,.int .i64 k,.int .i64 n] w λz w'=>z=.returned (.int .i64 (rootR q v N k n:Nat))/\Below w.heap.size w w':=by
 have hn0:¬(n:Int)=0:=by omega
 have hn1:¬(n:Int)<1:=by omega
 have hni:(1:Int)<=n:=by omega
 have hni0:(0:Int)<n:=by omega
 have FIN:Hid (Below w.heap.size w (w.alloc (.cells #[.int .i64 q,.int .i64 v,.int .i64 N] 60))):=aZ ((Below.refl _ w).alloc (Nat.le_refl _) _)
 have hNm:(N:Int).tmod n=((N%n:Nat):Int):=by rw[Int.tmod_eq_emod_of_nonneg (by omega),Int.natCast_emod]
 by_cases hd:N%n=0
 ·have hle:n<=N:=Nat.le_of_dvd N1 (Nat.dvd_of_mod_eq_zero hd)
  have hR:=rootR_pow (q:=q) (v:=v) n1 (Nat.dvd_of_mod_eq_zero hd) N1 k
  rw[hd] at hNm
  have e0:=Int.emod_nonneg k (show(n:Int)≠0 by omega)
  have e1:=Int.emod_lt_of_pos k (show(0:Int)<n by omega)
  obtain⟨r,hr⟩:=Int.eq_ofNat_of_zero_le e0
  rw[hr,Int.toNat_natCast] at hR
  have hdn:N/n*n=N:=Nat.div_mul_cancel (Nat.dvd_of_mod_eq_zero hd)
  have hb:N/n*r<=N:=by
   rw[hr] at e1
   have:=Nat.mul_le_mul_left (N/n) (show r<=n by omega)
   omega
  have hdi:(N:Int)/(n:Int)=((N/n:Nat):Int):=(Int.natCast_ediv _ _).symm
  have hmi:((N/n:Nat):Int)*(r:Int)=((N/n*r:Nat):Int):=(Int.natCast_mul _ _).symm
  obtain⟨D,hD⟩:∃D,N/n=D:=⟨_,rfl⟩
  rw[hD] at hR hb hdi hmi
  obtain⟨E,hE⟩:∃E,D*r=E:=⟨_,rfl⟩
  rw[hE] at hR hb hmi
  have hmi':IntKind.i64.wrap ((D:Int)*(r:Int))=(E:Int):=by rw[hmi];exact wrapI_nat _ (by omega)
  obtain⟨vm,hvm⟩:∃vm:Nat,(v:Int)%(q:Int)=vm:=⟨v%q,by rw[Int.natCast_emod]⟩
  have hP:=λw=>Pow52_any v vm E q hvm q1 hq (by omega) (by omega) (by omega) w
  have hvp:pmod vm E q=v^E%q:=by
   have:vm=v%q:=by have:(vm:Int)=((v%q:Nat):Int):=by rw[<-hvm,Int.natCast_emod]
                   omega
   rw[this]
   unfold pmod
   rw[<-Nat.pow_mod]
  rw[hvp,<-hR] at hP
  have HP:=aZ hP
  have HE:=aZ e1
  have hrb:r<=4503599627370496:=by rw[hr] at e1;omega
  have HDI:=aZ hdi
  have HDW:Hid (IntKind.i64.wrap (D:Int)=D):=aZ (wrapI_nat _ (by rw[<-hD];have:=Nat.div_le_self N n;omega))
  have HMI:=aZ hmi'
  clear hdi hmi'
  clear hP hR hdn hvm hvp hmi hE hD hd
  generalize rootR q v N k n=R at*
  obtain⟨W0,hW0⟩:∃W0,W0=w.alloc (.cells #[.int .i64 q,.int .i64 v,.int .i64 N] 60):=⟨_,rfl⟩
  have hT:=Tri.new w q v N 60
  rw[<-hW0] at hT FIN
  obtain⟨t0,t1,t2⟩:=hT
  go_enter Try.func42,Try.ntmps42
  go_upto_region 3 with(fail)
  rw[<-hW0]
  clear hW0
  by_cases htn:(k.tmod n:Int)<0
  ·have htb:=Int.lt_tmod_of_pos k hni0
   have htr:k.tmod n+n=(r:Int):=((tmod_cases k n hni).1 htn).trans hr
   obtain⟨t,ht⟩:∃t,k.tmod n=t:=⟨_,rfl⟩
   rw[ht] at htn htr htb
   clear hr e0 e1 hNm
   go_upto_region 6 with(fail)
   clear htn htr htb ht hrb hle hk hk2
   have hn00:¬n=0:=by omega
   have hDw:=HDW.out
   have hdi:=HDI.out
   have hmi':=HMI.out
   refine wp_region_T (λw'=>w'.cell? ⟨w.heap.size,0,none⟩=some (.int .i64 q)/\w'.cell? ⟨w.heap.size,1,none⟩=some (.int .i64 v)/\w'.cell? ⟨w.heap.size,2,none⟩=some (.int .i64 N)) 10 ⟨t0,t1,t2⟩ (λhS0=>?_)
   refine Takes.intro [0,1,2,3,4,5,6,7,8,9] ?_
   repeat(refine Takes.go (v:=?_) hS0 ?_;try simp only[nrm,Act.put])
   refine Takes.nil ?_
   refine wpAnyS_fin 2 10 ?_
   simp only[nrd]
   clear hdi hmi' t0 t1 t2
   go_wp2_with fail
   refine(HP.out _).mono ?_
   rintro z w2 ⟨rfl,m,rfl⟩
   go_wp2
   go_ret
   exact⟨rfl,below_drewN FIN.out (1+m)⟩
  ·have htr:k.tmod n=(r:Int):=((tmod_cases k n hni).2 htn).trans hr
   have htn2:¬(r:Int)<0:=Int.not_lt.2 (Int.natCast_nonneg r)
   clear hr e0 e1 hNm htn
   go_upto_region 6 with(fail)
   clear htn2 htr hrb hle hk hk2
   have hn00:¬n=0:=by omega
   have hDw:=HDW.out
   have hdi:=HDI.out
   have hmi':=HMI.out
   refine wp_region_T (λw'=>w'.cell? ⟨w.heap.size,0,none⟩=some (.int .i64 q)/\w'.cell? ⟨w.heap.size,1,none⟩=some (.int .i64 v)/\w'.cell? ⟨w.heap.size,2,none⟩=some (.int .i64 N)) 10 ⟨t0,t1,t2⟩ (λhS0=>?_)
   refine Takes.intro [0,1,2,3,4,5,6,7,8,9] ?_
   repeat(refine Takes.go (v:=?_) hS0 ?_;try simp only[nrm,Act.put])
   refine Takes.nil ?_
   refine wpAnyS_fin 2 10 ?_
   simp only[nrd]
   clear hdi hmi' t0 t1 t2
   go_wp2_with fail
   refine(HP.out _).mono ?_
   rintro z w2 ⟨rfl,m,rfl⟩
   go_wp2
   go_ret
   exact⟨rfl,below_drewN FIN.out (1+m)⟩
 ·have hR:rootR q v N k n=0:=by
    unfold rootR
    split
    ·rfl
    ·rw[if_pos (by rw[<-Int.natCast_emod];omega)]
  rw[hR]
  have hne:((N%n:Nat):Int)≠0:=by omega
  obtain⟨M,hM⟩:∃M,N%n=M:=⟨_,rfl⟩
  rw[hM] at hne hNm
  have hMb:((M:Int) != 0)=true:=by rw[bne_iff_ne];exact hne
  clear hM hd hR
  go_enter Try.func42,Try.ntmps42
  go_wp2
  go_ret
  exact⟨rfl,FIN.out⟩
theorem fnil_Zero(q v N:Nat)(w:World):(nilAhead 292 60 (rgV q v N) "Zero").run Try.prog w=.ok (some false) w:=by kernel_rfl
theorem fmet_Zero(q v N:Nat)(w:World):(method 292 60 (rgV q v N) "Zero").run Try.prog w=.ok (155,rgV q v N) w:=by kernel_rfl
theorem fent_Zero(args:Array Value)(w:World):(callFunc 155 args).run Try.prog w=.ok (.enter 155 args) w:=enters_of Try.func155 (by kernel_rfl) rfl args w
theorem fnil_Add(q v N:Nat)(w:World):(nilAhead 292 60 (rgV q v N) "Add").run Try.prog w=.ok (some false) w:=by kernel_rfl
theorem fmet_Add(q v N:Nat)(w:World):(method 292 60 (rgV q v N) "Add").run Try.prog w=.ok (153,rgV q v N) w:=by kernel_rfl
theorem fent_Add(args:Array Value)(w:World):(callFunc 153 args).run Try.prog w=.ok (.enter 153 args) w:=enters_of Try.func153 (by kernel_rfl) rfl args w
theorem fnil_Sub(q v N:Nat)(w:World):(nilAhead 292 60 (rgV q v N) "Sub").run Try.prog w=.ok (some false) w:=by kernel_rfl
theorem fmet_Sub(q v N:Nat)(w:World):(method 292 60 (rgV q v N) "Sub").run Try.prog w=.ok (154,rgV q v N) w:=by kernel_rfl
theorem fent_Sub(args:Array Value)(w:World):(callFunc 154 args).run Try.prog w=.ok (.enter 154 args) w:=enters_of Try.func154 (by kernel_rfl) rfl args w
theorem fnil_Mul(q v N:Nat)(w:World):(nilAhead 292 60 (rgV q v N) "Mul").run Try.prog w=.ok (some false) w:=by kernel_rfl
theorem fmet_Mul(q v N:Nat)(w:World):(method 292 60 (rgV q v N) "Mul").run Try.prog w=.ok (41,rgV q v N) w:=by kernel_rfl
theorem fent_Mul(args:Array Value)(w:World):(callFunc 41 args).run Try.prog w=.ok (.enter 41 args) w:=enters_of Try.func41 (by kernel_rfl) rfl args w
theorem fnil_Over(q v N:Nat)(w:World):(nilAhead 292 60 (rgV q v N) "Over").run Try.prog w=.ok (some false) w:=by kernel_rfl
theorem fmet_Over(q v N:Nat)(w:World):(method 292 60 (rgV q v N) "Over").run Try.prog w=.ok (66,rgV q v N) w:=by kernel_rfl
theorem fent_Over(args:Array Value)(w:World):(callFunc 66 args).run Try.prog w=.ok (.enter 66 args) w:=enters_of Try.func66 (by kernel_rfl) rfl args w
theorem fnil_Root(q v N:Nat)(w:World):(nilAhead 292 60 (rgV q v N) "Root").run Try.prog w=.ok (some false) w:=by kernel_rfl
theorem fmet_Root(q v N:Nat)(w:World):(method 292 60 (rgV q v N) "Root").run Try.prog w=.ok (42,rgV q v N) w:=by kernel_rfl
theorem fent_Root(args:Array Value)(w:World):(callFunc 42 args).run Try.prog w=.ok (.enter 42 args) w:=enters_of Try.func42 (by kernel_rfl) rfl args w
def fieldV(q v N:Nat):RingV:=⟨60,rgV q v N,155,153,154,41,66,42,lawRg q v N,λa=>0<=a/\a<q⟩
theorem field_ok(q v N:Nat)(hp:Prm q)(hn:65536<q)(hq:q<=4503599627370496)(hv:v<=4503599627370496)(N1:1<=N)(hN:N<=4503599627370496):(fieldV q v N).Ok Mem.plain where
 mem:=Mem.plain_ok
 nz:=fnil_Zero q v N
 mz:=fmet_Zero q v N
 cz:=fent_Zero
 na:=fnil_Add q v N
 ma:=fmet_Add q v N
 ca:=fent_Add
 ns:=fnil_Sub q v N
 ms:=fmet_Sub q v N
 cs:=fent_Sub
 nm:=fnil_Mul q v N
 mm:=fmet_Mul q v N
 cm:=fent_Mul
 no:=fnil_Over q v N
 mo:=fmet_Over q v N
 co:=fent_Over
 nr:=fnil_Root q v N
 mr:=fmet_Root q v N
 cr:=fent_Root
 zero w _:=(fzero_any q v N w).mono λz w' h=>⟨h.1,trivial,h.2⟩
 add a b w ha hb _:=(fadd_any q v N a b (by omega) hq ha.1 ha.2 hb.1 hb.2 w).mono λz w' h=>⟨h.1,trivial,h.2⟩
 sub a b w ha hb _:=(fsub_any q v N a b (by omega) hq ha.1 ha.2 hb.1 hb.2 w).mono λz w' h=>⟨h.1,trivial,h.2⟩
 mul a b w ha hb _:=(fmul_any q v N a b (by omega) hq (by have:=ha.1;omega) (by have:=ha.2;omega) (by have:=hb.1;omega) (by have:=hb.2;omega) w).mono λz w' h=>⟨h.1,trivial,h.2⟩
 over a n w ha n1 n2 _:=(fover_any q v N a n hp hq (by have:=ha.1;omega) (by have:=ha.2;omega) n1 (by omega) w).mono λz w' h=>⟨h.1,trivial,h.2⟩
 root k n w k1 k2 n1 n2 _:=(froot_any q v N k n (by omega) hq hv N1 hN (by omega) (by omega) n1 (by omega) w).mono λz w' h=>⟨h.1,trivial,h.2⟩
 z0:=rfl
 iz:=⟨Int.le_refl _,by show(0:Int)<q;omega⟩
 ia a b _ _:=⟨Int.emod_nonneg _ (by omega),Int.emod_lt_of_pos _ (by omega)⟩
 is a b _ _:=⟨Int.emod_nonneg _ (by omega),Int.emod_lt_of_pos _ (by omega)⟩
 im a b _ _:=⟨Int.emod_nonneg _ (by omega),Int.emod_lt_of_pos _ (by omega)⟩
 io a n _ _ _:=⟨Int.natCast_nonneg _,by have:=overN_lt q (by omega) a n;show((overN q a n:Nat):Int)<q;omega⟩
 ir k n _ _:=⟨Int.natCast_nonneg _,by have:=rootR_lt q v N (by omega) k n;show((rootR q v N k n:Nat):Int)<q;omega⟩
theorem PGcd_any(a b:Nat)(ha:a<=4611686018427387904)(hb:b<=4611686018427387904)(w:World):
  Calls Try.prog 117 #[.int .i64 a,.int .i64 b] w λz w'=>z=.returned (.int .i64 (Nat.gcd a b:Nat))/\Qt w w':=by
 obtain⟨G,hG⟩:∃G,Nat.gcd a b=G:=⟨_,rfl⟩
 have HG:=aZ hG
 rw[hG]
 have ha0:¬(a:Int)<0:=by omega
 have hb0:¬(b:Int)<0:=by omega
 clear hG
 go_enter Try.func117,Try.ntmps117
 go_wp2
 go_loopw [0,1] (λva vb wr=>∃x y:Nat,va=.int .i64 x/\vb=.int .i64 y/\x<=4611686018427387904/\y<=4611686018427387904/\Hid (Nat.gcd x y=G)/\Hid (Qt w wr)) (λ_ vb _=>(intOf vb).toNat)
 case atStart=>exact⟨a,b,rfl,rfl,ha,hb,HG,aZ (Qt.refl _)⟩
 case round=>
  clear HG
  obtain⟨x,y,rfl,rfl,hx,hy,hg,hq⟩:=hrel
  by_cases hy0:y=0
  ·subst hy0
   have HE:Hid (x=G):=aZ (by rw[<-hg.out,Nat.gcd_zero_right])
   clear hg
   go_wp2
   go_ret
   exact⟨by rw[<-HE.out];simp,hq.out⟩
  ·have hyb:((y:Int) != 0)=true:=by rw[bne_iff_ne];omega
   have ht:(x:Int).tmod y=((x%y:Nat):Int):=by rw[Int.tmod_eq_emod_of_nonneg (by omega)];omega
   have hm:x%y<y:=Nat.mod_lt _ (by omega)
   have HN:Hid (Nat.gcd y (x%y)=G):=aZ (by rw[<-hg.out,Nat.gcd_comm y (x%y),<-Nat.gcd_rec,Nat.gcd_comm])
   obtain⟨m,hme⟩:∃m,x%y=m:=⟨_,rfl⟩
   rw[hme] at ht hm HN
   have hx1:¬(y:Int)=0:=by omega
   have hx2:((y:Int)==0)=false:=by rw[beq_eq_false_iff_ne];omega
   clear hg hme
   go_wp2_with fail
   go_region
   go_wp2
   exact⟨⟨y,m,rfl,rfl,hy,by omega,HN,aZ (hq.out.trans ⟨1,rfl⟩)⟩,by simp[intOf];omega⟩
theorem lcm_two{a b g:Nat}(hg:Nat.gcd a b=g)(b1:1<=b):a/g*b=a*(b/g):=by
 have h1:g∣a:=hg▸Nat.gcd_dvd_left a b
 have h2:g∣b:=hg▸Nat.gcd_dvd_right a b
 have hg1:0<g:=Nat.pos_of_dvd_of_pos h2 b1
 obtain⟨c,rfl⟩:=h1
 obtain⟨d,rfl⟩:=h2
 rw[Nat.mul_div_cancel_left _ hg1,Nat.mul_div_cancel_left _ hg1]
 grind
theorem PLcm_any(a b most:Nat)(a1:1<=a)(b1:1<=b)(m1:1<=most)(ha:a<=1099511627776)(hb:b<=1099511627776)(hm:most<=1099511627776)(w:World):
  Calls Try.prog 93 #[.int .i64 a,.int .i64 b,.int .i64 most] w λz w'=>z=.returned (.tuple #[.int .i64 ((lcmF a b most).1:Nat),.bool (lcmF a b most).2])/\Qt w w':=by
 have hg1:1<=Nat.gcd a b:=Nat.gcd_pos_of_pos_right _ (by omega)
 have hg2:Nat.gcd a b<=b:=Nat.gcd_le_right _ (by omega)
 have HG:=aZ (λw=>PGcd_any a b (by omega) (by omega) w)
 unfold lcmF
 obtain⟨g,hg⟩:∃g,Nat.gcd a b=g:=⟨_,rfl⟩
 have hl2:=lcm_two hg b1
 rw[hg] at hg1 hg2 HG|-
 have hdl:a/g<=a:=Nat.div_le_self _ _
 have hdv:(a:Int).tdiv g=((a/g:Nat):Int):=by rw[Int.tdiv_eq_ediv_of_nonneg (by omega)];omega
 have hdk:1<=b/g:=Nat.div_pos hg2 hg1
 have hcond:most/(b/g)<a↔most/b<a/g:=by
  rw[Nat.div_lt_iff_lt_mul hdk,Nat.div_lt_iff_lt_mul (by omega),hl2]
 rw[<-hl2]
 have hmx:(most:Int).tdiv b=((most/b:Nat):Int):=by rw[Int.tdiv_eq_ediv_of_nonneg (by omega),Int.natCast_ediv]
 have hmd:most/b<=most:=Nat.div_le_self _ _
 have HMU:=aZ (Nat.le_div_iff_mul_le (k:=b) (x:=a/g) (y:=most) (by omega))
 obtain⟨d,hd⟩:∃d,a/g=d:=⟨_,rfl⟩
 rw[hd] at hdl hdv hcond HMU|-
 obtain⟨Q,hQ⟩:∃Q,most/b=Q:=⟨_,rfl⟩
 rw[hQ] at hmx hmd HMU hcond
 have hg0:¬(g:Int)=0:=by omega
 have hg3:((g:Int)==0)=false:=by rw[beq_eq_false_iff_ne];omega
 have hb0':¬(b:Int)=0:=by omega
 have hd3:((b:Int)==0)=false:=by rw[beq_eq_false_iff_ne];omega
 have ha0:¬(a:Int)<1:=by omega
 have hb0:¬(b:Int)<1:=by omega
 clear hg hd hQ hl2
 by_cases hQa:Q<d
 ·rw[if_pos (hcond.2 hQa)]
  have hQi:(Q:Int)<(d:Int):=by omega
  clear hcond
  go_enter Try.func93,Try.ntmps93
  go_wp2_with fail
  refine(HG.out _).mono ?_
  rintro z w' ⟨rfl,hq⟩
  have HQ:=aZ hq
  clear hq
  go_wp2
  go_ret2
  exact⟨rfl,HQ.out⟩
 ·rw[if_neg (λh=>hQa (hcond.1 h))]
  have hQi:¬(Q:Int)<(d:Int):=by omega
  have hpr:d*b<=most:=HMU.out.1 (by omega)
  have hpi:(d:Int)*(b:Int)=((d*b:Nat):Int):=(Int.natCast_mul d b).symm
  obtain⟨P,hP⟩:∃P,d*b=P:=⟨_,rfl⟩
  rw[hP] at hpr hpi|-
  clear hP hcond
  go_enter Try.func93,Try.ntmps93
  go_wp2_with fail
  refine(HG.out _).mono ?_
  rintro z w' ⟨rfl,hq⟩
  have HQ:=aZ hq
  clear hq
  go_wp2
  go_ret2
  exact⟨rfl,HQ.out⟩
theorem Roots_any(kind n r:Int)(A:Option Addr)(l c:Nat)(w:World)(hv:Vld (kind,n,r)):
  Calls Try.prog 92 #[plV kind n r A l c] w λz w'=>∃g,z=.returned (.slice (some ⟨g,0,none⟩) 1 1)/\w'.cell? ⟨g,0,none⟩=some (.int .i64 (rootN kind n:Nat))/\Below w.heap.size w w':=by
 obtain⟨h1,h2,h3,h4⟩:=hv
 dsimp only at h1 h2 h3 h4
 obtain⟨m,rfl⟩:∃m:Nat,n=m:=⟨n.toNat,by omega⟩
 have FIN:Hid (∀t v u,Below w.heap.size w ((w.alloc (.cells #[.int .i64 kind,.int .i64 m,.int .i64 r,.slice A l c] t)).alloc (.cells #[v] u))):=aZ (λt v u=>((Below.refl _ w).alloc (Nat.le_refl _) _).alloc (by simp) _)
 have bs:=bs_int64
 have k1:¬kind<0:=by omega
 have k2:¬4<kind:=by omega
 have k3:¬(m:Int)<1:=by omega
 have k5:¬32768<(m:Int):=by omega
 by_cases k4:kind=4
 ·subst k4
  have e:((rootN 4 m:Nat):Int)=2*(m:Int):=by unfold rootN;rw[if_pos rfl];show((2*m:Nat):Int)=_;omega
  rw[e]
  clear e
  go_enter Try.func92,Try.ntmps92
  go_wp2
  go_ret
  exact⟨_,rfl,by go_simp,FIN.out _ _ _⟩
 ·have e:((rootN kind m:Nat):Int)=(m:Int):=by unfold rootN;rw[if_neg k4];rfl
  rw[e]
  have k4i:(kind==4)=false:=by simpa using k4
  clear e
  go_enter Try.func92,Try.ntmps92
  go_wp2
  go_ret
  exact⟨_,rfl,by go_simp,FIN.out _ _ _⟩
end Go.Proofs.Yteaimnemobnknaa
namespace Go.Proofs.Yteaimnemobnknaa
open Go.RowKit Go.Shelf Go.Lib
attribute [local go_sem] Oper.semAt_some
def oroS(x:Int×Int×Int)(a:Nat):Option Nat:=if 1099511627776/(rootN x.1 x.2.1/Nat.gcd a (rootN x.1 x.2.1))<a then none else some (a*(rootN x.1 x.2.1/Nat.gcd a (rootN x.1 x.2.1)))
theorem oroL_app:∀(l:List (Int×Int×Int)) (m:List (Int×Int×Int)) (a:Nat),oroL (l++m) a=(oroL l a).bind (oroL m)
 |[],m,a=>rfl
 |(k,n,r)::t,m,a=>by
   rw[List.cons_append,oroL,oroL]
   split
   ·rfl
   ·exact oroL_app t m _
theorem oroL_one(x:Int×Int×Int)(a:Nat):oroL [x] a=oroS x a:=by
 obtain⟨k,n,r⟩:=x
 rw[oroL]
 unfold oroS
 split<;>rfl
theorem lcmF_oro(x:Int×Int×Int)(a:Nat):oroS x a=if(lcmF a (rootN x.1 x.2.1) 1099511627776).2=true then some (lcmF a (rootN x.1 x.2.1) 1099511627776).1 else none:=by
 unfold oroS lcmF
 split<;>rfl
theorem Below.others{w w':World}(h:Below w.heap.size w w'):KeepsOthers w w':=⟨h.size,λk o hk _=>(h.block k (Array.getElem?_eq_some_iff.1 hk).1).trans hk⟩
instance (x:Int×Int×Int):Decidable (Vld x):=by unfold Vld;infer_instance
def oroT(x:Int×Int×Int)(a:Nat):Option Nat:=if Vld x then oroS x a else some a
def oroM:List (Int×Int×Int)->Nat->Option Nat
 |[],a=>some a
 |x::t,a=>(oroT x a).bind (oroM t)
theorem oroM_app:∀(l m:List (Int×Int×Int)) (a:Nat),oroM (l++m) a=(oroM l a).bind (oroM m)
 |[],m,a=>rfl
 |x::t,m,a=>by
   rw[List.cons_append,oroM,oroM]
   cases oroT x a with
   |none=>rfl
   |some b=>exact oroM_app t m b
theorem oroM_one(x:Int×Int×Int)(a:Nat):oroM [x] a=oroT x a:=by
 rw[oroM]
 cases oroT x a<;>rfl
theorem oroM_eq:∀(l:List (Int×Int×Int)) (a:Nat),(∀x∈l,Vld x)->oroM l a=oroL l a
 |[],a,_=>rfl
 |(k,n,r)::t,a,h=>by
   rw[oroM,oroL]
   unfold oroT
   rw[if_pos (h _ (List.mem_cons_self ..))]
   unfold oroS
   split
   ·rfl
   ·exact oroM_eq t _ (λy hy=>h y (List.mem_cons_of_mem _ hy))
theorem oroM_none{l m:List (Int×Int×Int)}(h:l <+: m){a:Nat}(e:oroM l a=none):oroM m a=none:=by
 obtain⟨t,rfl⟩:=h
 rw[oroM_app,e]
 rfl
theorem Roots_no(kind n r:Int)(A:Option Addr)(l c:Nat)(w:World)(hv:¬Vld (kind,n,r)):
  Calls Try.prog 92 #[plV kind n r A l c] w λz w'=>z=.returned (.slice none 0 0)/\Below w.heap.size w w':=by
 have FIN:Hid (∀t,Below w.heap.size w (w.alloc (.cells #[.int .i64 kind,.int .i64 n,.int .i64 r,.slice A l c] t))):=aZ (λt=>((Below.refl _ w).alloc (Nat.le_refl _) _))
 by_cases k1:kind<0
 ·go_enter Try.func92,Try.ntmps92
  go_wp2
  go_ret
  exact⟨rfl,FIN.out _⟩
 by_cases k2:4<kind
 ·go_enter Try.func92,Try.ntmps92
  go_wp2
  go_ret
  exact⟨rfl,FIN.out _⟩
 by_cases k3:n<1
 ·go_enter Try.func92,Try.ntmps92
  go_wp2
  go_ret
  exact⟨rfl,FIN.out _⟩
 by_cases k4:32768<n
 ·go_enter Try.func92,Try.ntmps92
  go_wp2
  go_ret
  exact⟨rfl,FIN.out _⟩
 exact absurd (show Vld (kind,n,r) from⟨by show 0<=kind;omega,by show kind<=4;omega,by show 1<=n;omega,by show n<=32768;omega⟩) hv
theorem IntBox.kept{w w':World}{row:Option Nat}{b:Nat}{v:Int}(h:IntBox w b v)(hg:w.grownBy w' row)(hr:∀r,row=some r->∃o:Obj,w.heap[r]?=some o/\o.isCells=false):IntBox w' b v:=
 ⟨cell_kept h.1 hg hr,(frozen_kept h.1 hg hr).trans h.2⟩
theorem IntBox.below'{w w':World}{b:Nat}{v:Int}(h:IntBox w b v)(hb:Below w.heap.size w w'):IntBox w' b v:=⟨keep_cell hb h.1,keep_free hb h.lt h.2⟩
theorem IntBox.other{w:World}{b b':Nat}{v:Int}(h:IntBox w b v)(hne:b'≠b)(u:Value):IntBox (w.setCell ⟨b',0,none⟩ u) b v:=by
 refine⟨?_,?_⟩
 ·rw[World.cell?_setCell_other]
  ·exact h.1
  ·intro e;exact hne (congrArg Addr.block e)
 ·rw[World.frozen?_setCell];exact h.2
theorem Order_ok(kind n r:Int)(A:Option Addr)(q:Fo)(c:Nat)(hN:q.count<=549755813888)(he:checkE kind n r q n=0)(w:World)(hk:Kids w A 0 q):
  CallsIn Fence.wide 6 Try.prog 57 #[plV kind n r A q.len c] w λe W'=>e=.returned (.tuple #[.int .i64 ((ordV (oroL ((kind,n,r)::q.flat) 1)).1:Nat),.int .i64 (ordV (oroL ((kind,n,r)::q.flat) 1)).2])/\Below w.heap.size w W':=by
 have hd:Fence.wide.depth=none:=rfl
 have hro:Fence.wide.round=none:=rfl
 have HK:=aZ hk
 have HN:=aZ hN
 obtain⟨hv,hc64,-⟩:=check_valid he
 have HV:=aZ hv
 have HCK:Hid (∀w,Kids w A 0 q->Calls Try.prog 47 #[plV kind n r A q.len c,.int .i64 n] w λz w'=>(∃a:Int,z=.returned (.tuple #[.int .i64 a,.int .i64 0]))/\Below w.heap.size w w'):=aZ (λw h=>by
  have:=Check_any kind n r q n hN w A c h
  rw[he] at this
  exact this)
 clear hk hN hv he hc64
 refine callsIn_of_wp_marks Try.func57 rfl trivial ?_ hro
 simp only[Try.ntmps57,List.size_toArray,List.length_cons,List.length_nil,Nat.reduceAdd,Nat.reduceSub,Array.replicate_succ,Array.replicate_zero,List.push_toArray,List.append_toArray,List.nil_append,List.cons_append]
 gi_wp2_with fail
 obtain⟨W0,hW0⟩:∃W0,W0=((w.alloc (.cells #[.int .i64 kind,.int .i64 n,.int .i64 r,.slice A q.len c] 26)).alloc (.cells #[.int .i64 0] 2)).alloc (.cells #[.int .i64 0] 39):=⟨_,rfl⟩
 rw[<-hW0]
 have hb0:Below w.heap.size w W0:=by rw[hW0];exact(((Below.refl _ w).alloc (Nat.le_refl _) _).alloc (by simp) _).alloc (by simp;omega) _
 have hs0:W0.heap.size=w.heap.size+3:=by rw[hW0];simp
 have hp0:PlBox W0 w.heap.size kind n r A q.len c:=by
  rw[hW0]
  exact(PlBox.new w kind n r A q.len c 26).below (((Below.refl _ _).alloc (Nat.le_refl _) _).alloc (by simp) _)
 have hr0:IntBox W0 (w.heap.size+1) 0/\IntBox W0 (w.heap.size+2) 0:=by rw[hW0];exact⟨⟨by go_simp,by go_simp⟩,⟨by go_simp,by go_simp⟩⟩
 have HB0:=aZ hb0
 have HS0:=aZ hs0
 have HP0:=aZ hp0
 have HR0:=aZ hr0
 clear hb0 hp0 hr0 hs0 hW0
 refine⟨trivial,(callsIn_wide.2 (HCK.out W0 (HK.out.below HB0.out))).mono ?_⟩
 rintro e w1 ⟨⟨a,rfl⟩,hb1⟩
 have HB1:=aZ (HB0.out.trans (hb1.mono HB0.out.size))
 have HS1:Hid (w.heap.size+3<=w1.heap.size):=aZ (by have:=hb1.size;have:=HS0.out;omega)
 have hp1:=HP0.out.below hb1
 have HP1:=aZ hp1
 have HR1:Hid (IntBox w1 (w.heap.size+1) 0/\IntBox w1 (w.heap.size+2) 0):=aZ ⟨⟨keep_cell hb1 HR0.out.1.1,keep_free hb1 (by have:=HS0.out;omega) HR0.out.1.2⟩,⟨keep_cell hb1 HR0.out.2.1,keep_free hb1 (by have:=HS0.out;omega) HR0.out.2.2⟩⟩
 obtain⟨p0,p1,p2,p3⟩:=hp1
 have hlt1:w.heap.size<w1.heap.size:=by have:=HS1.out;omega
 have hne1:¬w.heap.size=w1.heap.size:=by omega
 clear hb1 HB0 HS0 HP0 HR0 HCK
 gi_wp2_with fail
 refine⟨trivial,(Each_in Fence.wide _ trivial hro _ _ _ _ _ _ _).mono ?_⟩
 rintro e w' ⟨rfl,rfl⟩
 obtain⟨WL,hWL⟩:∃WL,WL=(w1.alloc (.cells #[.int .i64 1] 2)).alloc (.cells #[.int .i64 kind,.int .i64 n,.int .i64 r,.slice A q.len c] 26):=⟨_,rfl⟩
 rw[<-hWL]
 gi_wp2_with fail
 rw[<-hWL]
 have hSL:WL.heap.size=w1.heap.size+2:=by rw[hWL];simp
 have hBL:Below w.heap.size w WL:=by rw[hWL];exact(HB1.out.alloc (by have:=HS1.out;omega) _).alloc (by have:=HS1.out;simp;omega) _
 have hb1L:Below w1.heap.size w1 WL:=by rw[hWL];exact((Below.refl _ _).alloc (Nat.le_refl _) _).alloc (by simp) _
 have hPL:PlBox WL (w1.heap.size+1) kind n r A q.len c:=by
  rw[hWL]
  have:=PlBox.new (w1.alloc (.cells #[.int .i64 1] 2)) kind n r A q.len c 26
  simp only[World.size_alloc] at this
  exact this
 have hAL:IntBox WL w1.heap.size ((1:Nat):Int):=by rw[hWL];exact⟨by go_simp,by go_simp⟩
 have hR1L:=HR1.out.1.below' hb1L
 have hR2L:=HR1.out.2.below' hb1L
 obtain⟨bA,hbA⟩:∃bA,w1.heap.size=bA:=⟨_,rfl⟩
 have hb3:=HS1.out
 rw[hbA] at hSL hPL hAL hb3
 clear hWL hb1L p0 p1 p2 p3 HP1 HR1 HB1 hlt1 hne1 HS1
 try rw[hbA]
 clear hbA
 refine wpIn_rangeFunc_ownH hro (by omega) (gf:=115) (lb:=#[.pointer (some ⟨bA+1,0,none⟩)]) rfl trivial (enters_of Try.func115 (by kernel_rfl) rfl)
  (each_stops Fence.wide hd 5 trivial trivial hro (bA+1) WL.heap.size w (by omega) kind n r A q c HN.out WL hPL HK.out hBL (Nat.le_refl _))
  Kq.trans (λW l o o' hl h hc _=>Kq.put W l o o' (by omega) hl h hc) (Below.refl _ _) (λ_=>rfl)
  (λpre W=>(∃a:Nat,oroM (pre.map PN.tri) 1=some a/\1<=a/\a<=1099511627776/\IntBox W bA a/\IntBox W (w.heap.size+1) 0/\IntBox W (w.heap.size+2) 0)/\Below w.heap.size w W)
  (λc' pre W=>(c'=.ret/\oroM (pre.map PN.tri) 1=none/\IntBox W (w.heap.size+1) 0/\IntBox W (w.heap.size+2) 28)/\Below w.heap.size w W)
  (OwnFrom.and (Own.from (λs A B row hs hg hr=>by obtain⟨a,h1,h2,h3,h4,h5,h6⟩:=hs;exact⟨a,h1,h2,h3,h4.kept hg hr,h5.kept hg hr,h6.kept hg hr⟩) _) (ownFrom_below (Nat.le_refl _) (by omega)))
  (λc'=>OwnFrom.and (Own.from (λs A B row hs hg hr=>⟨hs.1,hs.2.1,hs.2.2.1.kept hg hr,hs.2.2.2.kept hg hr⟩) _) (ownFrom_below (Nat.le_refl _) (by omega)))
  ⟨⟨1,rfl,by omega,by omega,hAL,hR1L,hR2L⟩,hBL⟩
  (λx a' W=>∃g:Nat,a'={tmps:=#[plV kind n r A q.len c,.pointer (some ⟨w.heap.size,0,none⟩),.pointer (some ⟨w.heap.size+1,0,none⟩),.pointer (some ⟨w.heap.size+1+1,0,none⟩),.int .i64 a,.int .i64 0,.pointer (some ⟨bA,0,none⟩),undef,.pointer (some ⟨g,0,none⟩),undef,undef,undef,.tuple #[.int .i64 a,.int .i64 0],.agg #[.int .i64 kind,.int .i64 n,.int .i64 r,.slice A q.len c],.pointer (some ⟨w.heap.size,1,none⟩),.int .i64 n,.tuple #[.int .i64 a,.int .i64 0],.int .i64 a,.int .i64 0,.int .i64 0,.bool false,undef,.agg #[.int .i64 kind,.int .i64 n,.int .i64 r,.slice A q.len c],.func (.func 115) #[] #[.pointer (some ⟨bA+1,0,none⟩)],.int .i64 x.deep,plV x.kind x.n x.r x.A x.l x.c,undef,undef,undef,undef,undef,undef,undef,undef,undef,undef,undef,undef,undef,undef,undef,undef,undef],defers:=[]}/\PlBox W g x.kind x.n x.r x.A x.l x.c)
  (λx a'=>Own.from (λs A B row hs hg hr=>by obtain⟨g,h0,h1,h2,h3,h4⟩:=hs;exact⟨g,h0,cell_kept h1 hg hr,cell_kept h2 hg hr,cell_kept h3 hg hr,cell_kept h4 hg hr⟩) _)
  ?assign ?body ?done ?stop
 case assign=>
  rintro l pre x W K ⟨⟨a,h1,h2,h3,h4,h5,h6⟩,hBW⟩ hK
  simp only[pnV]
  have hal:Below W.heap.size W (W.alloc (.cells #[.int .i64 x.kind,.int .i64 x.n,.int .i64 x.r,.slice x.A x.l x.c] 26)):=(Below.refl _ W).alloc (Nat.le_refl _) _
  have hKK:=hK _ (W.alloc (.cells #[.int .i64 x.kind,.int .i64 x.n,.int .i64 x.r,.slice x.A x.l x.c] 26)) ((KeepsOthers.alloc _ _).from _) (Kq.of_below hal hBW.size) ⟨⟨a,h1,h2,h3,h4.below' hal,h5.below' hal,h6.below' hal⟩,hBW.trans (hal.mono hBW.size)⟩ ⟨W.heap.size,rfl,PlBox.new W _ _ _ _ _ _ _⟩
  have HKK:=aZ hKK
  clear hKK hK hal
  gi_wp2
  exact HKK.out
 case body=>
  rintro l pre x a' W hl-⟨⟨a0,ho,a1,a2,hA,hR1,hR2⟩,hBW⟩ ⟨g,rfl,hp⟩ hlen
  have htri:(pre++[x]).map PN.tri=pre.map PN.tri++[x.tri]:=by rw[List.map_append];rfl
  have hom:oroM ((pre++[x]).map PN.tri) 1=oroT x.tri a0:=by rw[htri,oroM_app,ho];exact oroM_one _ _
  have HOM:=aZ hom
  have hsW:=hBW.size
  have hn1:w.heap.size+3<=W.heap.size:=by have:=hA.lt;omega
  obtain⟨p0,p1,p2,p3⟩:=hp
  have HBW:=aZ hBW
  have HA:=aZ hA
  have HR1:=aZ hR1
  have HR2:=aZ hR2
  clear hBW hA hR1 hR2 ho htri hom hlen HK HN HV hBL hR1L hR2L hAL hPL
  by_cases hv:Vld x.tri
  ·have hot:oroT x.tri a0=oroS x.tri a0:=by unfold oroT;rw[if_pos hv]
   rw[hot,lcmF_oro] at HOM
   have hrn:1<=rootN x.kind x.n/\rootN x.kind x.n<=65536:=by
    obtain⟨v1,v2,v3,v4⟩:=hv
    change 1<=x.n at v3
    change x.n<=32768 at v4
    unfold rootN
    split<;>omega
   have HRO:=aZ (Roots_any x.kind x.n x.r x.A x.l x.c W hv)
   have HLC:=aZ (λw=>PLcm_any a0 (rootN x.kind x.n) 1099511627776 a1 hrn.1 (by omega) a2 (by omega) (by omega) w)
   have HLE:=aZ (λh=>lcmF_le (m:=1099511627776) a1 hrn.1 h)
   change Hid (_=if(lcmF a0 (rootN x.kind x.n) 1099511627776).2=true then some (lcmF a0 (rootN x.kind x.n) 1099511627776).1 else none) at HOM
   obtain⟨L,hL⟩:∃L,lcmF a0 (rootN x.kind x.n) 1099511627776=L:=⟨_,rfl⟩
   rw[hL] at HOM HLC HLE
   obtain⟨L,ok⟩:=L
   dsimp only at HOM HLC HLE
   clear hL hot hv
   gi_wp2_with fail
   refine⟨trivial,(CallsIn.inRound l (callsIn_wide.2 HRO.out)).mono ?_⟩
   rintro e W1 ⟨g2,rfl,hg2,hb1⟩
   have HB1:=aZ hb1
   have HG2:=aZ hg2
   clear hb1 hg2 HRO p0 p1 p2 p3
   gi_wp2_with fail
   gi_loopw [10,11,29] (λv10 v11 v29 wr=>∃i:Nat,i<=1/\v29=.int .i64 i/\Hid (i=0->wr=W1)/\Hid (i=1->ok=true/\IntBox wr bA L/\IntBox wr (w.heap.size+1) 0/\IntBox wr (w.heap.size+2) 0/\KeepsOthers W wr/\Kq w.heap.size WL.heap.size W wr/\Below w.heap.size w wr)) (λ_ _ v29 _=>1-(intOf v29).toNat)
   case atStart=>exact⟨0,by omega,rfl,aZ (λ_=>rfl),aZ (λh=>by omega)⟩
   case round=>
    obtain⟨i,hi,rfl,hz,hn⟩:=hrel
    by_cases h0:i=0
    ·subst h0
     obtain rfl:=hz.out rfl
     have hg2:=HG2.out
     have ha:=HA.out.below' HB1.out
     obtain⟨ha1,ha2⟩:=ha
     clear hz hn
     gi_wp2_with fail
     refine⟨trivial,(CallsIn.inRound l (callsIn_wide.2 (HLC.out _))).mono ?_⟩
     rintro e W2 ⟨rfl,hq2⟩
     have hb2:=HB1.out.trans (hq2.below.mono HB1.out.size)
     have hA2:=HA.out.below' hb2
     have hR12:=HR1.out.below' hb2
     have hR22:=HR2.out.below' hb2
     obtain⟨c1,c2⟩:=hA2
     have hA3:IntBox (W2.setCell ⟨bA,0,none⟩ (.int .i64 (L:Nat))) bA L:=IntBox.set ⟨c1,c2⟩ _
     have hR13:=hR12.other (b':=bA) (by omega) (.int .i64 (L:Nat))
     have hR23:=hR22.other (b':=bA) (by omega) (.int .i64 (L:Nat))
     have hK3:KeepsOthers W (W2.setCell ⟨bA,0,none⟩ (.int .i64 (L:Nat))):=(Below.others hb2).trans (KeepsOthers.setCell _ _ _)
     have hq3:Kq w.heap.size WL.heap.size W (W2.setCell ⟨bA,0,none⟩ (.int .i64 (L:Nat))):=(Kq.of_below hb2 (by omega)).trans (Kq.set _ _ _ _ _ (by omega) (by omega))
     have hB3:Below w.heap.size w (W2.setCell ⟨bA,0,none⟩ (.int .i64 (L:Nat))):=(HBW.out.trans (hb2.mono (by omega))).setCell (p:=⟨bA,0,none⟩) (by show w.heap.size<=bA;omega) _
     have HA3:=aZ hA3
     have HR13:=aZ hR13
     have HR23:=aZ hR23
     have HK3:=aZ hK3
     have HQ3:=aZ hq3
     have HB3:=aZ hB3
     clear hA3 hR13 hR23 hK3 hq3 hB3 hR12 hR22 hq2 hb2 ha1 ha2 hg2
     rcases ok with _|_
     ·obtain⟨r0,r1⟩:=HR13.out
      obtain⟨s0,s1⟩:=HR23.out
      have HE1:Hid (IntBox (((W2.setCell ⟨bA,0,none⟩ (.int .i64 (L:Nat))).setCell ⟨w.heap.size+1,0,none⟩ (.int .i64 0)).setCell ⟨w.heap.size+2,0,none⟩ (.int .i64 28)) (w.heap.size+1) 0):=aZ ((IntBox.set HR13.out 0).other (by omega) _)
      have HE2:Hid (IntBox (((W2.setCell ⟨bA,0,none⟩ (.int .i64 (L:Nat))).setCell ⟨w.heap.size+1,0,none⟩ (.int .i64 0)).setCell ⟨w.heap.size+2,0,none⟩ (.int .i64 28)) (w.heap.size+2) 28):=aZ (IntBox.set (HR23.out.other (by omega) _) 28)
      have HB4:Hid (Below w.heap.size w (((W2.setCell ⟨bA,0,none⟩ (.int .i64 (L:Nat))).setCell ⟨w.heap.size+1,0,none⟩ (.int .i64 0)).setCell ⟨w.heap.size+2,0,none⟩ (.int .i64 28))):=aZ ((HB3.out.setCell (p:=⟨w.heap.size+1,0,none⟩) (by show w.heap.size<=w.heap.size+1;omega) _).setCell (p:=⟨w.heap.size+2,0,none⟩) (by show w.heap.size<=w.heap.size+2;omega) _)
      gi_wp2
      exact⟨((HK3.out.trans (KeepsOthers.setCell _ _ _)).trans (KeepsOthers.setCell _ _ _)).from _,⟨rfl,by rw[HOM.out,if_neg (by decide)],HE1.out,HE2.out⟩,HB4.out⟩
     ·gi_wp2
      exact⟨⟨1,by omega,rfl,aZ (λh=>by omega),aZ (λ_=>⟨trivial,HA3.out,HR13.out,HR23.out,HK3.out,HQ3.out,HB3.out⟩)⟩,by simp[intOf]⟩
    ·obtain rfl:i=1:=by omega
     obtain⟨hok,hA,hR1,hR2,hK,hq,hB⟩:=hn.out rfl
     have HFIN:Hid (KeepsFrom WL.heap.size W wr/\Kq w.heap.size WL.heap.size W wr/\((∃a:Nat,oroM ((pre++[x]).map PN.tri) 1=some a/\1<=a/\a<=1099511627776/\IntBox wr bA a/\IntBox wr (w.heap.size+1) 0/\IntBox wr (w.heap.size+2) 0)/\Below w.heap.size w wr)):=aZ ⟨hK.from _,hq,⟨L,by rw[HOM.out,if_pos hok],(HLE.out hok).1,(HLE.out hok).2.1,hA,hR1,hR2⟩,hB⟩
     clear hok hA hR1 hR2 hK hq hB hn hz HLE HOM HLC
     gi_wp2
     exact HFIN.out
  ·have hot:oroT x.tri a0=some a0:=by unfold oroT;rw[if_neg hv]
   rw[hot] at HOM
   have HRO:=aZ (Roots_no x.kind x.n x.r x.A x.l x.c W hv)
   clear hot hv
   gi_wp2_with fail
   refine⟨trivial,(CallsIn.inRound l (callsIn_wide.2 HRO.out)).mono ?_⟩
   rintro e W1 ⟨rfl,hb1⟩
   have HB1:=aZ hb1
   clear hb1 HRO p0 p1 p2 p3
   have HFIN:Hid (KeepsFrom WL.heap.size W W1/\Kq w.heap.size WL.heap.size W W1/\((∃a:Nat,oroM ((pre++[x]).map PN.tri) 1=some a/\1<=a/\a<=1099511627776/\IntBox W1 bA a/\IntBox W1 (w.heap.size+1) 0/\IntBox W1 (w.heap.size+2) 0)/\Below w.heap.size w W1)):=aZ ⟨(Below.others HB1.out).from _,Kq.of_below HB1.out hsW,⟨a0,HOM.out,a1,a2,HA.out.below' HB1.out,HR1.out.below' HB1.out,HR2.out.below' HB1.out⟩,HBW.out.trans (HB1.out.mono hsW)⟩
   gi_wp2_with fail
   gi_loopw [10,11,29] (λv10 v11 v29 wr=>v29=.int .i64 0/\wr=W1) (λ_ _ _ _=>0)
   case atStart=>exact⟨rfl,rfl⟩
   case round=>
    obtain⟨rfl,rfl⟩:=hrel
    gi_wp2
    exact HFIN.out
 case done=>
  rintro D ys W hD hu ⟨⟨a0,ho,a1,a2,hA,hR1,hR2⟩,hBW⟩ hK
  have he:oroL ((kind,n,r)::q.flat) 1=some a0:=by rw[<-oroM_eq _ _ HV.out,<-hu];exact ho
  have HEE:=aZ he
  have HB:=aZ hBW
  have HR1:=aZ hR1
  have HR2:=aZ hR2
  obtain⟨c0,c1⟩:=hA
  obtain⟨r0,r1⟩:=hR1
  obtain⟨s0,s1⟩:=hR2
  have hE1:IntBox ((W.setCell ⟨w.heap.size+1,0,none⟩ (.int .i64 (a0:Nat))).setCell ⟨w.heap.size+1+1,0,none⟩ (.int .i64 0)) (w.heap.size+1) (a0:Nat):=(IntBox.set HR1.out _).other (by omega) _
  have hE2:IntBox ((W.setCell ⟨w.heap.size+1,0,none⟩ (.int .i64 (a0:Nat))).setCell ⟨w.heap.size+1+1,0,none⟩ (.int .i64 0)) (w.heap.size+1+1) 0:=IntBox.set (HR2.out.other (by omega) _) 0
  have hK':=((KeepsOthers.setCell W ⟨w.heap.size+1,0,none⟩ (.int .i64 (a0:Nat))).trans (KeepsOthers.setCell _ ⟨w.heap.size+1+1,0,none⟩ (.int .i64 0))).same D _ hK rfl
  have HE1:=aZ hE1
  have HE2:=aZ hE2
  have HK':=aZ hK'
  clear hBW hE1 hE2 hK' hK HK HN hBL hR1L hR2L hAL hPL ho hu he
  gi_wp2
  refine⟨by simp,.inl ⟨_,_,rfl,run_takeDeferred HK'.out,?_⟩⟩
  have hc5:=HE1.out.kept (grownBy_putObj' _ D (.deferred none)) (λr e=>by cases e;exact⟨_,HK'.out,rfl⟩)
  have hc6:=HE2.out.kept (grownBy_putObj' _ D (.deferred none)) (λr e=>by cases e;exact⟨_,HK'.out,rfl⟩)
  obtain⟨d0,-⟩:=hc5
  obtain⟨e0,-⟩:=hc6
  refine⟨.tuple #[.int .i64 (a0:Nat),.int .i64 0],?_,by rw[HEE.out];rfl,((HB.out.setCell (p:=⟨w.heap.size+1,0,none⟩) (by show w.heap.size<=w.heap.size+1;omega) _).setCell (p:=⟨w.heap.size+1+1,0,none⟩) (by show w.heap.size<=w.heap.size+1+1;omega) _).trans (belowK_b (w:=w) (Nat.le_refl _) _ D _ _ (by omega) HK'.out rfl rfl)⟩
  simp[results,Try.f57,go_sem,d0,e0]
 case stop=>
  rintro D c' pre W hD hpre ⟨⟨rfl,hno,hR1,hR2⟩,hBW⟩ hK
  have he:oroL ((kind,n,r)::q.flat) 1=none:=by rw[<-oroM_eq _ _ HV.out];exact oroM_none hpre hno
  have HEE:=aZ he
  have HB:=aZ hBW
  have HR1:=aZ hR1
  have HR2:=aZ hR2
  clear HK HN hBL hR1L hR2L hAL hPL he hno hpre
  gi_wp2
  refine⟨by simp,.inl ⟨_,_,rfl,run_takeDeferred hK,?_⟩⟩
  have hc5:=HR1.out.kept (grownBy_putObj' _ D (.deferred none)) (λr e=>by cases e;exact⟨_,hK,rfl⟩)
  have hc6:=HR2.out.kept (grownBy_putObj' _ D (.deferred none)) (λr e=>by cases e;exact⟨_,hK,rfl⟩)
  obtain⟨d0,-⟩:=hc5
  obtain⟨e0,-⟩:=hc6
  refine⟨.tuple #[.int .i64 0,.int .i64 28],?_,by rw[HEE.out];rfl,hBW.trans (belowK_b (w:=w) (Nat.le_refl _) W D _ _ (by omega) hK rfl rfl)⟩
  simp[results,Try.f57,go_sem,d0,e0]
theorem Order_any(kind n r:Int)(q:Fo)(hN:q.count<=549755813888)(w:World)(A:Option Addr)(c:Nat)(hk:Kids w A 0 q):
  Calls Try.prog 57 #[plV kind n r A q.len c] w (Ret w (.tuple #[.int .i64 ((ordR kind n r q).1:Nat),.int .i64 (ordR kind n r q).2])):=by
 by_cases he:checkE kind n r q n=0
 ·refine(callsIn_wide.1 (Order_ok kind n r A q c hN he w hk)).mono ?_
  intro e w' h
  unfold ordR
  rw[if_neg (by simp[he])]
  exact h
 ·have HC:=aZ (λw h=>Check_any kind n r q n hN w A c h)
  unfold ordR
  rw[if_pos he]
  obtain⟨E,hE⟩:∃E,checkE kind n r q n=E:=⟨_,rfl⟩
  rw[hE] at HC he|-
  have heb:(E==0)=false:=by simpa using he
  obtain⟨W0,hW0⟩:∃W0,W0=((w.alloc (.cells #[.int .i64 kind,.int .i64 n,.int .i64 r,.slice A q.len c] 26)).alloc (.cells #[.int .i64 0] 2)).alloc (.cells #[.int .i64 0] 39):=⟨_,rfl⟩
  have hb0:Below w.heap.size w W0:=by rw[hW0];exact(((Below.refl _ w).alloc (Nat.le_refl _) _).alloc (by simp) _).alloc (by simp;omega) _
  have hs0:W0.heap.size=w.heap.size+3:=by rw[hW0];simp
  have hr0:IntBox W0 (w.heap.size+1) 0/\IntBox W0 (w.heap.size+2) 0:=by rw[hW0];exact⟨⟨by go_simp,by go_simp⟩,⟨by go_simp,by go_simp⟩⟩
  have HB0:=aZ hb0
  have HR0:=aZ hr0
  have HK0:=aZ (hk.below hb0)
  clear hb0 hr0 hs0 hk hE he
  go_enter Try.func57,Try.ntmps57
  go_wp2_with fail
  try rw[<-hW0]
  refine(HC.out W0 HK0.out).mono ?_
  rintro z w1 ⟨⟨a,rfl⟩,hb1⟩
  have hR1:=HR0.out.1.below' hb1
  have hR2:=HR0.out.2.below' hb1
  have HB1:=aZ (HB0.out.trans (hb1.mono HB0.out.size))
  obtain⟨r0,r1⟩:=hR1
  obtain⟨s0,s1⟩:=hR2
  clear hW0 hb1 HC HK0
  go_wp2_with fail
  have hE1:IntBox ((w1.setCell ⟨w.heap.size+1,0,none⟩ (.int .i64 0)).setCell ⟨w.heap.size+1+1,0,none⟩ (.int .i64 E)) (w.heap.size+1) 0:=(IntBox.set ⟨r0,r1⟩ _).other (by omega) _
  have hE2:IntBox ((w1.setCell ⟨w.heap.size+1,0,none⟩ (.int .i64 0)).setCell ⟨w.heap.size+1+1,0,none⟩ (.int .i64 E)) (w.heap.size+1+1) E:=IntBox.set (IntBox.other ⟨s0,s1⟩ (by omega) _) E
  obtain⟨d0,-⟩:=hE1
  obtain⟨e0,-⟩:=hE2
  exact bodyPost_ret (v:=.tuple #[.int .i64 0,.int .i64 E]) (by simp[results,Try.results57,go_sem,d0,e0]) rfl ⟨rfl,(HB1.out.setCell (p:=⟨w.heap.size+1,0,none⟩) (by show w.heap.size<=w.heap.size+1;omega) _).setCell (p:=⟨w.heap.size+1+1,0,none⟩) (by show w.heap.size<=w.heap.size+1+1;omega) _⟩
end Go.Proofs.Yteaimnemobnknaa
namespace Go.Proofs.Yteaimnemobnknaa
open Go.RowKit Go.Lib
def remF(q:Nat)(f:Nat->Int):Nat->Int:=λi=>f i%(q:Int)
theorem melements_any(q v N:Nat)(q1:1<=q)(hq:q<=4503599627370496)(A:Option Addr)(m c:Nat)(f:Nat->Int)(w:World)(hI:IntsAt w A m f)(hR:Rng f)(hm:m<=1048576):
  Calls Try.prog 59 #[rgV q v N,.slice A m c] w λz w'=>∃g,z=.returned (.slice (some ⟨g,0,none⟩) m m)/\IntsAt w' (some ⟨g,0,none⟩) m (remF q f)/\Below w.heap.size w w':=by
 have HI:=aZ hI
 have HR:=aZ hR
 have hmk:=mk_int64 m (by omega)
 have hT:=Tri.new w q v N 60
 obtain⟨W0,hW0⟩:∃W0,W0=w.alloc (.cells #[.int .i64 q,.int .i64 v,.int .i64 N] 60):=⟨_,rfl⟩
 have hb0:Below w.heap.size w W0:=by rw[hW0];exact(Below.refl _ w).alloc (Nat.le_refl _) _
 have hs0:W0.heap.size=w.heap.size+1:=by rw[hW0];simp
 rw[<-hW0] at hT
 have HT:=aZ hT
 have HB0:=aZ hb0
 have HRS:=aZ (λ(a:Int) (h0:-9223372036854775808<=a) (h1:a<=9223372036854775807) w=>frest_any q v N a q1 hq h0 h1 w)
 clear hI hR hT hb0
 go_enter Try.func59,Try.ntmps59
 go_wp2
 rw[<-hW0]
 have hz:=zs_row m W0 2
 rw[hs0] at hz
 have HZ:Hid (Row (W0.alloc (.cells (zs m) 2)) (w.heap.size+1) m (upTo 0 (remF q f))):=aZ (hz.congr λi _=>by unfold upTo;rw[if_neg (by omega)])
 have HB1:Hid (Below w.heap.size w (W0.alloc (.cells (zs m) 2))/\Tri (W0.alloc (.cells (zs m) 2)) w.heap.size q v N):=aZ ⟨HB0.out.alloc (by omega) _,by
  have hb:Below W0.heap.size W0 (W0.alloc (.cells (zs m) 2)):=(Below.refl _ W0).alloc (Nat.le_refl _) _
  exact HT.out.below hb⟩
 have HS1:Hid (w.heap.size+1<(W0.alloc (.cells (zs m) 2)).heap.size):=aZ (by simp;omega)
 generalize W0.alloc (.cells (zs m) 2)=W1 at*
 clear hz hW0 hs0 HB0 HT
 go_loopw [6,7,13] (λv6 v7 v13 wr=>∃k:Nat,k<=m/\v13=.int .i64 k/\Hid (Row wr (w.heap.size+1) m (upTo k (remF q f)))/\Hid (Below w.heap.size w wr)/\Hid (Tri wr w.heap.size q v N)/\Hid (w.heap.size+1<wr.heap.size)) (λ_ _ v13 _=>m-(intOf v13).toNat)
 case atStart=>exact⟨0,Nat.zero_le _,rfl,HZ,aZ HB1.out.1,aZ HB1.out.2,HS1⟩
 case round=>
  clear HZ HB1 HS1
  obtain⟨k,hk,rfl,hr,hb,T,hs⟩:=hrel
  by_cases hlt:k<m
  ·have hki:(k:Int)<m:=by omega
   obtain⟨bI,oI,rfl,hc0⟩:=HI.out k hlt
   have hc:=keep_cell' hb.out hc0
   have hcall:=HRS.out (f k) (HR.out k).1 (HR.out k).2 wr
   have HC:=aZ hcall
   obtain⟨t0,t1,t2⟩:=T.out
   clear hcall
   go_wp2_with fail
   refine HC.out.mono ?_
   rintro z w2 ⟨rfl,hb2⟩
   have hr2:Row w2 (w.heap.size+1) m (upTo k (remF q f)):=λi hi=>⟨keep_cell hb2 (hr.out i hi).1,keep_free hb2 hs.out (hr.out i hi).2⟩
   obtain⟨r1,r2⟩:=hr2 k hlt
   have HN:=aZ ((hr2.set hlt (f k%(q:Int))).upto (G:=remF q f) (k:=k))
   have HB2:Hid (Below w.heap.size w (w2.setCell ⟨w.heap.size+1,k,none⟩ (.int .i64 (f k%(q:Int))))):=aZ ((hb.out.trans (hb2.mono hb.out.size)).setCell (p:=⟨w.heap.size+1,k,none⟩) (by show w.heap.size<=w.heap.size+1;omega) _)
   have HT2:Hid (Tri (w2.setCell ⟨w.heap.size+1,k,none⟩ (.int .i64 (f k%(q:Int)))) w.heap.size q v N):=aZ (Tri.other (w:=w2) (T.out.below hb2) _ (by omega))
   have HS2:Hid (w.heap.size+1<(w2.setCell ⟨w.heap.size+1,k,none⟩ (.int .i64 (f k%(q:Int)))).heap.size):=aZ (by have:=hb2.size;have:=hs.out;simp[World.setCell];omega)
   clear hc hc0 t0 t1 t2 hb2 hr2 HC
   go_wp2
   exact⟨⟨k+1,by omega,by go_num,HN,HB2,HT2,HS2⟩,by simp[intOf];omega⟩
  ·obtain rfl:k=m:=by omega
   have HF:=aZ (hr.out.congr (g:=remF q f) λi hi=>by unfold upTo;rw[if_pos hi])
   go_wp2
   go_ret
   exact⟨_,rfl,HF.out.ints,hb.out⟩
end Go.Proofs.Yteaimnemobnknaa
