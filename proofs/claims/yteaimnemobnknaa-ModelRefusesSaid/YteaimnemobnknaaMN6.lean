/- Every order of a plan that can be has a prime for its field. Plain. -/
import Derived.Test.YteaimnemobnknaaMN2
import Derived.Test.YteaimnemobnknaaMN3
import Derived.Test.YteaimnemobnknaaMN4
import Derived.Test.YteaimnemobnknaaMN5
import Derived.Test.YteaimnemobnknaaX0
import Derived.Test.YteaimnemobnknaaZ3
import Derived.Test.YteaimnemobnknaaML2
import Derived.Test.YteaimnemobnknaaMN1
import Derived.Test.YteaimnemobnknaaMC6
import Derived.Test.YteaimnemobnknaaMC5
import Derived.Test.YteaimnemobnknaaMM1
set_option linter.unusedSimpArgs false
set_option linter.unusedVariables false
set_option maxRecDepth 100000
set_option maxHeartbeats 8000000
namespace Go.Proofs.Yteaimnemobnknaa
theorem cand_tab{m:Nat}(hm:m%2=1)(mb:m<=32768):∃ds ds',covP 32 m (facQ m) [] [] ds=some ds':=by
 obtain⟨k,i,hk,hi,e⟩:∃k i,k<8/\i<2048/\m=4096*k+1+2*i:=⟨m/4096,m%4096/2,by omega,by omega,by omega⟩
 subst e
 rcases(show k=0\/k=1\/k=2\/k=3\/k=4\/k=5\/k=6\/k=7 by omega) with rfl|rfl|rfl|rfl|rfl|rfl|rfl|rfl
 ·exact covS_ok candTA _ candTA_ok.1 i (by rw[candTA_ok.2];exact hi)
 ·exact covS_ok candTB _ candTB_ok.1 i (by rw[candTB_ok.2];exact hi)
 ·exact covS_ok candTC _ candTC_ok.1 i (by rw[candTC_ok.2];exact hi)
 ·exact covS_ok candTD _ candTD_ok.1 i (by rw[candTD_ok.2];exact hi)
 ·exact covS_ok candTE _ candTE_ok.1 i (by rw[candTE_ok.2];exact hi)
 ·exact covS_ok candTF _ candTF_ok.1 i (by rw[candTF_ok.2];exact hi)
 ·exact covS_ok candTG _ candTG_ok.1 i (by rw[candTG_ok.2];exact hi)
 ·exact covS_ok candTH _ candTH_ok.1 i (by rw[candTH_ok.2];exact hi)
theorem odd_part:∀(k n:Nat),1<=n->n<2^(k+1)->∃j m,j<=k/\m%2=1/\n=2^j*m
 |0,n,h1,h2=>⟨0,n,by omega,by omega,by omega⟩
 |k+1,n,h1,h2=>by
   rcases Nat.mod_two_eq_zero_or_one n with h|h
   ·obtain⟨j,m,h3,h4,h5⟩:=odd_part k (n/2) (by omega) (by rw[Nat.pow_succ] at h2;omega)
    refine⟨j+1,m,by omega,h4,?_⟩
    have:n=2*(n/2):=by omega
    rw[this,h5,Nat.pow_succ]
    ac_rfl
   ·exact⟨0,n,by omega,h,by omega⟩
theorem odd_co{m:Nat}(hm:m%2=1):∀j,Nat.gcd (2^j) m=1:=by
 intro j
 have h2:Nat.gcd 2 m=1:=by
  rw[Nat.gcd_rec,hm];rfl
 exact Nat.Coprime.pow_left j h2
theorem ordR_pos{kind n r:Int}{q:Fo}{o:Nat}(h:ordR kind n r q=(o,0)):1<=o/\o<=1099511627776:=by
 unfold ordR at h
 by_cases h0:checkE kind n r q n=0
 ·rw[if_neg (by simp[h0])] at h
  rcases h2:oroL ((kind,n,r)::q.flat) 1 with _|o2
  ·rw[h2] at h
   exact absurd (congrArg Prod.snd h) (show ¬(28:Int)=0 by decide)
  ·rw[h2] at h
   have:o2=o:=congrArg Prod.fst h
   subst this
   have:=oroL_le _ 1 _ (by omega) (by omega) (check_valid h0).1 h2
   omega
 ·rw[if_pos h0] at h
  exact absurd (congrArg Prod.snd h) h0
theorem order_cand{kind n r:Int}{q:Fo}{o:Nat}(h:ordR kind n r q=(o,0))(ob:o<=4294967296):∃x,1099511627776<x/\x<4503599627370496/\o∣x-1/\isB x=true:=by
 obtain⟨hc,ho⟩:=ordR_ord h
 unfold checkE at hc
 by_cases h1:n<1\/32768<n
 ·rw[if_pos h1] at hc;omega
 rw[if_neg h1] at hc
 by_cases h2:64<1+q.count
 ·rw[if_pos h2] at hc;omega
 rw[if_neg h2] at hc
 obtain⟨N,hN⟩:∃N:Nat,n=(N:Int):=⟨n.toNat,by omega⟩
 subst hN
 have eo:ordFo (.cons kind N r q .nil)=o:=by
  show Nat.lcm (Nat.lcm (rootN kind N) (ordFo q)) 1=o
  rw[Nat.lcm_one_right,ho]
 obtain⟨p1,p2,p3,p4⟩:=plan_ord (.cons kind N r q .nil) [(N:Int)] false hc rfl (λx hx=>by
  rcases List.mem_cons.1 hx with rfl|hx
  ·omega
  ·cases hx)
 rw[eo] at p1 p3 p4
 have hNo:N∣o:=p4 N (List.mem_cons_self ..)
 obtain⟨j,m,hj,hm,hNm⟩:=odd_part 15 N (by omega) (by rw[show(2:Nat)^(15+1)=65536 from rfl];omega)
 have m1:1<=m:=by omega
 have mN:m<=N:=by rw[hNm];exact Nat.le_mul_of_pos_left _ (Nat.two_pow_pos _)
 have o1:=(ordR_pos h).1
 have H:OrdS m (radL (.cons kind N r q .nil)) o:=by
  refine⟨m1,by omega,λM hM hmM hp=>p1 M hM (λx hx=>?_) hp,λT h3 h4=>p2 T (λx hx p pp p3 hd=>?_) h4,λp hp=>⟨(p3 p hp).2.1,(p3 p hp).2.2.1,(p3 p hp).2.2.2⟩,Nat.dvd_trans ⟨2^j,by rw[hNm,Nat.mul_comm]⟩ hNo,o1,ob⟩
  ·rcases List.mem_cons.1 hx with rfl|hx
   ·rw[Int.toNat_natCast,hNm]
    have hj2:2^j∣M:=Nat.dvd_trans (Nat.pow_dvd_pow 2 hj) hM
    exact Nat.Coprime.mul_dvd_of_dvd_of_dvd (odd_co hm j) hj2 hmM
   ·cases hx
  ·rcases List.mem_cons.1 hx with rfl|hx
   ·rw[Int.toNat_natCast,hNm] at hd
    rcases pp.mul hd with g|g
    ·have:=Nat.le_of_dvd (by omega) (pp.pow j g)
     omega
    ·exact h3 p pp p3 g
   ·cases hx
 obtain⟨ds,ds',hds⟩:=cand_tab hm (by omega)
 exact covP_ok rfl H 32 [] [] ds ds' hds (λp hp=>by cases hp) (λp hp=>by cases hp)
end Go.Proofs.Yteaimnemobnknaa
namespace Go.Proofs.Yteaimnemobnknaa
open Go.RowKit Go.Lib
theorem Exact_weak(kind n r:Int)(q:Fo)(s:Int)(hc:q.count<=549755813888)(o:Nat)(hcand:∃x,1099511627776<x/\x<4503599627370496/\o∣x-1/\isB x=true)(ho:ordR kind n r q=(o,0))(m:Nat)(hm:m<=1048576)(hne:runE kind n r q m s≠0)(w:World)(B:Option Addr)(c:Nat)(hk:Kids w B 0 q)(A:Option Addr)(cm:Nat)(f:Nat->Int)(hI:IntsAt w A m f)(hR:Rng f):
  Calls Try.prog 32 #[plV kind n r B q.len c,.slice A m cm,.int .i64 s] w λz w'=>z=.returned (.tuple #[.slice none 0 0,rgV 0 0 0,.int .i64 (runE kind n r q m s)])/\Below w.heap.size w w':=by
 have HO:=aZ (λw h=>Order_any kind n r q hc w B c h)
 rw[ho] at HO
 obtain⟨x0,x1,x2,x3,x4⟩:=hcand
 have ho1:=ordR_pos ho
 have HMK:=aZ (λw=>Make_weak o x0 ho1.1 ho1.2 x1 x2 x3 x4 w)
 clear x1 x2 x3 x4
 have HEL:=aZ (λ(Q v:Nat) (hlo:1099511627776<Q) (hhi:Q<4503599627370496) w h=>melements_any Q v o (by omega) (by omega) A m cm f w h hR hm)
 have HRU:=aZ (λ(Q v:Nat) (w:World) (h:Kids w B 0 q) (X:Option Addr)=>Run_no (.iface 60 (rgV Q v o)) kind n r q hc s m hne w B c X m h)
 obtain⟨E,hE⟩:∃E,runE kind n r q m s=E:=⟨_,rfl⟩
 rw[hE] at HRU hne|-
 have heb:(E==0)=false:=by simpa using hne
 have HK:=aZ hk
 have HI:=aZ hI
 obtain⟨W0,hW0⟩:∃W0,W0=(w.alloc (.cells #[.int .i64 kind,.int .i64 n,.int .i64 r,.slice B q.len c] 26)).alloc (.cells #[.int .i64 0,.int .i64 0,.int .i64 0] 60):=⟨_,rfl⟩
 have hb0:Below w.heap.size w W0:=by rw[hW0];exact((Below.refl _ w).alloc (Nat.le_refl _) _).alloc (by simp) _
 have hp0:PlBox W0 w.heap.size kind n r B q.len c:=by
  rw[hW0]
  exact(PlBox.new w _ _ _ _ _ _ _).below ((Below.refl _ _).alloc (Nat.le_refl _) _)
 have hr0:RB W0 (w.heap.size+1):=by
  rw[hW0]
  have:=RB.new (w.alloc (.cells #[.int .i64 kind,.int .i64 n,.int .i64 r,.slice B q.len c] 26)) 60
  simp only[World.size_alloc] at this
  exact this
 have HB0:=aZ hb0
 have HP0:=aZ hp0
 have HR0:=aZ hr0
 obtain⟨p0,p1,p2,p3⟩:=hp0
 clear hI hR hk hb0 hr0 hc ho ho1 hE hne
 go_enter Try.func32,Try.ntmps32
 go_wp2_with fail
 try rw[<-hW0]
 refine(HO.out W0 (HK.out.below HB0.out)).mono ?_
 rintro z w1 ⟨rfl,hb1⟩
 have HB1:=aZ (HB0.out.trans (hb1.mono HB0.out.size))
 have HR1:=aZ (HR0.out.below hb1)
 have HP1:=aZ (HP0.out.below hb1)
 clear hb1 hW0 HO p0 p1 p2 p3 HP0 HR0 HB0
 go_wp2_with fail
 refine(HMK.out w1).mono ?_
 rintro z w2 ⟨Q,v,hlo,hhi,hv,rfl,hb2⟩
 have HB2:=aZ (HB1.out.trans (hb2.mono HB1.out.size))
 have HR2:=aZ (HR1.out.below hb2)
 have HP2:=aZ (HP1.out.below hb2)
 have HELv:=aZ (HEL.out Q v hlo hhi)
 have HRUv:=aZ (HRU.out Q v)
 clear hb2 hv HMK HEL HRU HR1 HP1 HB1
 go_upto_region 5 with(fail)
 obtain⟨w3,hw3⟩:∃w3,w3=w2.alloc (.cells #[.int .i64 Q,.int .i64 v,.int .i64 o] 60):=⟨_,rfl⟩
 have hb3:Below w2.heap.size w2 w3:=by rw[hw3];exact(Below.refl _ w2).alloc (Nat.le_refl _) _
 have hT3:=Tri.new w2 (Q:Int) v o 60
 rw[<-hw3] at hT3|-
 obtain⟨bF,hbF⟩:∃bF,w2.heap.size=bF:=⟨_,rfl⟩
 have HNE:Hid (w.heap.size+1≠bF):=aZ (by have:=HR2.out.l;omega)
 rw[hbF] at hT3|-
 have HB3:=aZ (HB2.out.trans (hb3.mono HB2.out.size))
 have HR3:=aZ (HR2.out.below hb3)
 have HP3:=aZ (HP2.out.below hb3)
 have HT3:=aZ hT3
 clear hw3 hb3 hbF HR2 HP2 HB2 hT3
 go_upto_region 7 with(fail)
 obtain⟨t0,t1,t2⟩:=HT3.out
 obtain⟨p0,p1,p2,p3⟩:=HP3.out
 refine wp_region_T (λw'=>w'.cell? ⟨bF,0,none⟩=some (.int .i64 Q)/\w'.cell? ⟨bF,1,none⟩=some (.int .i64 v)/\w'.cell? ⟨bF,2,none⟩=some (.int .i64 o)/\w'.cell? ⟨w.heap.size,0,none⟩=some (.int .i64 kind)/\w'.cell? ⟨w.heap.size,1,none⟩=some (.int .i64 n)/\w'.cell? ⟨w.heap.size,2,none⟩=some (.int .i64 r)/\w'.cell? ⟨w.heap.size,3,none⟩=some (.slice B q.len c)) 12 ⟨t0,t1,t2,p0,p1,p2,p3⟩ (λhS0=>?_)
 refine Takes.intro [0,1,2,3,4,6] ?_
 repeat(refine Takes.go (v:=?_) hS0 ?_;try simp only[nrm,Act.put])
 refine Takes.nil ?_
 refine wpAnyS_1 5 (λK hK=>?_)
 go_simp
 refine(HELv.out _ (HI.out.keep HB3.out.drew)).mono ?_
 rintro z w4 ⟨g4,rfl,hi4,hb4⟩
 have hb34:Below w3.heap.size w3 w4:=(Below.refl _ w3).drew.trans hb4
 have HI4:=aZ hi4
 have HB4:=aZ (HB3.out.trans (hb34.mono HB3.out.size))
 have hS1:(λw'=>w'.cell? ⟨bF,0,none⟩=some (.int .i64 Q)/\w'.cell? ⟨bF,1,none⟩=some (.int .i64 v)/\w'.cell? ⟨bF,2,none⟩=some (.int .i64 o)/\w'.cell? ⟨w.heap.size,0,none⟩=some (.int .i64 kind)/\w'.cell? ⟨w.heap.size,1,none⟩=some (.int .i64 n)/\w'.cell? ⟨w.heap.size,2,none⟩=some (.int .i64 r)/\w'.cell? ⟨w.heap.size,3,none⟩=some (.slice B q.len c)) w4:=⟨keep_cell hb34 t0,keep_cell hb34 t1,keep_cell hb34 t2,keep_cell hb34 p0,keep_cell hb34 p1,keep_cell hb34 p2,keep_cell hb34 p3⟩
 refine hK.out _ _ (λ_=>hS1) ?_
 clear hK K
 try simp only[nrm,Act.put]
 refine wpAnyS_1 7 (λK hK=>?_)
 go_simp
 refine(HRUv.out w4 (HK.out.below HB4.out) _).mono ?_
 rintro z w5 ⟨rfl,hb5⟩
 have hb35:Below w3.heap.size w3 w5:=hb34.trans (hb5.mono hb34.size)
 have HB5:=aZ (HB3.out.trans (hb35.mono HB3.out.size))
 have hS2:(λw'=>w'.cell? ⟨bF,0,none⟩=some (.int .i64 Q)/\w'.cell? ⟨bF,1,none⟩=some (.int .i64 v)/\w'.cell? ⟨bF,2,none⟩=some (.int .i64 o)/\w'.cell? ⟨w.heap.size,0,none⟩=some (.int .i64 kind)/\w'.cell? ⟨w.heap.size,1,none⟩=some (.int .i64 n)/\w'.cell? ⟨w.heap.size,2,none⟩=some (.int .i64 r)/\w'.cell? ⟨w.heap.size,3,none⟩=some (.slice B q.len c)) w5:=⟨keep_cell hb35 t0,keep_cell hb35 t1,keep_cell hb35 t2,keep_cell hb35 p0,keep_cell hb35 p1,keep_cell hb35 p2,keep_cell hb35 p3⟩
 refine hK.out _ _ (λ_=>hS2) ?_
 clear hK K
 try simp only[nrm,Act.put]
 refine Takes.intro [8,9,10,11] ?_
 repeat(refine Takes.go (v:=?_) hS2 ?_;try simp only[nrm,Act.put])
 refine Takes.nil ?_
 refine wpAnyS_fin 1 12 ?_
 simp only[nrd]
 have HR5:=aZ (HR3.out.below hb35)
 obtain⟨t0,t1,t2,-⟩:=hS2
 clear hS0 hS1 hb34 hb35 hb5 hb4 hi4 HELv HRUv
 obtain⟨⟨r0,r1,r2⟩,hz,hlb⟩:=HR5.out
 have hz0:=hz 0 (by omega)
 have hz1:=hz 1 (by omega)
 have hz2:=hz 2 (by omega)
 clear hz hlb
 have HBF:=aZ (below_three HB5.out (b:=w.heap.size+1) (by omega) (.int .i64 0) (.int .i64 0) (.int .i64 0))
 have HTF:=aZ (tri_set HR5.out.t 0 0 0)
 clear HB5 HR5
 go_wp2
 obtain⟨u0,u1,u2⟩:=HTF.out
 exact bodyPost_ret (v:=.tuple #[.slice none 0 0,rgV 0 0 0,.int .i64 E]) (by simp[results,Try.results32,go_sem,u0,u1,u2]) rfl ⟨rfl,HBF.out⟩
theorem Exact_ord(kind n r:Int)(q:Fo)(s:Int)(hc:q.count<=549755813888)(o:Nat)(E:Int)(ho:ordR kind n r q=(o,E))(hne:E≠0)(m:Nat)(w:World)(B:Option Addr)(c:Nat)(hk:Kids w B 0 q)(A:Option Addr)(cm:Nat):
  Calls Try.prog 32 #[plV kind n r B q.len c,.slice A m cm,.int .i64 s] w λz w'=>z=.returned (.tuple #[.slice none 0 0,rgV 0 0 0,.int .i64 E])/\Below w.heap.size w w':=by
 have HO:=aZ (λw h=>Order_any kind n r q hc w B c h)
 rw[ho] at HO
 have heb:(E==0)=false:=by simpa using hne
 have HK:=aZ hk
 obtain⟨W0,hW0⟩:∃W0,W0=(w.alloc (.cells #[.int .i64 kind,.int .i64 n,.int .i64 r,.slice B q.len c] 26)).alloc (.cells #[.int .i64 0,.int .i64 0,.int .i64 0] 60):=⟨_,rfl⟩
 have hb0:Below w.heap.size w W0:=by rw[hW0];exact((Below.refl _ w).alloc (Nat.le_refl _) _).alloc (by simp) _
 have hp0:PlBox W0 w.heap.size kind n r B q.len c:=by
  rw[hW0]
  exact(PlBox.new w _ _ _ _ _ _ _).below ((Below.refl _ _).alloc (Nat.le_refl _) _)
 have hr0:RB W0 (w.heap.size+1):=by
  rw[hW0]
  have:=RB.new (w.alloc (.cells #[.int .i64 kind,.int .i64 n,.int .i64 r,.slice B q.len c] 26)) 60
  simp only[World.size_alloc] at this
  exact this
 have HB0:=aZ hb0
 have HP0:=aZ hp0
 have HR0:=aZ hr0
 obtain⟨p0,p1,p2,p3⟩:=hp0
 clear hk hb0 hr0 hc ho hne
 go_enter Try.func32,Try.ntmps32
 go_wp2_with fail
 try rw[<-hW0]
 refine(HO.out W0 (HK.out.below HB0.out)).mono ?_
 rintro z w1 ⟨rfl,hb1⟩
 have HB1:=aZ (HB0.out.trans (hb1.mono HB0.out.size))
 have HR1:=aZ (HR0.out.below hb1)
 have HP1:=aZ (HP0.out.below hb1)
 clear hb1 hW0 HO p0 p1 p2 p3 HP0 HR0 HB0
 obtain⟨⟨r0,r1,r2⟩,hz,hlb⟩:=HR1.out
 have hz0:=hz 0 (by omega)
 have hz1:=hz 1 (by omega)
 have hz2:=hz 2 (by omega)
 clear hz hlb
 have HBF:=aZ (below_three HB1.out (b:=w.heap.size+1) (by omega) (.int .i64 0) (.int .i64 0) (.int .i64 0))
 have HTF:=aZ (tri_set HR1.out.t 0 0 0)
 clear HB1 HR1
 go_wp2
 obtain⟨u0,u1,u2⟩:=HTF.out
 exact bodyPost_ret (v:=.tuple #[.slice none 0 0,rgV 0 0 0,.int .i64 E]) (by simp[results,Try.results32,go_sem,u0,u1,u2]) rfl ⟨rfl,HBF.out⟩
def may19(kind n r:Int)(q:Fo)(l s:Int):Int:=if(ordR kind n r q).2≠0 then(ordR kind n r q).2 else runE kind n r q l s
theorem May19_any(kind n r:Int)(q:Fo)(l s:Int)(hN:q.count<=549755813888)(w:World)(A:Option Addr)(c:Nat)(hk:Kids w A 0 q):
  Calls Try.prog 37 #[plV kind n r A q.len c,.int .i64 l,.int .i64 s] w (Ret w (.int .i64 (may19 kind n r q l s))):=by
 have HO:=aZ (λw h=>ROrder_any kind n r q hN w A c h)
 have HM:=aZ (λw h=>May_any kind n r q l s hN w A c h)
 have HK:=aZ hk
 unfold may19
 obtain⟨⟨o,e⟩,hO⟩:∃R,ordR kind n r q=R:=⟨_,rfl⟩
 rw[hO] at HO|-
 dsimp only at HO|-
 obtain⟨m,hm⟩:∃m,runE kind n r q l s=m:=⟨_,rfl⟩
 rw[hm] at HM|-
 obtain⟨R,hR⟩:∃R,(if e≠0 then e else m)=R:=⟨_,rfl⟩
 rw[hR]
 have HRR:=aZ hR
 clear hR
 obtain⟨W0,hW0⟩:∃W0,W0=w.alloc (.cells #[.int .i64 kind,.int .i64 n,.int .i64 r,.slice A q.len c] 29):=⟨_,rfl⟩
 have hb0:Below w.heap.size w W0:=by rw[hW0];exact(Below.refl _ w).alloc (Nat.le_refl _) _
 have hp0:PlBox W0 w.heap.size kind n r A q.len c:=by rw[hW0];exact PlBox.new w _ _ _ _ _ _ _
 have HB0:=aZ hb0
 have HP0:=aZ hp0
 obtain⟨p0,p1,p2,p3⟩:=hp0
 clear hO hm hk hb0 hN
 go_enter Try.func37,Try.ntmps37
 go_wp2_with fail
 try rw[<-hW0]
 refine(HO.out W0 (HK.out.below HB0.out)).mono ?_
 rintro z w1 ⟨rfl,hb1⟩
 have HB1:=aZ (HB0.out.trans (hb1.mono HB0.out.size))
 have hp1:=HP0.out.below hb1
 obtain⟨p0,p1,p2,p3⟩:=hp1
 clear hb1 hW0 HB0 HP0 HO
 by_cases he:e=0
 ·subst he
  have hRm:R=m:=by rw[<-HRR.out,if_neg (by decide)]
  subst hRm
  go_wp2_with fail
  refine(HM.out w1 (HK.out.below HB1.out)).mono ?_
  rintro z w2 ⟨rfl,hb2⟩
  have HB2:=aZ (HB1.out.trans (hb2.mono HB1.out.size))
  clear hb2
  go_wp2
  go_ret
  exact⟨rfl,HB2.out⟩
 ·have hRm:R=e:=by rw[<-HRR.out,if_pos he]
  subst hRm
  have heb:(R==0)=false:=by simpa using he
  go_wp2
  go_ret
  exact⟨rfl,HB1.out⟩
theorem Parseval_bad(kind N r:Int)(q:Fo)(E:Int)(hne:E≠0)(w:World)(B:Option Addr)(c:Nat)(hk:Kids w B 0 q)(A1 A2:Option Addr)(m1 c1 m c2:Nat)(f:Nat->Int)(hI1:IntsAt w A1 m1 f)(hE1:∀w,Kids w B 0 q->IntsAt w A1 m1 f->Calls Try.prog 32 #[plV kind N r B q.len c,.slice A1 m1 c1,.int .i64 1] w λz w'=>z=.returned (.tuple #[.slice none 0 0,rgV 0 0 0,.int .i64 E])/\Below w.heap.size w w'):
  Calls Try.prog 39 #[plV kind N r B q.len c,.slice A1 m1 c1,.slice A2 m c2] w λz w'=>z=.returned (.tuple #[.int .i64 0,rgV 0 0 0,.int .i64 E])/\Below w.heap.size w w':=by
 have HE1:=aZ hE1
 have heb:(E==0)=false:=by simpa using hne
 have HK:=aZ hk
 have HI1:=aZ hI1
 obtain⟨W0,hW0⟩:∃W0,W0=(w.alloc (.cells #[.int .i64 kind,.int .i64 N,.int .i64 r,.slice B q.len c] 26)).alloc (.cells #[.int .i64 0,.int .i64 0,.int .i64 0] 60):=⟨_,rfl⟩
 have hb0:Below w.heap.size w W0:=by rw[hW0];exact((Below.refl _ w).alloc (Nat.le_refl _) _).alloc (by simp) _
 have hp0:PlBox W0 w.heap.size kind N r B q.len c:=by
  rw[hW0]
  exact(PlBox.new w _ _ _ _ _ _ _).below ((Below.refl _ _).alloc (Nat.le_refl _) _)
 have hr0:RB W0 (w.heap.size+1):=by
  rw[hW0]
  have:=RB.new (w.alloc (.cells #[.int .i64 kind,.int .i64 N,.int .i64 r,.slice B q.len c] 26)) 60
  simp only[World.size_alloc] at this
  exact this
 have HB0:=aZ hb0
 have HP0:=aZ hp0
 have HR0:=aZ hr0
 obtain⟨p0,p1,p2,p3⟩:=hp0
 clear hI1 hk hb0 hr0 hE1 hne
 go_enter Try.func39,Try.ntmps39
 go_wp2_with fail
 try rw[<-hW0]
 refine(HE1.out W0 (HK.out.below HB0.out) (HI1.out.keep HB0.out)).mono ?_
 rintro z w1 ⟨rfl,hb1⟩
 have HB1:=aZ (HB0.out.trans (hb1.mono HB0.out.size))
 have HP1:=aZ (HP0.out.below hb1)
 have HR1:=aZ (HR0.out.below hb1)
 clear hb1 hW0 HE1 HP0 HR0 p0 p1 p2 p3
 go_upto_region 2 with(fail)
 obtain⟨w2,hw2⟩:∃w2,w2=w1.alloc (.cells #[.int .i64 0,.int .i64 0,.int .i64 0] 60):=⟨_,rfl⟩
 have hb2:Below w1.heap.size w1 w2:=by rw[hw2];exact(Below.refl _ w1).alloc (Nat.le_refl _) _
 rw[<-hw2]
 have HB2:=aZ (HB1.out.trans (hb2.mono HB1.out.size))
 have HR2:=aZ (HR1.out.below hb2)
 clear hw2 hb2 HB1 HP1 HR1
 obtain⟨⟨r0,r1,r2⟩,hz,hlb⟩:=HR2.out
 have hz0:=hz 0 (by omega)
 have hz1:=hz 1 (by omega)
 have hz2:=hz 2 (by omega)
 clear hz hlb
 have HBF:=aZ (below_three HB2.out (b:=w.heap.size+1) (by omega) (.int .i64 0) (.int .i64 0) (.int .i64 0))
 have HTF:=aZ (tri_set HR2.out.t 0 0 0)
 clear HB2 HR2
 go_wp2
 obtain⟨u0,u1,u2⟩:=HTF.out
 exact bodyPost_ret (v:=.tuple #[.int .i64 0,rgV 0 0 0,.int .i64 E]) (by simp[results,Try.results39,go_sem,u0,u1,u2]) rfl ⟨rfl,HBF.out⟩
theorem run_zero19{kind n r:Int}{q:Fo}{l s:Int}(h:runE kind n r q l s=0):checkE kind n r q n=0/\l=n/\(s=1\/s=-1):=by
 unfold runE at h
 by_cases h1:checkE kind n r q n≠0
 ·rw[if_pos h1] at h;exact absurd h h1
 rw[if_neg h1] at h
 by_cases h2:l≠n
 ·rw[if_pos h2] at h;exact absurd h (by decide)
 rw[if_neg h2] at h
 by_cases h3:s≠1/\s≠-1
 ·rw[if_pos h3] at h;exact absurd h (by decide)
 exact⟨Decidable.not_not.1 h1,Decidable.not_not.1 h2,by omega⟩
theorem nullR:Rng (λ_=>0):=λi=>⟨(by decide:(-9223372036854775808:Int)<=0),(by decide:(0:Int)<=9223372036854775807)⟩
theorem Exact_ref(k n r:Int)(q:Fo)(s:Int)(hc:q.count<=549755813888)(m:Nat)(hm:m<70)(hne:may19 k n r q m s≠0)(hbig:¬((ordR k n r q).2=0/\4294967296<(ordR k n r q).1))(w:World)(B:Option Addr)(c:Nat)(hk:Kids w B 0 q)(A:Option Addr)(cm:Nat)(hI:IntsAt w A m (λ_=>0)):
  Calls Try.prog 32 #[plV k n r B q.len c,.slice A m cm,.int .i64 s] w λz w'=>z=.returned (.tuple #[.slice none 0 0,rgV 0 0 0,.int .i64 (may19 k n r q m s)])/\Below w.heap.size w w':=by
 unfold may19 at hne|-
 obtain⟨⟨o,e⟩,hO⟩:∃R,ordR k n r q=R:=⟨_,rfl⟩
 rw[hO] at hne hbig|-
 dsimp only at hne hbig|-
 by_cases he:e=0
 ·subst he
  rw[if_neg (by decide)] at hne|-
  exact Exact_weak k n r q s hc o (order_cand hO (by omega)) hO m (by omega) hne w B c hk A cm _ hI nullR
 ·rw[if_pos he] at hne|-
  exact Exact_ord k n r q s hc o e hO he m w B c hk A cm
theorem Parseval_ref(k n r:Int)(q:Fo)(hc:q.count<=549755813888)(m:Nat)(hm:m<70)(hbig:¬((ordR k n r q).2=0/\4294967296<(ordR k n r q).1))(w:World)(B:Option Addr)(c:Nat)(hk:Kids w B 0 q)(A1 A2:Option Addr)(c1 c2:Nat)(hI1:IntsAt w A1 m (λ_=>0))(hI2:IntsAt w A2 (m+1) (λ_=>0)):
  Calls Try.prog 39 #[plV k n r B q.len c,.slice A1 m c1,.slice A2 (m+1) c2] w λz w'=>(∃h,z=.returned (.tuple #[.int .i64 0,rgV 0 0 0,.int .i64 h])/\(may19 k n r q m 1≠0->h=may19 k n r q m 1))/\Below w.heap.size w w':=by
 by_cases h0:may19 k n r q m 1=0
 ·unfold may19 at h0
  obtain⟨⟨o,e⟩,hO⟩:∃R,ordR k n r q=R:=⟨_,rfl⟩
  rw[hO] at h0 hbig
  dsimp only at h0 hbig
  by_cases he:e=0
  ·subst he
   rw[if_neg (by decide)] at h0
   obtain⟨h1,h2,-⟩:=run_zero19 h0
   subst h2
   obtain⟨Q,F⟩:=one_field (n:=m) (by omega) (ord_in (by omega) hO) (by omega)
   refine(Parseval_no k m r q hc o Q F hO (by omega) w B c hk A1 A2 c1 (m+1) c2 (by omega) ?_ _ _ hI1 hI2 nullR nullR).mono ?_
   ·unfold runE
    rw[if_neg (by rw[h1];decide),if_pos (by omega)]
    decide
   ·rintro z w' ⟨rfl,hb⟩
    refine⟨⟨_,rfl,λh=>absurd ?_ h⟩,hb⟩
    unfold may19
    rw[hO]
    exact h0
  ·rw[if_pos he] at h0;exact absurd h0 he
 ·refine(Parseval_bad k n r q _ h0 w B c hk A1 A2 m c1 (m+1) c2 _ hI1 (λw hk hI=>Exact_ref k n r q 1 hc m hm h0 hbig w B c hk A1 c1 hI)).mono ?_
  rintro z w' ⟨rfl,hb⟩
  exact⟨⟨_,rfl,λ_=>rfl⟩,hb⟩
end Go.Proofs.Yteaimnemobnknaa
