/- The walk of ModelRefuses. -/
import Derived.Test.YteaimnemobnknaaX0
import Derived.Test.YteaimnemobnknaaMN6
import Derived.Test.YteaimnemobnknaaE8L19
import Derived.Test.YteaimnemobnknaaMM1
import Derived.Test.YteaimnemobnknaaZ2
import Derived.Test.YteaimnemobnknaaZ3
set_option maxRecDepth 100000
set_option maxHeartbeats 8000000
set_option linter.unusedSimpArgs false
set_option linter.unusedVariables false
namespace Go.Proofs.Yteaimnemobnknaa
open Go.RowKit Go.Lib
section
variable {P : Program} {md : Region.Mode} {ops : Array Oper} {Q : Exit -> Act -> World -> Prop} {S : World -> Prop} {t : Nat}
def trioOk(md:Region.Mode)(ops:Array Oper)(listed:Array Bool)(i j k:Nat):Bool:=Region.ready md ops listed==[i,j,k]
theorem wpAnyS_trio{i j k:Nat}{oi oj ok:Oper}{fuel:Nat}{listed:Array Bool}{a:Act}{w:World}(hr:trioOk md ops listed i j k=true)(hi:ops[i]?=some oi)(hj:ops[j]?=some oj)(hk:ops[k]?=some ok)(gi:oi.guard=none)(gj:oj.guard=none)(gk:ok.guard=none)(h1:∀K:Act->World->Prop,Hid (∀a' w',(i<t->S w')->wpAnyS P md ops Q S t fuel (listed.setIfInBounds i true) a' w'->K a' w')->Oper.wp P oi a w K Q)(h2:∀K:Act->World->Prop,Hid (∀a' w',(j<t->S w')->wpAnyS P md ops Q S t fuel (listed.setIfInBounds j true) a' w'->K a' w')->Oper.wp P oj a w K Q)(h3:∀K:Act->World->Prop,Hid (∀a' w',(k<t->S w')->wpAnyS P md ops Q S t fuel (listed.setIfInBounds k true) a' w'->K a' w')->Oper.wp P ok a w K Q):wpAnyS P md ops Q S t (fuel+1) listed a w:=by
 unfold trioOk at hr
 rw[beq_iff_eq] at hr
 refine⟨λh0=>(by rw[hr] at h0;cases h0),λx hx=>?_⟩
 rw[hr] at hx
 have key:∀x ox,ops[x]?=some ox->ox.guard=none->(∀K:Act->World->Prop,Hid (∀a' w',(x<t->S w')->wpAnyS P md ops Q S t fuel (listed.setIfInBounds x true) a' w'->K a' w')->Oper.wp P ox a w K Q)->
   wpOp P ops Q x (λa' w'=>(x<t->S w')/\wpAnyS P md ops Q S t fuel (listed.setIfInBounds x true) a' w') a w:=λx ox hx gx h=>by
  unfold wpOp
  rw[hx]
  have hwt:Region.wanted ox (yielded ops a.tmps)=true:=by unfold Region.wanted;rw[gx]
  simp only[hwt,if_true]
  exact .inl (h _ (aZ λa' w' h1 h2=>⟨h1,h2⟩))
 rcases List.mem_cons.1 hx with rfl|hx
 ·exact key _ _ hi gi h1
 ·rcases List.mem_cons.1 hx with rfl|hx
  ·exact key _ _ hj gj h2
  ·obtain rfl:=List.mem_singleton.1 hx
   exact key _ _ hk gk h3
end
theorem MRefuses_any(Al:Option Addr)(nl cl:Nat)(f:Nat->Nat->Int)(a0:Int)(b0:-9223372036854775808<=a0)(b1:a0<=9223372036854775807)(s:Int)(d0:-9223372036854775808<=s)(d1:s<=9223372036854775807)(w:World)(hN:NodesAt w Al nl f)(hnl:nl<=1125899906842624):
  Calls Try.prog 9 #[.slice Al nl cl,.int .i64 a0,.int .i64 s] w (Ret w (.bool true)):=by
 have HBU:=aZ (build19 Al nl cl f w hN hnl)
 clear hN
 go_enter Try.func9,Try.ntmps9
 go_wp2_with fail
 refine HBU.out.mono ?_
 rintro z w1 ⟨k,n,r,q,B,c,B',c',rfl,hq,hk1,hk2,hb⟩
 have HQ:=aZ hq
 have KK1:=aZ hk1
 have KL1:=aZ hk2
 have BB1:=aZ hb
 clear hq hk1 hk2 hb HBU
 go_upto_region 2 with(fail)
 obtain⟨w2,hw2⟩:∃w2,w2=(w1.alloc (.cells #[.int .i64 k,.int .i64 n,.int .i64 r,.slice B q.len c] 26)).alloc (.cells #[.int .i64 k,.int .i64 n,.int .i64 r,.slice B' q.len c'] 29):=⟨_,rfl⟩
 have hb2:Below w1.heap.size w1 w2:=by rw[hw2];exact((Below.refl _ w1).alloc (Nat.le_refl _) _).alloc (by simp) _
 have hp2:PlBox w2 w1.heap.size k n r B q.len c:=by
  rw[hw2]
  exact(PlBox.new w1 _ _ _ _ _ _ _).below ((Below.refl _ _).alloc (Nat.le_refl _) _)
 have hq2:PlBox w2 (w1.heap.size+1) k n r B' q.len c':=by
  rw[hw2]
  have:=PlBox.new (w1.alloc (.cells #[.int .i64 k,.int .i64 n,.int .i64 r,.slice B q.len c] 26)) k n r B' q.len c' 29
  simp only[World.size_alloc] at this
  exact this
 rw[<-hw2]
 obtain⟨bP,hbP⟩:∃bP,w1.heap.size=bP:=⟨_,rfl⟩
 rw[hbP] at hp2 hq2|-
 have PP2:=aZ hp2
 have PL2:=aZ hq2
 have KK2:=aZ (KK1.out.below hb2)
 have KL2:=aZ (KL1.out.below hb2)
 have BB2:Hid (Below w.heap.size w w2):=aZ (BB1.out.trans (hb2.mono BB1.out.size))
 clear hw2 hb2 hp2 hq2 hbP KK1 KL1 BB1
 go_cut [1] from 24 to 26 (λs1 wx=>∃m:Nat,m<70/\s1=.int .i64 m/\w2=wx)
 case first=>
  have h0:=Int.emod_nonneg a0 (show(70:Int)≠0 by omega)
  have h1:=Int.emod_lt_of_pos a0 (show(0:Int)<70 by omega)
  by_cases hneg:a0<=0
  ·go_wp2_with fail
   go_meet
   exact⟨0,by omega,rfl,rfl⟩
  ·have ht:a0.tmod 70=a0%70:=Int.tmod_eq_emod_of_nonneg (by omega)
   obtain⟨x,hx⟩:∃x,a0%70=x:=⟨_,rfl⟩
   rw[hx] at h0 h1 ht
   clear hx
   go_wp2_with fail
   go_meet
   exact⟨x.toNat,by omega,by rw[Int.toNat_of_nonneg (by omega)],rfl⟩
 case rest=>
 obtain⟨m,hm,rfl,rfl⟩:=hcut
 apply_assumption
 have HMY:=aZ (May19_any k n r q m s HQ.out w2 B' c' KL2.out)
 obtain⟨E,hE⟩:∃E,may19 k n r q m s=E:=⟨_,rfl⟩
 rw[hE] at HMY
 have HEE:=aZ hE
 obtain⟨l0,l1,l2,l3⟩:=PL2.out
 clear hE
 go_wp2_with fail
 refine HMY.out.mono ?_
 rintro z w3 ⟨rfl,hb⟩
 have PP3:=aZ (PP2.out.below hb)
 have PL3:=aZ (PL2.out.below hb)
 have KK3:=aZ (KK2.out.below hb)
 have KL3:=aZ (KL2.out.below hb)
 have BB3:Hid (Below w.heap.size w w3):=aZ (BB2.out.trans (hb.mono BB2.out.size))
 have HWK:=aZ (λw=>wakes19 w)
 clear hb PP2 PL2 KK2 KL2 BB2 HMY l0 l1 l2 l3
 go_wp2_with fail
 refine(HWK.out _).mono ?_
 rintro z w4 ⟨rfl,hb⟩
 have PP4:=aZ (PP3.out.below hb)
 have PL4:=aZ (PL3.out.below hb)
 have KK4:=aZ (KK3.out.below hb)
 have KL4:=aZ (KL3.out.below hb)
 have BB4:Hid (Below w.heap.size w w4):=aZ (BB3.out.trans (hb.mono BB3.out.size))
 clear hb PP3 PL3 KK3 KL3 BB3
 by_cases hE0:E=0
 ·subst hE0
  go_wp2_with fail
  refine(HWK.out _).mono ?_
  rintro z w5 ⟨rfl,hb⟩
  have BB5:Hid (Below w.heap.size w w5):=aZ (BB4.out.trans (hb.mono BB4.out.size))
  clear hb
  go_wp2
  go_ret
  exact⟨rfl,BB5.out⟩
 have hEb:(E==0)=false:=by simpa using hE0
 have HE0:=aZ hE0
 obtain⟨⟨o,e⟩,hO⟩:∃R,ordR k n r q=R:=⟨_,rfl⟩
 have HOO:=aZ hO
 have HRO:=aZ (ROrder_any k n r q HQ.out w4 B' c' KL4.out)
 rw[hO] at HRO
 obtain⟨l0,l1,l2,l3⟩:=PL4.out
 clear hO hE0
 go_wp2_with fail
 refine HRO.out.mono ?_
 rintro z w5 ⟨rfl,hb⟩
 have PP5:=aZ (PP4.out.below hb)
 have PL5:=aZ (PL4.out.below hb)
 have KK5:=aZ (KK4.out.below hb)
 have KL5:=aZ (KL4.out.below hb)
 have BB5:Hid (Below w.heap.size w w5):=aZ (BB4.out.trans (hb.mono BB4.out.size))
 clear hb PP4 PL4 KK4 KL4 BB4 HRO l0 l1 l2 l3
 have HBIG:Hid ((e=0/\4294967296<o)\/¬(e=0/\4294967296<o)):=aZ (Classical.em _)
 rcases HBIG.out with⟨rfl,hob⟩|hnb
 ·have hog:(4294967296:Int)<(o:Int):=by omega
  clear HBIG hob
  go_wp2_with fail
  go_ret
  exact⟨rfl,BB5.out⟩
 have HNB:Hid (¬((ordR k n r q).2=0/\4294967296<(ordR k n r q).1)):=aZ (by rw[HOO.out];exact hnb)
 have hmk:=mk_int64 m (by omega)
 have HEX:Hid (∀(y:World) (X:Option Addr),Below w5.heap.size w5 y->IntsAt y X m (λ_=>0)->Calls Try.prog 32 #[plV k n r B q.len c,.slice X m m,.int .i64 s] y λz w'=>z=.returned (.tuple #[.slice none 0 0,rgV 0 0 0,.int .i64 E])/\Below y.heap.size y w'):=aZ (λy X hb hI=>by
  have:=Exact_ref k n r q s HQ.out m (by omega) (by rw[HEE.out];exact HE0.out) HNB.out y B c (KK5.out.below hb) X m hI
  rwa [HEE.out] at this)
 go_upto_region 7 with(fail)
 go_cut [48] from 43 to 48 (λs48 wx=>s48=.bool false/\w5=wx)
 case first=>
  by_cases he:e=0
  ·have heb:(e==0)=true:=by simpa using he
   have hog:¬(4294967296:Int)<(o:Int):=by omega
   clear he
   go_wp2_with fail
   go_meet
   exact⟨rfl,rfl⟩
  ·have heb:(e==0)=false:=by simpa using he
   go_wp2_with fail
   go_meet
   exact⟨rfl,rfl⟩
 case rest=>
 obtain⟨rfl,rfl⟩:=hcut
 rename World=>w5
 apply_assumption
 clear hnb HBIG
 go_upto_region 9 with(fail)
 go_cut [12,13,14] from 49 to 57 (λs12 s13 s14 wx=>∃b,s12=.slice none 0 0/\s13=.pointer (some ⟨b,0,none⟩)/\s14=.int .i64 E/\Hid (Tri wx b 0 0 0)/\Hid (Below w5.heap.size w5 wx))
 case first=>
  refine wp_region_S (λw'=>w'.cell? ⟨bP,0,none⟩=some (.int .i64 k)/\w'.cell? ⟨bP,1,none⟩=some (.int .i64 n)/\w'.cell? ⟨bP,2,none⟩=some (.int .i64 r)/\w'.cell? ⟨bP,3,none⟩=some (.slice B q.len c)) 12 (by kernel_rfl) ?_
  obtain⟨q0,q1,q2,q3⟩:=PP5.out
  have hSy0:=(⟨q0,q1,q2,q3⟩:(λw'=>w'.cell? ⟨bP,0,none⟩=some (.int .i64 k)/\w'.cell? ⟨bP,1,none⟩=some (.int .i64 n)/\w'.cell? ⟨bP,2,none⟩=some (.int .i64 r)/\w'.cell? ⟨bP,3,none⟩=some (.slice B q.len c)) w5.drew)
  have HWy0:Hid (Below w5.heap.size w5 w5.drew):=aZ (Below.refl _ w5).drew
  clear q0 q1 q2 q3
  generalize w5.drew=y0 at*
  refine Takes.intro [0,1,3] ?_
  repeat(refine Takes.go (v:=?_) hSy0 ?_;try simp only[nrm,Act.put])
  refine Takes.nil ?_
  refine wpAnyS_pair (i:=2) (j:=9) (by kernel_rfl) rfl rfl rfl rfl (λK hK=>?_) (λK hK=>?_)
  ·go_simp
   obtain⟨y1,hwx⟩:∃y,y=y0.alloc (.cells (zs m) 2):=⟨_,rfl⟩
   have hcc:Below y0.heap.size y0 y1:=by rw[hwx];exact(Below.refl _ y0).alloc (Nat.le_refl _) _
   have hz:=zs_row m y0 2
   rw[<-hwx] at hz|-
   obtain⟨bX,hbx⟩:∃b,y0.heap.size=b:=⟨_,rfl⟩
   rw[hbx] at hz|-
   have HZX:=aZ hz.ints
   clear hz hbx hwx
   have hSy1:(λw'=>w'.cell? ⟨bP,0,none⟩=some (.int .i64 k)/\w'.cell? ⟨bP,1,none⟩=some (.int .i64 n)/\w'.cell? ⟨bP,2,none⟩=some (.int .i64 r)/\w'.cell? ⟨bP,3,none⟩=some (.slice B q.len c)) y1:=⟨keep_cell hcc hSy0.1,keep_cell hcc hSy0.2.1,keep_cell hcc hSy0.2.2.1,keep_cell hcc hSy0.2.2.2⟩
   have HWy1:=aZ (HWy0.out.trans (hcc.mono HWy0.out.size))
   clear hcc
   refine hK.out _ _ (λ_=>hSy1) ?_
   clear hK K
   try simp only[nrm,Act.put]
   refine wpAnyS_pair (i:=4) (j:=9) (by kernel_rfl) rfl rfl rfl rfl (λK hK=>?_) (λK hK=>?_)
   ·go_simp
    refine(HEX.out y1 (some ⟨bX,0,none⟩) HWy1.out HZX.out).mono ?_
    rintro z y2 ⟨rfl,hcc⟩
    have hSy2:(λw'=>w'.cell? ⟨bP,0,none⟩=some (.int .i64 k)/\w'.cell? ⟨bP,1,none⟩=some (.int .i64 n)/\w'.cell? ⟨bP,2,none⟩=some (.int .i64 r)/\w'.cell? ⟨bP,3,none⟩=some (.slice B q.len c)) y2:=⟨keep_cell hcc hSy1.1,keep_cell hcc hSy1.2.1,keep_cell hcc hSy1.2.2.1,keep_cell hcc hSy1.2.2.2⟩
    have HWy2:=aZ (HWy1.out.trans (hcc.mono HWy1.out.size))
    replace HZX:=aZ (HZX.out.keep hcc)
    clear hcc
    refine hK.out _ _ (λ_=>hSy2) ?_
    clear hK K
    try simp only[nrm,Act.put]
    refine Takes.intro [5,6,7,8] ?_
    repeat(refine Takes.go (v:=?_) hSy2 ?_;try simp only[nrm,Act.put])
    refine Takes.nil ?_
    refine wpAnyS_1 9 (λK hK=>?_)
    go_simp
    obtain⟨y3,hwx⟩:∃y,y=y2.alloc (.cells #[.int .i64 0,.int .i64 0,.int .i64 0] 60):=⟨_,rfl⟩
    have hcc:Below y2.heap.size y2 y3:=by rw[hwx];exact(Below.refl _ y2).alloc (Nat.le_refl _) _
    have hrb:=RB.new y2 60
    rw[<-hwx] at hrb|-
    have HLG:Hid (w5.heap.size<=y2.heap.size):=aZ HWy2.out.size
    obtain⟨bG,hbx⟩:∃b,y2.heap.size=b:=⟨_,rfl⟩
    rw[hbx] at hrb HLG|-
    have HRB:=aZ hrb
    clear hrb hbx hwx
    have hSy3:(λw'=>w'.cell? ⟨bP,0,none⟩=some (.int .i64 k)/\w'.cell? ⟨bP,1,none⟩=some (.int .i64 n)/\w'.cell? ⟨bP,2,none⟩=some (.int .i64 r)/\w'.cell? ⟨bP,3,none⟩=some (.slice B q.len c)) y3:=⟨keep_cell hcc hSy2.1,keep_cell hcc hSy2.2.1,keep_cell hcc hSy2.2.2.1,keep_cell hcc hSy2.2.2.2⟩
    have HWy3:=aZ (HWy2.out.trans (hcc.mono HWy2.out.size))
    replace HZX:=aZ (HZX.out.keep hcc)
    clear hcc
    refine hK.out _ _ (λ_=>hSy3) ?_
    clear hK K
    try simp only[nrm,Act.put]
    refine Takes.intro [10] ?_
    repeat(refine Takes.go (v:=?_) hSy3 ?_;try simp only[nrm,Act.put])
    refine Takes.nil ?_
    refine wpAnyS_1 11 (λK hK=>?_)
    obtain⟨⟨r0,r1,r2⟩,hz,hlb⟩:=HRB.out
    have hz0:=hz 0 (by omega)
    have hz1:=hz 1 (by omega)
    have hz2:=hz 2 (by omega)
    clear hz hlb
    go_simp
    have HWF:=aZ (below_three HWy3.out (b:=bG) HLG.out (.int .i64 0) (.int .i64 0) (.int .i64 0))
    have HTF:=aZ (tri_set HRB.out.t 0 0 0)
    obtain⟨q0,q1,q2,q3⟩:=PP5.out.below HWF.out
    refine hK.out _ _ (λ_=>(⟨q0,q1,q2,q3⟩:(λw':World=>w'.cell? ⟨bP,0,none⟩=some (.int .i64 k)/\w'.cell? ⟨bP,1,none⟩=some (.int .i64 n)/\w'.cell? ⟨bP,2,none⟩=some (.int .i64 r)/\w'.cell? ⟨bP,3,none⟩=some (.slice B q.len c)) _)) ?_
    clear hK K
    try simp only[nrm,Act.put]
    refine wpAnyS_fin 1 12 ?_
    simp only[nrd]
    clear hSy3 q0 q1 q2 q3 r0 r1 r2 hz0 hz1 hz2
    go_wp2
    go_meet
    exact⟨bG,rfl,rfl,rfl,HTF,HWF⟩
   ·go_simp
    obtain⟨y4,hwx⟩:∃y,y=y1.alloc (.cells #[.int .i64 0,.int .i64 0,.int .i64 0] 60):=⟨_,rfl⟩
    have hcc:Below y1.heap.size y1 y4:=by rw[hwx];exact(Below.refl _ y1).alloc (Nat.le_refl _) _
    have hrb:=RB.new y1 60
    rw[<-hwx] at hrb|-
    have HLG:Hid (w5.heap.size<=y1.heap.size):=aZ HWy1.out.size
    obtain⟨bG,hbx⟩:∃b,y1.heap.size=b:=⟨_,rfl⟩
    rw[hbx] at hrb HLG|-
    have HRB:=aZ hrb
    clear hrb hbx hwx
    have hSy4:(λw'=>w'.cell? ⟨bP,0,none⟩=some (.int .i64 k)/\w'.cell? ⟨bP,1,none⟩=some (.int .i64 n)/\w'.cell? ⟨bP,2,none⟩=some (.int .i64 r)/\w'.cell? ⟨bP,3,none⟩=some (.slice B q.len c)) y4:=⟨keep_cell hcc hSy1.1,keep_cell hcc hSy1.2.1,keep_cell hcc hSy1.2.2.1,keep_cell hcc hSy1.2.2.2⟩
    have HWy4:=aZ (HWy1.out.trans (hcc.mono HWy1.out.size))
    replace HZX:=aZ (HZX.out.keep hcc)
    clear hcc
    refine hK.out _ _ (λ_=>hSy4) ?_
    clear hK K
    try simp only[nrm,Act.put]
    refine wpAnyS_1 4 (λK hK=>?_)
    go_simp
    refine(HEX.out y4 (some ⟨bX,0,none⟩) HWy4.out HZX.out).mono ?_
    rintro z y5 ⟨rfl,hcc⟩
    have hSy5:(λw'=>w'.cell? ⟨bP,0,none⟩=some (.int .i64 k)/\w'.cell? ⟨bP,1,none⟩=some (.int .i64 n)/\w'.cell? ⟨bP,2,none⟩=some (.int .i64 r)/\w'.cell? ⟨bP,3,none⟩=some (.slice B q.len c)) y5:=⟨keep_cell hcc hSy4.1,keep_cell hcc hSy4.2.1,keep_cell hcc hSy4.2.2.1,keep_cell hcc hSy4.2.2.2⟩
    have HWy5:=aZ (HWy4.out.trans (hcc.mono HWy4.out.size))
    replace HZX:=aZ (HZX.out.keep hcc)
    replace HRB:=aZ (HRB.out.below hcc)
    clear hcc
    refine hK.out _ _ (λ_=>hSy5) ?_
    clear hK K
    try simp only[nrm,Act.put]
    refine Takes.intro [5,6,7,8] ?_
    repeat(refine Takes.go (v:=?_) hSy5 ?_;try simp only[nrm,Act.put])
    refine Takes.nil ?_
    refine Takes.intro [10] ?_
    repeat(refine Takes.go (v:=?_) hSy5 ?_;try simp only[nrm,Act.put])
    refine Takes.nil ?_
    refine wpAnyS_1 11 (λK hK=>?_)
    obtain⟨⟨r0,r1,r2⟩,hz,hlb⟩:=HRB.out
    have hz0:=hz 0 (by omega)
    have hz1:=hz 1 (by omega)
    have hz2:=hz 2 (by omega)
    clear hz hlb
    go_simp
    have HWF:=aZ (below_three HWy5.out (b:=bG) HLG.out (.int .i64 0) (.int .i64 0) (.int .i64 0))
    have HTF:=aZ (tri_set HRB.out.t 0 0 0)
    obtain⟨q0,q1,q2,q3⟩:=PP5.out.below HWF.out
    refine hK.out _ _ (λ_=>(⟨q0,q1,q2,q3⟩:(λw':World=>w'.cell? ⟨bP,0,none⟩=some (.int .i64 k)/\w'.cell? ⟨bP,1,none⟩=some (.int .i64 n)/\w'.cell? ⟨bP,2,none⟩=some (.int .i64 r)/\w'.cell? ⟨bP,3,none⟩=some (.slice B q.len c)) _)) ?_
    clear hK K
    try simp only[nrm,Act.put]
    refine wpAnyS_fin 1 12 ?_
    simp only[nrd]
    clear hSy5 q0 q1 q2 q3 r0 r1 r2 hz0 hz1 hz2
    go_wp2
    go_meet
    exact⟨bG,rfl,rfl,rfl,HTF,HWF⟩
  ·go_simp
   obtain⟨y6,hwx⟩:∃y,y=y0.alloc (.cells #[.int .i64 0,.int .i64 0,.int .i64 0] 60):=⟨_,rfl⟩
   have hcc:Below y0.heap.size y0 y6:=by rw[hwx];exact(Below.refl _ y0).alloc (Nat.le_refl _) _
   have hrb:=RB.new y0 60
   rw[<-hwx] at hrb|-
   have HLG:Hid (w5.heap.size<=y0.heap.size):=aZ HWy0.out.size
   obtain⟨bG,hbx⟩:∃b,y0.heap.size=b:=⟨_,rfl⟩
   rw[hbx] at hrb HLG|-
   have HRB:=aZ hrb
   clear hrb hbx hwx
   have hSy6:(λw'=>w'.cell? ⟨bP,0,none⟩=some (.int .i64 k)/\w'.cell? ⟨bP,1,none⟩=some (.int .i64 n)/\w'.cell? ⟨bP,2,none⟩=some (.int .i64 r)/\w'.cell? ⟨bP,3,none⟩=some (.slice B q.len c)) y6:=⟨keep_cell hcc hSy0.1,keep_cell hcc hSy0.2.1,keep_cell hcc hSy0.2.2.1,keep_cell hcc hSy0.2.2.2⟩
   have HWy6:=aZ (HWy0.out.trans (hcc.mono HWy0.out.size))
   clear hcc
   refine hK.out _ _ (λ_=>hSy6) ?_
   clear hK K
   try simp only[nrm,Act.put]
   refine wpAnyS_1 2 (λK hK=>?_)
   go_simp
   obtain⟨y7,hwx⟩:∃y,y=y6.alloc (.cells (zs m) 2):=⟨_,rfl⟩
   have hcc:Below y6.heap.size y6 y7:=by rw[hwx];exact(Below.refl _ y6).alloc (Nat.le_refl _) _
   have hz:=zs_row m y6 2
   rw[<-hwx] at hz|-
   obtain⟨bX,hbx⟩:∃b,y6.heap.size=b:=⟨_,rfl⟩
   rw[hbx] at hz|-
   have HZX:=aZ hz.ints
   clear hz hbx hwx
   have hSy7:(λw'=>w'.cell? ⟨bP,0,none⟩=some (.int .i64 k)/\w'.cell? ⟨bP,1,none⟩=some (.int .i64 n)/\w'.cell? ⟨bP,2,none⟩=some (.int .i64 r)/\w'.cell? ⟨bP,3,none⟩=some (.slice B q.len c)) y7:=⟨keep_cell hcc hSy6.1,keep_cell hcc hSy6.2.1,keep_cell hcc hSy6.2.2.1,keep_cell hcc hSy6.2.2.2⟩
   have HWy7:=aZ (HWy6.out.trans (hcc.mono HWy6.out.size))
   replace HRB:=aZ (HRB.out.below hcc)
   clear hcc
   refine hK.out _ _ (λ_=>hSy7) ?_
   clear hK K
   try simp only[nrm,Act.put]
   refine wpAnyS_1 4 (λK hK=>?_)
   go_simp
   refine(HEX.out y7 (some ⟨bX,0,none⟩) HWy7.out HZX.out).mono ?_
   rintro z y8 ⟨rfl,hcc⟩
   have hSy8:(λw'=>w'.cell? ⟨bP,0,none⟩=some (.int .i64 k)/\w'.cell? ⟨bP,1,none⟩=some (.int .i64 n)/\w'.cell? ⟨bP,2,none⟩=some (.int .i64 r)/\w'.cell? ⟨bP,3,none⟩=some (.slice B q.len c)) y8:=⟨keep_cell hcc hSy7.1,keep_cell hcc hSy7.2.1,keep_cell hcc hSy7.2.2.1,keep_cell hcc hSy7.2.2.2⟩
   have HWy8:=aZ (HWy7.out.trans (hcc.mono HWy7.out.size))
   replace HZX:=aZ (HZX.out.keep hcc)
   replace HRB:=aZ (HRB.out.below hcc)
   clear hcc
   refine hK.out _ _ (λ_=>hSy8) ?_
   clear hK K
   try simp only[nrm,Act.put]
   refine Takes.intro [5,6,7,8] ?_
   repeat(refine Takes.go (v:=?_) hSy8 ?_;try simp only[nrm,Act.put])
   refine Takes.nil ?_
   refine Takes.intro [10] ?_
   repeat(refine Takes.go (v:=?_) hSy8 ?_;try simp only[nrm,Act.put])
   refine Takes.nil ?_
   refine wpAnyS_1 11 (λK hK=>?_)
   obtain⟨⟨r0,r1,r2⟩,hz,hlb⟩:=HRB.out
   have hz0:=hz 0 (by omega)
   have hz1:=hz 1 (by omega)
   have hz2:=hz 2 (by omega)
   clear hz hlb
   go_simp
   have HWF:=aZ (below_three HWy8.out (b:=bG) HLG.out (.int .i64 0) (.int .i64 0) (.int .i64 0))
   have HTF:=aZ (tri_set HRB.out.t 0 0 0)
   obtain⟨q0,q1,q2,q3⟩:=PP5.out.below HWF.out
   refine hK.out _ _ (λ_=>(⟨q0,q1,q2,q3⟩:(λw':World=>w'.cell? ⟨bP,0,none⟩=some (.int .i64 k)/\w'.cell? ⟨bP,1,none⟩=some (.int .i64 n)/\w'.cell? ⟨bP,2,none⟩=some (.int .i64 r)/\w'.cell? ⟨bP,3,none⟩=some (.slice B q.len c)) _)) ?_
   clear hK K
   try simp only[nrm,Act.put]
   refine wpAnyS_fin 1 12 ?_
   simp only[nrd]
   clear hSy8 q0 q1 q2 q3 r0 r1 r2 hz0 hz1 hz2
   go_wp2
   go_meet
   exact⟨bG,rfl,rfl,rfl,HTF,HWF⟩
 case rest=>
 obtain⟨bF,rfl,rfl,rfl,hT,hb⟩:=hcut
 rename World=>w7
 apply_assumption
 have PP7:=aZ (PP5.out.below hb.out)
 have PL7:=aZ (PL5.out.below hb.out)
 have KK7:=aZ (KK5.out.below hb.out)
 have KL7:=aZ (KL5.out.below hb.out)
 have BB7:Hid (Below w.heap.size w w7):=aZ (BB5.out.trans (hb.out.mono BB5.out.size))
 obtain⟨t0,t1,t2⟩:=hT.out
 obtain⟨E1,hE1⟩:∃E1,may19 k n r q m 1=E1:=⟨_,rfl⟩
 have HE1:=aZ hE1
 have HPV:Hid (∀(y:World) (X Y:Option Addr),Below w7.heap.size w7 y->IntsAt y X m (λ_=>0)->IntsAt y Y (m+1) (λ_=>0)->Calls Try.prog 39 #[plV k n r B q.len c,.slice X m m,.slice Y (m+1) (m+1)] y λz w'=>(∃h,z=.returned (.tuple #[.int .i64 0,rgV 0 0 0,.int .i64 h])/\(E1≠0->h=E1))/\Below y.heap.size y w'):=aZ (λy X Y hb hX hY=>by
  have:=Parseval_ref k n r q HQ.out m (by omega) HNB.out y B c (KK7.out.below hb) X Y m (m+1) hX hY
  rwa [HE1.out] at this)
 obtain⟨m2,hm2⟩:∃m2,m2=m+1:=⟨_,rfl⟩
 rw[<-hm2] at HPV
 have hmk1:=mk_int64 m2 (by omega)
 have hw1:IntKind.i64.wrap ((m:Int)+1)=(m2:Int):=by
  rw[IntKind.wrap_i64,hm2]
  omega
 have hw2:wrap64 ((m:Int)+1)=(m2:Int):=by
  rw[hm2]
  unfold wrap64
  omega
 clear hm2
 clear hb hT PP5 PL5 KK5 KL5 BB5 hE1 HEX HOO HNB HE0
 go_upto_region 12 with(fail)
 clear t0 t1 t2
 go_cut [15,16,17] from 71 to 81 (λs15 s16 s17 wx=>∃b h,s15=.int .i64 0/\s16=.pointer (some ⟨b,0,none⟩)/\s17=.int .i64 h/\Hid (E1≠0->h=E1)/\Hid (Tri wx b 0 0 0)/\Hid (Below w7.heap.size w7 wx))
 case first=>
  refine wp_region_S (λw'=>w'.cell? ⟨bP,0,none⟩=some (.int .i64 k)/\w'.cell? ⟨bP,1,none⟩=some (.int .i64 n)/\w'.cell? ⟨bP,2,none⟩=some (.int .i64 r)/\w'.cell? ⟨bP,3,none⟩=some (.slice B q.len c)) 14 (by kernel_rfl) ?_
  obtain⟨q0,q1,q2,q3⟩:=PP7.out
  have hSy0:=(⟨q0,q1,q2,q3⟩:(λw'=>w'.cell? ⟨bP,0,none⟩=some (.int .i64 k)/\w'.cell? ⟨bP,1,none⟩=some (.int .i64 n)/\w'.cell? ⟨bP,2,none⟩=some (.int .i64 r)/\w'.cell? ⟨bP,3,none⟩=some (.slice B q.len c)) w7.drew)
  have HWy0:Hid (Below w7.heap.size w7 w7.drew):=aZ (Below.refl _ w7).drew
  clear q0 q1 q2 q3
  generalize w7.drew=y0 at*
  refine Takes.intro [0,1,3,4] ?_
  repeat(refine Takes.go (v:=?_) hSy0 ?_;try simp only[nrm,Act.put])
  refine Takes.nil ?_
  refine wpAnyS_trio (i:=2) (j:=5) (k:=11) (by kernel_rfl) rfl rfl rfl rfl rfl rfl (λK hK=>?_) (λK hK=>?_) (λK hK=>?_)
  ·go_simp
   obtain⟨y1,hwx⟩:∃y,y=y0.alloc (.cells (zs m) 2):=⟨_,rfl⟩
   have hcc:Below y0.heap.size y0 y1:=by rw[hwx];exact(Below.refl _ y0).alloc (Nat.le_refl _) _
   have hz:=zs_row m y0 2
   rw[<-hwx] at hz|-
   obtain⟨bX,hbx⟩:∃b,y0.heap.size=b:=⟨_,rfl⟩
   rw[hbx] at hz|-
   have HZX:=aZ hz.ints
   clear hz hbx hwx
   have hSy1:(λw'=>w'.cell? ⟨bP,0,none⟩=some (.int .i64 k)/\w'.cell? ⟨bP,1,none⟩=some (.int .i64 n)/\w'.cell? ⟨bP,2,none⟩=some (.int .i64 r)/\w'.cell? ⟨bP,3,none⟩=some (.slice B q.len c)) y1:=⟨keep_cell hcc hSy0.1,keep_cell hcc hSy0.2.1,keep_cell hcc hSy0.2.2.1,keep_cell hcc hSy0.2.2.2⟩
   have HWy1:=aZ (HWy0.out.trans (hcc.mono HWy0.out.size))
   clear hcc
   refine hK.out _ _ (λ_=>hSy1) ?_
   clear hK K
   try simp only[nrm,Act.put]
   refine wpAnyS_pair (i:=5) (j:=11) (by kernel_rfl) rfl rfl rfl rfl (λK hK=>?_) (λK hK=>?_)
   ·go_simp
    obtain⟨y2,hwx⟩:∃y,y=y1.alloc (.cells (zs m2) 2):=⟨_,rfl⟩
    have hcc:Below y1.heap.size y1 y2:=by rw[hwx];exact(Below.refl _ y1).alloc (Nat.le_refl _) _
    have hz:=zs_row m2 y1 2
    rw[<-hwx] at hz|-
    obtain⟨bY,hbx⟩:∃b,y1.heap.size=b:=⟨_,rfl⟩
    rw[hbx] at hz|-
    have HZY:=aZ hz.ints
    clear hz hbx hwx
    have hSy2:(λw'=>w'.cell? ⟨bP,0,none⟩=some (.int .i64 k)/\w'.cell? ⟨bP,1,none⟩=some (.int .i64 n)/\w'.cell? ⟨bP,2,none⟩=some (.int .i64 r)/\w'.cell? ⟨bP,3,none⟩=some (.slice B q.len c)) y2:=⟨keep_cell hcc hSy1.1,keep_cell hcc hSy1.2.1,keep_cell hcc hSy1.2.2.1,keep_cell hcc hSy1.2.2.2⟩
    have HWy2:=aZ (HWy1.out.trans (hcc.mono HWy1.out.size))
    replace HZX:=aZ (HZX.out.keep hcc)
    clear hcc
    refine hK.out _ _ (λ_=>hSy2) ?_
    clear hK K
    try simp only[nrm,Act.put]
    refine wpAnyS_pair (i:=6) (j:=11) (by kernel_rfl) rfl rfl rfl rfl (λK hK=>?_) (λK hK=>?_)
    ·go_simp
     refine(HPV.out y2 (some ⟨bX,0,none⟩) (some ⟨bY,0,none⟩) HWy2.out HZX.out HZY.out).mono ?_
     rintro z y3 ⟨⟨hh,rfl,hhp⟩,hcc⟩
     have HHP:=aZ hhp
     clear hhp
     have hSy3:(λw'=>w'.cell? ⟨bP,0,none⟩=some (.int .i64 k)/\w'.cell? ⟨bP,1,none⟩=some (.int .i64 n)/\w'.cell? ⟨bP,2,none⟩=some (.int .i64 r)/\w'.cell? ⟨bP,3,none⟩=some (.slice B q.len c)) y3:=⟨keep_cell hcc hSy2.1,keep_cell hcc hSy2.2.1,keep_cell hcc hSy2.2.2.1,keep_cell hcc hSy2.2.2.2⟩
     have HWy3:=aZ (HWy2.out.trans (hcc.mono HWy2.out.size))
     replace HZX:=aZ (HZX.out.keep hcc)
     replace HZY:=aZ (HZY.out.keep hcc)
     clear hcc
     refine hK.out _ _ (λ_=>hSy3) ?_
     clear hK K
     try simp only[nrm,Act.put]
     refine Takes.intro [7,8,9,10] ?_
     repeat(refine Takes.go (v:=?_) hSy3 ?_;try simp only[nrm,Act.put])
     refine Takes.nil ?_
     refine wpAnyS_1 11 (λK hK=>?_)
     go_simp
     obtain⟨y4,hwx⟩:∃y,y=y3.alloc (.cells #[.int .i64 0,.int .i64 0,.int .i64 0] 60):=⟨_,rfl⟩
     have hcc:Below y3.heap.size y3 y4:=by rw[hwx];exact(Below.refl _ y3).alloc (Nat.le_refl _) _
     have hrb:=RB.new y3 60
     rw[<-hwx] at hrb|-
     have HLG:Hid (w7.heap.size<=y3.heap.size):=aZ HWy3.out.size
     obtain⟨bG,hbx⟩:∃b,y3.heap.size=b:=⟨_,rfl⟩
     rw[hbx] at hrb HLG|-
     have HRB:=aZ hrb
     clear hrb hbx hwx
     have hSy4:(λw'=>w'.cell? ⟨bP,0,none⟩=some (.int .i64 k)/\w'.cell? ⟨bP,1,none⟩=some (.int .i64 n)/\w'.cell? ⟨bP,2,none⟩=some (.int .i64 r)/\w'.cell? ⟨bP,3,none⟩=some (.slice B q.len c)) y4:=⟨keep_cell hcc hSy3.1,keep_cell hcc hSy3.2.1,keep_cell hcc hSy3.2.2.1,keep_cell hcc hSy3.2.2.2⟩
     have HWy4:=aZ (HWy3.out.trans (hcc.mono HWy3.out.size))
     replace HZX:=aZ (HZX.out.keep hcc)
     replace HZY:=aZ (HZY.out.keep hcc)
     clear hcc
     refine hK.out _ _ (λ_=>hSy4) ?_
     clear hK K
     try simp only[nrm,Act.put]
     refine Takes.intro [12] ?_
     repeat(refine Takes.go (v:=?_) hSy4 ?_;try simp only[nrm,Act.put])
     refine Takes.nil ?_
     refine wpAnyS_1 13 (λK hK=>?_)
     obtain⟨⟨r0,r1,r2⟩,hz,hlb⟩:=HRB.out
     have hz0:=hz 0 (by omega)
     have hz1:=hz 1 (by omega)
     have hz2:=hz 2 (by omega)
     clear hz hlb
     go_simp
     have HWF:=aZ (below_three HWy4.out (b:=bG) HLG.out (.int .i64 0) (.int .i64 0) (.int .i64 0))
     have HTF:=aZ (tri_set HRB.out.t 0 0 0)
     obtain⟨q0,q1,q2,q3⟩:=PP7.out.below HWF.out
     refine hK.out _ _ (λ_=>(⟨q0,q1,q2,q3⟩:(λw':World=>w'.cell? ⟨bP,0,none⟩=some (.int .i64 k)/\w'.cell? ⟨bP,1,none⟩=some (.int .i64 n)/\w'.cell? ⟨bP,2,none⟩=some (.int .i64 r)/\w'.cell? ⟨bP,3,none⟩=some (.slice B q.len c)) _)) ?_
     clear hK K
     try simp only[nrm,Act.put]
     refine wpAnyS_fin 1 14 ?_
     simp only[nrd]
     clear hSy4 q0 q1 q2 q3 r0 r1 r2 hz0 hz1 hz2
     go_wp2
     go_meet
     exact⟨bG,hh,rfl,rfl,rfl,HHP,HTF,HWF⟩
    ·go_simp
     obtain⟨y5,hwx⟩:∃y,y=y2.alloc (.cells #[.int .i64 0,.int .i64 0,.int .i64 0] 60):=⟨_,rfl⟩
     have hcc:Below y2.heap.size y2 y5:=by rw[hwx];exact(Below.refl _ y2).alloc (Nat.le_refl _) _
     have hrb:=RB.new y2 60
     rw[<-hwx] at hrb|-
     have HLG:Hid (w7.heap.size<=y2.heap.size):=aZ HWy2.out.size
     obtain⟨bG,hbx⟩:∃b,y2.heap.size=b:=⟨_,rfl⟩
     rw[hbx] at hrb HLG|-
     have HRB:=aZ hrb
     clear hrb hbx hwx
     have hSy5:(λw'=>w'.cell? ⟨bP,0,none⟩=some (.int .i64 k)/\w'.cell? ⟨bP,1,none⟩=some (.int .i64 n)/\w'.cell? ⟨bP,2,none⟩=some (.int .i64 r)/\w'.cell? ⟨bP,3,none⟩=some (.slice B q.len c)) y5:=⟨keep_cell hcc hSy2.1,keep_cell hcc hSy2.2.1,keep_cell hcc hSy2.2.2.1,keep_cell hcc hSy2.2.2.2⟩
     have HWy5:=aZ (HWy2.out.trans (hcc.mono HWy2.out.size))
     replace HZX:=aZ (HZX.out.keep hcc)
     replace HZY:=aZ (HZY.out.keep hcc)
     clear hcc
     refine hK.out _ _ (λ_=>hSy5) ?_
     clear hK K
     try simp only[nrm,Act.put]
     refine wpAnyS_1 6 (λK hK=>?_)
     go_simp
     refine(HPV.out y5 (some ⟨bX,0,none⟩) (some ⟨bY,0,none⟩) HWy5.out HZX.out HZY.out).mono ?_
     rintro z y6 ⟨⟨hh,rfl,hhp⟩,hcc⟩
     have HHP:=aZ hhp
     clear hhp
     have hSy6:(λw'=>w'.cell? ⟨bP,0,none⟩=some (.int .i64 k)/\w'.cell? ⟨bP,1,none⟩=some (.int .i64 n)/\w'.cell? ⟨bP,2,none⟩=some (.int .i64 r)/\w'.cell? ⟨bP,3,none⟩=some (.slice B q.len c)) y6:=⟨keep_cell hcc hSy5.1,keep_cell hcc hSy5.2.1,keep_cell hcc hSy5.2.2.1,keep_cell hcc hSy5.2.2.2⟩
     have HWy6:=aZ (HWy5.out.trans (hcc.mono HWy5.out.size))
     replace HZX:=aZ (HZX.out.keep hcc)
     replace HZY:=aZ (HZY.out.keep hcc)
     replace HRB:=aZ (HRB.out.below hcc)
     clear hcc
     refine hK.out _ _ (λ_=>hSy6) ?_
     clear hK K
     try simp only[nrm,Act.put]
     refine Takes.intro [7,8,9,10] ?_
     repeat(refine Takes.go (v:=?_) hSy6 ?_;try simp only[nrm,Act.put])
     refine Takes.nil ?_
     refine Takes.intro [12] ?_
     repeat(refine Takes.go (v:=?_) hSy6 ?_;try simp only[nrm,Act.put])
     refine Takes.nil ?_
     refine wpAnyS_1 13 (λK hK=>?_)
     obtain⟨⟨r0,r1,r2⟩,hz,hlb⟩:=HRB.out
     have hz0:=hz 0 (by omega)
     have hz1:=hz 1 (by omega)
     have hz2:=hz 2 (by omega)
     clear hz hlb
     go_simp
     have HWF:=aZ (below_three HWy6.out (b:=bG) HLG.out (.int .i64 0) (.int .i64 0) (.int .i64 0))
     have HTF:=aZ (tri_set HRB.out.t 0 0 0)
     obtain⟨q0,q1,q2,q3⟩:=PP7.out.below HWF.out
     refine hK.out _ _ (λ_=>(⟨q0,q1,q2,q3⟩:(λw':World=>w'.cell? ⟨bP,0,none⟩=some (.int .i64 k)/\w'.cell? ⟨bP,1,none⟩=some (.int .i64 n)/\w'.cell? ⟨bP,2,none⟩=some (.int .i64 r)/\w'.cell? ⟨bP,3,none⟩=some (.slice B q.len c)) _)) ?_
     clear hK K
     try simp only[nrm,Act.put]
     refine wpAnyS_fin 1 14 ?_
     simp only[nrd]
     clear hSy6 q0 q1 q2 q3 r0 r1 r2 hz0 hz1 hz2
     go_wp2
     go_meet
     exact⟨bG,hh,rfl,rfl,rfl,HHP,HTF,HWF⟩
   ·go_simp
    obtain⟨y7,hwx⟩:∃y,y=y1.alloc (.cells #[.int .i64 0,.int .i64 0,.int .i64 0] 60):=⟨_,rfl⟩
    have hcc:Below y1.heap.size y1 y7:=by rw[hwx];exact(Below.refl _ y1).alloc (Nat.le_refl _) _
    have hrb:=RB.new y1 60
    rw[<-hwx] at hrb|-
    have HLG:Hid (w7.heap.size<=y1.heap.size):=aZ HWy1.out.size
    obtain⟨bG,hbx⟩:∃b,y1.heap.size=b:=⟨_,rfl⟩
    rw[hbx] at hrb HLG|-
    have HRB:=aZ hrb
    clear hrb hbx hwx
    have hSy7:(λw'=>w'.cell? ⟨bP,0,none⟩=some (.int .i64 k)/\w'.cell? ⟨bP,1,none⟩=some (.int .i64 n)/\w'.cell? ⟨bP,2,none⟩=some (.int .i64 r)/\w'.cell? ⟨bP,3,none⟩=some (.slice B q.len c)) y7:=⟨keep_cell hcc hSy1.1,keep_cell hcc hSy1.2.1,keep_cell hcc hSy1.2.2.1,keep_cell hcc hSy1.2.2.2⟩
    have HWy7:=aZ (HWy1.out.trans (hcc.mono HWy1.out.size))
    replace HZX:=aZ (HZX.out.keep hcc)
    clear hcc
    refine hK.out _ _ (λ_=>hSy7) ?_
    clear hK K
    try simp only[nrm,Act.put]
    refine wpAnyS_1 5 (λK hK=>?_)
    go_simp
    obtain⟨y8,hwx⟩:∃y,y=y7.alloc (.cells (zs m2) 2):=⟨_,rfl⟩
    have hcc:Below y7.heap.size y7 y8:=by rw[hwx];exact(Below.refl _ y7).alloc (Nat.le_refl _) _
    have hz:=zs_row m2 y7 2
    rw[<-hwx] at hz|-
    obtain⟨bY,hbx⟩:∃b,y7.heap.size=b:=⟨_,rfl⟩
    rw[hbx] at hz|-
    have HZY:=aZ hz.ints
    clear hz hbx hwx
    have hSy8:(λw'=>w'.cell? ⟨bP,0,none⟩=some (.int .i64 k)/\w'.cell? ⟨bP,1,none⟩=some (.int .i64 n)/\w'.cell? ⟨bP,2,none⟩=some (.int .i64 r)/\w'.cell? ⟨bP,3,none⟩=some (.slice B q.len c)) y8:=⟨keep_cell hcc hSy7.1,keep_cell hcc hSy7.2.1,keep_cell hcc hSy7.2.2.1,keep_cell hcc hSy7.2.2.2⟩
    have HWy8:=aZ (HWy7.out.trans (hcc.mono HWy7.out.size))
    replace HZX:=aZ (HZX.out.keep hcc)
    replace HRB:=aZ (HRB.out.below hcc)
    clear hcc
    refine hK.out _ _ (λ_=>hSy8) ?_
    clear hK K
    try simp only[nrm,Act.put]
    refine wpAnyS_1 6 (λK hK=>?_)
    go_simp
    refine(HPV.out y8 (some ⟨bX,0,none⟩) (some ⟨bY,0,none⟩) HWy8.out HZX.out HZY.out).mono ?_
    rintro z y9 ⟨⟨hh,rfl,hhp⟩,hcc⟩
    have HHP:=aZ hhp
    clear hhp
    have hSy9:(λw'=>w'.cell? ⟨bP,0,none⟩=some (.int .i64 k)/\w'.cell? ⟨bP,1,none⟩=some (.int .i64 n)/\w'.cell? ⟨bP,2,none⟩=some (.int .i64 r)/\w'.cell? ⟨bP,3,none⟩=some (.slice B q.len c)) y9:=⟨keep_cell hcc hSy8.1,keep_cell hcc hSy8.2.1,keep_cell hcc hSy8.2.2.1,keep_cell hcc hSy8.2.2.2⟩
    have HWy9:=aZ (HWy8.out.trans (hcc.mono HWy8.out.size))
    replace HZX:=aZ (HZX.out.keep hcc)
    replace HZY:=aZ (HZY.out.keep hcc)
    replace HRB:=aZ (HRB.out.below hcc)
    clear hcc
    refine hK.out _ _ (λ_=>hSy9) ?_
    clear hK K
    try simp only[nrm,Act.put]
    refine Takes.intro [7,8,9,10] ?_
    repeat(refine Takes.go (v:=?_) hSy9 ?_;try simp only[nrm,Act.put])
    refine Takes.nil ?_
    refine Takes.intro [12] ?_
    repeat(refine Takes.go (v:=?_) hSy9 ?_;try simp only[nrm,Act.put])
    refine Takes.nil ?_
    refine wpAnyS_1 13 (λK hK=>?_)
    obtain⟨⟨r0,r1,r2⟩,hz,hlb⟩:=HRB.out
    have hz0:=hz 0 (by omega)
    have hz1:=hz 1 (by omega)
    have hz2:=hz 2 (by omega)
    clear hz hlb
    go_simp
    have HWF:=aZ (below_three HWy9.out (b:=bG) HLG.out (.int .i64 0) (.int .i64 0) (.int .i64 0))
    have HTF:=aZ (tri_set HRB.out.t 0 0 0)
    obtain⟨q0,q1,q2,q3⟩:=PP7.out.below HWF.out
    refine hK.out _ _ (λ_=>(⟨q0,q1,q2,q3⟩:(λw':World=>w'.cell? ⟨bP,0,none⟩=some (.int .i64 k)/\w'.cell? ⟨bP,1,none⟩=some (.int .i64 n)/\w'.cell? ⟨bP,2,none⟩=some (.int .i64 r)/\w'.cell? ⟨bP,3,none⟩=some (.slice B q.len c)) _)) ?_
    clear hK K
    try simp only[nrm,Act.put]
    refine wpAnyS_fin 1 14 ?_
    simp only[nrd]
    clear hSy9 q0 q1 q2 q3 r0 r1 r2 hz0 hz1 hz2
    go_wp2
    go_meet
    exact⟨bG,hh,rfl,rfl,rfl,HHP,HTF,HWF⟩
  ·go_simp
   obtain⟨y10,hwx⟩:∃y,y=y0.alloc (.cells (zs m2) 2):=⟨_,rfl⟩
   have hcc:Below y0.heap.size y0 y10:=by rw[hwx];exact(Below.refl _ y0).alloc (Nat.le_refl _) _
   have hz:=zs_row m2 y0 2
   rw[<-hwx] at hz|-
   obtain⟨bY,hbx⟩:∃b,y0.heap.size=b:=⟨_,rfl⟩
   rw[hbx] at hz|-
   have HZY:=aZ hz.ints
   clear hz hbx hwx
   have hSy10:(λw'=>w'.cell? ⟨bP,0,none⟩=some (.int .i64 k)/\w'.cell? ⟨bP,1,none⟩=some (.int .i64 n)/\w'.cell? ⟨bP,2,none⟩=some (.int .i64 r)/\w'.cell? ⟨bP,3,none⟩=some (.slice B q.len c)) y10:=⟨keep_cell hcc hSy0.1,keep_cell hcc hSy0.2.1,keep_cell hcc hSy0.2.2.1,keep_cell hcc hSy0.2.2.2⟩
   have HWy10:=aZ (HWy0.out.trans (hcc.mono HWy0.out.size))
   clear hcc
   refine hK.out _ _ (λ_=>hSy10) ?_
   clear hK K
   try simp only[nrm,Act.put]
   refine wpAnyS_pair (i:=2) (j:=11) (by kernel_rfl) rfl rfl rfl rfl (λK hK=>?_) (λK hK=>?_)
   ·go_simp
    obtain⟨y11,hwx⟩:∃y,y=y10.alloc (.cells (zs m) 2):=⟨_,rfl⟩
    have hcc:Below y10.heap.size y10 y11:=by rw[hwx];exact(Below.refl _ y10).alloc (Nat.le_refl _) _
    have hz:=zs_row m y10 2
    rw[<-hwx] at hz|-
    obtain⟨bX,hbx⟩:∃b,y10.heap.size=b:=⟨_,rfl⟩
    rw[hbx] at hz|-
    have HZX:=aZ hz.ints
    clear hz hbx hwx
    have hSy11:(λw'=>w'.cell? ⟨bP,0,none⟩=some (.int .i64 k)/\w'.cell? ⟨bP,1,none⟩=some (.int .i64 n)/\w'.cell? ⟨bP,2,none⟩=some (.int .i64 r)/\w'.cell? ⟨bP,3,none⟩=some (.slice B q.len c)) y11:=⟨keep_cell hcc hSy10.1,keep_cell hcc hSy10.2.1,keep_cell hcc hSy10.2.2.1,keep_cell hcc hSy10.2.2.2⟩
    have HWy11:=aZ (HWy10.out.trans (hcc.mono HWy10.out.size))
    replace HZY:=aZ (HZY.out.keep hcc)
    clear hcc
    refine hK.out _ _ (λ_=>hSy11) ?_
    clear hK K
    try simp only[nrm,Act.put]
    refine wpAnyS_pair (i:=6) (j:=11) (by kernel_rfl) rfl rfl rfl rfl (λK hK=>?_) (λK hK=>?_)
    ·go_simp
     refine(HPV.out y11 (some ⟨bX,0,none⟩) (some ⟨bY,0,none⟩) HWy11.out HZX.out HZY.out).mono ?_
     rintro z y12 ⟨⟨hh,rfl,hhp⟩,hcc⟩
     have HHP:=aZ hhp
     clear hhp
     have hSy12:(λw'=>w'.cell? ⟨bP,0,none⟩=some (.int .i64 k)/\w'.cell? ⟨bP,1,none⟩=some (.int .i64 n)/\w'.cell? ⟨bP,2,none⟩=some (.int .i64 r)/\w'.cell? ⟨bP,3,none⟩=some (.slice B q.len c)) y12:=⟨keep_cell hcc hSy11.1,keep_cell hcc hSy11.2.1,keep_cell hcc hSy11.2.2.1,keep_cell hcc hSy11.2.2.2⟩
     have HWy12:=aZ (HWy11.out.trans (hcc.mono HWy11.out.size))
     replace HZX:=aZ (HZX.out.keep hcc)
     replace HZY:=aZ (HZY.out.keep hcc)
     clear hcc
     refine hK.out _ _ (λ_=>hSy12) ?_
     clear hK K
     try simp only[nrm,Act.put]
     refine Takes.intro [7,8,9,10] ?_
     repeat(refine Takes.go (v:=?_) hSy12 ?_;try simp only[nrm,Act.put])
     refine Takes.nil ?_
     refine wpAnyS_1 11 (λK hK=>?_)
     go_simp
     obtain⟨y13,hwx⟩:∃y,y=y12.alloc (.cells #[.int .i64 0,.int .i64 0,.int .i64 0] 60):=⟨_,rfl⟩
     have hcc:Below y12.heap.size y12 y13:=by rw[hwx];exact(Below.refl _ y12).alloc (Nat.le_refl _) _
     have hrb:=RB.new y12 60
     rw[<-hwx] at hrb|-
     have HLG:Hid (w7.heap.size<=y12.heap.size):=aZ HWy12.out.size
     obtain⟨bG,hbx⟩:∃b,y12.heap.size=b:=⟨_,rfl⟩
     rw[hbx] at hrb HLG|-
     have HRB:=aZ hrb
     clear hrb hbx hwx
     have hSy13:(λw'=>w'.cell? ⟨bP,0,none⟩=some (.int .i64 k)/\w'.cell? ⟨bP,1,none⟩=some (.int .i64 n)/\w'.cell? ⟨bP,2,none⟩=some (.int .i64 r)/\w'.cell? ⟨bP,3,none⟩=some (.slice B q.len c)) y13:=⟨keep_cell hcc hSy12.1,keep_cell hcc hSy12.2.1,keep_cell hcc hSy12.2.2.1,keep_cell hcc hSy12.2.2.2⟩
     have HWy13:=aZ (HWy12.out.trans (hcc.mono HWy12.out.size))
     replace HZX:=aZ (HZX.out.keep hcc)
     replace HZY:=aZ (HZY.out.keep hcc)
     clear hcc
     refine hK.out _ _ (λ_=>hSy13) ?_
     clear hK K
     try simp only[nrm,Act.put]
     refine Takes.intro [12] ?_
     repeat(refine Takes.go (v:=?_) hSy13 ?_;try simp only[nrm,Act.put])
     refine Takes.nil ?_
     refine wpAnyS_1 13 (λK hK=>?_)
     obtain⟨⟨r0,r1,r2⟩,hz,hlb⟩:=HRB.out
     have hz0:=hz 0 (by omega)
     have hz1:=hz 1 (by omega)
     have hz2:=hz 2 (by omega)
     clear hz hlb
     go_simp
     have HWF:=aZ (below_three HWy13.out (b:=bG) HLG.out (.int .i64 0) (.int .i64 0) (.int .i64 0))
     have HTF:=aZ (tri_set HRB.out.t 0 0 0)
     obtain⟨q0,q1,q2,q3⟩:=PP7.out.below HWF.out
     refine hK.out _ _ (λ_=>(⟨q0,q1,q2,q3⟩:(λw':World=>w'.cell? ⟨bP,0,none⟩=some (.int .i64 k)/\w'.cell? ⟨bP,1,none⟩=some (.int .i64 n)/\w'.cell? ⟨bP,2,none⟩=some (.int .i64 r)/\w'.cell? ⟨bP,3,none⟩=some (.slice B q.len c)) _)) ?_
     clear hK K
     try simp only[nrm,Act.put]
     refine wpAnyS_fin 1 14 ?_
     simp only[nrd]
     clear hSy13 q0 q1 q2 q3 r0 r1 r2 hz0 hz1 hz2
     go_wp2
     go_meet
     exact⟨bG,hh,rfl,rfl,rfl,HHP,HTF,HWF⟩
    ·go_simp
     obtain⟨y14,hwx⟩:∃y,y=y11.alloc (.cells #[.int .i64 0,.int .i64 0,.int .i64 0] 60):=⟨_,rfl⟩
     have hcc:Below y11.heap.size y11 y14:=by rw[hwx];exact(Below.refl _ y11).alloc (Nat.le_refl _) _
     have hrb:=RB.new y11 60
     rw[<-hwx] at hrb|-
     have HLG:Hid (w7.heap.size<=y11.heap.size):=aZ HWy11.out.size
     obtain⟨bG,hbx⟩:∃b,y11.heap.size=b:=⟨_,rfl⟩
     rw[hbx] at hrb HLG|-
     have HRB:=aZ hrb
     clear hrb hbx hwx
     have hSy14:(λw'=>w'.cell? ⟨bP,0,none⟩=some (.int .i64 k)/\w'.cell? ⟨bP,1,none⟩=some (.int .i64 n)/\w'.cell? ⟨bP,2,none⟩=some (.int .i64 r)/\w'.cell? ⟨bP,3,none⟩=some (.slice B q.len c)) y14:=⟨keep_cell hcc hSy11.1,keep_cell hcc hSy11.2.1,keep_cell hcc hSy11.2.2.1,keep_cell hcc hSy11.2.2.2⟩
     have HWy14:=aZ (HWy11.out.trans (hcc.mono HWy11.out.size))
     replace HZX:=aZ (HZX.out.keep hcc)
     replace HZY:=aZ (HZY.out.keep hcc)
     clear hcc
     refine hK.out _ _ (λ_=>hSy14) ?_
     clear hK K
     try simp only[nrm,Act.put]
     refine wpAnyS_1 6 (λK hK=>?_)
     go_simp
     refine(HPV.out y14 (some ⟨bX,0,none⟩) (some ⟨bY,0,none⟩) HWy14.out HZX.out HZY.out).mono ?_
     rintro z y15 ⟨⟨hh,rfl,hhp⟩,hcc⟩
     have HHP:=aZ hhp
     clear hhp
     have hSy15:(λw'=>w'.cell? ⟨bP,0,none⟩=some (.int .i64 k)/\w'.cell? ⟨bP,1,none⟩=some (.int .i64 n)/\w'.cell? ⟨bP,2,none⟩=some (.int .i64 r)/\w'.cell? ⟨bP,3,none⟩=some (.slice B q.len c)) y15:=⟨keep_cell hcc hSy14.1,keep_cell hcc hSy14.2.1,keep_cell hcc hSy14.2.2.1,keep_cell hcc hSy14.2.2.2⟩
     have HWy15:=aZ (HWy14.out.trans (hcc.mono HWy14.out.size))
     replace HZX:=aZ (HZX.out.keep hcc)
     replace HZY:=aZ (HZY.out.keep hcc)
     replace HRB:=aZ (HRB.out.below hcc)
     clear hcc
     refine hK.out _ _ (λ_=>hSy15) ?_
     clear hK K
     try simp only[nrm,Act.put]
     refine Takes.intro [7,8,9,10] ?_
     repeat(refine Takes.go (v:=?_) hSy15 ?_;try simp only[nrm,Act.put])
     refine Takes.nil ?_
     refine Takes.intro [12] ?_
     repeat(refine Takes.go (v:=?_) hSy15 ?_;try simp only[nrm,Act.put])
     refine Takes.nil ?_
     refine wpAnyS_1 13 (λK hK=>?_)
     obtain⟨⟨r0,r1,r2⟩,hz,hlb⟩:=HRB.out
     have hz0:=hz 0 (by omega)
     have hz1:=hz 1 (by omega)
     have hz2:=hz 2 (by omega)
     clear hz hlb
     go_simp
     have HWF:=aZ (below_three HWy15.out (b:=bG) HLG.out (.int .i64 0) (.int .i64 0) (.int .i64 0))
     have HTF:=aZ (tri_set HRB.out.t 0 0 0)
     obtain⟨q0,q1,q2,q3⟩:=PP7.out.below HWF.out
     refine hK.out _ _ (λ_=>(⟨q0,q1,q2,q3⟩:(λw':World=>w'.cell? ⟨bP,0,none⟩=some (.int .i64 k)/\w'.cell? ⟨bP,1,none⟩=some (.int .i64 n)/\w'.cell? ⟨bP,2,none⟩=some (.int .i64 r)/\w'.cell? ⟨bP,3,none⟩=some (.slice B q.len c)) _)) ?_
     clear hK K
     try simp only[nrm,Act.put]
     refine wpAnyS_fin 1 14 ?_
     simp only[nrd]
     clear hSy15 q0 q1 q2 q3 r0 r1 r2 hz0 hz1 hz2
     go_wp2
     go_meet
     exact⟨bG,hh,rfl,rfl,rfl,HHP,HTF,HWF⟩
   ·go_simp
    obtain⟨y16,hwx⟩:∃y,y=y10.alloc (.cells #[.int .i64 0,.int .i64 0,.int .i64 0] 60):=⟨_,rfl⟩
    have hcc:Below y10.heap.size y10 y16:=by rw[hwx];exact(Below.refl _ y10).alloc (Nat.le_refl _) _
    have hrb:=RB.new y10 60
    rw[<-hwx] at hrb|-
    have HLG:Hid (w7.heap.size<=y10.heap.size):=aZ HWy10.out.size
    obtain⟨bG,hbx⟩:∃b,y10.heap.size=b:=⟨_,rfl⟩
    rw[hbx] at hrb HLG|-
    have HRB:=aZ hrb
    clear hrb hbx hwx
    have hSy16:(λw'=>w'.cell? ⟨bP,0,none⟩=some (.int .i64 k)/\w'.cell? ⟨bP,1,none⟩=some (.int .i64 n)/\w'.cell? ⟨bP,2,none⟩=some (.int .i64 r)/\w'.cell? ⟨bP,3,none⟩=some (.slice B q.len c)) y16:=⟨keep_cell hcc hSy10.1,keep_cell hcc hSy10.2.1,keep_cell hcc hSy10.2.2.1,keep_cell hcc hSy10.2.2.2⟩
    have HWy16:=aZ (HWy10.out.trans (hcc.mono HWy10.out.size))
    replace HZY:=aZ (HZY.out.keep hcc)
    clear hcc
    refine hK.out _ _ (λ_=>hSy16) ?_
    clear hK K
    try simp only[nrm,Act.put]
    refine wpAnyS_1 2 (λK hK=>?_)
    go_simp
    obtain⟨y17,hwx⟩:∃y,y=y16.alloc (.cells (zs m) 2):=⟨_,rfl⟩
    have hcc:Below y16.heap.size y16 y17:=by rw[hwx];exact(Below.refl _ y16).alloc (Nat.le_refl _) _
    have hz:=zs_row m y16 2
    rw[<-hwx] at hz|-
    obtain⟨bX,hbx⟩:∃b,y16.heap.size=b:=⟨_,rfl⟩
    rw[hbx] at hz|-
    have HZX:=aZ hz.ints
    clear hz hbx hwx
    have hSy17:(λw'=>w'.cell? ⟨bP,0,none⟩=some (.int .i64 k)/\w'.cell? ⟨bP,1,none⟩=some (.int .i64 n)/\w'.cell? ⟨bP,2,none⟩=some (.int .i64 r)/\w'.cell? ⟨bP,3,none⟩=some (.slice B q.len c)) y17:=⟨keep_cell hcc hSy16.1,keep_cell hcc hSy16.2.1,keep_cell hcc hSy16.2.2.1,keep_cell hcc hSy16.2.2.2⟩
    have HWy17:=aZ (HWy16.out.trans (hcc.mono HWy16.out.size))
    replace HZY:=aZ (HZY.out.keep hcc)
    replace HRB:=aZ (HRB.out.below hcc)
    clear hcc
    refine hK.out _ _ (λ_=>hSy17) ?_
    clear hK K
    try simp only[nrm,Act.put]
    refine wpAnyS_1 6 (λK hK=>?_)
    go_simp
    refine(HPV.out y17 (some ⟨bX,0,none⟩) (some ⟨bY,0,none⟩) HWy17.out HZX.out HZY.out).mono ?_
    rintro z y18 ⟨⟨hh,rfl,hhp⟩,hcc⟩
    have HHP:=aZ hhp
    clear hhp
    have hSy18:(λw'=>w'.cell? ⟨bP,0,none⟩=some (.int .i64 k)/\w'.cell? ⟨bP,1,none⟩=some (.int .i64 n)/\w'.cell? ⟨bP,2,none⟩=some (.int .i64 r)/\w'.cell? ⟨bP,3,none⟩=some (.slice B q.len c)) y18:=⟨keep_cell hcc hSy17.1,keep_cell hcc hSy17.2.1,keep_cell hcc hSy17.2.2.1,keep_cell hcc hSy17.2.2.2⟩
    have HWy18:=aZ (HWy17.out.trans (hcc.mono HWy17.out.size))
    replace HZX:=aZ (HZX.out.keep hcc)
    replace HZY:=aZ (HZY.out.keep hcc)
    replace HRB:=aZ (HRB.out.below hcc)
    clear hcc
    refine hK.out _ _ (λ_=>hSy18) ?_
    clear hK K
    try simp only[nrm,Act.put]
    refine Takes.intro [7,8,9,10] ?_
    repeat(refine Takes.go (v:=?_) hSy18 ?_;try simp only[nrm,Act.put])
    refine Takes.nil ?_
    refine Takes.intro [12] ?_
    repeat(refine Takes.go (v:=?_) hSy18 ?_;try simp only[nrm,Act.put])
    refine Takes.nil ?_
    refine wpAnyS_1 13 (λK hK=>?_)
    obtain⟨⟨r0,r1,r2⟩,hz,hlb⟩:=HRB.out
    have hz0:=hz 0 (by omega)
    have hz1:=hz 1 (by omega)
    have hz2:=hz 2 (by omega)
    clear hz hlb
    go_simp
    have HWF:=aZ (below_three HWy18.out (b:=bG) HLG.out (.int .i64 0) (.int .i64 0) (.int .i64 0))
    have HTF:=aZ (tri_set HRB.out.t 0 0 0)
    obtain⟨q0,q1,q2,q3⟩:=PP7.out.below HWF.out
    refine hK.out _ _ (λ_=>(⟨q0,q1,q2,q3⟩:(λw':World=>w'.cell? ⟨bP,0,none⟩=some (.int .i64 k)/\w'.cell? ⟨bP,1,none⟩=some (.int .i64 n)/\w'.cell? ⟨bP,2,none⟩=some (.int .i64 r)/\w'.cell? ⟨bP,3,none⟩=some (.slice B q.len c)) _)) ?_
    clear hK K
    try simp only[nrm,Act.put]
    refine wpAnyS_fin 1 14 ?_
    simp only[nrd]
    clear hSy18 q0 q1 q2 q3 r0 r1 r2 hz0 hz1 hz2
    go_wp2
    go_meet
    exact⟨bG,hh,rfl,rfl,rfl,HHP,HTF,HWF⟩
  ·go_simp
   obtain⟨y19,hwx⟩:∃y,y=y0.alloc (.cells #[.int .i64 0,.int .i64 0,.int .i64 0] 60):=⟨_,rfl⟩
   have hcc:Below y0.heap.size y0 y19:=by rw[hwx];exact(Below.refl _ y0).alloc (Nat.le_refl _) _
   have hrb:=RB.new y0 60
   rw[<-hwx] at hrb|-
   have HLG:Hid (w7.heap.size<=y0.heap.size):=aZ HWy0.out.size
   obtain⟨bG,hbx⟩:∃b,y0.heap.size=b:=⟨_,rfl⟩
   rw[hbx] at hrb HLG|-
   have HRB:=aZ hrb
   clear hrb hbx hwx
   have hSy19:(λw'=>w'.cell? ⟨bP,0,none⟩=some (.int .i64 k)/\w'.cell? ⟨bP,1,none⟩=some (.int .i64 n)/\w'.cell? ⟨bP,2,none⟩=some (.int .i64 r)/\w'.cell? ⟨bP,3,none⟩=some (.slice B q.len c)) y19:=⟨keep_cell hcc hSy0.1,keep_cell hcc hSy0.2.1,keep_cell hcc hSy0.2.2.1,keep_cell hcc hSy0.2.2.2⟩
   have HWy19:=aZ (HWy0.out.trans (hcc.mono HWy0.out.size))
   clear hcc
   refine hK.out _ _ (λ_=>hSy19) ?_
   clear hK K
   try simp only[nrm,Act.put]
   refine wpAnyS_pair (i:=2) (j:=5) (by kernel_rfl) rfl rfl rfl rfl (λK hK=>?_) (λK hK=>?_)
   ·go_simp
    obtain⟨y20,hwx⟩:∃y,y=y19.alloc (.cells (zs m) 2):=⟨_,rfl⟩
    have hcc:Below y19.heap.size y19 y20:=by rw[hwx];exact(Below.refl _ y19).alloc (Nat.le_refl _) _
    have hz:=zs_row m y19 2
    rw[<-hwx] at hz|-
    obtain⟨bX,hbx⟩:∃b,y19.heap.size=b:=⟨_,rfl⟩
    rw[hbx] at hz|-
    have HZX:=aZ hz.ints
    clear hz hbx hwx
    have hSy20:(λw'=>w'.cell? ⟨bP,0,none⟩=some (.int .i64 k)/\w'.cell? ⟨bP,1,none⟩=some (.int .i64 n)/\w'.cell? ⟨bP,2,none⟩=some (.int .i64 r)/\w'.cell? ⟨bP,3,none⟩=some (.slice B q.len c)) y20:=⟨keep_cell hcc hSy19.1,keep_cell hcc hSy19.2.1,keep_cell hcc hSy19.2.2.1,keep_cell hcc hSy19.2.2.2⟩
    have HWy20:=aZ (HWy19.out.trans (hcc.mono HWy19.out.size))
    replace HRB:=aZ (HRB.out.below hcc)
    clear hcc
    refine hK.out _ _ (λ_=>hSy20) ?_
    clear hK K
    try simp only[nrm,Act.put]
    refine wpAnyS_1 5 (λK hK=>?_)
    go_simp
    obtain⟨y21,hwx⟩:∃y,y=y20.alloc (.cells (zs m2) 2):=⟨_,rfl⟩
    have hcc:Below y20.heap.size y20 y21:=by rw[hwx];exact(Below.refl _ y20).alloc (Nat.le_refl _) _
    have hz:=zs_row m2 y20 2
    rw[<-hwx] at hz|-
    obtain⟨bY,hbx⟩:∃b,y20.heap.size=b:=⟨_,rfl⟩
    rw[hbx] at hz|-
    have HZY:=aZ hz.ints
    clear hz hbx hwx
    have hSy21:(λw'=>w'.cell? ⟨bP,0,none⟩=some (.int .i64 k)/\w'.cell? ⟨bP,1,none⟩=some (.int .i64 n)/\w'.cell? ⟨bP,2,none⟩=some (.int .i64 r)/\w'.cell? ⟨bP,3,none⟩=some (.slice B q.len c)) y21:=⟨keep_cell hcc hSy20.1,keep_cell hcc hSy20.2.1,keep_cell hcc hSy20.2.2.1,keep_cell hcc hSy20.2.2.2⟩
    have HWy21:=aZ (HWy20.out.trans (hcc.mono HWy20.out.size))
    replace HZX:=aZ (HZX.out.keep hcc)
    replace HRB:=aZ (HRB.out.below hcc)
    clear hcc
    refine hK.out _ _ (λ_=>hSy21) ?_
    clear hK K
    try simp only[nrm,Act.put]
    refine wpAnyS_1 6 (λK hK=>?_)
    go_simp
    refine(HPV.out y21 (some ⟨bX,0,none⟩) (some ⟨bY,0,none⟩) HWy21.out HZX.out HZY.out).mono ?_
    rintro z y22 ⟨⟨hh,rfl,hhp⟩,hcc⟩
    have HHP:=aZ hhp
    clear hhp
    have hSy22:(λw'=>w'.cell? ⟨bP,0,none⟩=some (.int .i64 k)/\w'.cell? ⟨bP,1,none⟩=some (.int .i64 n)/\w'.cell? ⟨bP,2,none⟩=some (.int .i64 r)/\w'.cell? ⟨bP,3,none⟩=some (.slice B q.len c)) y22:=⟨keep_cell hcc hSy21.1,keep_cell hcc hSy21.2.1,keep_cell hcc hSy21.2.2.1,keep_cell hcc hSy21.2.2.2⟩
    have HWy22:=aZ (HWy21.out.trans (hcc.mono HWy21.out.size))
    replace HZX:=aZ (HZX.out.keep hcc)
    replace HZY:=aZ (HZY.out.keep hcc)
    replace HRB:=aZ (HRB.out.below hcc)
    clear hcc
    refine hK.out _ _ (λ_=>hSy22) ?_
    clear hK K
    try simp only[nrm,Act.put]
    refine Takes.intro [7,8,9,10] ?_
    repeat(refine Takes.go (v:=?_) hSy22 ?_;try simp only[nrm,Act.put])
    refine Takes.nil ?_
    refine Takes.intro [12] ?_
    repeat(refine Takes.go (v:=?_) hSy22 ?_;try simp only[nrm,Act.put])
    refine Takes.nil ?_
    refine wpAnyS_1 13 (λK hK=>?_)
    obtain⟨⟨r0,r1,r2⟩,hz,hlb⟩:=HRB.out
    have hz0:=hz 0 (by omega)
    have hz1:=hz 1 (by omega)
    have hz2:=hz 2 (by omega)
    clear hz hlb
    go_simp
    have HWF:=aZ (below_three HWy22.out (b:=bG) HLG.out (.int .i64 0) (.int .i64 0) (.int .i64 0))
    have HTF:=aZ (tri_set HRB.out.t 0 0 0)
    obtain⟨q0,q1,q2,q3⟩:=PP7.out.below HWF.out
    refine hK.out _ _ (λ_=>(⟨q0,q1,q2,q3⟩:(λw':World=>w'.cell? ⟨bP,0,none⟩=some (.int .i64 k)/\w'.cell? ⟨bP,1,none⟩=some (.int .i64 n)/\w'.cell? ⟨bP,2,none⟩=some (.int .i64 r)/\w'.cell? ⟨bP,3,none⟩=some (.slice B q.len c)) _)) ?_
    clear hK K
    try simp only[nrm,Act.put]
    refine wpAnyS_fin 1 14 ?_
    simp only[nrd]
    clear hSy22 q0 q1 q2 q3 r0 r1 r2 hz0 hz1 hz2
    go_wp2
    go_meet
    exact⟨bG,hh,rfl,rfl,rfl,HHP,HTF,HWF⟩
   ·go_simp
    obtain⟨y23,hwx⟩:∃y,y=y19.alloc (.cells (zs m2) 2):=⟨_,rfl⟩
    have hcc:Below y19.heap.size y19 y23:=by rw[hwx];exact(Below.refl _ y19).alloc (Nat.le_refl _) _
    have hz:=zs_row m2 y19 2
    rw[<-hwx] at hz|-
    obtain⟨bY,hbx⟩:∃b,y19.heap.size=b:=⟨_,rfl⟩
    rw[hbx] at hz|-
    have HZY:=aZ hz.ints
    clear hz hbx hwx
    have hSy23:(λw'=>w'.cell? ⟨bP,0,none⟩=some (.int .i64 k)/\w'.cell? ⟨bP,1,none⟩=some (.int .i64 n)/\w'.cell? ⟨bP,2,none⟩=some (.int .i64 r)/\w'.cell? ⟨bP,3,none⟩=some (.slice B q.len c)) y23:=⟨keep_cell hcc hSy19.1,keep_cell hcc hSy19.2.1,keep_cell hcc hSy19.2.2.1,keep_cell hcc hSy19.2.2.2⟩
    have HWy23:=aZ (HWy19.out.trans (hcc.mono HWy19.out.size))
    replace HRB:=aZ (HRB.out.below hcc)
    clear hcc
    refine hK.out _ _ (λ_=>hSy23) ?_
    clear hK K
    try simp only[nrm,Act.put]
    refine wpAnyS_1 2 (λK hK=>?_)
    go_simp
    obtain⟨y24,hwx⟩:∃y,y=y23.alloc (.cells (zs m) 2):=⟨_,rfl⟩
    have hcc:Below y23.heap.size y23 y24:=by rw[hwx];exact(Below.refl _ y23).alloc (Nat.le_refl _) _
    have hz:=zs_row m y23 2
    rw[<-hwx] at hz|-
    obtain⟨bX,hbx⟩:∃b,y23.heap.size=b:=⟨_,rfl⟩
    rw[hbx] at hz|-
    have HZX:=aZ hz.ints
    clear hz hbx hwx
    have hSy24:(λw'=>w'.cell? ⟨bP,0,none⟩=some (.int .i64 k)/\w'.cell? ⟨bP,1,none⟩=some (.int .i64 n)/\w'.cell? ⟨bP,2,none⟩=some (.int .i64 r)/\w'.cell? ⟨bP,3,none⟩=some (.slice B q.len c)) y24:=⟨keep_cell hcc hSy23.1,keep_cell hcc hSy23.2.1,keep_cell hcc hSy23.2.2.1,keep_cell hcc hSy23.2.2.2⟩
    have HWy24:=aZ (HWy23.out.trans (hcc.mono HWy23.out.size))
    replace HZY:=aZ (HZY.out.keep hcc)
    replace HRB:=aZ (HRB.out.below hcc)
    clear hcc
    refine hK.out _ _ (λ_=>hSy24) ?_
    clear hK K
    try simp only[nrm,Act.put]
    refine wpAnyS_1 6 (λK hK=>?_)
    go_simp
    refine(HPV.out y24 (some ⟨bX,0,none⟩) (some ⟨bY,0,none⟩) HWy24.out HZX.out HZY.out).mono ?_
    rintro z y25 ⟨⟨hh,rfl,hhp⟩,hcc⟩
    have HHP:=aZ hhp
    clear hhp
    have hSy25:(λw'=>w'.cell? ⟨bP,0,none⟩=some (.int .i64 k)/\w'.cell? ⟨bP,1,none⟩=some (.int .i64 n)/\w'.cell? ⟨bP,2,none⟩=some (.int .i64 r)/\w'.cell? ⟨bP,3,none⟩=some (.slice B q.len c)) y25:=⟨keep_cell hcc hSy24.1,keep_cell hcc hSy24.2.1,keep_cell hcc hSy24.2.2.1,keep_cell hcc hSy24.2.2.2⟩
    have HWy25:=aZ (HWy24.out.trans (hcc.mono HWy24.out.size))
    replace HZX:=aZ (HZX.out.keep hcc)
    replace HZY:=aZ (HZY.out.keep hcc)
    replace HRB:=aZ (HRB.out.below hcc)
    clear hcc
    refine hK.out _ _ (λ_=>hSy25) ?_
    clear hK K
    try simp only[nrm,Act.put]
    refine Takes.intro [7,8,9,10] ?_
    repeat(refine Takes.go (v:=?_) hSy25 ?_;try simp only[nrm,Act.put])
    refine Takes.nil ?_
    refine Takes.intro [12] ?_
    repeat(refine Takes.go (v:=?_) hSy25 ?_;try simp only[nrm,Act.put])
    refine Takes.nil ?_
    refine wpAnyS_1 13 (λK hK=>?_)
    obtain⟨⟨r0,r1,r2⟩,hz,hlb⟩:=HRB.out
    have hz0:=hz 0 (by omega)
    have hz1:=hz 1 (by omega)
    have hz2:=hz 2 (by omega)
    clear hz hlb
    go_simp
    have HWF:=aZ (below_three HWy25.out (b:=bG) HLG.out (.int .i64 0) (.int .i64 0) (.int .i64 0))
    have HTF:=aZ (tri_set HRB.out.t 0 0 0)
    obtain⟨q0,q1,q2,q3⟩:=PP7.out.below HWF.out
    refine hK.out _ _ (λ_=>(⟨q0,q1,q2,q3⟩:(λw':World=>w'.cell? ⟨bP,0,none⟩=some (.int .i64 k)/\w'.cell? ⟨bP,1,none⟩=some (.int .i64 n)/\w'.cell? ⟨bP,2,none⟩=some (.int .i64 r)/\w'.cell? ⟨bP,3,none⟩=some (.slice B q.len c)) _)) ?_
    clear hK K
    try simp only[nrm,Act.put]
    refine wpAnyS_fin 1 14 ?_
    simp only[nrd]
    clear hSy25 q0 q1 q2 q3 r0 r1 r2 hz0 hz1 hz2
    go_wp2
    go_meet
    exact⟨bG,hh,rfl,rfl,rfl,HHP,HTF,HWF⟩
 case rest=>
 obtain⟨bG,h,rfl,rfl,rfl,hh,hT,hb⟩:=hcut
 rename World=>w9
 apply_assumption
 have PL9:=aZ (PL7.out.below hb.out)
 have KL9:=aZ (KL7.out.below hb.out)
 have BB9:Hid (Below w.heap.size w w9):=aZ (BB7.out.trans (hb.out.mono BB7.out.size))
 have HM1:=aZ (May19_any k n r q m 1 HQ.out w9 B' c' KL9.out)
 rw[HE1.out] at HM1
 obtain⟨l0,l1,l2,l3⟩:=PL9.out
 clear hb PP7 PL7 KK7 KL7 BB7 HPV
 go_wp2_with fail
 refine HM1.out.mono ?_
 rintro z w10 ⟨rfl,hb⟩
 have BB10:Hid (Below w.heap.size w w10):=aZ (BB9.out.trans (hb.mono BB9.out.size))
 obtain⟨t0,t1,t2⟩:=hT.out.below hb
 clear hb l0 l1 l2 l3 HM1
 by_cases h1:E1=0
 ·have h1b:(E1==0)=true:=by simpa using h1
  clear h1 hh
  go_wp2_with fail
  go_ret
  exact⟨rfl,BB10.out⟩
 ·have h1b:(E1==0)=false:=by simpa using h1
  obtain rfl:=hh.out h1
  clear h1
  go_wp2_with fail
  go_ret
  exact⟨rfl,BB10.out⟩
end Go.Proofs.Yteaimnemobnknaa
