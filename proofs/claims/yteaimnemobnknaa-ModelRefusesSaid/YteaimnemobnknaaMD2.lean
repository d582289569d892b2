/- Rows of numbers: words. -/
import Derived.Test.YteaimnemobnknaaD2
import Derived.Test.YteaimnemobnknaaMC6
import Derived.Test.YteaimnemobnknaaX0
import Derived.Test.YteaimnemobnknaaZ3
set_option linter.unusedSimpArgs false
set_option linter.unusedVariables false
set_option maxRecDepth 100000
set_option maxHeartbeats 4000000
namespace Go.Proofs.Yteaimnemobnknaa
open Go.RowKit Go.Lib
def Rng(f:Nat->Int):Prop:=∀i,-9223372036854775808<=f i/\f i<=9223372036854775807
theorem Row.upto{w:World}{b n k:Nat}{G:Nat->Int}(h:Row w b n (updT (upTo k G) k (G k))):Row w b n (upTo (k+1) G):=h.congr λi hi=>by
 unfold updT upTo
 by_cases h1:i=k
 ·subst h1;rw[if_pos rfl,if_pos (by omega)]
 ·rw[if_neg h1]
  by_cases h2:i<k
  ·rw[if_pos h2,if_pos (by omega)]
  ·rw[if_neg h2,if_neg (by omega)]
theorem keep_cell'{c:Nat}{W w1:World}(hb:Below c W w1){b o:Nat}{v:Value}(h:W.cell? ⟨b,o,none⟩=some v)(hc:W.heap.size=c:=by rfl):w1.cell? ⟨b,o,none⟩=some v:=by subst hc;exact keep_cell hb h
def sameB2(n m:Nat)(f g:Nat->Int):Bool:=decide (n=m/\∀i,i<n->f i=g i)
def rdL(q step r0:Nat)(f:Nat->Int):Nat->Nat×Nat
 |0=>(0,r0)
 |k+1=>(((rdL q step r0 f k).1+(f k%(q:Int)).toNat*(rdL q step r0 f k).2%q)%q,(rdL q step r0 f k).2*step%q)
def rdF(q v o n:Nat)(s:Int)(f:Nat->Int)(j:Nat):Nat:=(rdL q (rootR q v o (unitI s*(j:Int)) n) (if rootR q v o (unitI s*(j:Int)) n=0 then 0 else 1) f n).1
theorem rdL_lt{q step r0:Nat}(q1:2<=q)(h0:r0<=1)(f:Nat->Int)(k:Nat):(rdL q step r0 f k).1<q/\(rdL q step r0 f k).2<q:=by
 cases k with
 |zero=>exact⟨by show 0<q;omega,by show r0<q;omega⟩
 |succ k=>exact⟨Nat.mod_lt _ (by omega),Nat.mod_lt _ (by omega)⟩
theorem bs_int64(v:Int)(w:World):(Instr.buildSlice 38 1 #[(0,.int .i64 v)]).run Try.prog w=.ok (.slice (some ⟨w.heap.size,0,none⟩) 1 1) (w.alloc (.cells #[.int .i64 v] 2)):=by
 obtain⟨i0,hi,hz0,hz1,hz2⟩:=info_parts info_int64
 refine run_buildSlice w 38 2 1 _ #[.int .i64 v] i0 _ Try.underlying38 hi hz0 (by rw[hz1];decide) (by rw[hz1];decide) ?_
 rw[hz1]
 have hr:Array.range 1=#[0]:=by decide
 simp[Instr.fill,Value.cells,hr]
def intsV(n:Nat)(F:Nat->Int):List Value:=(List.range n).map λi=>.int .i64 (F i)
theorem intsV_succ(n:Nat)(F:Nat->Int):intsV (n+1) F=intsV n F++[.int .i64 (F n)]:=by unfold intsV;rw[List.range_succ,List.map_append];rfl
theorem intsV_at(n:Nat)(F:Nat->Int)(i:Nat)(h:i<n):(intsV n F)[i]?=some (.int .i64 (F i)):=by unfold intsV;rw[List.getElem?_map,List.getElem?_range h];rfl
theorem intsV_len(n:Nat)(F:Nat->Int):(intsV n F).length=n:=by simp[intsV]
theorem owns_ints{w:World}{base n:Nat}{e:TypeId}{v:Value}{F:Nat->Int}(h:w.ownsRow base e 1 v n (intsV n F)):∃A c,v=.slice A n c/\IntsAt w A n F/\∀b o,A=some ⟨b,o,none⟩->base<=b:=by
 obtain⟨A,c,rfl,hc,-,-,hb⟩:=owns_cells h
 refine⟨A,c,rfl,λi hi=>hc i _ (intsV_at n F i hi),hb⟩
theorem one_int(x:Int)(u:Value)(h:u∈[Value.int .i64 x]):u.oneCell'=true:=by
 simp only[List.mem_cons,List.not_mem_nil,or_false] at h
 subst h
 rfl
theorem cells_one(w:World)(a:Value)(t:TypeId)(n:Nat)(hn:n=w.heap.size)(j:Nat)(u:Value)(h:[a][j]?=some u):(w.alloc (.cells #[a] t)).cell? ⟨n,j,none⟩=some u:=by
 subst hn
 match j,h with
 |0,h=>injection h with h;subst h;go_simp
 |_+1,h=>simp at h
theorem Tri.below{w w':World}{b:Nat}{x y z:Int}(h:Tri w b x y z)(hb:Below w.heap.size w w'):Tri w' b x y z:=⟨keep_cell hb h.1,keep_cell hb h.2.1,keep_cell hb h.2.2⟩
theorem Tri.qt{w w':World}{b:Nat}{x y z:Int}(h:Tri w b x y z)(hq:Qt w w'):Tri w' b x y z:=h.below hq.below
theorem Tri.grown{w w':World}{b:Nat}{row:Option Nat}{x y z:Int}(h:Tri w b x y z)(hg:w.grownBy w' row)(hne:row≠some b):Tri w' b x y z:=⟨grown_cell hg h.1 hne,grown_cell hg h.2.1 hne,grown_cell hg h.2.2 hne⟩
theorem RDirect_any(q v o:Nat)(q1:2<=q)(hq:q<=4503599627370496)(hv:v<=4503599627370496)(ho:o<=4503599627370496)(A:Option Addr)(n c:Nat)(s:Int)(f:Nat->Int)(w:World)(hI:IntsAt w A n f)(hR:Rng f)(hn:n<=1048576):
  Calls Try.prog 53 #[fdV q v o,.slice A n c,.int .i64 s] w λz w'=>∃A' c',z=.returned (.slice A' n c')/\IntsAt w' A' n (λj=>((rdF q v o n s f j:Nat):Int))/\(∀b o,A'=some ⟨b,o,none⟩->w.heap.size<=b)/\Below w.heap.size w w':=by
 have HI:=aZ hI
 have HR:=aZ hR
 have hT:=Tri.new w q v o 33
 obtain⟨W0,hW0⟩:∃W0,W0=w.alloc (.cells #[.int .i64 q,.int .i64 v,.int .i64 o] 33):=⟨_,rfl⟩
 have hb0:Below w.heap.size w W0:=by rw[hW0];exact(Below.refl _ w).alloc (Nat.le_refl _) _
 have hs0:W0.heap.size=w.heap.size+1:=by rw[hW0];simp
 rw[<-hW0] at hT
 have HT:=aZ hT
 have HB0:=aZ hb0
 have HS0:=aZ hs0
 have hu:unitI s=1\/unitI s=-1:=by unfold unitI;split<;>simp
 obtain⟨F,hF⟩:∃F:Nat->Int,F=λj=>((rdF q v o n s f j:Nat):Int):=⟨_,rfl⟩
 rw[<-hF]
 have HF:=aZ hF
 clear hI hR hT hb0 hs0 hF
 go_enter Try.func53,Try.ntmps53
 go_upto_region 3 with fail
 rw[<-hW0]
 clear hW0
 go_cut [19] from 18 to 18 (λs19 wx=>s19=.bool (decide (s<0))/\W0=wx)
 case first=>
  go_wp2_with fail
  go_meet
  exact⟨rfl,rfl⟩
 case rest=>
 obtain⟨rfl,rfl⟩:=hcut
 apply_assumption
 go_cut [8] from 19 to 19 (λs8 wx=>s8=.int .i64 (unitI s)/\W0=wx)
 case first=>
  by_cases hs:s<0
  ·have e:unitI s=-1:=by unfold unitI;rw[if_pos hs]
   go_wp2
   go_meet
   exact⟨by rw[e],rfl⟩
  ·have e:unitI s=1:=by unfold unitI;rw[if_neg hs]
   go_wp2
   go_meet
   exact⟨by rw[e],rfl⟩
 case rest=>
 obtain⟨rfl,rfl⟩:=hcut
 apply_assumption
 obtain⟨u,hu0⟩:∃u,unitI s=u:=⟨_,rfl⟩
 have HU:=aZ hu0
 rw[hu0] at hu|-
 have bs:=bs_int64
 clear hu0
 go_wp2
 go_loopw [9,10,11,12,13,14,15] (λv9 v10 v11 v12 v13 v14 v15 wr=>∃j:Nat,j<=n/\v10=.int .i64 j/\Hid (wr.ownsRow (w.heap.size+1) 2 1 v9 j (intsV j F))/\Hid (Below (w.heap.size+1) W0 wr)) (λ_ v10 _ _ _ _ _ _=>n-(intOf v10).toNat)
 case atStart=>exact⟨0,Nat.zero_le _,rfl,aZ ⟨rfl,.inl ⟨rfl,rfl⟩⟩,aZ (Below.refl _ _)⟩
 case round=>
  obtain⟨j,hj,rfl,hown,hbw⟩:=hrel
  obtain⟨wo,hwo⟩:∃wo,wo=wr:=⟨_,rfl⟩
  subst hwo
  have hbw1:Hid (Below w.heap.size w wo):=aZ (HB0.out.trans (hbw.out.mono (by omega)))
  by_cases hlt:j<n
  ·have hji:(j:Int)<n:=by omega
   have hsz:w.heap.size+1<=wo.heap.size:=by have:=hbw.out.size;rw[HS0.out] at this;exact this
   have HTO:Hid (Tri wo w.heap.size q v o):=aZ (HT.out.below (by rw[HS0.out];exact hbw.out))
   obtain⟨t0,t1,t2⟩:=HTO.out
   have hwr:wrap64 (u*(j:Int))=u*(j:Int):=by rcases hu with rfl|rfl<;>(unfold wrap64;omega)
   have hkb:-1048576<=u*(j:Int)/\u*(j:Int)<=1048576:=by rcases hu with rfl|rfl<;>omega
   have HRO:=aZ (λw=>RRoot_any q v o (u*(j:Int)) n (by omega) (by omega) (by omega) (by omega) (by omega) (by omega) (by omega) (by omega) w)
   have HFJ:Hid (F j=((rdL q (rootR q v o (u*(j:Int)) n) (if rootR q v o (u*(j:Int)) n=0 then 0 else 1) f n).1:Nat)):=aZ (by rw[HF.out,<-HU.out];rfl)
   have hsl:=rootR_lt q v o (by omega) (u*(j:Int)) n
   obtain⟨kj,hkj⟩:∃kj,u*(j:Int)=kj:=⟨_,rfl⟩
   rw[hkj] at hwr hkb HRO HFJ hsl
   obtain⟨st,hst⟩:∃st,rootR q v o kj n=st:=⟨_,rfl⟩
   rw[hst] at HRO HFJ hsl
   clear hst
   go_wp2_with fail
   refine(HRO.out _).mono ?_
   rintro z w' ⟨rfl,rfl⟩
   clear HRO t0 t1 t2 hkj hwr
   obtain⟨r0,hr0⟩:∃r0:Nat,(if st=0 then 0 else 1)=r0:=⟨_,rfl⟩
   rw[hr0] at HFJ
   have hr1:r0<=1:=by rw[<-hr0];split<;>omega
   go_upto_region 11 with fail
   go_cut [37] from 36 to 36 (λs37 wx=>s37=.bool ((st:Int)==0)/\wo=wx)
   case first=>
    go_wp2_with fail
    go_meet
    exact⟨rfl,rfl⟩
   case rest=>
   obtain⟨rfl,rfl⟩:=hcut
   apply_assumption
   go_cut [12] from 37 to 37 (λs12 wx=>s12=.int .i64 r0/\wo=wx)
   case first=>
    by_cases hz:st=0
    ·rw[if_pos hz] at hr0
     subst hr0 hz
     go_wp2
     go_meet
     exact⟨rfl,rfl⟩
    ·rw[if_neg hz] at hr0
     subst hr0
     have hzi:¬(st:Int)=0:=by omega
     have hzb:((st:Int)==0)=false:=by rw[beq_eq_false_iff_ne];omega
     go_wp2
     go_meet
     exact⟨rfl,rfl⟩
   case rest=>
   obtain⟨rfl,rfl⟩:=hcut
   apply_assumption
   clear hr0
   go_wp2
   go_loopw [12,13,14,15] (λv12 v13 v14 v15 wr=>∃k:Nat,k<=n/\v14=.int .i64 k/\v13=.int .i64 ((rdL q st r0 f k).1:Nat)/\v12=.int .i64 ((rdL q st r0 f k).2:Nat)/\Hid (Qt wo wr)) (λ_ _ v14 _ _=>n-(intOf v14).toNat)
   case atStart=>exact⟨0,Nat.zero_le _,rfl,rfl,rfl,aZ (Qt.refl _)⟩
   case round=>
    obtain⟨k,hk,rfl,rfl,rfl,hqt⟩:=hrel
    by_cases hltk:k<n
    ·have hkn:(k:Int)<n:=by omega
     obtain⟨bI,oI,rfl,hc⟩:=(HI.out.keep hbw1.out).keep hqt.out.below k hltk
     have HTQ0:=HTO.out.qt hqt.out
     have HTQ:=aZ HTQ0.1
     obtain⟨hl1,hl2⟩:=rdL_lt (step:=st) (r0:=r0) q1 hr1 f k
     have hnx:rdL q st r0 f (k+1)=(((rdL q st r0 f k).1+(f k%(q:Int)).toNat*(rdL q st r0 f k).2%q)%q,(rdL q st r0 f k).2*st%q):=rfl
     obtain⟨S,hS⟩:∃S,(rdL q st r0 f k).1=S:=⟨_,rfl⟩
     obtain⟨R,hRr⟩:∃R,(rdL q st r0 f k).2=R:=⟨_,rfl⟩
     rw[hS] at hl1|-
     rw[hRr] at hl2|-
     rw[hS,hRr] at hnx
     clear hS hRr
     have hx:=emod_nat (f k) q (by omega)
     obtain⟨x,hx0,hxl⟩:=hx
     have hxt:(f k%(q:Int)).toNat=x:=by omega
     rw[hxt] at hnx
     have HM1:=aZ (λw=>RMul_any (f k) R x R q hx0 (by rw[<-Int.natCast_emod,Nat.mod_eq_of_lt hl2]) (by omega) (by omega) (HR.out k).1 (HR.out k).2 (by omega) (by omega) w)
     have HM2:=aZ (λw=>RMul_any R st R st q (by rw[<-Int.natCast_emod,Nat.mod_eq_of_lt hl2]) (by rw[<-Int.natCast_emod,Nat.mod_eq_of_lt hsl]) (by omega) (by omega) (by omega) (by omega) (by omega) (by omega) w)
     have hpl:x*R%q<q:=Nat.mod_lt _ (by omega)
     obtain⟨p,hp⟩:∃p,x*R%q=p:=⟨_,rfl⟩
     rw[hp] at hnx hpl HM1
     obtain⟨R2,hR2⟩:∃R2,R*st%q=R2:=⟨_,rfl⟩
     rw[hR2] at hnx HM2
     have hsm:((S:Int)+(p:Int)).tmod q=(((S+p)%q:Nat):Int):=by rw[Int.tmod_eq_emod_of_nonneg (by omega),Int.natCast_emod,Int.natCast_add]
     obtain⟨S2,hS2⟩:∃S2,(S+p)%q=S2:=⟨_,rfl⟩
     rw[hS2] at hnx hsm
     have hq0:¬(q:Int)=0:=by omega
     clear hx0 hxt hp hR2 hS2
     go_upto_region 17 with fail
     refine wp_region_T (λw'=>w'.cell? ⟨bI,oI+k,none⟩=some (.int .i64 (f k))/\w'.cell? ⟨w.heap.size,0,none⟩=some (.int .i64 q)) 7 ⟨hc,HTQ.out⟩ (λhS0=>?_)
     refine Takes.intro [0,1,2,3,4,5,6] ?_
     repeat(refine Takes.go (v:=?_) hS0 ?_;try simp only[nrm,Act.put])
     refine Takes.nil ?_
     refine wpAnyS_fin 2 7 ?_
     simp only[nrd]
     clear hS0
     go_wp2_with fail
     refine(HM1.out _).mono ?_
     rintro z w' ⟨rfl,rfl⟩
     have ht0:(wr.drew).cell? ⟨w.heap.size,0,none⟩=some (.int .i64 q):=HTQ.out
     go_wp2_with fail
     refine(HM2.out _).mono ?_
     rintro z w' ⟨rfl,rfl⟩
     go_wp2
     exact⟨⟨k+1,by omega,by go_num,by rw[hnx],by rw[hnx],aZ (hqt.out.trans ⟨1,rfl⟩)⟩,by simp[intOf];omega⟩
    ·obtain rfl:k=n:=by omega
     have hown2:=owns_below hown.out hqt.out.below
     have HFV:Hid (F j=((rdL q st r0 f k).1:Nat)):=HFJ
     obtain⟨S,hS⟩:∃S,(rdL q st r0 f k).1=S:=⟨_,rfl⟩
     rw[hS] at HFV|-
     obtain⟨W2,hW2⟩:∃W2,W2=wr.alloc (.cells #[.int .i64 S] 2):=⟨_,rfl⟩
     have hbs:Below wr.heap.size wr W2:=by rw[hW2];exact(Below.refl _ wr).alloc (Nat.le_refl _) _
     have HNEW:Hid (∀t x,[Value.int .i64 S][t]?=some x->W2.cell? ⟨wr.heap.size,t,none⟩=some x):=aZ (by rw[hW2];exact cells_one _ _ _ _ rfl)
     have HOW:=aZ (owns_below hown2 hbs)
     have hszr:w.heap.size+1<=W2.heap.size:=by have:=hbs.size;have:=hqt.out.below.size;omega
     have HBR:Hid (Below (w.heap.size+1) W0 W2):=aZ (hbw.out.trans ((hqt.out.below.mono hsz).trans (hbs.mono (by have:=hqt.out.below.size;omega))))
     have hjm:j+1<=1099511627776:=by omega
     clear hown2 hown hbw hS
     go_wp2_with (at_builtin;rw[<-hW2];refine wpList_appL rfl _ _ 38 2 rfl 1 8 (.int .i64 0) Try.underlying38 info_int64 rfl (by omega) (by omega) (w.heap.size+1) _ j (intsV j F) rfl HOW.out _ _ [.int .i64 S] rfl rfl HNEW.out (one_int _) hjm hszr ?_;intro g2 cap2 w5 hO2 hG2 hL2)
     have HON:Hid (w5.ownsRow (w.heap.size+1) 2 1 (.slice (some ⟨g2,0,none⟩) (j+1) cap2) (j+1) (intsV (j+1) F)):=aZ (by rw[intsV_succ,HFV.out];exact hO2.out)
     have HBN:Hid (Below (w.heap.size+1) W0 w5):=aZ (HBR.out.grown hG2.out hszr (λk e=>(World.ownsRow.lt HOW.out k e).1))
     clear hO2 hG2 hL2
     exact⟨⟨j+1,by omega,by go_num,HON,HBN⟩,by simp[intOf];omega⟩
  ·obtain rfl:j=n:=by omega
   obtain⟨A',c',hv9,hi9,hb9⟩:=owns_ints hown.out
   subst hv9
   have HI9:=aZ hi9
   go_wp2
   go_ret
   exact⟨A',c',rfl,HI9.out,λb o e=>by have:=hb9 b o e;omega,hbw1.out⟩
def rbF(q v o n:Nat)(s:Int)(f:Nat->Int)(j:Nat):Nat:=rdF q v o n (-s) f j*pmod (n%q) (q-2) q%q
theorem rdF_lt{q v o n:Nat}(q1:2<=q)(s:Int)(f:Nat->Int)(j:Nat):rdF q v o n s f j<q:=(rdL_lt q1 (by split<;>omega) f n).1
def lcmF(a b most:Nat):Nat×Bool:=if most/(b/Nat.gcd a b)<a then(0,false) else(a*(b/Nat.gcd a b),true)
theorem RLcm_any(a b most:Nat)(a1:1<=a)(b1:1<=b)(m1:1<=most)(ha:a<=1099511627776)(hb:b<=1099511627776)(hm:most<=1099511627776)(w:World):
  Calls Try.prog 54 #[.int .i64 a,.int .i64 b,.int .i64 most] w λz w'=>z=.returned (.tuple #[.int .i64 ((lcmF a b most).1:Nat),.bool (lcmF a b most).2])/\w=w':=by
 have hg1:1<=Nat.gcd a b:=Nat.gcd_pos_of_pos_right _ (by omega)
 have hg2:Nat.gcd a b<=b:=Nat.gcd_le_right _ (by omega)
 have HG:=aZ (λw=>Gcd_any a b (by omega) (by omega) w)
 unfold lcmF
 obtain⟨g,hg⟩:∃g,Nat.gcd a b=g:=⟨_,rfl⟩
 rw[hg] at hg1 hg2 HG|-
 have hd1:1<=b/g:=Nat.div_pos hg2 hg1
 have hd2:b/g<=b:=Nat.div_le_self _ _
 have hdv:(b:Int).tdiv g=((b/g:Nat):Int):=by rw[Int.tdiv_eq_ediv_of_nonneg (by omega)];omega
 obtain⟨d,hd⟩:∃d,b/g=d:=⟨_,rfl⟩
 rw[hd] at hd1 hd2 hdv|-
 have hmx:(most:Int).tdiv d=((most/d:Nat):Int):=by rw[Int.tdiv_eq_ediv_of_nonneg (by omega),Int.natCast_ediv]
 have hmd:most/d<=most:=Nat.div_le_self _ _
 have HMU:=aZ (Nat.le_div_iff_mul_le (k:=d) (x:=a) (y:=most) hd1)
 obtain⟨Q,hQ⟩:∃Q,most/d=Q:=⟨_,rfl⟩
 rw[hQ] at hmx hmd HMU|-
 have hg0:¬(g:Int)=0:=by omega
 have hg3:((g:Int)==0)=false:=by rw[beq_eq_false_iff_ne];omega
 have hd0:¬(d:Int)=0:=by omega
 have hd3:((d:Int)==0)=false:=by rw[beq_eq_false_iff_ne];omega
 have ha0:¬(a:Int)<1:=by omega
 have hb0:¬(b:Int)<1:=by omega
 have hm0:¬(most:Int)<1:=by omega
 clear hg hd hQ
 by_cases hQa:Q<a
 ·rw[if_pos hQa]
  have hQi:(Q:Int)<(a:Int):=by omega
  go_enter Try.func54,Try.ntmps54
  go_wp2_with fail
  refine(HG.out _).mono ?_
  rintro z w' ⟨rfl,rfl⟩
  go_wp2
  go_ret2
  exact⟨rfl,rfl⟩
 ·rw[if_neg hQa]
  have hQi:¬(Q:Int)<(a:Int):=by omega
  have hpr:a*d<=most:=HMU.out.1 (by omega)
  have hpi:(a:Int)*(d:Int)=((a*d:Nat):Int):=(Int.natCast_mul a d).symm
  obtain⟨P,hP⟩:∃P,a*d=P:=⟨_,rfl⟩
  rw[hP] at hpr hpi|-
  clear hP
  go_enter Try.func54,Try.ntmps54
  go_wp2_with fail
  refine(HG.out _).mono ?_
  rintro z w' ⟨rfl,rfl⟩
  go_wp2
  go_ret2
  exact⟨rfl,rfl⟩
theorem lcmF_le{a b m:Nat}(a1:1<=a)(b1:1<=b)(h:(lcmF a b m).2=true):1<=(lcmF a b m).1/\(lcmF a b m).1<=m/\a∣(lcmF a b m).1/\b∣(lcmF a b m).1:=by
 unfold lcmF at h|-
 split at h
 ·cases h
 ·rename_i hle
  rw[if_neg hle]
  have hg1:1<=Nat.gcd a b:=Nat.gcd_pos_of_pos_right _ (by omega)
  have hd1:1<=b/Nat.gcd a b:=Nat.div_pos (Nat.gcd_le_right _ (by omega)) hg1
  refine⟨Nat.mul_pos a1 hd1,(Nat.le_div_iff_mul_le hd1).1 (by omega),⟨_,rfl⟩,?_⟩
  obtain⟨c,hc⟩:=Nat.gcd_dvd_left a b
  obtain⟨d,hd⟩:=Nat.gcd_dvd_right a b
  have e:b/Nat.gcd a b=d:=by
   have:b/Nat.gcd a b=Nat.gcd a b*d/Nat.gcd a b:=by rw[<-hd]
   rw[this]
   exact Nat.mul_div_cancel_left d hg1
  refine⟨c,?_⟩
  show a*(b/Nat.gcd a b)=b*c
  rw[e]
  generalize Nat.gcd a b=g at*
  rw[hc,hd]
  grind
structure RB(w:World)(b:Nat):Prop where
 t:Tri w b 0 0 0
 f:∀j,j<3->w.frozen? ⟨b,j,none⟩=false
 l:b<w.heap.size
theorem RB.below{w w':World}{b:Nat}(h:RB w b)(hb:Below w.heap.size w w'):RB w' b:=⟨h.t.below hb,λj hj=>keep_free hb h.l (h.f j hj),Nat.lt_of_lt_of_le h.l hb.size⟩
theorem RB.new(w:World)(t:TypeId):RB (w.alloc (.cells #[.int .i64 0,.int .i64 0,.int .i64 0] t)) w.heap.size:=⟨Tri.new w 0 0 0 t,λj _=>by simp[go_sem],by simp⟩
end Go.Proofs.Yteaimnemobnknaa
