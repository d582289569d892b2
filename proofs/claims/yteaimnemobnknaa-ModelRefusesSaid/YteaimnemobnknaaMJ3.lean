/- The contract of field.root. -/
import Derived.Test.YteaimnemobnknaaX0
import Derived.Test.YteaimnemobnknaaMB1
import Derived.Test.YteaimnemobnknaaMW2
import Derived.Test.YteaimnemobnknaaMJ2
import Derived.Test.YteaimnemobnknaaMC6
import Derived.Test.YteaimnemobnknaaD2
import Derived.WalkMore
set_option maxRecDepth 100000
set_option maxHeartbeats 4000000
set_option linter.unusedSimpArgs false
set_option linter.unusedVariables false
namespace Go.Proofs.Yteaimnemobnknaa
open Go.RowKit Go.Lib
def goodL(q o w:Nat)(l:List Nat):Bool:=l.all λp=>!(Nat.beq (pmod w (o/p) q) 1)
def goodW(q o w:Nat):Bool:=goodL q o w (facL o o 2)
theorem goodL_cons(q o w p:Nat)(l:List Nat):goodL q o w (p::l)=if pmod w (o/p) q=1 then false else goodL q o w l:=by
 unfold goodL
 rw[List.all_cons]
 by_cases h:pmod w (o/p) q=1
 ·rw[if_pos h,h];rfl
 ·rw[if_neg h,show Nat.beq (pmod w (o/p) q) 1=false from Bool.eq_false_iff.2 (λe=>h (Nat.eq_of_beq_eq_true e))];rfl
theorem root_any(q o g:Nat)(q2:2<=q)(hq:q<=4503599627370496)(o1:1<=o)(ho:o<=1099511627776)(hg2:2<=g)(hgq:g<q)(hgood:goodW q o (pmod g ((q-1)/o) q)=true)(w:World):
  Calls Try.prog 95 #[.int .i64 q,.int .i64 o] w λz w'=>∃a:Nat,2<=a/\a<=g/\goodW q o (pmod a ((q-1)/o) q)=true/\(∀b,2<=b->b<a->goodW q o (pmod b ((q-1)/o) q)=false)/\z=.returned (.int .i64 ((pmod a ((q-1)/o) q:Nat):Int))/\Below w.heap.size w w':=by
 have HFa:=aZ (Factor_any o o1 ho w)
 have HGood:=aZ hgood
 have hEq:(q-1)/o<=4503599627370496:=Nat.le_trans (Nat.div_le_self _ _) (by omega)
 have hEi:((q:Int)-1)/(o:Int)=(((q-1)/o:Nat):Int):=by rw[show(q:Int)-1=((q-1:Nat):Int) from by omega];push_cast;rfl
 obtain⟨E,hE⟩:∃E,(q-1)/o=E:=⟨_,rfl⟩
 rw[hE] at hEq hEi HGood|-
 have HP:=aZ (λ(a x:Nat) (ha:a<=4503599627370496) (hx:x<=4503599627370496) w=>Pow52_any (a:Int) (a%q) x q (by rw[Int.natCast_emod]) (by omega) hq (by omega) (by omega) (by omega) w)
 have HPe:Hid (∀a x:Nat,pmod (a%q) x q=pmod a x q):=aZ (λa x=>by unfold pmod;rw[<-Nat.pow_mod])
 have HEi:=aZ hEi
 have ho0:¬(o:Int)=0:=by omega
 clear hE hgood
 go_enter Try.func95,Try.ntmps95
 (try go_wp2_with fail)
 go_step3
 go_wp2_with fail
 refine HFa.out.mono ?_
 rintro z w1 ⟨A,c,L,rfl,hl,hp,hL,hb⟩
 have hge:=facL_ge o o 2 (by omega)
 rw[<-hL] at hge
 have HGe:Hid (∀(j p x:Nat),L[j]?=some (p,x)->2<=p/\p<=1099511627776):=aZ (λj p x hj=>by
  have:=hge p (List.mem_map.2 ⟨(p,x),List.mem_of_getElem? hj,rfl⟩)
  omega)
 have HLe:Hid (∀v,goodW q o v=goodL q o v ((L.drop 0).map Prod.fst)):=aZ (λv=>by
  show goodW q o v=goodL q o v (L.map Prod.fst)
  rw[hL];rfl)
 have HPr:=aZ hp
 have HB:=aZ hb
 clear hp hL hb hge HFa
 go_wp2_with fail
 go_step3
 go_wp2_with fail
 go_loopw [6] (λv6 wr=>∃a:Nat,v6=.int .i64 a/\2<=a/\a<=g/\Hid (∀b,2<=b->b<a->goodW q o (pmod b E q)=false)/\Hid (Below w1.heap.size w1 wr)) (λv6 _=>g+1-(intOf v6).toNat)
 case atStart=>exact⟨2,rfl,by omega,hg2,aZ (λb h1 h2=>by omega),aZ (Below.refl _ _)⟩
 case round=>
  obtain⟨a,rfl,ha2,hag,hno,hbr⟩:=hrel
  have hEi2:=HEi.out
  have hga:=pmod_lt a E q (by omega)
  go_wp2_with fail
  refine(HP.out a E (by omega) hEq _).mono ?_
  rintro z w2 ⟨rfl,hq2⟩
  rw[HPe.out]
  obtain⟨V,hV⟩:∃V,pmod a E q=V:=⟨_,rfl⟩
  rw[hV] at hga|-
  have HV:=aZ hV
  have HB2:Hid (Below w1.heap.size w1 w2):=aZ (hbr.out.trans (hq2.below.mono hbr.out.size))
  have HG0:Hid (goodL q o V ((L.drop 0).map Prod.fst)=goodW q o V):=aZ (HLe.out V).symm
  clear hq2 hV hEi2
  go_wp2_with fail
  go_loopw [23] (λv23 wx=>∃j:Nat,v23=.int .i64 j/\j<=L.length/\Hid (goodL q o V ((L.drop j).map Prod.fst)=goodW q o V)/\Hid (Below w1.heap.size w1 wx)) (λv23 _=>L.length-(intOf v23).toNat)
  case atStart=>exact⟨0,rfl,by omega,HG0,HB2⟩
  case round=>
   clear HG0 HB2
   obtain⟨j,rfl,hj,hgl,hbx⟩:=hrel
   by_cases hlt:j<L.length
   ·have hji:(j:Int)<L.length:=by omega
    obtain⟨p,x,hpx⟩:∃p x,L[j]?=some (p,x):=⟨L[j].1,L[j].2,by rw[List.getElem?_eq_getElem hlt]⟩
    obtain⟨b,o',rfl,c0,c1⟩:=(HPr.out.keep hbx.out) j p x hpx
    obtain⟨hp2,hp40⟩:=HGe.out j p x hpx
    have hdrop:L.drop j=(p,x)::L.drop (j+1):=by
     obtain⟨h,e⟩:=List.getElem?_eq_some_iff.1 hpx
     rw[<-List.getElem_cons_drop h,e]
    have hg2:=hgl.out
    rw[hdrop,List.map_cons,goodL_cons] at hg2
    have hop:(o:Int)/(p:Int)=((o/p:Nat):Int):=by push_cast;rfl
    have hpl:o/p<=1099511627776:=Nat.le_trans (Nat.div_le_self _ _) ho
    obtain⟨y,hy⟩:∃y,o/p=y:=⟨_,rfl⟩
    change (if pmod V (o/p) q=1 then _ else _)=_ at hg2
    rw[hy] at hop hpl hg2
    have HG2:=aZ hg2
    have hz:=hbx.out.size
    have hp0:¬(p:Int)=0:=by omega
    clear hdrop hpx hgl hg2 hy
    go_upto_region 8 with(fail)
    have hnew:=pair_new wr (p:Int) (x:Int) 159
    have hW1:Below w1.heap.size w1 (wr.alloc (.cells #[.int .i64 (p:Int),.int .i64 (x:Int)] 159)):=hbx.out.alloc hbx.out.size _
    obtain⟨W,hW⟩:∃W,W=wr.alloc (.cells #[.int .i64 (p:Int),.int .i64 (x:Int)] 159):=⟨_,rfl⟩
    rw[<-hW] at hnew hW1|-
    have HW1:=aZ hW1
    obtain⟨r0,r1⟩:=hnew
    obtain⟨B,hB⟩:∃B,B=wr.heap.size:=⟨_,rfl⟩
    rw[<-hB] at r0 r1|-
    clear hW hW1 c0 c1 hz hB
    go_wp2_with fail
    refine(HP.out V y (by omega) (by omega) _).mono ?_
    rintro z w3 ⟨rfl,hq3⟩
    rw[HPe.out]
    have HB3:Hid (Below w1.heap.size w1 w3):=aZ (HW1.out.trans (hq3.below.mono HW1.out.size))
    obtain⟨R,hR⟩:∃R,pmod V y q=R:=⟨_,rfl⟩
    rw[hR]
    have HR:=aZ hR
    clear hR hq3 r0 r1
    by_cases hR1:R=1
    ·have hbad:goodW q o V=false:=by rw[<-HG2.out,if_pos (by rw[HR.out];exact hR1)]
     have hne:a≠g:=by
      rintro rfl
      have:=HGood.out
      rw[HV.out,hbad] at this
      cases this
     have hno2:∀b,2<=b->b<a+1->goodW q o (pmod b E q)=false:=by
      intro b h2 h3
      by_cases h:b=a
      ·rw[h,HV.out];exact hbad
      ·exact hno.out b h2 (by omega)
     have HNo:=aZ hno2
     clear hbad hno2 HR
     subst hR1
     go_wp2
     exact⟨⟨a+1,by go_num,by omega,by omega,HNo,HB3⟩,by simp[intOf];omega⟩
    ·have hR1b:((R:Int)==1)=false:=by rw[beq_eq_false_iff_ne];omega
     have hgo:goodL q o V ((L.drop (j+1)).map Prod.fst)=goodW q o V:=by rw[<-HG2.out,if_neg (by rw[HR.out];exact hR1)]
     have HGo:=aZ hgo
     clear hgo HR hR1
     go_wp2
     exact⟨⟨j+1,by go_num,by omega,HGo,HB3⟩,by simp[intOf];omega⟩
   ·obtain rfl:j=L.length:=by omega
    have hgd:goodW q o V=true:=by
     rw[<-hgl.out,List.drop_length];rfl
    have HGd:=aZ hgd
    clear hgd hgl
    go_wp2
    (try rw[Exit.noGoto_ret])
    go_ret
    exact⟨a,ha2,hag,by rw[HV.out];exact HGd.out,hno.out,by rw[HV.out];rfl,HB.out.trans (hbx.out.mono HB.out.size)⟩
end Go.Proofs.Yteaimnemobnknaa
namespace Go.Proofs.Yteaimnemobnknaa
theorem good_gen{o q:Nat}(F:FieldQ o q)(hd:∀p∈facL o o 2,2<=p/\p∣o):∃g,2<=g/\g<q/\goodW q o (pmod g ((q-1)/o) q)=true:=by
 obtain⟨g,O⟩:=F.gen
 have hlo:=F.lo
 have o1:=F.o1
 have hg:∀e,(g%q)^e%q=g^e%q:=λe=>by rw[<-Nat.pow_mod]
 have O2:Ord (g%q) (q-1) q:=⟨O.q2,O.o1,by rw[hg];exact O.one,λe he=>O.least e (by rw[<-hg];exact he)⟩
 have hlt:g%q<q:=Nat.mod_lt _ (by omega)
 generalize g%q=h at*
 refine⟨h,?_,hlt,?_⟩
 ·rcases Nat.lt_or_ge h 2 with h2|h2
  ·exfalso
   rcases(show h=0\/h=1 by omega) with rfl|rfl
   ·have:=O2.one
    rw[Nat.zero_pow (by omega)] at this
    simp at this
   ·have:=O2.least 1 (by rw[Nat.pow_one];exact Nat.mod_eq_of_lt (by omega))
    have:=Nat.le_of_dvd (by omega) this
    omega
  ·exact h2
 ·have P:=O2.part F.dvd
  unfold goodW goodL
  rw[List.all_eq_true]
  intro p hp
  obtain⟨p2,t,ht⟩:=hd p hp
  have hne:pmod (pmod h ((q-1)/o) q) (o/p) q≠1:=by
   intro hc
   unfold pmod at hc
   rw[<-Nat.pow_mod] at hc
   have h1:=P.least _ hc
   have t1:1<=t:=by apply Nat.pos_of_ne_zero;rintro rfl;omega
   have e:o/p=t:=by rw[ht];exact Nat.mul_div_cancel_left _ (by omega)
   rw[e] at h1
   have h2:=Nat.le_of_dvd t1 h1
   have h3:2*t<=p*t:=Nat.mul_le_mul_right t p2
   omega
  rw[show Nat.beq (pmod (pmod h ((q-1)/o) q) (o/p) q) 1=false from Bool.eq_false_iff.2 (λe=>hne (Nat.eq_of_beq_eq_true e))]
  rfl
end Go.Proofs.Yteaimnemobnknaa
namespace Go.Proofs.Yteaimnemobnknaa
open Go.RowKit Go.Lib
def WofA(o q v:Nat):Prop:=∃a:Nat,2<=a/\a<q/\v=pmod a ((q-1)/o) q/\goodW q o v=true/\∀b,2<=b->b<a->goodW q o (pmod b ((q-1)/o) q)=false
theorem cand_next{o q c:Nat}(o1:1<=o)(h1:o∣q-1)(h2:o∣c-1)(c1:1<=c)(hlt:c<q):c+o<=q/\o∣c+o-1:=by
 obtain⟨m,hm⟩:=h1
 obtain⟨k,hk⟩:=h2
 have h3:o*k<o*m:=by omega
 have h4:k<m:=Nat.lt_of_mul_lt_mul_left h3
 have h5:o*(k+1)<=o*m:=Nat.mul_le_mul_left o h4
 rw[Nat.mul_succ] at h5
 exact⟨by omega,⟨k+1,by rw[Nat.mul_succ];omega⟩⟩
theorem Make_any(o q:Nat)(F:FieldQ o q)(w:World):
  Calls Try.prog 58 #[.int .i64 o] w λz w'=>∃v:Nat,WofA o q v/\z=.returned (.tuple #[.agg #[.int .i64 q,.int .i64 v,.int .i64 o],.int .i64 0])/\Below w.heap.size w w':=by
 have o1:=F.o1
 have ob:=F.ob
 have hlo:=F.lo
 have hhi:=F.hi
 obtain⟨g,g2,gq,hg⟩:=good_gen F (λp hp=>⟨(facL_ge o o 2 (by omega) p hp).1,facL_dvd o o 2 p hp⟩)
 have HRo:=aZ (λw=>root_any q o g (by omega) (by omega) o1 (by omega) g2 gq hg w)
 have HIs:=aZ (λ(c:Nat) (hc:c<=4503599627370496) w=>is52_any c hc w)
 have HF:=aZ F
 have h1:=Nat.div_add_mod 1099511627776 o
 obtain⟨d,hd⟩:∃d,1099511627776/o=d:=⟨_,rfl⟩
 rw[hd] at h1
 have hdi:(1099511627776:Int)/(o:Int)=(d:Int):=by rw[<-hd,Int.natCast_ediv];rfl
 obtain⟨s,hs⟩:∃s,d*o=s:=⟨_,rfl⟩
 have hso:o∣s:=⟨d,by rw[<-hs,Nat.mul_comm]⟩
 have hsl:s<=1099511627776:=by rw[<-hs,Nat.mul_comm];omega
 have hsi:(d:Int)*(o:Int)=(s:Int):=by rw[<-hs];push_cast;rfl
 have ho0:¬(o:Int)=0:=by omega
 have HSO:=aZ hso
 clear h1 hd hs hso hg
 obtain⟨W0,hW0⟩:∃W0,W0=w.alloc (.cells #[.int .i64 0,.int .i64 0,.int .i64 0] 60):=⟨_,rfl⟩
 have hb0:Below w.heap.size w W0:=by rw[hW0];exact(Below.refl _ w).alloc (Nat.le_refl _) _
 have hc0:W0.cell? ⟨w.heap.size,0,none⟩=some (.int .i64 0)/\W0.cell? ⟨w.heap.size,1,none⟩=some (.int .i64 0)/\W0.cell? ⟨w.heap.size,2,none⟩=some (.int .i64 0):=by rw[hW0];refine⟨?_,?_,?_⟩<;>go_simp
 have hf0:W0.frozen? ⟨w.heap.size,0,none⟩=false/\W0.frozen? ⟨w.heap.size,1,none⟩=false/\W0.frozen? ⟨w.heap.size,2,none⟩=false:=by rw[hW0];refine⟨?_,?_,?_⟩<;>simp[go_sem]
 have hs0:W0.heap.size=w.heap.size+1:=by rw[hW0];simp
 have HB0:=aZ hb0
 have HC0:=aZ hc0
 have HF0:=aZ hf0
 clear hb0 hc0 hf0
 go_enter Try.func58,Try.ntmps58
 go_wp2_with fail
 rw[<-hW0]
 clear hW0 hdi hsi
 go_loopw [4] (λv4 wr=>∃c:Nat,v4=.int .i64 c/\1<=c/\c<=q/\Hid (o∣c-1)/\Hid (Below W0.heap.size W0 wr)) (λv4 _=>q+1-(intOf v4).toNat)
 case atStart=>exact⟨s+1,by go_num,by omega,by omega,aZ (by rw[Nat.add_sub_cancel];exact HSO.out),aZ (Below.refl _ _)⟩
 case round=>
  obtain⟨c,rfl,c1,hcq,hcd,hbr⟩:=hrel
  have h52:(c:Int)<4503599627370496:=by omega
  by_cases hcm:c<=1099511627776
  ·have hcmi:¬(1099511627776:Int)<(c:Int):=by omega
   obtain⟨n1,n2⟩:=cand_next o1 HF.out.dvd hcd.out c1 (by omega)
   have HN2:=aZ n2
   clear n2 hcd
   go_wp2
   exact⟨⟨c+o,by go_num,by omega,n1,HN2,hbr⟩,by simp[intOf];omega⟩
  ·have hcmi:(1099511627776:Int)<(c:Int):=by omega
   go_wp2_with fail
   refine(HIs.out c (by omega) _).mono ?_
   rintro z w2 ⟨rfl,hb2⟩
   have HB2:Hid (Below W0.heap.size W0 w2):=aZ (hbr.out.trans (hb2.mono hbr.out.size))
   clear hb2
   by_cases hce:c=q
   ·have hisq:isB c=true:=isB_prm (by rw[hce];exact HF.out.pr) (by omega)
    rw[hisq]
    subst hce
    clear hisq
    go_wp2_with fail
    refine(HRo.out w2).mono ?_
    rintro z w3 ⟨a,a2,ag,hga,hno,rfl,hb3⟩
    obtain⟨V,hV⟩:∃V,pmod a ((c-1)/o) c=V:=⟨_,rfl⟩
    rw[hV] at hga|-
    have HW:Hid (WofA o c V):=aZ ⟨a,a2,by omega,hV.symm,hga,hno⟩
    have hB3:Below W0.heap.size W0 w3:=HB2.out.trans (hb3.mono HB2.out.size)
    obtain⟨r0,r1,r2⟩:=HC0.out
    obtain⟨t0,t1,t2⟩:=HF0.out
    replace r0:=keep_cell hB3 r0
    replace r1:=keep_cell hB3 r1
    replace r2:=keep_cell hB3 r2
    replace t0:=keep_free hB3 (by omega) t0
    replace t1:=keep_free hB3 (by omega) t1
    replace t2:=keep_free hB3 (by omega) t2
    have HB3:Hid (Below w.heap.size w w3):=aZ (HB0.out.trans (hB3.mono HB0.out.size))
    have HFN:Hid (Below w.heap.size w (((w3.setCell ⟨w.heap.size,0,none⟩ (.int .i64 c)).setCell ⟨w.heap.size,1,none⟩ (.int .i64 V)).setCell ⟨w.heap.size,2,none⟩ (.int .i64 o))):=aZ ⟨HB3.out.os,HB3.out.tape,HB3.out.output,by have:=HB3.out.size;simp[World.setCell];omega,λj hj=>(heap_set _ (by omega)).trans ((heap_set _ (by omega)).trans ((heap_set _ (by omega)).trans (HB3.out.block j hj)))⟩
    have s0:(((w3.setCell ⟨w.heap.size,0,none⟩ (.int .i64 c)).setCell ⟨w.heap.size,1,none⟩ (.int .i64 V)).setCell ⟨w.heap.size,2,none⟩ (.int .i64 o)).cell? ⟨w.heap.size,0,none⟩=some (.int .i64 c):=by simp[go_sem,r0,r1,r2]
    have s1:(((w3.setCell ⟨w.heap.size,0,none⟩ (.int .i64 c)).setCell ⟨w.heap.size,1,none⟩ (.int .i64 V)).setCell ⟨w.heap.size,2,none⟩ (.int .i64 o)).cell? ⟨w.heap.size,1,none⟩=some (.int .i64 V):=by simp[go_sem,r0,r1,r2]
    have s2:(((w3.setCell ⟨w.heap.size,0,none⟩ (.int .i64 c)).setCell ⟨w.heap.size,1,none⟩ (.int .i64 V)).setCell ⟨w.heap.size,2,none⟩ (.int .i64 o)).cell? ⟨w.heap.size,2,none⟩=some (.int .i64 o):=by simp[go_sem,r0,r1,r2]
    have HS:=aZ (⟨s0,s1,s2⟩:_/\_/\_)
    clear hB3 hb3 hno hga hV s0 s1 s2
    go_wp2
    obtain⟨s0,s1,s2⟩:=HS.out
    exact bodyPost_ret (v:=.tuple #[.agg #[.int .i64 c,.int .i64 V,.int .i64 o],.int .i64 0]) (by simp[results,Try.results58,go_sem,s0,s1,s2]) rfl ⟨V,HW.out,rfl,HFN.out⟩
   ·have hisq:isB c=false:=HF.out.no c (by omega) (by omega) hcd.out
    rw[hisq]
    obtain⟨n1,n2⟩:=cand_next o1 HF.out.dvd hcd.out c1 (by omega)
    have HN2:=aZ n2
    clear n2 hcd hisq
    go_wp2
    exact⟨⟨c+o,by go_num,by omega,n1,HN2,HB2⟩,by simp[intOf];omega⟩
end Go.Proofs.Yteaimnemobnknaa
