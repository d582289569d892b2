/- Contracts: shape.node. -/
import Derived.Test.YteaimnemobnknaaX0
import Derived.Test.YteaimnemobnknaaZ3
import Derived.Test.YteaimnemobnknaaMC1
set_option maxRecDepth 100000
set_option maxHeartbeats 4000000
set_option linter.unusedSimpArgs false
set_option linter.unusedVariables false
namespace Go.Proofs.Yteaimnemobnknaa
open Go.RowKit Go.Lib
theorem PlBox.below{w w':World}{b:Nat}{kind n r:Int}{A:Option Addr}{l c:Nat}(h:PlBox w b kind n r A l c)(hb:Below w.heap.size w w'):PlBox w' b kind n r A l c:=h.keep Mem.plain_ok ⟨trivial,hb⟩ trivial
theorem pl_next{w v w2:World}{b:Nat}{kind n r:Int}{A:Option Addr}{l c:Nat}(h:w.cell? ⟨b,0,none⟩=some (.int .i64 kind)/\w.cell? ⟨b,1,none⟩=some (.int .i64 n)/\w.cell? ⟨b,2,none⟩=some (.int .i64 r)/\w.cell? ⟨b,3,none⟩=some (.slice A l c)/\Hid (v.heap.size<w.heap.size/\Below v.heap.size v w))(hb:Below w.heap.size w w2):
  w2.cell? ⟨b,0,none⟩=some (.int .i64 kind)/\w2.cell? ⟨b,1,none⟩=some (.int .i64 n)/\w2.cell? ⟨b,2,none⟩=some (.int .i64 r)/\w2.cell? ⟨b,3,none⟩=some (.slice A l c)/\Hid (v.heap.size<w2.heap.size/\Below v.heap.size v w2):=by
 obtain⟨h0,h1,h2,h3,h4⟩:=h
 exact⟨keep_cell hb h0,keep_cell hb h1,keep_cell hb h2,keep_cell hb h3,aZ ⟨Nat.lt_of_lt_of_le h4.out.1 hb.size,h4.out.2.trans (hb.mono (by have:=h4.out.1;omega))⟩⟩
theorem node_any(kind n r:Int)(A:Option Addr)(l c:Nat)(want:Int)(blue:Bool)(w:World)(h1:1<=want)(h2:want<=32768):
  Calls Try.prog 104 #[plV kind n r A l c,.int .i64 want,.bool blue] w (Ret w (.int .i64 (nodeE kind n r l want blue))):=by
 have fin:∀t,Below w.heap.size w (w.alloc (.cells #[.int .i64 kind,.int .i64 n,.int .i64 r,.slice A l c] t)):=λt=>(Below.refl _ w).alloc (Nat.le_refl _) _
 have FIN:=aZ fin
 clear fin
 unfold nodeE
 by_cases ka:kind<0
 ·rw[if_pos (.inl ka)]
  go_enter Try.func104,Try.ntmps104
  go_wp2
  go_ret
  exact⟨rfl,FIN.out _⟩
 by_cases kb:4<kind
 ·rw[if_pos (.inr (.inl kb))]
  go_enter Try.func104,Try.ntmps104
  go_wp2
  go_ret
  exact⟨rfl,FIN.out _⟩
 have main:¬(kind=4/\blue=true)->Calls Try.prog 104 #[plV kind n r A l c,.int .i64 want,.bool blue] w (Ret w (.int .i64 (if n≠want then 21 else if sizeE kind n≠0 then sizeE kind n else if l≠(wantsF kind n r).length then 26 else if radixB kind n r=true then 0 else 23))):=by
  intro hk
  have rest:∀b4:Bool,(kind==4)=b4->(b4=true->blue=false)->Calls Try.prog 104 #[plV kind n r A l c,.int .i64 want,.bool blue] w (Ret w (.int .i64 (if n≠want then 21 else if sizeE kind n≠0 then sizeE kind n else if l≠(wantsF kind n r).length then 26 else if radixB kind n r=true then 0 else 23))):=by
   intro b4 e4 hb4
   have HK4:=aZ e4
   clear hk
   by_cases hn:n=want
   ·subst hn
    rw[if_neg (by simp)]
    have h16:Hid (sizeE kind n=0->kind=4->n<=16384):=aZ (λhs e=>by
     subst e
     unfold sizeE at hs
     rw[if_neg (by decide),if_neg (by decide),if_neg (by decide),if_pos rfl] at hs
     by_cases hp:(n<2\/16384<n)
     ·rw[if_pos hp] at hs;omega
     ·omega)
    have HSZ:=aZ (λw=>size_any kind n r A l c w h1 h2)
    have HWA:=aZ (λhk w=>Wants_any kind n r A l c w h1 h2 hk)
    have HRA:=aZ (λw=>radix_any kind n r A l c w h1 h2)
    generalize sizeE kind n=e at*
    generalize radixB kind n r=rb at*
    have hlen:(wantsF kind n r).length<=2:=by
     unfold wantsF
     (repeat' split)<;>simp
    generalize wantsF kind n r=L at*
    have HLL:=aZ hlen
    by_cases he:e=0
    ·subst he
     rw[if_neg (by simp)]
     have HW2:=aZ (HWA.out (h16.out rfl))
     clear HWA h16 hlen
     by_cases hl:l=L.length
     ·rw[if_neg (by simp[hl])]
      have hll:((l:Int) != (L.length:Int))=false:=by rw[hl];simp
      have HLE:=aZ hl
      clear hl
      cases blue<;>cases b4<;>cases rb
      ·have k4':((kind==4)=false):=HK4.out
       go_enter Try.func104,Try.ntmps104
       go_wp2_with fail
       have hP0:=PlBox.new w kind n r A l c 26
       have hB0:w.heap.size<(w.alloc (.cells #[.int .i64 kind,.int .i64 n,.int .i64 r,.slice A l c] 26)).heap.size/\Below w.heap.size w (w.alloc (.cells #[.int .i64 kind,.int .i64 n,.int .i64 r,.slice A l c] 26)):=⟨by simp,FIN.out _⟩
       generalize hW:w.alloc (.cells #[.int .i64 kind,.int .i64 n,.int .i64 r,.slice A l c] 26)=W at*
       refine(HSZ.out _).mono ?_
       rintro z w1 ⟨rfl,hb1⟩
       have HP:=aZ (hP0.below hb1)
       have HB:Hid (w.heap.size<w1.heap.size/\Below w.heap.size w w1):=aZ ⟨Nat.lt_of_lt_of_le hB0.1 hb1.size,hB0.2.trans (hb1.mono (by omega))⟩
       clear hb1 hP0 hB0 hW
       go_upto_region 8 with(fail)
       refine wp_region_T (λw'=>w'.cell? ⟨w.heap.size,0,none⟩=some (.int .i64 kind)/\w'.cell? ⟨w.heap.size,1,none⟩=some (.int .i64 n)/\w'.cell? ⟨w.heap.size,2,none⟩=some (.int .i64 r)/\w'.cell? ⟨w.heap.size,3,none⟩=some (.slice A l c)/\Hid (w.heap.size<w'.heap.size/\Below w.heap.size w w')) 6 ⟨HP.out.1,HP.out.2.1,HP.out.2.2.1,HP.out.2.2.2,aZ ⟨HB.out.1,HB.out.2.drew⟩⟩ (λhS0=>?_)
       refine Takes.intro [0,1,2,3] ?_
       repeat(refine Takes.go (v:=?_) hS0 ?_;try simp only[nrm,Act.put])
       refine Takes.nil ?_
       refine wpAnyS_1 4 (λK hK=>?_)
       go_simp
       refine(HW2.out _).mono ?_
       rintro z w2 ⟨⟨A',rfl,-⟩,hb2⟩
       have hS1:=pl_next hS0 hb2
       clear hb2
       refine hK.out _ _ (λ_=>hS1) ?_
       clear hK K
       try simp only[nrm,Act.put]
       refine Takes.intro [5] ?_
       repeat(refine Takes.go (v:=?_) hS1 ?_;try simp only[nrm,Act.put])
       refine Takes.nil ?_
       refine wpAnyS_fin 1 6 ?_
       simp only[nrd]
       obtain⟨p0,p1,p2,p3,HB2⟩:=hS1
       clear hS0 HP HB
       go_wp2_with fail
       refine(HRA.out _).mono ?_
       rintro z w3 ⟨rfl,hb3⟩
       have HB3:=aZ (HB2.out.2.trans (hb3.mono (by have:=HB2.out.1;omega)))
       clear hb3
       go_wp2
       go_ret
       exact⟨rfl,HB3.out⟩
      ·have k4':((kind==4)=false):=HK4.out
       go_enter Try.func104,Try.ntmps104
       go_wp2_with fail
       have hP0:=PlBox.new w kind n r A l c 26
       have hB0:w.heap.size<(w.alloc (.cells #[.int .i64 kind,.int .i64 n,.int .i64 r,.slice A l c] 26)).heap.size/\Below w.heap.size w (w.alloc (.cells #[.int .i64 kind,.int .i64 n,.int .i64 r,.slice A l c] 26)):=⟨by simp,FIN.out _⟩
       generalize hW:w.alloc (.cells #[.int .i64 kind,.int .i64 n,.int .i64 r,.slice A l c] 26)=W at*
       refine(HSZ.out _).mono ?_
       rintro z w1 ⟨rfl,hb1⟩
       have HP:=aZ (hP0.below hb1)
       have HB:Hid (w.heap.size<w1.heap.size/\Below w.heap.size w w1):=aZ ⟨Nat.lt_of_lt_of_le hB0.1 hb1.size,hB0.2.trans (hb1.mono (by omega))⟩
       clear hb1 hP0 hB0 hW
       go_upto_region 8 with(fail)
       refine wp_region_T (λw'=>w'.cell? ⟨w.heap.size,0,none⟩=some (.int .i64 kind)/\w'.cell? ⟨w.heap.size,1,none⟩=some (.int .i64 n)/\w'.cell? ⟨w.heap.size,2,none⟩=some (.int .i64 r)/\w'.cell? ⟨w.heap.size,3,none⟩=some (.slice A l c)/\Hid (w.heap.size<w'.heap.size/\Below w.heap.size w w')) 6 ⟨HP.out.1,HP.out.2.1,HP.out.2.2.1,HP.out.2.2.2,aZ ⟨HB.out.1,HB.out.2.drew⟩⟩ (λhS0=>?_)
       refine Takes.intro [0,1,2,3] ?_
       repeat(refine Takes.go (v:=?_) hS0 ?_;try simp only[nrm,Act.put])
       refine Takes.nil ?_
       refine wpAnyS_1 4 (λK hK=>?_)
       go_simp
       refine(HW2.out _).mono ?_
       rintro z w2 ⟨⟨A',rfl,-⟩,hb2⟩
       have hS1:=pl_next hS0 hb2
       clear hb2
       refine hK.out _ _ (λ_=>hS1) ?_
       clear hK K
       try simp only[nrm,Act.put]
       refine Takes.intro [5] ?_
       repeat(refine Takes.go (v:=?_) hS1 ?_;try simp only[nrm,Act.put])
       refine Takes.nil ?_
       refine wpAnyS_fin 1 6 ?_
       simp only[nrd]
       obtain⟨p0,p1,p2,p3,HB2⟩:=hS1
       clear hS0 HP HB
       go_wp2_with fail
       refine(HRA.out _).mono ?_
       rintro z w3 ⟨rfl,hb3⟩
       have HB3:=aZ (HB2.out.2.trans (hb3.mono (by have:=HB2.out.1;omega)))
       clear hb3
       go_wp2
       go_ret
       exact⟨rfl,HB3.out⟩
      ·have k4':((kind==4)=true):=HK4.out
       obtain rfl:kind=4:=by simpa using k4'
       go_enter Try.func104,Try.ntmps104
       go_wp2_with fail
       have hP0:=PlBox.new w 4 n r A l c 26
       have hB0:w.heap.size<(w.alloc (.cells #[.int .i64 4,.int .i64 n,.int .i64 r,.slice A l c] 26)).heap.size/\Below w.heap.size w (w.alloc (.cells #[.int .i64 4,.int .i64 n,.int .i64 r,.slice A l c] 26)):=⟨by simp,FIN.out _⟩
       generalize hW:w.alloc (.cells #[.int .i64 4,.int .i64 n,.int .i64 r,.slice A l c] 26)=W at*
       refine(HSZ.out _).mono ?_
       rintro z w1 ⟨rfl,hb1⟩
       have HP:=aZ (hP0.below hb1)
       have HB:Hid (w.heap.size<w1.heap.size/\Below w.heap.size w w1):=aZ ⟨Nat.lt_of_lt_of_le hB0.1 hb1.size,hB0.2.trans (hb1.mono (by omega))⟩
       clear hb1 hP0 hB0 hW
       go_upto_region 8 with(fail)
       refine wp_region_T (λw'=>w'.cell? ⟨w.heap.size,0,none⟩=some (.int .i64 4)/\w'.cell? ⟨w.heap.size,1,none⟩=some (.int .i64 n)/\w'.cell? ⟨w.heap.size,2,none⟩=some (.int .i64 r)/\w'.cell? ⟨w.heap.size,3,none⟩=some (.slice A l c)/\Hid (w.heap.size<w'.heap.size/\Below w.heap.size w w')) 6 ⟨HP.out.1,HP.out.2.1,HP.out.2.2.1,HP.out.2.2.2,aZ ⟨HB.out.1,HB.out.2.drew⟩⟩ (λhS0=>?_)
       refine Takes.intro [0,1,2,3] ?_
       repeat(refine Takes.go (v:=?_) hS0 ?_;try simp only[nrm,Act.put])
       refine Takes.nil ?_
       refine wpAnyS_1 4 (λK hK=>?_)
       go_simp
       refine(HW2.out _).mono ?_
       rintro z w2 ⟨⟨A',rfl,-⟩,hb2⟩
       have hS1:=pl_next hS0 hb2
       clear hb2
       refine hK.out _ _ (λ_=>hS1) ?_
       clear hK K
       try simp only[nrm,Act.put]
       refine Takes.intro [5] ?_
       repeat(refine Takes.go (v:=?_) hS1 ?_;try simp only[nrm,Act.put])
       refine Takes.nil ?_
       refine wpAnyS_fin 1 6 ?_
       simp only[nrd]
       obtain⟨p0,p1,p2,p3,HB2⟩:=hS1
       clear hS0 HP HB
       go_wp2_with fail
       refine(HRA.out _).mono ?_
       rintro z w3 ⟨rfl,hb3⟩
       have HB3:=aZ (HB2.out.2.trans (hb3.mono (by have:=HB2.out.1;omega)))
       clear hb3
       go_wp2
       go_ret
       exact⟨rfl,HB3.out⟩
      ·have k4':((kind==4)=true):=HK4.out
       obtain rfl:kind=4:=by simpa using k4'
       go_enter Try.func104,Try.ntmps104
       go_wp2_with fail
       have hP0:=PlBox.new w 4 n r A l c 26
       have hB0:w.heap.size<(w.alloc (.cells #[.int .i64 4,.int .i64 n,.int .i64 r,.slice A l c] 26)).heap.size/\Below w.heap.size w (w.alloc (.cells #[.int .i64 4,.int .i64 n,.int .i64 r,.slice A l c] 26)):=⟨by simp,FIN.out _⟩
       generalize hW:w.alloc (.cells #[.int .i64 4,.int .i64 n,.int .i64 r,.slice A l c] 26)=W at*
       refine(HSZ.out _).mono ?_
       rintro z w1 ⟨rfl,hb1⟩
       have HP:=aZ (hP0.below hb1)
       have HB:Hid (w.heap.size<w1.heap.size/\Below w.heap.size w w1):=aZ ⟨Nat.lt_of_lt_of_le hB0.1 hb1.size,hB0.2.trans (hb1.mono (by omega))⟩
       clear hb1 hP0 hB0 hW
       go_upto_region 8 with(fail)
       refine wp_region_T (λw'=>w'.cell? ⟨w.heap.size,0,none⟩=some (.int .i64 4)/\w'.cell? ⟨w.heap.size,1,none⟩=some (.int .i64 n)/\w'.cell? ⟨w.heap.size,2,none⟩=some (.int .i64 r)/\w'.cell? ⟨w.heap.size,3,none⟩=some (.slice A l c)/\Hid (w.heap.size<w'.heap.size/\Below w.heap.size w w')) 6 ⟨HP.out.1,HP.out.2.1,HP.out.2.2.1,HP.out.2.2.2,aZ ⟨HB.out.1,HB.out.2.drew⟩⟩ (λhS0=>?_)
       refine Takes.intro [0,1,2,3] ?_
       repeat(refine Takes.go (v:=?_) hS0 ?_;try simp only[nrm,Act.put])
       refine Takes.nil ?_
       refine wpAnyS_1 4 (λK hK=>?_)
       go_simp
       refine(HW2.out _).mono ?_
       rintro z w2 ⟨⟨A',rfl,-⟩,hb2⟩
       have hS1:=pl_next hS0 hb2
       clear hb2
       refine hK.out _ _ (λ_=>hS1) ?_
       clear hK K
       try simp only[nrm,Act.put]
       refine Takes.intro [5] ?_
       repeat(refine Takes.go (v:=?_) hS1 ?_;try simp only[nrm,Act.put])
       refine Takes.nil ?_
       refine wpAnyS_fin 1 6 ?_
       simp only[nrd]
       obtain⟨p0,p1,p2,p3,HB2⟩:=hS1
       clear hS0 HP HB
       go_wp2_with fail
       refine(HRA.out _).mono ?_
       rintro z w3 ⟨rfl,hb3⟩
       have HB3:=aZ (HB2.out.2.trans (hb3.mono (by have:=HB2.out.1;omega)))
       clear hb3
       go_wp2
       go_ret
       exact⟨rfl,HB3.out⟩
      ·have k4':((kind==4)=false):=HK4.out
       go_enter Try.func104,Try.ntmps104
       go_wp2_with fail
       have hP0:=PlBox.new w kind n r A l c 26
       have hB0:w.heap.size<(w.alloc (.cells #[.int .i64 kind,.int .i64 n,.int .i64 r,.slice A l c] 26)).heap.size/\Below w.heap.size w (w.alloc (.cells #[.int .i64 kind,.int .i64 n,.int .i64 r,.slice A l c] 26)):=⟨by simp,FIN.out _⟩
       generalize hW:w.alloc (.cells #[.int .i64 kind,.int .i64 n,.int .i64 r,.slice A l c] 26)=W at*
       refine(HSZ.out _).mono ?_
       rintro z w1 ⟨rfl,hb1⟩
       have HP:=aZ (hP0.below hb1)
       have HB:Hid (w.heap.size<w1.heap.size/\Below w.heap.size w w1):=aZ ⟨Nat.lt_of_lt_of_le hB0.1 hb1.size,hB0.2.trans (hb1.mono (by omega))⟩
       clear hb1 hP0 hB0 hW
       go_upto_region 8 with(fail)
       refine wp_region_T (λw'=>w'.cell? ⟨w.heap.size,0,none⟩=some (.int .i64 kind)/\w'.cell? ⟨w.heap.size,1,none⟩=some (.int .i64 n)/\w'.cell? ⟨w.heap.size,2,none⟩=some (.int .i64 r)/\w'.cell? ⟨w.heap.size,3,none⟩=some (.slice A l c)/\Hid (w.heap.size<w'.heap.size/\Below w.heap.size w w')) 6 ⟨HP.out.1,HP.out.2.1,HP.out.2.2.1,HP.out.2.2.2,aZ ⟨HB.out.1,HB.out.2.drew⟩⟩ (λhS0=>?_)
       refine Takes.intro [0,1,2,3] ?_
       repeat(refine Takes.go (v:=?_) hS0 ?_;try simp only[nrm,Act.put])
       refine Takes.nil ?_
       refine wpAnyS_1 4 (λK hK=>?_)
       go_simp
       refine(HW2.out _).mono ?_
       rintro z w2 ⟨⟨A',rfl,-⟩,hb2⟩
       have hS1:=pl_next hS0 hb2
       clear hb2
       refine hK.out _ _ (λ_=>hS1) ?_
       clear hK K
       try simp only[nrm,Act.put]
       refine Takes.intro [5] ?_
       repeat(refine Takes.go (v:=?_) hS1 ?_;try simp only[nrm,Act.put])
       refine Takes.nil ?_
       refine wpAnyS_fin 1 6 ?_
       simp only[nrd]
       obtain⟨p0,p1,p2,p3,HB2⟩:=hS1
       clear hS0 HP HB
       go_wp2_with fail
       refine(HRA.out _).mono ?_
       rintro z w3 ⟨rfl,hb3⟩
       have HB3:=aZ (HB2.out.2.trans (hb3.mono (by have:=HB2.out.1;omega)))
       clear hb3
       go_wp2
       go_ret
       exact⟨rfl,HB3.out⟩
      ·have k4':((kind==4)=false):=HK4.out
       go_enter Try.func104,Try.ntmps104
       go_wp2_with fail
       have hP0:=PlBox.new w kind n r A l c 26
       have hB0:w.heap.size<(w.alloc (.cells #[.int .i64 kind,.int .i64 n,.int .i64 r,.slice A l c] 26)).heap.size/\Below w.heap.size w (w.alloc (.cells #[.int .i64 kind,.int .i64 n,.int .i64 r,.slice A l c] 26)):=⟨by simp,FIN.out _⟩
       generalize hW:w.alloc (.cells #[.int .i64 kind,.int .i64 n,.int .i64 r,.slice A l c] 26)=W at*
       refine(HSZ.out _).mono ?_
       rintro z w1 ⟨rfl,hb1⟩
       have HP:=aZ (hP0.below hb1)
       have HB:Hid (w.heap.size<w1.heap.size/\Below w.heap.size w w1):=aZ ⟨Nat.lt_of_lt_of_le hB0.1 hb1.size,hB0.2.trans (hb1.mono (by omega))⟩
       clear hb1 hP0 hB0 hW
       go_upto_region 8 with(fail)
       refine wp_region_T (λw'=>w'.cell? ⟨w.heap.size,0,none⟩=some (.int .i64 kind)/\w'.cell? ⟨w.heap.size,1,none⟩=some (.int .i64 n)/\w'.cell? ⟨w.heap.size,2,none⟩=some (.int .i64 r)/\w'.cell? ⟨w.heap.size,3,none⟩=some (.slice A l c)/\Hid (w.heap.size<w'.heap.size/\Below w.heap.size w w')) 6 ⟨HP.out.1,HP.out.2.1,HP.out.2.2.1,HP.out.2.2.2,aZ ⟨HB.out.1,HB.out.2.drew⟩⟩ (λhS0=>?_)
       refine Takes.intro [0,1,2,3] ?_
       repeat(refine Takes.go (v:=?_) hS0 ?_;try simp only[nrm,Act.put])
       refine Takes.nil ?_
       refine wpAnyS_1 4 (λK hK=>?_)
       go_simp
       refine(HW2.out _).mono ?_
       rintro z w2 ⟨⟨A',rfl,-⟩,hb2⟩
       have hS1:=pl_next hS0 hb2
       clear hb2
       refine hK.out _ _ (λ_=>hS1) ?_
       clear hK K
       try simp only[nrm,Act.put]
       refine Takes.intro [5] ?_
       repeat(refine Takes.go (v:=?_) hS1 ?_;try simp only[nrm,Act.put])
       refine Takes.nil ?_
       refine wpAnyS_fin 1 6 ?_
       simp only[nrd]
       obtain⟨p0,p1,p2,p3,HB2⟩:=hS1
       clear hS0 HP HB
       go_wp2_with fail
       refine(HRA.out _).mono ?_
       rintro z w3 ⟨rfl,hb3⟩
       have HB3:=aZ (HB2.out.2.trans (hb3.mono (by have:=HB2.out.1;omega)))
       clear hb3
       go_wp2
       go_ret
       exact⟨rfl,HB3.out⟩
      ·exact absurd (hb4 rfl) (by decide)
      ·exact absurd (hb4 rfl) (by decide)
     ·rw[if_pos hl]
      have hll:((l:Int) != (L.length:Int))=true:=by simp;omega
      have HLE:=aZ hl
      clear hl HRA
      cases blue<;>cases b4
      ·have k4':((kind==4)=false):=HK4.out
       go_enter Try.func104,Try.ntmps104
       go_wp2_with fail
       have hP0:=PlBox.new w kind n r A l c 26
       have hB0:w.heap.size<(w.alloc (.cells #[.int .i64 kind,.int .i64 n,.int .i64 r,.slice A l c] 26)).heap.size/\Below w.heap.size w (w.alloc (.cells #[.int .i64 kind,.int .i64 n,.int .i64 r,.slice A l c] 26)):=⟨by simp,FIN.out _⟩
       generalize hW:w.alloc (.cells #[.int .i64 kind,.int .i64 n,.int .i64 r,.slice A l c] 26)=W at*
       refine(HSZ.out _).mono ?_
       rintro z w1 ⟨rfl,hb1⟩
       have HP:=aZ (hP0.below hb1)
       have HB:Hid (w.heap.size<w1.heap.size/\Below w.heap.size w w1):=aZ ⟨Nat.lt_of_lt_of_le hB0.1 hb1.size,hB0.2.trans (hb1.mono (by omega))⟩
       clear hb1 hP0 hB0 hW
       go_upto_region 8 with(fail)
       refine wp_region_T (λw'=>w'.cell? ⟨w.heap.size,0,none⟩=some (.int .i64 kind)/\w'.cell? ⟨w.heap.size,1,none⟩=some (.int .i64 n)/\w'.cell? ⟨w.heap.size,2,none⟩=some (.int .i64 r)/\w'.cell? ⟨w.heap.size,3,none⟩=some (.slice A l c)/\Hid (w.heap.size<w'.heap.size/\Below w.heap.size w w')) 6 ⟨HP.out.1,HP.out.2.1,HP.out.2.2.1,HP.out.2.2.2,aZ ⟨HB.out.1,HB.out.2.drew⟩⟩ (λhS0=>?_)
       refine Takes.intro [0,1,2,3] ?_
       repeat(refine Takes.go (v:=?_) hS0 ?_;try simp only[nrm,Act.put])
       refine Takes.nil ?_
       refine wpAnyS_1 4 (λK hK=>?_)
       go_simp
       refine(HW2.out _).mono ?_
       rintro z w2 ⟨⟨A',rfl,-⟩,hb2⟩
       have hS1:=pl_next hS0 hb2
       clear hb2
       refine hK.out _ _ (λ_=>hS1) ?_
       clear hK K
       try simp only[nrm,Act.put]
       refine Takes.intro [5] ?_
       repeat(refine Takes.go (v:=?_) hS1 ?_;try simp only[nrm,Act.put])
       refine Takes.nil ?_
       refine wpAnyS_fin 1 6 ?_
       simp only[nrd]
       have HB2:=aZ hS1.2.2.2.2
       clear hS0 HP HB hS1
       go_wp2
       go_ret
       exact⟨rfl,HB2.out.out.2⟩
      ·have k4':((kind==4)=true):=HK4.out
       obtain rfl:kind=4:=by simpa using k4'
       go_enter Try.func104,Try.ntmps104
       go_wp2_with fail
       have hP0:=PlBox.new w 4 n r A l c 26
       have hB0:w.heap.size<(w.alloc (.cells #[.int .i64 4,.int .i64 n,.int .i64 r,.slice A l c] 26)).heap.size/\Below w.heap.size w (w.alloc (.cells #[.int .i64 4,.int .i64 n,.int .i64 r,.slice A l c] 26)):=⟨by simp,FIN.out _⟩
       generalize hW:w.alloc (.cells #[.int .i64 4,.int .i64 n,.int .i64 r,.slice A l c] 26)=W at*
       refine(HSZ.out _).mono ?_
       rintro z w1 ⟨rfl,hb1⟩
       have HP:=aZ (hP0.below hb1)
       have HB:Hid (w.heap.size<w1.heap.size/\Below w.heap.size w w1):=aZ ⟨Nat.lt_of_lt_of_le hB0.1 hb1.size,hB0.2.trans (hb1.mono (by omega))⟩
       clear hb1 hP0 hB0 hW
       go_upto_region 8 with(fail)
       refine wp_region_T (λw'=>w'.cell? ⟨w.heap.size,0,none⟩=some (.int .i64 4)/\w'.cell? ⟨w.heap.size,1,none⟩=some (.int .i64 n)/\w'.cell? ⟨w.heap.size,2,none⟩=some (.int .i64 r)/\w'.cell? ⟨w.heap.size,3,none⟩=some (.slice A l c)/\Hid (w.heap.size<w'.heap.size/\Below w.heap.size w w')) 6 ⟨HP.out.1,HP.out.2.1,HP.out.2.2.1,HP.out.2.2.2,aZ ⟨HB.out.1,HB.out.2.drew⟩⟩ (λhS0=>?_)
       refine Takes.intro [0,1,2,3] ?_
       repeat(refine Takes.go (v:=?_) hS0 ?_;try simp only[nrm,Act.put])
       refine Takes.nil ?_
       refine wpAnyS_1 4 (λK hK=>?_)
       go_simp
       refine(HW2.out _).mono ?_
       rintro z w2 ⟨⟨A',rfl,-⟩,hb2⟩
       have hS1:=pl_next hS0 hb2
       clear hb2
       refine hK.out _ _ (λ_=>hS1) ?_
       clear hK K
       try simp only[nrm,Act.put]
       refine Takes.intro [5] ?_
       repeat(refine Takes.go (v:=?_) hS1 ?_;try simp only[nrm,Act.put])
       refine Takes.nil ?_
       refine wpAnyS_fin 1 6 ?_
       simp only[nrd]
       have HB2:=aZ hS1.2.2.2.2
       clear hS0 HP HB hS1
       go_wp2
       go_ret
       exact⟨rfl,HB2.out.out.2⟩
      ·have k4':((kind==4)=false):=HK4.out
       go_enter Try.func104,Try.ntmps104
       go_wp2_with fail
       have hP0:=PlBox.new w kind n r A l c 26
       have hB0:w.heap.size<(w.alloc (.cells #[.int .i64 kind,.int .i64 n,.int .i64 r,.slice A l c] 26)).heap.size/\Below w.heap.size w (w.alloc (.cells #[.int .i64 kind,.int .i64 n,.int .i64 r,.slice A l c] 26)):=⟨by simp,FIN.out _⟩
       generalize hW:w.alloc (.cells #[.int .i64 kind,.int .i64 n,.int .i64 r,.slice A l c] 26)=W at*
       refine(HSZ.out _).mono ?_
       rintro z w1 ⟨rfl,hb1⟩
       have HP:=aZ (hP0.below hb1)
       have HB:Hid (w.heap.size<w1.heap.size/\Below w.heap.size w w1):=aZ ⟨Nat.lt_of_lt_of_le hB0.1 hb1.size,hB0.2.trans (hb1.mono (by omega))⟩
       clear hb1 hP0 hB0 hW
       go_upto_region 8 with(fail)
       refine wp_region_T (λw'=>w'.cell? ⟨w.heap.size,0,none⟩=some (.int .i64 kind)/\w'.cell? ⟨w.heap.size,1,none⟩=some (.int .i64 n)/\w'.cell? ⟨w.heap.size,2,none⟩=some (.int .i64 r)/\w'.cell? ⟨w.heap.size,3,none⟩=some (.slice A l c)/\Hid (w.heap.size<w'.heap.size/\Below w.heap.size w w')) 6 ⟨HP.out.1,HP.out.2.1,HP.out.2.2.1,HP.out.2.2.2,aZ ⟨HB.out.1,HB.out.2.drew⟩⟩ (λhS0=>?_)
       refine Takes.intro [0,1,2,3] ?_
       repeat(refine Takes.go (v:=?_) hS0 ?_;try simp only[nrm,Act.put])
       refine Takes.nil ?_
       refine wpAnyS_1 4 (λK hK=>?_)
       go_simp
       refine(HW2.out _).mono ?_
       rintro z w2 ⟨⟨A',rfl,-⟩,hb2⟩
       have hS1:=pl_next hS0 hb2
       clear hb2
       refine hK.out _ _ (λ_=>hS1) ?_
       clear hK K
       try simp only[nrm,Act.put]
       refine Takes.intro [5] ?_
       repeat(refine Takes.go (v:=?_) hS1 ?_;try simp only[nrm,Act.put])
       refine Takes.nil ?_
       refine wpAnyS_fin 1 6 ?_
       simp only[nrd]
       have HB2:=aZ hS1.2.2.2.2
       clear hS0 HP HB hS1
       go_wp2
       go_ret
       exact⟨rfl,HB2.out.out.2⟩
      ·exact absurd (hb4 rfl) (by decide)
    ·rw[if_pos he]
     have hei:(e != 0)=true:=by simpa using he
     clear HWA h16 hlen HRA
     have HLE:=aZ he
     clear he
     cases blue<;>cases b4
     ·have k4':((kind==4)=false):=HK4.out
      go_enter Try.func104,Try.ntmps104
      go_wp2_with fail
      have hP0:=PlBox.new w kind n r A l c 26
      have hB0:w.heap.size<(w.alloc (.cells #[.int .i64 kind,.int .i64 n,.int .i64 r,.slice A l c] 26)).heap.size/\Below w.heap.size w (w.alloc (.cells #[.int .i64 kind,.int .i64 n,.int .i64 r,.slice A l c] 26)):=⟨by simp,FIN.out _⟩
      generalize hW:w.alloc (.cells #[.int .i64 kind,.int .i64 n,.int .i64 r,.slice A l c] 26)=W at*
      refine(HSZ.out _).mono ?_
      rintro z w1 ⟨rfl,hb1⟩
      have HP:=aZ (hP0.below hb1)
      have HB:Hid (w.heap.size<w1.heap.size/\Below w.heap.size w w1):=aZ ⟨Nat.lt_of_lt_of_le hB0.1 hb1.size,hB0.2.trans (hb1.mono (by omega))⟩
      clear hb1 hP0 hB0 hW
      go_wp2
      go_ret
      exact⟨rfl,HB.out.2⟩
     ·have k4':((kind==4)=true):=HK4.out
      obtain rfl:kind=4:=by simpa using k4'
      go_enter Try.func104,Try.ntmps104
      go_wp2_with fail
      have hP0:=PlBox.new w 4 n r A l c 26
      have hB0:w.heap.size<(w.alloc (.cells #[.int .i64 4,.int .i64 n,.int .i64 r,.slice A l c] 26)).heap.size/\Below w.heap.size w (w.alloc (.cells #[.int .i64 4,.int .i64 n,.int .i64 r,.slice A l c] 26)):=⟨by simp,FIN.out _⟩
      generalize hW:w.alloc (.cells #[.int .i64 4,.int .i64 n,.int .i64 r,.slice A l c] 26)=W at*
      refine(HSZ.out _).mono ?_
      rintro z w1 ⟨rfl,hb1⟩
      have HP:=aZ (hP0.below hb1)
      have HB:Hid (w.heap.size<w1.heap.size/\Below w.heap.size w w1):=aZ ⟨Nat.lt_of_lt_of_le hB0.1 hb1.size,hB0.2.trans (hb1.mono (by omega))⟩
      clear hb1 hP0 hB0 hW
      go_wp2
      go_ret
      exact⟨rfl,HB.out.2⟩
     ·have k4':((kind==4)=false):=HK4.out
      go_enter Try.func104,Try.ntmps104
      go_wp2_with fail
      have hP0:=PlBox.new w kind n r A l c 26
      have hB0:w.heap.size<(w.alloc (.cells #[.int .i64 kind,.int .i64 n,.int .i64 r,.slice A l c] 26)).heap.size/\Below w.heap.size w (w.alloc (.cells #[.int .i64 kind,.int .i64 n,.int .i64 r,.slice A l c] 26)):=⟨by simp,FIN.out _⟩
      generalize hW:w.alloc (.cells #[.int .i64 kind,.int .i64 n,.int .i64 r,.slice A l c] 26)=W at*
      refine(HSZ.out _).mono ?_
      rintro z w1 ⟨rfl,hb1⟩
      have HP:=aZ (hP0.below hb1)
      have HB:Hid (w.heap.size<w1.heap.size/\Below w.heap.size w w1):=aZ ⟨Nat.lt_of_lt_of_le hB0.1 hb1.size,hB0.2.trans (hb1.mono (by omega))⟩
      clear hb1 hP0 hB0 hW
      go_wp2
      go_ret
      exact⟨rfl,HB.out.2⟩
     ·exact absurd (hb4 rfl) (by decide)
   ·rw[if_pos hn]
    have hni:(n != want)=true:=by simpa using hn
    have HLE:=aZ hn
    clear hn
    cases blue<;>cases b4
    ·have k4':((kind==4)=false):=HK4.out
     go_enter Try.func104,Try.ntmps104
     go_wp2
     go_ret
     exact⟨rfl,FIN.out _⟩
    ·have k4':((kind==4)=true):=HK4.out
     obtain rfl:kind=4:=by simpa using k4'
     go_enter Try.func104,Try.ntmps104
     go_wp2
     go_ret
     exact⟨rfl,FIN.out _⟩
    ·have k4':((kind==4)=false):=HK4.out
     go_enter Try.func104,Try.ntmps104
     go_wp2
     go_ret
     exact⟨rfl,FIN.out _⟩
    ·exact absurd (hb4 rfl) (by decide)
  exact rest (kind==4) rfl (λe=>by
   cases hb:blue
   ·rfl
   ·exact absurd ⟨by simpa using e,hb⟩ hk)
 by_cases kc:kind=4/\blue=true
 ·rw[if_pos (.inr (.inr kc))]
  clear main
  obtain⟨rfl,rfl⟩:=kc
  go_enter Try.func104,Try.ntmps104
  go_wp2
  go_ret
  exact⟨rfl,FIN.out _⟩
 ·rw[if_neg (by
    rintro(h|h|h)
    ·exact ka h
    ·exact kb h
    ·exact kc h)]
  exact main kc
theorem node_wants{kind n r:Int}{l:Nat}{want:Int}{blue:Bool}(h:nodeE kind n r l want blue=0)(h1:1<=want)(h2:want<=32768):∀x∈wantsF kind n r,1<=x/\x<=32768:=by
 obtain⟨k0,k4,kb,rfl,hs,hl,hr⟩:=nodeE_zero h
 have hk:kind=0\/kind=1\/kind=2\/kind=3\/kind=4:=by omega
 obtain⟨N,rfl⟩:∃N:Nat,n=N:=⟨n.toNat,by omega⟩
 intro x hx
 rcases hk with rfl|rfl|rfl|rfl|rfl
 ·have e:wantsF 0 N r=[]:=rfl
  rw[e] at hx;cases hx
 ·have:2<=r/\r<N/\(N:Int)%r=0:=by simpa[radixB] using hr
  obtain⟨r2,rn,rd⟩:=this
  obtain⟨R,rfl⟩:∃R:Nat,r=R:=⟨r.toNat,by omega⟩
  have e:wantsF 1 N R=[(R:Int),(N:Int)/R]:=by unfold wantsF;rw[if_pos rfl,if_neg (by omega)]
  have ed:(N:Int)/R=((N/R:Nat):Int):=by omega
  have em:N%R=0:=by omega
  have hm:R*(N/R)=N:=Nat.mul_div_cancel' (Nat.dvd_of_mod_eq_zero em)
  have hd1:1<=N/R:=by
   rcases Nat.eq_zero_or_pos (N/R) with h0|h0
   ·rw[h0] at hm;omega
   ·exact h0
  have hd2:N/R<=N:=Nat.div_le_self _ _
  rw[e] at hx
  simp only[List.mem_cons,List.not_mem_nil,or_false] at hx
  rcases hx with rfl|rfl
  ·exact⟨by omega,by omega⟩
  ·rw[ed];exact⟨by omega,by omega⟩
 ·have e:wantsF 2 N r=[]:=rfl
  rw[e] at hx;cases hx
 ·have e:wantsF 3 N r=[(N:Int)-1]:=rfl
  rw[e] at hx
  simp only[List.mem_cons,List.not_mem_nil,or_false] at hx
  subst hx
  unfold sizeE at hs
  rw[if_neg (by decide),if_neg (by decide),if_pos rfl] at hs
  by_cases hp:((N:Int)<3\/primeB (N:Int).toNat=false)
  ·rw[if_pos hp] at hs;omega
  ·exact⟨by omega,by omega⟩
 ·have e:wantsF 4 N r=[(padF N:Int)]:=rfl
  rw[e] at hx
  simp only[List.mem_cons,List.not_mem_nil,or_false] at hx
  subst hx
  unfold sizeE at hs
  rw[if_neg (by decide),if_neg (by decide),if_neg (by decide),if_pos rfl] at hs
  by_cases hp:((N:Int)<2\/16384<(N:Int))
  ·rw[if_pos hp] at hs;omega
  ·obtain⟨p1,p2,-,p3,p4⟩:=padF_spec N (by omega) (by omega)
   exact⟨by omega,by omega⟩
theorem node_n4{kind n r:Int}{l:Nat}{want:Int}{blue:Bool}(h:nodeE kind n r l want blue=0):kind=4->n<=16384:=λe=>by
 obtain⟨k0,k4,kb,rfl,hs,hl,hr⟩:=nodeE_zero h
 subst e
 unfold sizeE at hs
 rw[if_neg (by decide),if_neg (by decide),if_neg (by decide),if_pos rfl] at hs
 by_cases hp:(n<2\/16384<n)
 ·rw[if_pos hp] at hs;omega
 ·omega
def ChkN(kind n r:Int)(q:Fo):Prop:=∀(w:World) (A:Option Addr) (c:Nat) (want number:Int) (blue:Bool),Kids w A 0 q->1<=want->want<=32768->
 Calls Try.prog 78 #[plV kind n r A q.len c,.int .i64 want,.int .i64 number,.bool blue] w λz w'=>(∃a:Int,z=.returned (.tuple #[.int .i64 a,.int .i64 ((Fo.cons kind n r q .nil).bad [want] blue)]))/\Below w.heap.size w w'
def KidAt(w':World)(B0:Nat)(kind n r:Int)(A:Option Addr)(l c:Nat)(bA oA i:Nat)(k' n' r':Int)(B':Option Addr)(l' c':Nat):Prop:=
 w'.cell? ⟨B0,0,none⟩=some (.int .i64 kind)/\w'.cell? ⟨B0,1,none⟩=some (.int .i64 n)/\w'.cell? ⟨B0,2,none⟩=some (.int .i64 r)/\w'.cell? ⟨B0,3,none⟩=some (.slice A l c)/\
 w'.cell? ⟨bA,oA+i*4,none⟩=some (.int .i64 k')/\w'.cell? ⟨bA,oA+i*4+1,none⟩=some (.int .i64 n')/\w'.cell? ⟨bA,oA+i*4+2,none⟩=some (.int .i64 r')/\w'.cell? ⟨bA,oA+i*4+3,none⟩=some (.slice B' l' c')
theorem KidAt.keep{w w':World}{B0:Nat}{kind n r:Int}{A:Option Addr}{l c bA oA i:Nat}{k' n' r':Int}{B':Option Addr}{l' c':Nat}(h:KidAt w B0 kind n r A l c bA oA i k' n' r' B' l' c')(hb:Below w.heap.size w w'):
  KidAt w' B0 kind n r A l c bA oA i k' n' r' B' l' c':=by
 obtain⟨a,b,c,d,e,f,g,h⟩:=h
 exact⟨keep_cell hb a,keep_cell hb b,keep_cell hb c,keep_cell hb d,keep_cell hb e,keep_cell hb f,keep_cell hb g,keep_cell hb h⟩
theorem check_all:∀fo:Fo,fo.all ChkN:=Fo.all_of λkind n r q ih=>by
 intro w A c want number blue hk h1 h2
 have HN:=aZ (λw=>node_any kind n r A q.len c want blue w h1 h2)
 have HBAD:Hid ((Fo.cons kind n r q .nil).bad [want] blue=if nodeE kind n r q.len want blue≠0 then nodeE kind n r q.len want blue else q.bad (wantsF kind n r) (blue||kind==4)):=aZ (by
  simp only[Fo.bad,List.headD_cons]
  (repeat' split)<;>first|rfl|omega)
 rw[HBAD.out]
 have HK:=aZ hk
 have HIH:=aZ ih
 by_cases he:nodeE kind n r q.len want blue=0
 ·
  rw[if_neg (by simp[he])]
  have hwn:=node_wants he h1 h2
  have hn4:=node_n4 he
  obtain⟨-,-,-,hnw,-,hql,-⟩:=nodeE_zero he
  rw[he] at HN
  have HWA:=aZ (λw=>Wants_any kind n r A q.len c w (by omega) (by omega) hn4)
  have hlen:(wantsF kind n r).length<=2:=by
   unfold wantsF
   (repeat' split)<;>simp
  generalize wantsF kind n r=L at*
  have HQ:=aZ hql
  have HWN:=aZ hwn
  obtain⟨m,hm⟩:∃m,L.length=m:=⟨_,rfl⟩
  have HM:=aZ hm
  rw[hm] at hlen hql
  have HQL:Hid (q.len=m):=aZ hql
  have e4:∃b4,(kind==4)=b4:=⟨_,rfl⟩
  obtain⟨b4,e4⟩:=e4
  rw[e4]
  clear he hwn hn4 hnw HBAD hk ih hm h1 h2
  have HWC:Hid (∀w,Calls Try.prog 105 #[plV kind n r A q.len c] w (λz w'=>(∃A',z=.returned (.slice A' m m)/\IntsAt w' A' m (λi=>L.getD i 0))/\Below w.heap.size w w')):=aZ (λw=>by
   have:=HWA.out w
   unfold WantsC at this
   rw[HM.out] at this
   refine this.mono ?_
   rintro z w' ⟨⟨A',e,hA,-⟩,hb⟩
   exact⟨⟨A',e,hA⟩,hb⟩)
  clear HWA
  have ql:(q.len:Int)=m:=by omega
  clear hql
  cases blue<;>cases b4
  ·have hb4':(kind==4)=false:=e4
   go_enter Try.func78,Try.ntmps78
   go_wp2_with fail
   have hP0:=PlBox.new w kind n r A q.len c 26
   have hB0:w.heap.size<(w.alloc (.cells #[.int .i64 kind,.int .i64 n,.int .i64 r,.slice A q.len c] 26)).heap.size/\Below w.heap.size w (w.alloc (.cells #[.int .i64 kind,.int .i64 n,.int .i64 r,.slice A q.len c] 26)):=⟨by simp,(Below.refl _ w).alloc (Nat.le_refl _) _⟩
   generalize hW:w.alloc (.cells #[.int .i64 kind,.int .i64 n,.int .i64 r,.slice A q.len c] 26)=W at*
   refine(HN.out _).mono ?_
   rintro z w1 ⟨rfl,hb1⟩
   have hP1:=hP0.below hb1
   have HB1:Hid (w.heap.size<w1.heap.size/\Below w.heap.size w w1):=aZ ⟨Nat.lt_of_lt_of_le hB0.1 hb1.size,hB0.2.trans (hb1.mono (by omega))⟩
   have HP1:=aZ hP1
   obtain⟨p0,p1,p2,p3⟩:=hP1
   clear hb1 hP0 hB0 hW
   go_wp2_with fail
   refine(HWC.out _).mono ?_
   rintro z w2 ⟨⟨A',rfl,hA'⟩,hb2⟩
   have HP2:=aZ (HP1.out.below hb2)
   have HB2:Hid (w.heap.size<w2.heap.size/\Below w.heap.size w w2):=aZ ⟨Nat.lt_of_lt_of_le HB1.out.1 hb2.size,HB1.out.2.trans (hb2.mono (by have:=HB1.out.1;omega))⟩
   have HA:=aZ hA'
   clear hA' hb2 p0 p1 p2 p3 HP1 HB1
   go_wp2
   go_loopw [11,28] (λvn vi wr=>∃(i:Nat) (nx:Int),i<=m/\vi=.int .i64 i/\vn=.int .i64 nx/\Hid (q.badTo i L false=0)/\Hid (Below w2.heap.size w2 wr)) (λ_ vi _=>m-(intOf vi).toNat)
   case atStart=>exact⟨0,_,Nat.zero_le _,rfl,rfl,aZ rfl,aZ (Below.refl _ _)⟩
   case round=>
    obtain⟨i,nx,hi,rfl,rfl,hbad,hbw⟩:=hrel
    by_cases hlt:i<m
    ·have hlti:(i:Int)<m:=by omega
     obtain⟨bw,ow,rfl,hcw⟩:=HA.out i hlt
     have hcw':wr.cell? ⟨bw,ow+i,none⟩=some (.int .i64 (L.getD i 0)):=keep_cell hbw.out hcw
     obtain⟨k',n',r',q',rest,hd⟩:=drop_lt i q (by have:=HQL.out;omega)
     have hstep:=badTo_step i q L false hd
     rw[hbad.out,if_neg (by simp)] at hstep
     obtain⟨bA,oA,B',c',rfl,k0,k1,k2,k3,k5⟩:=HK.out.at' hd
     have hwr:Below w.heap.size w wr:=HB2.out.2.trans (hbw.out.mono (by have:=HB2.out.1;omega))
     have HKA:Hid (KidAt wr w.heap.size kind n r (some ⟨bA,oA,none⟩) q.len c bA oA i k' n' r' B' q'.len c'):=aZ (by
      obtain⟨a0,a1,a2,a3⟩:=HP2.out.below hbw.out
      exact⟨a0,a1,a2,a3,keep_cell hwr k0,keep_cell hwr k1,keep_cell hwr k2,keep_cell hwr k3⟩)
     have HKB:=aZ (k5.below hwr)
     have HCK:=aZ (Fo.all_at HIH.out hd)
     have hx:(L.drop i).headD 0=L.getD i 0:=by
      rw[List.getD_eq_getElem?_getD,List.headD_eq_head?_getD,List.head?_drop]
     rw[hx] at hstep
     have HXB:Hid (1<=L.getD i 0/\L.getD i 0<=32768):=aZ (by
      refine HWN.out _ ?_
      rw[List.getD_eq_getElem?_getD,List.getElem?_eq_getElem (by have:=HM.out;omega)]
      exact List.getElem_mem _)
     have hql2:(i:Int)<(q.len:Int):=by omega
     obtain⟨xv,hxv⟩:∃xv,L.getD i 0=xv:=⟨_,rfl⟩
     rw[hxv] at hstep HXB hcw'
     obtain⟨eb,heb⟩:∃eb,(Fo.cons k' n' r' q' .nil).bad [xv] false=eb:=⟨_,rfl⟩
     have HEB:=aZ heb
     rw[heb] at hstep
     have HST:=aZ hstep
     have hqlw:IntKind.i64.wrap (q.len:Int)=q.len:=by rw[IntKind.wrap_i64];omega
     clear hcw k0 k1 k2 k3 k5 hwr hd hx hxv heb hstep hbad HA
     go_upto_region 9 with(fail)
     clear hcw'
     refine wp_region_S (λw'=>w'.cell? ⟨w.heap.size,0,none⟩=some (.int .i64 kind)/\w'.cell? ⟨w.heap.size,1,none⟩=some (.int .i64 n)/\w'.cell? ⟨w.heap.size,2,none⟩=some (.int .i64 r)/\w'.cell? ⟨w.heap.size,3,none⟩=some (.slice (some ⟨bA,oA,none⟩) q.len c)/\w'.cell? ⟨bA,oA+i*4,none⟩=some (.int .i64 k')/\w'.cell? ⟨bA,oA+i*4+1,none⟩=some (.int .i64 n')/\w'.cell? ⟨bA,oA+i*4+2,none⟩=some (.int .i64 r')/\w'.cell? ⟨bA,oA+i*4+3,none⟩=some (.slice B' q'.len c')) 18 (by kernel_rfl) ?_
     have hS0:=(HKA.out.keep (Below.refl _ wr).drew:KidAt wr.drew w.heap.size kind n r (some ⟨bA,oA,none⟩) q.len c bA oA i k' n' r' B' q'.len c')
     refine Takes.intro [0,1,2,3,4,5,6,7,8] ?_
     repeat(refine Takes.go (v:=?_) hS0 ?_;try simp only[nrm,Act.put])
     refine Takes.nil ?_
     refine wpAnyS_takeG (i:=9) (v:=?_) (by kernel_rfl) rfl (λ_ _ _ h=>h) rfl hS0 (λw hSw=>by(try dsimp only at hSw);go_simp;try with_reducible rfl) ?_
     try simp only[nrm,Act.put]
     refine wpAnyS_takeG (i:=10) (v:=?_) (by kernel_rfl) rfl (λ_ _ _ h=>h) rfl hS0 (λw hSw=>by(try dsimp only at hSw);go_simp;try with_reducible rfl) ?_
     try simp only[nrm,Act.put]
     refine wpAnyS_takeG (i:=11) (v:=?_) (by kernel_rfl) rfl (λ_ _ _ h=>h) rfl hS0 (λw hSw=>by(try dsimp only at hSw);go_simp;try with_reducible rfl) ?_
     try simp only[nrm,Act.put]
     refine Takes.intro [12] ?_
     repeat(refine Takes.go (v:=?_) hS0 ?_;try simp only[nrm,Act.put])
     refine Takes.nil ?_
     refine wpAnyS_1 13 (λK hK=>?_)
     go_simp
     refine(HCK.out wr.drew B' c' _ _ _ (HKB.out.below (Below.refl _ wr).drew) HXB.out.1 HXB.out.2).mono ?_
     rintro z w3 ⟨⟨aa,rfl⟩,hb3⟩
     have hS1:KidAt w3 w.heap.size kind n r (some ⟨bA,oA,none⟩) q.len c bA oA i k' n' r' B' q'.len c':=(HKA.out.keep (Below.refl _ wr).drew).keep hb3
     have HB3:=aZ ((Below.refl _ wr).drew.trans (hb3.mono (Nat.le_refl _)))
     clear hb3
     refine hK.out _ _ (λ_=>hS1) ?_
     clear hK K
     try simp only[nrm,Act.put]
     refine Takes.intro [14,15,16,17] ?_
     repeat(refine Takes.go (v:=?_) hS1 ?_;try simp only[nrm,Act.put])
     refine Takes.nil ?_
     refine wpAnyS_fin 1 18 ?_
     simp only[nrd]
     have HEB':Hid (eb=(Fo.cons k' n' r' q' .nil).bad [xv] false):=aZ HEB.out.symm
     have HBN:Hid (Below w2.heap.size w2 w3):=aZ (hbw.out.trans (HB3.out.mono hbw.out.size))
     simp only[HEB.out]
     clear hS0 hS1 HKA HKB hbw HB3
     by_cases h0:eb=0
     ·subst h0
      go_wp2
      exact⟨⟨i+1,aa,by omega,by go_num,rfl,HST,HBN⟩,by simp[intOf];omega⟩
     ·have h0i:(eb != 0)=true:=by simpa using h0
      have HF:Hid (q.bad L false=eb):=aZ (by
       have:=badTo_stop (i+1) q L false (by rw[HST.out];exact h0)
       rw[this,HST.out])
      clear h0
      go_wp2
      go_ret2
      exact⟨⟨aa,by rw[show((false:Bool)||false)=false from rfl,HF.out];rfl⟩,HB2.out.2.trans (HBN.out.mono (by have:=HB2.out.1;omega))⟩
    ·obtain rfl:i=m:=by omega
     have HF:Hid (q.bad L false=0):=aZ (by rw[<-badTo_len i q L false (by have:=HQL.out;omega)];exact hbad.out)
     clear hbad
     go_wp2
     go_ret2
     exact⟨⟨nx,by rw[show((false:Bool)||false)=false from rfl,HF.out];rfl⟩,HB2.out.2.trans (hbw.out.mono (by have:=HB2.out.1;omega))⟩
  ·have hb4':(kind==4)=true:=e4
   go_enter Try.func78,Try.ntmps78
   go_wp2_with fail
   have hP0:=PlBox.new w kind n r A q.len c 26
   have hB0:w.heap.size<(w.alloc (.cells #[.int .i64 kind,.int .i64 n,.int .i64 r,.slice A q.len c] 26)).heap.size/\Below w.heap.size w (w.alloc (.cells #[.int .i64 kind,.int .i64 n,.int .i64 r,.slice A q.len c] 26)):=⟨by simp,(Below.refl _ w).alloc (Nat.le_refl _) _⟩
   generalize hW:w.alloc (.cells #[.int .i64 kind,.int .i64 n,.int .i64 r,.slice A q.len c] 26)=W at*
   refine(HN.out _).mono ?_
   rintro z w1 ⟨rfl,hb1⟩
   have hP1:=hP0.below hb1
   have HB1:Hid (w.heap.size<w1.heap.size/\Below w.heap.size w w1):=aZ ⟨Nat.lt_of_lt_of_le hB0.1 hb1.size,hB0.2.trans (hb1.mono (by omega))⟩
   have HP1:=aZ hP1
   obtain⟨p0,p1,p2,p3⟩:=hP1
   clear hb1 hP0 hB0 hW
   go_wp2_with fail
   refine(HWC.out _).mono ?_
   rintro z w2 ⟨⟨A',rfl,hA'⟩,hb2⟩
   have HP2:=aZ (HP1.out.below hb2)
   have HB2:Hid (w.heap.size<w2.heap.size/\Below w.heap.size w w2):=aZ ⟨Nat.lt_of_lt_of_le HB1.out.1 hb2.size,HB1.out.2.trans (hb2.mono (by have:=HB1.out.1;omega))⟩
   have HA:=aZ hA'
   clear hA' hb2 p0 p1 p2 p3 HP1 HB1
   go_wp2
   go_loopw [11,28] (λvn vi wr=>∃(i:Nat) (nx:Int),i<=m/\vi=.int .i64 i/\vn=.int .i64 nx/\Hid (q.badTo i L true=0)/\Hid (Below w2.heap.size w2 wr)) (λ_ vi _=>m-(intOf vi).toNat)
   case atStart=>exact⟨0,_,Nat.zero_le _,rfl,rfl,aZ rfl,aZ (Below.refl _ _)⟩
   case round=>
    obtain⟨i,nx,hi,rfl,rfl,hbad,hbw⟩:=hrel
    by_cases hlt:i<m
    ·have hlti:(i:Int)<m:=by omega
     obtain⟨bw,ow,rfl,hcw⟩:=HA.out i hlt
     have hcw':wr.cell? ⟨bw,ow+i,none⟩=some (.int .i64 (L.getD i 0)):=keep_cell hbw.out hcw
     obtain⟨k',n',r',q',rest,hd⟩:=drop_lt i q (by have:=HQL.out;omega)
     have hstep:=badTo_step i q L true hd
     rw[hbad.out,if_neg (by simp)] at hstep
     obtain⟨bA,oA,B',c',rfl,k0,k1,k2,k3,k5⟩:=HK.out.at' hd
     have hwr:Below w.heap.size w wr:=HB2.out.2.trans (hbw.out.mono (by have:=HB2.out.1;omega))
     have HKA:Hid (KidAt wr w.heap.size kind n r (some ⟨bA,oA,none⟩) q.len c bA oA i k' n' r' B' q'.len c'):=aZ (by
      obtain⟨a0,a1,a2,a3⟩:=HP2.out.below hbw.out
      exact⟨a0,a1,a2,a3,keep_cell hwr k0,keep_cell hwr k1,keep_cell hwr k2,keep_cell hwr k3⟩)
     have HKB:=aZ (k5.below hwr)
     have HCK:=aZ (Fo.all_at HIH.out hd)
     have hx:(L.drop i).headD 0=L.getD i 0:=by
      rw[List.getD_eq_getElem?_getD,List.headD_eq_head?_getD,List.head?_drop]
     rw[hx] at hstep
     have HXB:Hid (1<=L.getD i 0/\L.getD i 0<=32768):=aZ (by
      refine HWN.out _ ?_
      rw[List.getD_eq_getElem?_getD,List.getElem?_eq_getElem (by have:=HM.out;omega)]
      exact List.getElem_mem _)
     have hql2:(i:Int)<(q.len:Int):=by omega
     obtain⟨xv,hxv⟩:∃xv,L.getD i 0=xv:=⟨_,rfl⟩
     rw[hxv] at hstep HXB hcw'
     obtain⟨eb,heb⟩:∃eb,(Fo.cons k' n' r' q' .nil).bad [xv] true=eb:=⟨_,rfl⟩
     have HEB:=aZ heb
     rw[heb] at hstep
     have HST:=aZ hstep
     have hqlw:IntKind.i64.wrap (q.len:Int)=q.len:=by rw[IntKind.wrap_i64];omega
     clear hcw k0 k1 k2 k3 k5 hwr hd hx hxv heb hstep hbad HA
     go_upto_region 9 with(fail)
     clear hcw'
     refine wp_region_S (λw'=>w'.cell? ⟨w.heap.size,0,none⟩=some (.int .i64 kind)/\w'.cell? ⟨w.heap.size,1,none⟩=some (.int .i64 n)/\w'.cell? ⟨w.heap.size,2,none⟩=some (.int .i64 r)/\w'.cell? ⟨w.heap.size,3,none⟩=some (.slice (some ⟨bA,oA,none⟩) q.len c)/\w'.cell? ⟨bA,oA+i*4,none⟩=some (.int .i64 k')/\w'.cell? ⟨bA,oA+i*4+1,none⟩=some (.int .i64 n')/\w'.cell? ⟨bA,oA+i*4+2,none⟩=some (.int .i64 r')/\w'.cell? ⟨bA,oA+i*4+3,none⟩=some (.slice B' q'.len c')) 18 (by kernel_rfl) ?_
     have hS0:=(HKA.out.keep (Below.refl _ wr).drew:KidAt wr.drew w.heap.size kind n r (some ⟨bA,oA,none⟩) q.len c bA oA i k' n' r' B' q'.len c')
     refine Takes.intro [0,1,2,3,4,5,6,7,8] ?_
     repeat(refine Takes.go (v:=?_) hS0 ?_;try simp only[nrm,Act.put])
     refine Takes.nil ?_
     refine wpAnyS_takeG (i:=9) (v:=?_) (by kernel_rfl) rfl (λ_ _ _ h=>h) rfl hS0 (λw hSw=>by(try dsimp only at hSw);go_simp;try with_reducible rfl) ?_
     try simp only[nrm,Act.put]
     refine wpAnyS_takeG (i:=10) (v:=?_) (by kernel_rfl) rfl (λ_ _ _ h=>h) rfl hS0 (λw hSw=>by(try dsimp only at hSw);go_simp;try with_reducible rfl) ?_
     try simp only[nrm,Act.put]
     refine wpAnyS_takeG (i:=11) (v:=?_) (by kernel_rfl) rfl (λ_ _ _ h=>h) rfl hS0 (λw hSw=>by(try dsimp only at hSw);go_simp;try with_reducible rfl) ?_
     try simp only[nrm,Act.put]
     refine Takes.intro [12] ?_
     repeat(refine Takes.go (v:=?_) hS0 ?_;try simp only[nrm,Act.put])
     refine Takes.nil ?_
     refine wpAnyS_1 13 (λK hK=>?_)
     go_simp
     refine(HCK.out wr.drew B' c' _ _ _ (HKB.out.below (Below.refl _ wr).drew) HXB.out.1 HXB.out.2).mono ?_
     rintro z w3 ⟨⟨aa,rfl⟩,hb3⟩
     have hS1:KidAt w3 w.heap.size kind n r (some ⟨bA,oA,none⟩) q.len c bA oA i k' n' r' B' q'.len c':=(HKA.out.keep (Below.refl _ wr).drew).keep hb3
     have HB3:=aZ ((Below.refl _ wr).drew.trans (hb3.mono (Nat.le_refl _)))
     clear hb3
     refine hK.out _ _ (λ_=>hS1) ?_
     clear hK K
     try simp only[nrm,Act.put]
     refine Takes.intro [14,15,16,17] ?_
     repeat(refine Takes.go (v:=?_) hS1 ?_;try simp only[nrm,Act.put])
     refine Takes.nil ?_
     refine wpAnyS_fin 1 18 ?_
     simp only[nrd]
     have HEB':Hid (eb=(Fo.cons k' n' r' q' .nil).bad [xv] true):=aZ HEB.out.symm
     have HBN:Hid (Below w2.heap.size w2 w3):=aZ (hbw.out.trans (HB3.out.mono hbw.out.size))
     simp only[HEB.out]
     clear hS0 hS1 HKA HKB hbw HB3
     by_cases h0:eb=0
     ·subst h0
      go_wp2
      exact⟨⟨i+1,aa,by omega,by go_num,rfl,HST,HBN⟩,by simp[intOf];omega⟩
     ·have h0i:(eb != 0)=true:=by simpa using h0
      have HF:Hid (q.bad L true=eb):=aZ (by
       have:=badTo_stop (i+1) q L true (by rw[HST.out];exact h0)
       rw[this,HST.out])
      clear h0
      go_wp2
      go_ret2
      exact⟨⟨aa,by rw[show((false:Bool)||true)=true from rfl,HF.out];rfl⟩,HB2.out.2.trans (HBN.out.mono (by have:=HB2.out.1;omega))⟩
    ·obtain rfl:i=m:=by omega
     have HF:Hid (q.bad L true=0):=aZ (by rw[<-badTo_len i q L true (by have:=HQL.out;omega)];exact hbad.out)
     clear hbad
     go_wp2
     go_ret2
     exact⟨⟨nx,by rw[show((false:Bool)||true)=true from rfl,HF.out];rfl⟩,HB2.out.2.trans (hbw.out.mono (by have:=HB2.out.1;omega))⟩
  ·have hb4':(kind==4)=false:=e4
   go_enter Try.func78,Try.ntmps78
   go_wp2_with fail
   have hP0:=PlBox.new w kind n r A q.len c 26
   have hB0:w.heap.size<(w.alloc (.cells #[.int .i64 kind,.int .i64 n,.int .i64 r,.slice A q.len c] 26)).heap.size/\Below w.heap.size w (w.alloc (.cells #[.int .i64 kind,.int .i64 n,.int .i64 r,.slice A q.len c] 26)):=⟨by simp,(Below.refl _ w).alloc (Nat.le_refl _) _⟩
   generalize hW:w.alloc (.cells #[.int .i64 kind,.int .i64 n,.int .i64 r,.slice A q.len c] 26)=W at*
   refine(HN.out _).mono ?_
   rintro z w1 ⟨rfl,hb1⟩
   have hP1:=hP0.below hb1
   have HB1:Hid (w.heap.size<w1.heap.size/\Below w.heap.size w w1):=aZ ⟨Nat.lt_of_lt_of_le hB0.1 hb1.size,hB0.2.trans (hb1.mono (by omega))⟩
   have HP1:=aZ hP1
   obtain⟨p0,p1,p2,p3⟩:=hP1
   clear hb1 hP0 hB0 hW
   go_wp2_with fail
   refine(HWC.out _).mono ?_
   rintro z w2 ⟨⟨A',rfl,hA'⟩,hb2⟩
   have HP2:=aZ (HP1.out.below hb2)
   have HB2:Hid (w.heap.size<w2.heap.size/\Below w.heap.size w w2):=aZ ⟨Nat.lt_of_lt_of_le HB1.out.1 hb2.size,HB1.out.2.trans (hb2.mono (by have:=HB1.out.1;omega))⟩
   have HA:=aZ hA'
   clear hA' hb2 p0 p1 p2 p3 HP1 HB1
   go_wp2
   go_loopw [11,28] (λvn vi wr=>∃(i:Nat) (nx:Int),i<=m/\vi=.int .i64 i/\vn=.int .i64 nx/\Hid (q.badTo i L true=0)/\Hid (Below w2.heap.size w2 wr)) (λ_ vi _=>m-(intOf vi).toNat)
   case atStart=>exact⟨0,_,Nat.zero_le _,rfl,rfl,aZ rfl,aZ (Below.refl _ _)⟩
   case round=>
    obtain⟨i,nx,hi,rfl,rfl,hbad,hbw⟩:=hrel
    by_cases hlt:i<m
    ·have hlti:(i:Int)<m:=by omega
     obtain⟨bw,ow,rfl,hcw⟩:=HA.out i hlt
     have hcw':wr.cell? ⟨bw,ow+i,none⟩=some (.int .i64 (L.getD i 0)):=keep_cell hbw.out hcw
     obtain⟨k',n',r',q',rest,hd⟩:=drop_lt i q (by have:=HQL.out;omega)
     have hstep:=badTo_step i q L true hd
     rw[hbad.out,if_neg (by simp)] at hstep
     obtain⟨bA,oA,B',c',rfl,k0,k1,k2,k3,k5⟩:=HK.out.at' hd
     have hwr:Below w.heap.size w wr:=HB2.out.2.trans (hbw.out.mono (by have:=HB2.out.1;omega))
     have HKA:Hid (KidAt wr w.heap.size kind n r (some ⟨bA,oA,none⟩) q.len c bA oA i k' n' r' B' q'.len c'):=aZ (by
      obtain⟨a0,a1,a2,a3⟩:=HP2.out.below hbw.out
      exact⟨a0,a1,a2,a3,keep_cell hwr k0,keep_cell hwr k1,keep_cell hwr k2,keep_cell hwr k3⟩)
     have HKB:=aZ (k5.below hwr)
     have HCK:=aZ (Fo.all_at HIH.out hd)
     have hx:(L.drop i).headD 0=L.getD i 0:=by
      rw[List.getD_eq_getElem?_getD,List.headD_eq_head?_getD,List.head?_drop]
     rw[hx] at hstep
     have HXB:Hid (1<=L.getD i 0/\L.getD i 0<=32768):=aZ (by
      refine HWN.out _ ?_
      rw[List.getD_eq_getElem?_getD,List.getElem?_eq_getElem (by have:=HM.out;omega)]
      exact List.getElem_mem _)
     have hql2:(i:Int)<(q.len:Int):=by omega
     obtain⟨xv,hxv⟩:∃xv,L.getD i 0=xv:=⟨_,rfl⟩
     rw[hxv] at hstep HXB hcw'
     obtain⟨eb,heb⟩:∃eb,(Fo.cons k' n' r' q' .nil).bad [xv] true=eb:=⟨_,rfl⟩
     have HEB:=aZ heb
     rw[heb] at hstep
     have HST:=aZ hstep
     have hqlw:IntKind.i64.wrap (q.len:Int)=q.len:=by rw[IntKind.wrap_i64];omega
     clear hcw k0 k1 k2 k3 k5 hwr hd hx hxv heb hstep hbad HA
     go_upto_region 9 with(fail)
     clear hcw'
     refine wp_region_S (λw'=>w'.cell? ⟨w.heap.size,0,none⟩=some (.int .i64 kind)/\w'.cell? ⟨w.heap.size,1,none⟩=some (.int .i64 n)/\w'.cell? ⟨w.heap.size,2,none⟩=some (.int .i64 r)/\w'.cell? ⟨w.heap.size,3,none⟩=some (.slice (some ⟨bA,oA,none⟩) q.len c)/\w'.cell? ⟨bA,oA+i*4,none⟩=some (.int .i64 k')/\w'.cell? ⟨bA,oA+i*4+1,none⟩=some (.int .i64 n')/\w'.cell? ⟨bA,oA+i*4+2,none⟩=some (.int .i64 r')/\w'.cell? ⟨bA,oA+i*4+3,none⟩=some (.slice B' q'.len c')) 18 (by kernel_rfl) ?_
     have hS0:=(HKA.out.keep (Below.refl _ wr).drew:KidAt wr.drew w.heap.size kind n r (some ⟨bA,oA,none⟩) q.len c bA oA i k' n' r' B' q'.len c')
     refine Takes.intro [0,1,2,3,4,5,6,7,8] ?_
     repeat(refine Takes.go (v:=?_) hS0 ?_;try simp only[nrm,Act.put])
     refine Takes.nil ?_
     refine wpAnyS_skipG (i:=9) (by kernel_rfl) rfl (λ_ _ _ h=>h) rfl hS0 ?_
     try simp only[nrm,Act.put]
     refine wpAnyS_skipG (i:=10) (by kernel_rfl) rfl (λ_ _ _ h=>h) rfl hS0 ?_
     try simp only[nrm,Act.put]
     refine wpAnyS_skipG (i:=11) (by kernel_rfl) rfl (λ_ _ _ h=>h) rfl hS0 ?_
     try simp only[nrm,Act.put]
     refine Takes.intro [12] ?_
     repeat(refine Takes.go (v:=?_) hS0 ?_;try simp only[nrm,Act.put])
     refine Takes.nil ?_
     refine wpAnyS_1 13 (λK hK=>?_)
     go_simp
     refine(HCK.out wr.drew B' c' _ _ _ (HKB.out.below (Below.refl _ wr).drew) HXB.out.1 HXB.out.2).mono ?_
     rintro z w3 ⟨⟨aa,rfl⟩,hb3⟩
     have hS1:KidAt w3 w.heap.size kind n r (some ⟨bA,oA,none⟩) q.len c bA oA i k' n' r' B' q'.len c':=(HKA.out.keep (Below.refl _ wr).drew).keep hb3
     have HB3:=aZ ((Below.refl _ wr).drew.trans (hb3.mono (Nat.le_refl _)))
     clear hb3
     refine hK.out _ _ (λ_=>hS1) ?_
     clear hK K
     try simp only[nrm,Act.put]
     refine Takes.intro [14,15,16,17] ?_
     repeat(refine Takes.go (v:=?_) hS1 ?_;try simp only[nrm,Act.put])
     refine Takes.nil ?_
     refine wpAnyS_fin 1 18 ?_
     simp only[nrd]
     have HEB':Hid (eb=(Fo.cons k' n' r' q' .nil).bad [xv] true):=aZ HEB.out.symm
     have HBN:Hid (Below w2.heap.size w2 w3):=aZ (hbw.out.trans (HB3.out.mono hbw.out.size))
     simp only[HEB.out]
     clear hS0 hS1 HKA HKB hbw HB3
     by_cases h0:eb=0
     ·subst h0
      go_wp2
      exact⟨⟨i+1,aa,by omega,by go_num,rfl,HST,HBN⟩,by simp[intOf];omega⟩
     ·have h0i:(eb != 0)=true:=by simpa using h0
      have HF:Hid (q.bad L true=eb):=aZ (by
       have:=badTo_stop (i+1) q L true (by rw[HST.out];exact h0)
       rw[this,HST.out])
      clear h0
      go_wp2
      go_ret2
      exact⟨⟨aa,by rw[show((true:Bool)||false)=true from rfl,HF.out];rfl⟩,HB2.out.2.trans (HBN.out.mono (by have:=HB2.out.1;omega))⟩
    ·obtain rfl:i=m:=by omega
     have HF:Hid (q.bad L true=0):=aZ (by rw[<-badTo_len i q L true (by have:=HQL.out;omega)];exact hbad.out)
     clear hbad
     go_wp2
     go_ret2
     exact⟨⟨nx,by rw[show((true:Bool)||false)=true from rfl,HF.out];rfl⟩,HB2.out.2.trans (hbw.out.mono (by have:=HB2.out.1;omega))⟩
  ·have hb4':(kind==4)=true:=e4
   go_enter Try.func78,Try.ntmps78
   go_wp2_with fail
   have hP0:=PlBox.new w kind n r A q.len c 26
   have hB0:w.heap.size<(w.alloc (.cells #[.int .i64 kind,.int .i64 n,.int .i64 r,.slice A q.len c] 26)).heap.size/\Below w.heap.size w (w.alloc (.cells #[.int .i64 kind,.int .i64 n,.int .i64 r,.slice A q.len c] 26)):=⟨by simp,(Below.refl _ w).alloc (Nat.le_refl _) _⟩
   generalize hW:w.alloc (.cells #[.int .i64 kind,.int .i64 n,.int .i64 r,.slice A q.len c] 26)=W at*
   refine(HN.out _).mono ?_
   rintro z w1 ⟨rfl,hb1⟩
   have hP1:=hP0.below hb1
   have HB1:Hid (w.heap.size<w1.heap.size/\Below w.heap.size w w1):=aZ ⟨Nat.lt_of_lt_of_le hB0.1 hb1.size,hB0.2.trans (hb1.mono (by omega))⟩
   have HP1:=aZ hP1
   obtain⟨p0,p1,p2,p3⟩:=hP1
   clear hb1 hP0 hB0 hW
   go_wp2_with fail
   refine(HWC.out _).mono ?_
   rintro z w2 ⟨⟨A',rfl,hA'⟩,hb2⟩
   have HP2:=aZ (HP1.out.below hb2)
   have HB2:Hid (w.heap.size<w2.heap.size/\Below w.heap.size w w2):=aZ ⟨Nat.lt_of_lt_of_le HB1.out.1 hb2.size,HB1.out.2.trans (hb2.mono (by have:=HB1.out.1;omega))⟩
   have HA:=aZ hA'
   clear hA' hb2 p0 p1 p2 p3 HP1 HB1
   go_wp2
   go_loopw [11,28] (λvn vi wr=>∃(i:Nat) (nx:Int),i<=m/\vi=.int .i64 i/\vn=.int .i64 nx/\Hid (q.badTo i L true=0)/\Hid (Below w2.heap.size w2 wr)) (λ_ vi _=>m-(intOf vi).toNat)
   case atStart=>exact⟨0,_,Nat.zero_le _,rfl,rfl,aZ rfl,aZ (Below.refl _ _)⟩
   case round=>
    obtain⟨i,nx,hi,rfl,rfl,hbad,hbw⟩:=hrel
    by_cases hlt:i<m
    ·have hlti:(i:Int)<m:=by omega
     obtain⟨bw,ow,rfl,hcw⟩:=HA.out i hlt
     have hcw':wr.cell? ⟨bw,ow+i,none⟩=some (.int .i64 (L.getD i 0)):=keep_cell hbw.out hcw
     obtain⟨k',n',r',q',rest,hd⟩:=drop_lt i q (by have:=HQL.out;omega)
     have hstep:=badTo_step i q L true hd
     rw[hbad.out,if_neg (by simp)] at hstep
     obtain⟨bA,oA,B',c',rfl,k0,k1,k2,k3,k5⟩:=HK.out.at' hd
     have hwr:Below w.heap.size w wr:=HB2.out.2.trans (hbw.out.mono (by have:=HB2.out.1;omega))
     have HKA:Hid (KidAt wr w.heap.size kind n r (some ⟨bA,oA,none⟩) q.len c bA oA i k' n' r' B' q'.len c'):=aZ (by
      obtain⟨a0,a1,a2,a3⟩:=HP2.out.below hbw.out
      exact⟨a0,a1,a2,a3,keep_cell hwr k0,keep_cell hwr k1,keep_cell hwr k2,keep_cell hwr k3⟩)
     have HKB:=aZ (k5.below hwr)
     have HCK:=aZ (Fo.all_at HIH.out hd)
     have hx:(L.drop i).headD 0=L.getD i 0:=by
      rw[List.getD_eq_getElem?_getD,List.headD_eq_head?_getD,List.head?_drop]
     rw[hx] at hstep
     have HXB:Hid (1<=L.getD i 0/\L.getD i 0<=32768):=aZ (by
      refine HWN.out _ ?_
      rw[List.getD_eq_getElem?_getD,List.getElem?_eq_getElem (by have:=HM.out;omega)]
      exact List.getElem_mem _)
     have hql2:(i:Int)<(q.len:Int):=by omega
     obtain⟨xv,hxv⟩:∃xv,L.getD i 0=xv:=⟨_,rfl⟩
     rw[hxv] at hstep HXB hcw'
     obtain⟨eb,heb⟩:∃eb,(Fo.cons k' n' r' q' .nil).bad [xv] true=eb:=⟨_,rfl⟩
     have HEB:=aZ heb
     rw[heb] at hstep
     have HST:=aZ hstep
     have hqlw:IntKind.i64.wrap (q.len:Int)=q.len:=by rw[IntKind.wrap_i64];omega
     clear hcw k0 k1 k2 k3 k5 hwr hd hx hxv heb hstep hbad HA
     go_upto_region 9 with(fail)
     clear hcw'
     refine wp_region_S (λw'=>w'.cell? ⟨w.heap.size,0,none⟩=some (.int .i64 kind)/\w'.cell? ⟨w.heap.size,1,none⟩=some (.int .i64 n)/\w'.cell? ⟨w.heap.size,2,none⟩=some (.int .i64 r)/\w'.cell? ⟨w.heap.size,3,none⟩=some (.slice (some ⟨bA,oA,none⟩) q.len c)/\w'.cell? ⟨bA,oA+i*4,none⟩=some (.int .i64 k')/\w'.cell? ⟨bA,oA+i*4+1,none⟩=some (.int .i64 n')/\w'.cell? ⟨bA,oA+i*4+2,none⟩=some (.int .i64 r')/\w'.cell? ⟨bA,oA+i*4+3,none⟩=some (.slice B' q'.len c')) 18 (by kernel_rfl) ?_
     have hS0:=(HKA.out.keep (Below.refl _ wr).drew:KidAt wr.drew w.heap.size kind n r (some ⟨bA,oA,none⟩) q.len c bA oA i k' n' r' B' q'.len c')
     refine Takes.intro [0,1,2,3,4,5,6,7,8] ?_
     repeat(refine Takes.go (v:=?_) hS0 ?_;try simp only[nrm,Act.put])
     refine Takes.nil ?_
     refine wpAnyS_skipG (i:=9) (by kernel_rfl) rfl (λ_ _ _ h=>h) rfl hS0 ?_
     try simp only[nrm,Act.put]
     refine wpAnyS_skipG (i:=10) (by kernel_rfl) rfl (λ_ _ _ h=>h) rfl hS0 ?_
     try simp only[nrm,Act.put]
     refine wpAnyS_skipG (i:=11) (by kernel_rfl) rfl (λ_ _ _ h=>h) rfl hS0 ?_
     try simp only[nrm,Act.put]
     refine Takes.intro [12] ?_
     repeat(refine Takes.go (v:=?_) hS0 ?_;try simp only[nrm,Act.put])
     refine Takes.nil ?_
     refine wpAnyS_1 13 (λK hK=>?_)
     go_simp
     refine(HCK.out wr.drew B' c' _ _ _ (HKB.out.below (Below.refl _ wr).drew) HXB.out.1 HXB.out.2).mono ?_
     rintro z w3 ⟨⟨aa,rfl⟩,hb3⟩
     have hS1:KidAt w3 w.heap.size kind n r (some ⟨bA,oA,none⟩) q.len c bA oA i k' n' r' B' q'.len c':=(HKA.out.keep (Below.refl _ wr).drew).keep hb3
     have HB3:=aZ ((Below.refl _ wr).drew.trans (hb3.mono (Nat.le_refl _)))
     clear hb3
     refine hK.out _ _ (λ_=>hS1) ?_
     clear hK K
     try simp only[nrm,Act.put]
     refine Takes.intro [14,15,16,17] ?_
     repeat(refine Takes.go (v:=?_) hS1 ?_;try simp only[nrm,Act.put])
     refine Takes.nil ?_
     refine wpAnyS_fin 1 18 ?_
     simp only[nrd]
     have HEB':Hid (eb=(Fo.cons k' n' r' q' .nil).bad [xv] true):=aZ HEB.out.symm
     have HBN:Hid (Below w2.heap.size w2 w3):=aZ (hbw.out.trans (HB3.out.mono hbw.out.size))
     simp only[HEB.out]
     clear hS0 hS1 HKA HKB hbw HB3
     by_cases h0:eb=0
     ·subst h0
      go_wp2
      exact⟨⟨i+1,aa,by omega,by go_num,rfl,HST,HBN⟩,by simp[intOf];omega⟩
     ·have h0i:(eb != 0)=true:=by simpa using h0
      have HF:Hid (q.bad L true=eb):=aZ (by
       have:=badTo_stop (i+1) q L true (by rw[HST.out];exact h0)
       rw[this,HST.out])
      clear h0
      go_wp2
      go_ret2
      exact⟨⟨aa,by rw[show((true:Bool)||true)=true from rfl,HF.out];rfl⟩,HB2.out.2.trans (HBN.out.mono (by have:=HB2.out.1;omega))⟩
    ·obtain rfl:i=m:=by omega
     have HF:Hid (q.bad L true=0):=aZ (by rw[<-badTo_len i q L true (by have:=HQL.out;omega)];exact hbad.out)
     clear hbad
     go_wp2
     go_ret2
     exact⟨⟨nx,by rw[show((true:Bool)||true)=true from rfl,HF.out];rfl⟩,HB2.out.2.trans (hbw.out.mono (by have:=HB2.out.1;omega))⟩
 ·
  rw[if_pos he]
  have hei:(nodeE kind n r q.len want blue != 0)=true:=by simpa using he
  generalize nodeE kind n r q.len want blue=e at*
  clear he
  go_enter Try.func78,Try.ntmps78
  go_wp2_with fail
  refine(HN.out _).mono ?_
  rintro z w1 ⟨rfl,hb1⟩
  have HB:=aZ (((Below.refl _ w).alloc (Nat.le_refl _) (.cells #[.int .i64 kind,.int .i64 n,.int .i64 r,.slice A q.len c] 26)).trans (hb1.mono (by simp)))
  clear hb1
  go_wp2
  go_ret2
  exact⟨⟨_,rfl⟩,HB.out⟩
end Go.Proofs.Yteaimnemobnknaa
