/- Contract: fft.by with exec.Execute, fft.Forward. -/
import Derived.Test.YtmgfaeineklccaaGreatMP7
import Derived.Test.YtmgfaeineklccaaGreatY12a
import Derived.Test.YtmgfaeineklccaaGreatMQ4
import Derived.Test.YtmgfaeineklccaaGreatMI1
import Derived.Test.YtmgfaeineklccaaGreatY11a
import Derived.Test.YtmgfaeineklccaaGreatMP1
import Derived.Test.YtmgfaeineklccaaGreatVRL23
import Derived.Test.YtmgfaeineklccaaGreatMV1
import Derived.Great.BuildSlice
set_option linter.unusedSimpArgs false
set_option linter.unusedVariables false
namespace Go.Proofs.YtmgfaeineklccaaGreat
open Go.RowKit Go.Lib

set_option maxRecDepth 100000 in
set_option maxHeartbeats 4000000 in
theorem By_ok (k rr : Int) (q : Fo) (cc : Int) (N : Nat) (h1 : 1 ≤ N) (hN : N ≤ 16384) (hbest : bestV N false = ⟨k, N, rr, q, cc⟩) (F : Tr Cx) (P : PlanE k rr q N F) (C : ChkC k N rr q N 0) (w : World) (f p r : Nat) (es : List ((Int × Bool) × Value × Nat)) (clock : Nat) (hf : FE w f p r es clock)
    (X : Option Addr) (cx : Nat) (x : Nat → Cx) (hX : CsAt w X N x) (hXr : ∀ b o, X = some ⟨b, o, none⟩ → b ≠ r) (hg : guardE x N = 0) :
    Calls Tryz.prog 110 #[.pointer (some ⟨f, 0, none⟩), .func (.func 24) #[] #[], .slice X N cx] w fun z w' => ∃ (g : Nat) (es' : List ((Int × Bool) × Value × Nat)) (clock' : Nat),
      z = .returned (.tuple #[.slice (some ⟨g, 0, none⟩) N N, .int .i64 0]) ∧ w.heap.size ≤ g ∧ g < w'.heap.size ∧ RowC w' g N (F (-1) x) ∧ FE w' f p r es' clock' ∧ OnlyB r w w' := by
  have HP := Lib.hid (FPlan_any N h1 hN w f p r es clock hf)
  rw [hbest] at HP
  dsimp only at HP
  have HE : Hid (∀ (A : Option Addr) (c : Nat) (w1 : World), Kids w1 A 0 q → CsAt w1 X N x → Calls Tryz.prog 24 #[plV k N rr A q.len c, .slice X N cx, .int .i64 (-1)] w1 fun z w' => ∃ g, z = .returned (.tuple #[.slice (some ⟨g, 0, none⟩) N N, .int .i64 0]) ∧ w1.heap.size ≤ g ∧ g < w'.heap.size ∧ RowC w' g N (F (-1) x) ∧ Below w1.heap.size w1 w') := Lib.hid (fun A c w1 hk hx => Execute_ok k rr q N F P C A c X cx x (-1) w1 hk hx hN (.inr rfl) hg)
  have HX : Hid (CsAt w X N x) := Lib.hid hX
  have HXR := Lib.hid hXr
  have HFR : Hid (r < w.heap.size ∧ f < w.heap.size) := Lib.hid ⟨hf.se.rl, cell_lt hf.c0⟩
  clear hX hXr hf hbest P C hg
  go_enter Tryz.func110, Tryz.ntmps110
  go_wp2_with fail
  refine HP.out.mono ?_
  rintro z w2 ⟨B, c, es', clock', rfl, hk2, hf2, ho2⟩
  obtain ⟨W3, hW3⟩ : ∃ W3, w2.alloc (.cells #[.int .i64 k, .int .i64 N, .int .i64 rr, .slice B q.len c] 27) = W3 := ⟨_, rfl⟩
  have hb3 : Below w2.heap.size w2 W3 := by rw [← hW3]; exact (Below.refl _ w2).alloc (Nat.le_refl _) _
  have hbx : PlBox W3 w2.heap.size k N rr B q.len c := by rw [← hW3]; exact PlBox.new w2 k N rr B q.len c _
  have HCL := Lib.hid (HE.out B c W3 (hk2.below hb3).kids (((HX.out.only ho2 HXR.out)).keep hb3))
  have HF3 : Hid (FE W3 f p r es' clock' ∧ OnlyB r w W3) := Lib.hid ⟨⟨keep_cell hb3 hf2.c0, hf2.se.only (U := fun _ => False) (OnlyZ.of_below hb3 fun k a b => by omega) (fun _ _ f => f.elim) (fun _ _ e => e), hf2.ne⟩, ho2.trans (OnlyB.of_below hb3)⟩
  have HW3 := Lib.hid hW3
  obtain ⟨b0, b1, b2, b3⟩ := hbx
  clear hk2 hf2 ho2 hb3 hW3 HP HE HX HXR
  go_upto_region 4 with fail
  rw [HW3.out]
  clear HW3
  go_wp2_with fail
  refine HCL.out.mono ?_
  rintro z w4 ⟨g, rfl, hg1, hg2, hrow, hb4⟩
  have HR := Lib.hid (And.intro hg1 (And.intro hg2 (And.intro hrow hb4)))
  clear hg1 hg2 hrow hb4
  go_wp2
  go_ret2
  have h3 := HF3.out
  have hb4 := HR.out.2.2.2
  exact ⟨g, es', clock', rfl, by have := h3.2.size; have := HR.out.1; omega, HR.out.2.1, HR.out.2.2.1, ⟨keep_cell hb4 h3.1.c0, h3.1.se.only (U := fun _ => False) (OnlyZ.of_below hb4 fun k a b => by omega) (fun _ _ f => f.elim) (fun _ _ e => e), h3.1.ne⟩, h3.2.trans (OnlyB.of_below hb4)⟩
set_option maxRecDepth 100000 in
set_option maxHeartbeats 4000000 in
theorem FForward_ok (k rr : Int) (q : Fo) (cc : Int) (N : Nat) (h1 : 1 ≤ N) (hN : N ≤ 16384) (hbest : bestV N false = ⟨k, N, rr, q, cc⟩) (F : Tr Cx) (P : PlanE k rr q N F) (C : ChkC k N rr q N 0) (w : World) (f p r : Nat) (es : List ((Int × Bool) × Value × Nat)) (clock : Nat) (hf : FE w f p r es clock)
    (X : Option Addr) (cx : Nat) (x : Nat → Cx) (hX : CsAt w X N x) (hXr : ∀ b o, X = some ⟨b, o, none⟩ → b ≠ r) (hg : guardE x N = 0) :
    Calls Tryz.prog 54 #[.pointer (some ⟨f, 0, none⟩), .slice X N cx] w fun z w' => ∃ (g : Nat) (es' : List ((Int × Bool) × Value × Nat)) (clock' : Nat),
      z = .returned (.tuple #[.slice (some ⟨g, 0, none⟩) N N, .int .i64 0]) ∧ w.heap.size ≤ g ∧ g < w'.heap.size ∧ RowC w' g N (F (-1) x) ∧ FE w' f p r es' clock' ∧ OnlyB r w w' := by
  have HB := Lib.hid (By_ok k rr q cc N h1 hN hbest F P C w f p r es clock hf X cx x hX hXr hg)
  clear hbest P C hf hX hXr hg
  go_enter Tryz.func54, Tryz.ntmps54
  go_wp2_with fail
  refine HB.out.mono ?_
  rintro z w2 ⟨g, es', clock', rfl, hrest⟩
  have HR := Lib.hid hrest
  clear hrest
  go_wp2
  go_ret2
  exact ⟨g, es', clock', rfl, HR.out⟩
end Go.Proofs.YtmgfaeineklccaaGreat
/- Contract: the test of Convolve. -/
set_option linter.unusedSimpArgs false
set_option linter.unusedVariables false
namespace Go.Proofs.YtmgfaeineklccaaGreat
open Go.RowKit Go.Lib

def W450 : Nat := 6408622269748215808
set_option maxRecDepth 100000 in
set_option maxHeartbeats 1000000 in
theorem conv1_any (u : Rx) (w : World) :
    Calls Tryz.prog 113 #[cV u] w fun z w' => z = .returned (.bool (badC W450 (nC u))) ∧ Below w.heap.size w w' := by
  have e1 : fitsB W450 u.1 = ((FloatKind.f64.format.order ((u.1 : Nat) % 9223372036854775808) 6408622269748215808 == some Ordering.lt) || (FloatKind.f64.format.order ((u.1 : Nat) % 9223372036854775808) 6408622269748215808 == some Ordering.eq)) := rfl
  have e2 : fitsB W450 u.2 = ((FloatKind.f64.format.order ((u.2 : Nat) % 9223372036854775808) 6408622269748215808 == some Ordering.lt) || (FloatKind.f64.format.order ((u.2 : Nat) % 9223372036854775808) 6408622269748215808 == some Ordering.eq)) := rfl
  obtain ⟨a, ha⟩ : ∃ a, (FloatKind.f64.format.order ((u.1 : Nat) % 9223372036854775808) 6408622269748215808 == some Ordering.lt) = a := ⟨_, rfl⟩
  obtain ⟨a', ha'⟩ : ∃ a, (FloatKind.f64.format.order ((u.1 : Nat) % 9223372036854775808) 6408622269748215808 == some Ordering.eq) = a := ⟨_, rfl⟩
  obtain ⟨b, hb⟩ : ∃ a, (FloatKind.f64.format.order ((u.2 : Nat) % 9223372036854775808) 6408622269748215808 == some Ordering.lt) = a := ⟨_, rfl⟩
  obtain ⟨b', hb'⟩ : ∃ a, (FloatKind.f64.format.order ((u.2 : Nat) % 9223372036854775808) 6408622269748215808 == some Ordering.eq) = a := ⟨_, rfl⟩
  rw [ha, ha'] at e1
  rw [hb, hb'] at e2
  have HE : badC W450 (nC u) = !((a || a') && (b || b')) := by unfold badC; rw [fitsC_nC]; unfold fitsC; rw [e1, e2]
  rw [HE]
  clear e1 e2 HE
  obtain ⟨W1, hW1⟩ : ∃ W1, W1 = w.alloc (.cells #[.float .f64 u.1, .float .f64 u.2] 52) := ⟨_, rfl⟩
  have hb1 : Below w.heap.size w W1 := by rw [hW1]; exact (Below.refl _ w).alloc (Nat.le_refl _) _
  have c0 : W1.cell? ⟨w.heap.size, 0, none⟩ = some (.float .f64 u.1) := by rw [hW1, World.cell?_alloc_new]; rfl
  have c1 : W1.cell? ⟨w.heap.size, 1, none⟩ = some (.float .f64 u.2) := by rw [hW1, World.cell?_alloc_new]; rfl
  have HW1 := Lib.hid hW1
  have HB1 := Lib.hid hb1
  have H1 := Lib.hid (absF_any u.1)
  have H2 := Lib.hid (absF_any u.2)
  clear hW1 hb1
  go_enter Tryz.func113, Tryz.ntmps113
  go_upto_region 1 with fail
  rw [← HW1.out]
  cases a <;> cases a' <;> cases b <;> cases b'
  case false.false.false.false | false.false.false.true | false.false.true.false | false.false.true.true =>
    go_wp2_with fail
    refine (H1.out _ u.1.isLt).mono ?_
    rintro z w' ⟨rfl, rfl⟩
    go_wp2
    go_ret
    exact ⟨rfl, HB1.out⟩
  all_goals
    go_wp2_with fail
    refine (H1.out _ u.1.isLt).mono ?_
    rintro z w' ⟨rfl, rfl⟩
    go_wp2_with fail
    refine (H2.out _ u.2.isLt).mono ?_
    rintro z w' ⟨rfl, rfl⟩
    go_wp2
    go_ret
    exact ⟨rfl, HB1.out⟩
end Go.Proofs.YtmgfaeineklccaaGreat
/- Contract: fft.Convolve. -/
set_option linter.unusedSimpArgs false
set_option linter.unusedVariables false
namespace Go.Proofs.YtmgfaeineklccaaGreat
open Go.RowKit Go.Lib

/-- The row after the first i products. -/
def cvF (a b : Nat → Cx) (i : Nat) : Nat → Cx := fun j => if j < i then cmul (a j) (b j) else a j

set_option maxRecDepth 100000 in
set_option maxHeartbeats 4000000 in
theorem Convolve_ok (k rr : Int) (q : Fo) (cc : Int) (N : Nat) (h1 : 1 ≤ N) (hN : N ≤ 16384) (hbest : bestV N false = ⟨k, N, rr, q, cc⟩) (F : Tr Cx) (P : PlanE k rr q N F) (C : ChkC k N rr q N 0) (w : World) (f p r : Nat) (es : List ((Int × Bool) × Value × Nat)) (clock : Nat) (hf : FE w f p r es clock)
    (X Y : Option Addr) (cx cy : Nat) (x y : Nat → Cx) (hX : CsAt w X N x) (hXr : ∀ b o, X = some ⟨b, o, none⟩ → b ≠ r) (hY : CsAt w Y N y) (hYr : ∀ b o, Y = some ⟨b, o, none⟩ → b ≠ r) (hbx : idxI (badC W450) x N = -1) (hby : idxI (badC W450) y N = -1) (hgx : guardE x N = 0) (hgy : guardE y N = 0)
    (hgm : guardE (cvF (F (-1) x) (F (-1) y) N) N = 0) :
    Calls Tryz.prog 63 #[.pointer (some ⟨f, 0, none⟩), .slice X N cx, .slice Y N cy] w fun z w' => ∃ (g : Nat) (es' : List ((Int × Bool) × Value × Nat)) (clock' : Nat),
      z = .returned (.tuple #[.slice (some ⟨g, 0, none⟩) N N, .int .i64 0]) ∧ w.heap.size ≤ g ∧ g < w'.heap.size ∧ RowC w' g N (overF ringR (F (- -1) (cvF (F (-1) x) (F (-1) y) N)) N) ∧ FE w' f p r es' clock' ∧ OnlyB r w w' := by
  have HP := Lib.hid (FPlan_any N h1 hN w f p r es clock hf)
  rw [hbest] at HP
  dsimp only at HP
  have HE : Hid (∀ (A : Option Addr) (c : Nat) (Z : Option Addr) (cz : Nat) (z0 : Nat → Cx) (w1 : World), Kids w1 A 0 q → CsAt w1 Z N z0 → guardE z0 N = 0 → Calls Tryz.prog 24 #[plV k N rr A q.len c, .slice Z N cz, .int .i64 (-1)] w1 fun z w' => ∃ g, z = .returned (.tuple #[.slice (some ⟨g, 0, none⟩) N N, .int .i64 0]) ∧ w1.heap.size ≤ g ∧ g < w'.heap.size ∧ RowC w' g N (F (-1) z0) ∧ Below w1.heap.size w1 w') := Lib.hid (fun A c Z cz z0 w1 hk hx hg => Execute_ok k rr q N F P C A c Z cz z0 (-1) w1 hk hx hN (.inr rfl) hg)
  have HI : Hid (∀ (A : Option Addr) (c : Nat) (Z : Option Addr) (cz : Nat) (z0 : Nat → Cx) (w1 : World), Kids w1 A 0 q → CsAt w1 Z N z0 → guardE z0 N = 0 → Calls Tryz.prog 25 #[plV k N rr A q.len c, .slice Z N cz, .int .i64 (-1)] w1 fun z w' => ∃ g, z = .returned (.tuple #[.slice (some ⟨g, 0, none⟩) N N, .int .i64 0]) ∧ w1.heap.size ≤ g ∧ g < w'.heap.size ∧ RowC w' g N (overF ringR (F (- -1) z0) N) ∧ Below w1.heap.size w1 w') := Lib.hid (fun A c Z cz z0 w1 hk hx hg => Inverse_ok k rr q N F P C A c Z cz z0 (-1) w1 hk hx h1 hN (.inr rfl) hg)
  have HCX : Hid (∀ w1, CsAt w1 X N x → Calls Tryz.prog 88 #[.slice X N cx, .func (.func 113) #[] #[]] w1 fun z w' => z = .returned (.bool false) ∧ Below w1.heap.size w1 w') := Lib.hid (fun w1 h => by
    have := ContainsC_any 113 (badC W450) (fun args w => enters_of Tryz.func113 (by kernel_rfl) rfl args w) (fun u w => conv1_any u w) X N cx x w1 h (by omega)
    rw [hbx] at this
    exact this)
  have HCY : Hid (∀ w1, CsAt w1 Y N y → Calls Tryz.prog 88 #[.slice Y N cy, .func (.func 113) #[] #[]] w1 fun z w' => z = .returned (.bool false) ∧ Below w1.heap.size w1 w') := Lib.hid (fun w1 h => by
    have := ContainsC_any 113 (badC W450) (fun args w => enters_of Tryz.func113 (by kernel_rfl) rfl args w) (fun u w => conv1_any u w) Y N cy y w1 h (by omega)
    rw [hby] at this
    exact this)
  have HX := Lib.hid (And.intro hX hXr)
  have HY := Lib.hid (And.intro hY hYr)
  have HG := Lib.hid (And.intro hgx (And.intro hgy hgm))
  have HFR : Hid (r < w.heap.size ∧ f < w.heap.size) := Lib.hid ⟨hf.se.rl, cell_lt hf.c0⟩
  clear hX hXr hf hbest P C hY hYr hbx hby hgx hgy hgm
  go_enter Tryz.func63, Tryz.ntmps63
  go_wp2_with fail
  refine HP.out.mono ?_
  rintro z w2 ⟨B, c, es', clock', rfl, hk2, hf2, ho2⟩
  obtain ⟨W3, hW3⟩ : ∃ W3, w2.alloc (.cells #[.int .i64 k, .int .i64 N, .int .i64 rr, .slice B q.len c] 27) = W3 := ⟨_, rfl⟩
  have hb3 : Below w2.heap.size w2 W3 := by rw [← hW3]; exact (Below.refl _ w2).alloc (Nat.le_refl _) _
  have HBX : Hid (PlBox W3 w2.heap.size k N rr B q.len c) := Lib.hid (by rw [← hW3]; exact PlBox.new w2 k N rr B q.len c _)
  have HK : Hid (Kids W3 B 0 q) := Lib.hid (hk2.below hb3).kids
  have HX3 : Hid (CsAt W3 X N x) := Lib.hid ((HX.out.1.only ho2 HX.out.2).keep hb3)
  have HY3 : Hid (CsAt W3 Y N y) := Lib.hid ((HY.out.1.only ho2 HY.out.2).keep hb3)
  have HF2 := Lib.hid (And.intro hf2 ho2)
  have HB3 := Lib.hid hb3
  have HW3 := Lib.hid hW3
  clear hk2 hf2 ho2 hb3 hW3 HP HX HY
  go_upto_region 6 with fail
  rw [HW3.out]
  clear HW3
  obtain ⟨pb, hpb⟩ : ∃ pb, pb = w2.heap.size := ⟨_, rfl⟩
  rw [← hpb] at HBX ⊢
  have HPB := Lib.hid hpb
  clear hpb
  go_wp2_with fail
  refine (HCX.out W3 HX3.out).mono ?_
  rintro z w4 ⟨rfl, hb4⟩
  have HB4 := Lib.hid hb4
  clear hb4 HCX
  go_wp2_with fail
  refine (HCY.out w4 (HY3.out.keep HB4.out)).mono ?_
  rintro z w5 ⟨rfl, hb5⟩
  have HB5 := Lib.hid (HB4.out.trans (hb5.mono HB4.out.size))
  clear hb5 HB4 HCY
  obtain ⟨b0, b1, b2, b3⟩ := HBX.out.below HB5.out
  go_wp2_with fail
  refine (HE.out B c X cx x w5 (HK.out.below HB5.out) (HX3.out.keep HB5.out) HG.out.1).mono ?_
  rintro z w6 ⟨g, rfl, hg1, hg2, hrow, hb6⟩
  have HB6 := Lib.hid (HB5.out.trans (hb6.mono HB5.out.size))
  have HR6 := Lib.hid (And.intro hrow (And.intro (show W3.heap.size ≤ g by have := HB5.out.size; omega) hg2))
  clear hg1 hg2 hrow hb6 HB5 b0 b1 b2 b3
  obtain ⟨b0, b1, b2, b3⟩ := HBX.out.below HB6.out
  go_wp2_with fail
  refine (HE.out B c Y cy y w6 (HK.out.below HB6.out) (HY3.out.keep HB6.out) HG.out.2.1).mono ?_
  rintro z w7 ⟨g', rfl, hg1, hg2, hrow, hb7⟩
  have HB7 := Lib.hid (HB6.out.trans (hb7.mono HB6.out.size))
  have HR7 := Lib.hid (And.intro (HR6.out.1.keep hb7) (And.intro hrow (And.intro (show g ≠ g' by have := HR6.out.2.2; omega) (show W3.heap.size ≤ g' by have := HR6.out.2; omega))))
  have HGB : Hid (W3.heap.size ≤ g) := Lib.hid HR6.out.2.1
  clear hg1 hg2 hrow hb7 HB6 b0 b1 b2 b3 HR6
  go_wp2_with fail
  go_loopw [55] (fun vi wr => ∃ k : Nat, k ≤ N ∧ vi = .int .i64 k ∧ Hid (RowC wr g N (cvF (F (-1) x) (F (-1) y) k)) ∧ Hid (RowC wr g' N (F (-1) y)) ∧ Hid (Below W3.heap.size W3 wr)) (fun vi _ => N - (intOf vi).toNat)
  case atStart => exact ⟨0, by omega, rfl, Lib.hid (HR7.out.1.congr fun i hi => by unfold cvF; rw [if_neg (by omega)]), Lib.hid HR7.out.2.1, HB7⟩
  case round =>
    obtain ⟨k, hk, rfl, hr, hr', hb⟩ := hrel
    by_cases hlt : k < N
    · obtain ⟨u, hc1, hc2, hc3, hc4, hu⟩ := hr.out k hlt
      obtain ⟨v, hd1, hd2, -, -, hv⟩ := hr'.out k hlt
      have HU := Lib.hid hu
      have HV := Lib.hid hv
      clear hu hv
      have hki : (k : Int) < N := by omega
      go_upto_region 16 with (fail)
      refine wp_region_S (fun w' => w'.cell? ⟨g, k * 2, none⟩ = some (.float .f64 u.1) ∧ w'.cell? ⟨g, k * 2 + 1, none⟩ = some (.float .f64 u.2) ∧ w'.cell? ⟨g', k * 2, none⟩ = some (.float .f64 v.1) ∧ w'.cell? ⟨g', k * 2 + 1, none⟩ = some (.float .f64 v.2) ∧ Hid (Below wr.heap.size wr w')) 11 (by kernel_rfl) ?_
      have hS0 := (⟨hc1, hc2, hd1, hd2, Lib.hid ((Below.refl _ wr).drew)⟩ : wr.drew.cell? ⟨g, k * 2, none⟩ = some (.float .f64 u.1) ∧ wr.drew.cell? ⟨g, k * 2 + 1, none⟩ = some (.float .f64 u.2) ∧ wr.drew.cell? ⟨g', k * 2, none⟩ = some (.float .f64 v.1) ∧ wr.drew.cell? ⟨g', k * 2 + 1, none⟩ = some (.float .f64 v.2) ∧ Hid (Below wr.heap.size wr wr.drew))
      refine Takes.intro [0,1,2,3,4,5,6,7,8,9] ?_
      repeat (refine Takes.step (v := ?_) (by kernel_rfl) rfl (fun _ _ _ h => h) rfl hS0 (fun w hSw => by (try dsimp only at hSw); go_simp; try with_reducible rfl) ?_; try simp only [List.getElem_toArray, List.getElem_cons_zero, List.getElem_cons_succ, Act.put, List.setIfInBounds_toArray, List.set_cons_zero, List.set_cons_succ])
      refine Takes.nil ?_
      refine wpAnyS_one (i := 10) (by kernel_rfl) rfl rfl (fun K hK => ?_)
      go_simp
      refine (mulC_any u v _).mono ?_
      rintro z w8 ⟨⟨pr, rfl, hp⟩, hb8⟩
      have HO := Lib.hid (hS0.2.2.2.2.out.trans (hb8.mono hS0.2.2.2.2.out.size))
      have hS1 : w8.cell? ⟨g, k * 2, none⟩ = some (.float .f64 u.1) ∧ w8.cell? ⟨g, k * 2 + 1, none⟩ = some (.float .f64 u.2) ∧ w8.cell? ⟨g', k * 2, none⟩ = some (.float .f64 v.1) ∧ w8.cell? ⟨g', k * 2 + 1, none⟩ = some (.float .f64 v.2) ∧ Hid (Below wr.heap.size wr w8) := ⟨keep_cell HO.out hc1, keep_cell HO.out hc2, keep_cell HO.out hd1, keep_cell HO.out hd2, HO⟩
      clear hb8
      refine hK.out _ _ (fun _ => hS1) ?_
      clear hK K
      try simp only [List.getElem_toArray, List.getElem_cons_zero, List.getElem_cons_succ, Act.put, List.setIfInBounds_toArray, List.set_cons_zero, List.set_cons_succ]
      refine wpAnyS_end 2 11 (by kernel_rfl) (by decide) rfl ?_
      simp only [List.toList_toArray, List.drop_succ_cons, List.drop_zero]
      have hr2 := hr.out.keep HO.out
      have hr2' := hr'.out.keep HO.out
      have hb3 := hb.out.trans (HO.out.mono hb.out.size)
      obtain ⟨u0, r1, r2, r3, r4, -⟩ := hr2 k hlt
      have hgW := HGB.out
      have HN := Lib.hid (And.intro (hr2.set hlt pr) (And.intro (hr2'.only ((OnlyB.refl g w8).putC k pr) HR7.out.2.2.1.symm) (show Below W3.heap.size W3 (putC w8 g k pr) from ((hb3.setCell hgW _).setCell hgW _))))
      have HQ : Hid (nC pr = cmul (F (-1) x k) (F (-1) y k)) := Lib.hid (by rw [hp, HU.out, HV.out]; unfold cvF; rw [if_neg (by omega)])
      clear hr2 hr2' hb3 hS0 hS1 hp hc1 hc2 hc3 hc4 hd1 hd2 hr hr' hb hgW
      go_wp2
      exact ⟨⟨k + 1, by omega, by go_num, Lib.hid (HN.out.1.congr fun i hi => by
        unfold updT cvF
        by_cases e : i = k
        · subst e; rw [if_pos rfl, if_pos (by omega), HQ.out]
        · rw [if_neg e]
          by_cases e2 : i < k
          · rw [if_pos e2, if_pos (by omega)]
          · rw [if_neg e2, if_neg (by omega)]), Lib.hid HN.out.2.1, Lib.hid HN.out.2.2⟩, by simp [intOf]; omega⟩
    · obtain rfl : k = N := by omega
      obtain ⟨b0, b1, b2, b3⟩ := HBX.out.below hb.out
      go_wp2_with fail
      refine (HI.out B c (some ⟨g, 0, none⟩) k (cvF (F (-1) x) (F (-1) y) k) wr (HK.out.below hb.out) hr.out.cs HG.out.2.2).mono ?_
      rintro z w9 ⟨g2, rfl, hg1, hg2, hrow, hb9⟩
      have HR9 := Lib.hid (And.intro hg1 (And.intro hg2 hrow))
      have HB9 := Lib.hid (HB3.out.trans ((hb.out.trans (hb9.mono hb.out.size)).mono HB3.out.size))
      have HWS := Lib.hid (Nat.le_trans HB3.out.size hb.out.size)
      clear hg1 hg2 hrow hb9 b0 b1 b2 b3 hr hr' hb
      go_wp2
      go_ret2
      have h2 := HF2.out
      have hb9 := HB9.out
      exact ⟨g2, es', clock', rfl, by have := h2.2.size; have := HR9.out.1; have := HWS.out; omega, HR9.out.2.1, HR9.out.2.2, ⟨keep_cell hb9 h2.1.c0, h2.1.se.only (U := fun _ => False) (OnlyZ.of_below hb9 fun k a b => by omega) (fun _ _ f => f.elim) (fun _ _ e => e), h2.1.ne⟩, h2.2.trans (OnlyB.of_below hb9)⟩
end Go.Proofs.YtmgfaeineklccaaGreat
/- What layer 23's document fixes. -/
set_option linter.unusedSimpArgs false
set_option linter.unusedVariables false
namespace Go.Proofs.YtmgfaeineklccaaGreat
open Go.RowKit Go.Lib

def x23 : Nat → Cx := fun i => if i = 0 then (4607182418800017408, 0) else if i = 1 then (4611686018427387904, 0) else if i = 2 then (4613937818241073152, 0) else (4616189618054758400, 0)
def a23 : Nat → Cx := fun i => if i = 0 then (4607182418800017408, 0) else (4611686018427387904, 0)
def b23 : Nat → Cx := fun i => if i = 0 then (4613937818241073152, 0) else (4616189618054758400, 0)
theorem chk23 : checkE 2 4 0 .nil 4 = 0 := by kernel_rfl
theorem chk23b : checkE 0 2 0 .nil 2 = 0 := by kernel_rfl
theorem plan23 : PlanE 2 0 .nil 4 (exF 2 4 0 .nil) := fun m => planX_split (ringC_ok m) 4 2 (by decide) (by decide) (by decide) .nil
theorem plan23b : PlanE 0 0 .nil 2 (exF 0 2 0 .nil) := fun m => planX_leaf (ringC_ok m) 2 (by decide) (by decide) .nil
theorem vals23 : (exF 2 4 0 .nil (-1) x23 0).1 = 4621819117588971520 ∧ (exF 2 4 0 .nil (-1) x23 1).2 = 4611686018427387904 := ⟨by kernel_rfl, by kernel_rfl⟩
theorem guard23 : guardE x23 4 = 0 := by kernel_rfl
theorem guard23a : guardE a23 2 = 0 ∧ guardE b23 2 = 0 := ⟨by kernel_rfl, by kernel_rfl⟩
theorem test23 : idxI (badC W450) a23 2 = -1 ∧ idxI (badC W450) b23 2 = -1 := ⟨by kernel_rfl, by kernel_rfl⟩
theorem guard23c : guardE (cvF (exF 0 2 0 .nil (-1) a23) (exF 0 2 0 .nil (-1) b23) 2) 2 = 0 := by kernel_rfl
theorem vals23c : (overF ringR (exF 0 2 0 .nil (- -1) (cvF (exF 0 2 0 .nil (-1) a23) (exF 0 2 0 .nil (-1) b23) 2)) (2 : Nat) 0).1 = 4622382067542392832 := by kernel_rfl
theorem FE.keep {w w1 : World} {f p r : Nat} {es : List ((Int × Bool) × Value × Nat)} {clock : Nat} (h : FE w f p r es clock) (hb : Below w.heap.size w w1) : FE w1 f p r es clock :=
  ⟨keep_cell hb h.c0, h.se.only (U := fun _ => False) (OnlyZ.of_below hb fun k a b => by omega) (fun _ _ f => f.elim) (fun _ _ e => e), h.ne⟩
theorem fwd23 (w : World) (f p r : Nat) (es : List ((Int × Bool) × Value × Nat)) (clock : Nat) (hf : FE w f p r es clock) (X : Option Addr) (cx : Nat) (hX : CsAt w X 4 x23) (hXr : ∀ b o, X = some ⟨b, o, none⟩ → b ≠ r) :
    Calls Tryz.prog 54 #[.pointer (some ⟨f, 0, none⟩), .slice X 4 cx] w fun z w' => ∃ (g : Nat) (es' : List ((Int × Bool) × Value × Nat)) (clock' : Nat),
      z = .returned (.tuple #[.slice (some ⟨g, 0, none⟩) 4 4, .int .i64 0]) ∧ w.heap.size ≤ g ∧ g < w'.heap.size ∧ RowC w' g 4 (exF 2 4 0 .nil (-1) x23) ∧ FE w' f p r es' clock' ∧ OnlyB r w w' :=
  FForward_ok 2 0 .nil 32 4 (by decide) (by decide) best_four (exF 2 4 0 .nil) plan23 (chkC_of 2 4 0 .nil 4 chk23 (by decide)) w f p r es clock hf X cx x23 hX hXr guard23
theorem conv23 (w : World) (f p r : Nat) (es : List ((Int × Bool) × Value × Nat)) (clock : Nat) (hf : FE w f p r es clock) (X Y : Option Addr) (cx cy : Nat) (hX : CsAt w X 2 a23) (hXr : ∀ b o, X = some ⟨b, o, none⟩ → b ≠ r) (hY : CsAt w Y 2 b23) (hYr : ∀ b o, Y = some ⟨b, o, none⟩ → b ≠ r) :
    Calls Tryz.prog 63 #[.pointer (some ⟨f, 0, none⟩), .slice X 2 cx, .slice Y 2 cy] w fun z w' => ∃ (g : Nat) (es' : List ((Int × Bool) × Value × Nat)) (clock' : Nat),
      z = .returned (.tuple #[.slice (some ⟨g, 0, none⟩) 2 2, .int .i64 0]) ∧ w.heap.size ≤ g ∧ g < w'.heap.size ∧ RowC w' g 2 (overF ringR (exF 0 2 0 .nil (- -1) (cvF (exF 0 2 0 .nil (-1) a23) (exF 0 2 0 .nil (-1) b23) 2)) (2 : Nat)) ∧ FE w' f p r es' clock' ∧ OnlyB r w w' :=
  Convolve_ok 0 0 .nil 24 2 (by decide) (by decide) best_two (exF 0 2 0 .nil) plan23b (chkC_of 0 2 0 .nil 2 chk23b (by decide)) w f p r es clock hf X Y cx cy a23 b23 hX hXr hY hYr test23.1 test23.2 guard23a.1 guard23a.2 guard23c

set_option maxRecDepth 100000 in
set_option maxHeartbeats 4000000 in
theorem wakes23_any (w : World) : Calls Tryz.prog 44 #[] w fun z w' => z = .returned (.bool true) ∧ Below w.heap.size w w' := by
  have HN := Lib.hid (FNew_any w)
  go_enter Tryz.func44, Tryz.ntmps44
  go_wp2_with fail
  refine HN.out.mono ?_
  rintro z w1 ⟨f, p, r, rfl, hf, hr, hb⟩
  obtain ⟨W, hW⟩ : ∃ W, W = w1.alloc (.cells #[.float .f64 4607182418800017408, .float .f64 0, .float .f64 4611686018427387904, .float .f64 0, .float .f64 4613937818241073152, .float .f64 0, .float .f64 4616189618054758400, .float .f64 0] 52) := ⟨_, rfl⟩
  have hbW : Below w1.heap.size w1 W := by rw [hW]; exact (Below.refl _ w1).alloc (Nat.le_refl _) _
  have hX : CsAt W (some ⟨w1.heap.size, 0, none⟩) 4 x23 := by
    intro i hi
    rw [hW]
    rcases i with _ | _ | _ | _ | i
    · exact ⟨_, _, (⟨4607182418800017408, by decide⟩, 0), rfl, by simp [go_sem], by simp [go_sem], by kernel_rfl⟩
    · exact ⟨_, _, (⟨4611686018427387904, by decide⟩, 0), rfl, by simp [go_sem], by simp [go_sem], by kernel_rfl⟩
    · exact ⟨_, _, (⟨4613937818241073152, by decide⟩, 0), rfl, by simp [go_sem], by simp [go_sem], by kernel_rfl⟩
    · exact ⟨_, _, (⟨4616189618054758400, by decide⟩, 0), rfl, by simp [go_sem], by simp [go_sem], by kernel_rfl⟩
    · omega
  have HC := Lib.hid (fwd23 W f p r [] 0 (hf.keep hbW) (some ⟨w1.heap.size, 0, none⟩) 4 hX (fun b o e => by cases e; have := hf.se.rl; omega))
  have HB1 := Lib.hid (And.intro (hb.trans (hbW.mono hb.size)) (And.intro hr (show r < W.heap.size by have := hf.se.rl; have := hbW.size; omega)))
  clear hX hb hbW hf hr HN
  go_upto_region 2 with fail
  go_wp2_with fail
  rw [← hW]
  clear hW
  refine HC.out.mono ?_
  rintro z w2 ⟨g, es, clock, rfl, hg1, hg2, hrow, hf, ho⟩
  have HB2 := Lib.hid (HB1.out.1.trans (ho.below HB1.out.2.1 HB1.out.1.size))
  have hW1 := HB1.out.1.size
  obtain ⟨W2, hW2⟩ : ∃ W2, W2 = (w2.alloc (.cells #[.float .f64 4607182418800017408, .float .f64 0, .float .f64 4611686018427387904, .float .f64 0] 52)).alloc (.cells #[.float .f64 4613937818241073152, .float .f64 0, .float .f64 4616189618054758400, .float .f64 0] 52) := ⟨_, rfl⟩
  have hb2 : Below w2.heap.size w2 W2 := by rw [hW2]; exact ((Below.refl _ _).alloc (Nat.le_refl _) _).alloc (by simp) _
  have hX2 : CsAt W2 (some ⟨w2.heap.size, 0, none⟩) 2 a23 := by
    intro i hi
    rw [hW2]
    rcases i with _ | _ | i
    · exact ⟨_, _, (⟨4607182418800017408, by decide⟩, 0), rfl, by simp [go_sem], by simp [go_sem], by kernel_rfl⟩
    · exact ⟨_, _, (⟨4611686018427387904, by decide⟩, 0), rfl, by simp [go_sem], by simp [go_sem], by kernel_rfl⟩
    · omega
  have hY2 : CsAt W2 (some ⟨w2.heap.size + 1, 0, none⟩) 2 b23 := by
    intro i hi
    rw [hW2]
    rcases i with _ | _ | i
    · exact ⟨_, _, (⟨4613937818241073152, by decide⟩, 0), rfl, by simp [go_sem], by simp [go_sem], by kernel_rfl⟩
    · exact ⟨_, _, (⟨4616189618054758400, by decide⟩, 0), rfl, by simp [go_sem], by simp [go_sem], by kernel_rfl⟩
    · omega
  have HC2 := Lib.hid (conv23 W2 f p r es clock (hf.keep hb2) _ _ 2 2 hX2 (fun b o e => by cases e; have := hf.se.rl; omega) hY2 (fun b o e => by cases e; have := hf.se.rl; omega))
  have HB3 := Lib.hid (And.intro (HB2.out.trans (hb2.mono HB2.out.size)) (And.intro HB1.out.2.1 (show w.heap.size ≤ W2.heap.size by have := HB2.out.size; have := hb2.size; omega)))
  have HR2 := Lib.hid (And.intro (hrow.keep hb2) (show g ≠ r ∧ g < W2.heap.size from ⟨fun e => by have := HB1.out.2.2; omega, by have := hb2.size; omega⟩))
  clear hX2 hY2 hb2 HC hrow hf ho hg1 hg2 hW1 HB2
  go_upto_region 3 with fail
  go_wp2_with fail
  rw [← hW2]
  clear hW2
  refine HC2.out.mono ?_
  rintro z w3 ⟨g3, es3, clock3, rfl, -, -, hrow, -, ho⟩
  have HB4 := Lib.hid (HB3.out.1.trans (ho.below HB3.out.2.1 HB3.out.2.2))
  have HR4 := HR2.out.1.only ho HR2.out.2.1
  obtain ⟨u, r0, -, -, -, hu⟩ := HR4 0 (by decide)
  have hu1 : (u.1 : Nat) = 4621819117588971520 := word_of ((congrArg Prod.fst hu).trans vals23.1) (by decide)
  rw [hu1, Nat.zero_mul] at r0
  obtain ⟨v, -, r1, -, -, hv⟩ := HR4 1 (by decide)
  have hv1 : (v.2 : Nat) = 4611686018427387904 := word_of ((congrArg Prod.snd hv).trans vals23.2) (by decide)
  rw [hv1, Nat.one_mul, show 2 + 1 = 3 by decide] at r1
  obtain ⟨t, r2, -, -, -, ht⟩ := hrow 0 (by decide)
  have ht1 : (t.1 : Nat) = 4622382067542392832 := word_of ((congrArg Prod.fst ht).trans vals23c) (by decide)
  rw [ht1, Nat.zero_mul] at r2
  clear HR4 hrow ho hu hu1 hv hv1 ht ht1 HC2 HR2
  have o1 : (FloatKind.f64.format.order 4621819117588971520 4621813488089437307 == some Ordering.gt) = true := by kernel_rfl
  have o2 : (FloatKind.f64.format.order 4621819117588971520 4621824747088505733 == some Ordering.lt) = true := by kernel_rfl
  have o3 : (FloatKind.f64.format.order 4611686018427387904 4611640982431114199 == some Ordering.gt) = true := by kernel_rfl
  have o4 : (FloatKind.f64.format.order 4611686018427387904 4611708536425524756 == some Ordering.lt) = true := by kernel_rfl
  have o5 : (FloatKind.f64.format.order 4622382067542392832 4622376438042858619 == some Ordering.gt) = true := by kernel_rfl
  have o6 : (FloatKind.f64.format.order 4622382067542392832 4622387697041927045 == some Ordering.lt) = true := by kernel_rfl
  go_wp2
  go_ret
  exact ⟨rfl, HB4.out⟩
end Go.Proofs.YtmgfaeineklccaaGreat
/- The walk of FftPlans. -/
set_option linter.unusedSimpArgs false
set_option linter.unusedVariables false
namespace Go.Proofs.YtmgfaeineklccaaGreat
open Go.RowKit Go.Lib

@[go_sem] theorem run_max_int30 {P : Program} (w : World) (ts : Array TypeId) (t : TypeId) (x y : Int) :
    (Builtin.max_ ts t #[.int .i64 x, .int .i64 y]).run P w = .ok (.int .i64 (max x y)) w := by
  show ([Value.int .i64 y].foldlM Builtin.max2 (.int .i64 x)).run P w = _
  simp [List.foldlM, Builtin.max2]
  omega
section
variable {P : Program} {md : Region.Mode} {ops : Array Oper} {Q : Exit → Act → World → Prop} {S : World → Prop} {t : Nat}
/-- One comes up alone, and its guard lets it run. -/
theorem wpAnyS_oneG {i : Nat} {oi : Oper} {fuel : Nat} {listed : Array Bool} {a : Act} {w : World} (hr : oneOk md ops listed i = true) (hi : ops[i]? = some oi) (hwn : Region.wanted oi (yielded ops a.tmps) = true)
    (h : ∀ K : Act → World → Prop, Hid (∀ a' w', (i < t → S w') → wpAnyS P md ops Q S t fuel (listed.setIfInBounds i true) a' w' → K a' w') → Oper.wp P oi a w K Q) : wpAnyS P md ops Q S t (fuel + 1) listed a w := by
  unfold oneOk at hr
  rw [beq_iff_eq] at hr
  refine ⟨fun h0 => (by rw [hr] at h0; cases h0), fun j hj => ?_⟩
  rw [hr] at hj
  obtain rfl := List.mem_singleton.1 hj
  unfold wpOp
  rw [hi]
  simp only [hwn, if_true]
  exact .inl (h _ (Lib.hid fun a' w' h1 h2 => ⟨h1, h2⟩))
end
theorem wf_rng {x : Int} (hx : (Lit.int .i64 x).wf = true) : -9223372036854775808 ≤ x ∧ x ≤ 9223372036854775807 := by
  have m1 : IntKind.i64.min = -9223372036854775808 := rfl
  have m2 : IntKind.i64.max = 9223372036854775807 := rfl
  simp only [Lit.wf, Bool.and_eq_true, decide_eq_true_eq] at hx
  omega
theorem pair_any (m : Int) : ∃ (k n r : Int) (q : Fo) (e : Int), q.count ≤ 549755813888 ∧
    (∀ (w : World) (f p r0 : Nat) (es : List ((Int × Bool) × Value × Nat)) (clock : Nat), FE w f p r0 es clock → Calls Tryz.prog 40 #[.pointer (some ⟨f, 0, none⟩), .int .i64 m] w fun z w' => ∃ B c, z = .returned (.tuple #[plV k n r B q.len c, .int .i64 e]) ∧ Kids w' B 0 q ∧ OnlyB r0 w w') ∧
    (∀ w : World, Calls Tryz.prog 41 #[.int .i64 m] w fun z w' => ∃ B c, z = .returned (.tuple #[plV k n r B q.len c, .int .i64 e]) ∧ Kids w' B 0 q ∧ Below w.heap.size w w') := by
  by_cases hm : 1 ≤ m ∧ m ≤ 16384
  · obtain ⟨N, rfl⟩ : ∃ N : Nat, m = N := ⟨m.toNat, by omega⟩
    have h1 : 1 ≤ N := by omega
    have hN : N ≤ 16384 := by omega
    refine ⟨(bestV N false).k, (bestV N false).n, (bestV N false).r, (bestV N false).q, 0, ?_, fun w f p r0 es clock hf => ?_, fun w => ?_⟩
    · have h := bestV_count _ N false rfl h1 (by omega)
      unfold capN at h
      rw [if_neg (by decide)] at h
      omega
    · refine (FPlan_any N h1 hN w f p r0 es clock hf).mono ?_
      rintro z w' ⟨B, c, es', clock', rfl, hk, -, ho⟩
      exact ⟨B, c, rfl, hk.kids, ho⟩
    · refine (RPlan_any N h1 hN w).mono ?_
      rintro z w' ⟨B, c, rfl, hk, hb⟩
      exact ⟨B, c, rfl, hk.kids, hb⟩
  · refine ⟨0, 0, 0, .nil, 3, by decide, fun w f p r0 es clock hf => ?_, fun w => ?_⟩
    · refine (FPlan_bad m (by omega) w f).mono ?_
      rintro z w' ⟨rfl, hb⟩
      exact ⟨none, 0, rfl, trivial, OnlyB.of_below hb⟩
    · refine (RPlan_bad m (by omega) w).mono ?_
      rintro z w' ⟨rfl, hb⟩
      exact ⟨none, 0, rfl, trivial, hb⟩
set_option maxRecDepth 100000 in
set_option maxHeartbeats 4000000 in
theorem Plans_any (n : Int) (b0 : -9223372036854775808 ≤ n) (b1 : n ≤ 9223372036854775807) (w : World) :
    Calls Tryz.prog 8 #[.int .i64 n] w fun z w' => z = .returned (.bool true) ∧ Below w.heap.size w w' := by
  have HN := Lib.hid FNew_any
  have HW := Lib.hid wakes23_any
  have HWL : Hid (∀ (m1 : Int) (W1 : World), W1 = w.alloc (.cells #[.int .i64 n, .int .i64 m1] 3) → Below w.heap.size w W1 ∧ IntsAt W1 (some ⟨w.heap.size, 0, none⟩) 2 (fun i => if i = 0 then n else m1)) := Lib.hid (by
    rintro m1 W1 rfl
    refine ⟨(Below.refl _ w).alloc (Nat.le_refl _) _, fun i hi => ?_⟩
    rcases i with _ | _ | i
    · exact ⟨_, _, rfl, by simp [go_sem]⟩
    · exact ⟨_, _, rfl, by simp [go_sem]⟩
    · omega)
  go_enter Tryz.func8, Tryz.ntmps8
  go_upto_region 2 with fail
  case' inl => obtain ⟨m1, hm1⟩ : ∃ m1 : Int, m1 = 1 + n % 16384 := ⟨_, rfl⟩
  case' inr => obtain ⟨m1, hm1⟩ : ∃ m1 : Int, m1 = 1 := ⟨_, rfl⟩
  all_goals
    obtain ⟨W1, hW1⟩ : ∃ W1, W1 = w.alloc (.cells #[.int .i64 n, .int .i64 m1] 3) := ⟨_, rfl⟩
    obtain ⟨hb1, hi1⟩ := HWL.out m1 W1 hW1
    have HB1 := Lib.hid hb1
    have HI1 := Lib.hid hi1
    have HS1 : Hid (w.heap.size < W1.heap.size) := Lib.hid (by rw [hW1]; simp)
    rw [hm1] at hW1
    rw [← hW1]
    clear hb1 hi1 hW1 hm1 HWL
    go_wp2_with fail
    go_loopw [16] (fun vi wr => ∃ k : Nat, k ≤ 2 ∧ vi = .int .i64 k ∧ Hid (Below W1.heap.size W1 wr)) (fun vi _ => 2 - (intOf vi).toNat)
    case atStart => exact ⟨0, by omega, rfl, Lib.hid (Below.refl _ _)⟩
    case round =>
      obtain ⟨k, hk, rfl, hb⟩ := hrel
      by_cases hlt : k < 2
      · have hki : (k : Int) < 2 := by omega
        obtain ⟨b, o, e, hc⟩ := (HI1.out.keep hb.out) k hlt
        obtain rfl : b = w.heap.size := by cases e; rfl
        obtain rfl : o = 0 := by cases e; rfl
        clear e
        dsimp only at hc
        rw [Nat.zero_add] at hc
        obtain ⟨mk, hmk⟩ : ∃ mk : Int, (if k = 0 then n else m1) = mk := ⟨_, rfl⟩
        rw [hmk] at hc
        clear hmk
        obtain ⟨k', n', r', q, e, hq, HP, HR⟩ := pair_any mk
        have HP := Lib.hid HP
        have HR := Lib.hid HR
        have HQ := Lib.hid hq
        clear hq
        go_wp2_with fail
        refine (HN.out wr).mono ?_
        rintro z w1 ⟨f, p, r, rfl, hf, hr, hb1⟩
        have HPC := Lib.hid (HP.out w1 f p r [] 0 hf)
        have HBR := Lib.hid (And.intro hb1 hr)
        clear hf hr hb1 HP
        go_wp2_with fail
        refine HPC.out.mono ?_
        rintro z w2 ⟨B, c, rfl, hk2, ho⟩
        obtain ⟨W3, hW3⟩ : ∃ W3, W3 = w2.alloc (.cells #[.int .i64 k', .int .i64 n', .int .i64 r', .slice B q.len c] 27) := ⟨_, rfl⟩
        have hb3 : Below w2.heap.size w2 W3 := by rw [hW3]; exact (Below.refl _ w2).alloc (Nat.le_refl _) _
        have hx3 : PlBox W3 w2.heap.size k' n' r' B q.len c := by rw [hW3]; exact PlBox.new w2 _ _ _ _ _ _ _
        have hB2 := ho.below HBR.out.2 HBR.out.1.size
        obtain ⟨pb, hpb⟩ : ∃ pb, pb = w2.heap.size := ⟨_, rfl⟩
        rw [← hpb] at hx3
        have HX3 := Lib.hid hx3
        have HK3 := Lib.hid (hk2.below hb3)
        have HB3 := Lib.hid ((HBR.out.1.trans hB2).trans (hb3.mono (by have := hB2.size; have := HBR.out.1.size; omega)))
        go_upto_region 5 with fail
        rw [← hpb, ← hW3]
        clear hk2 ho hb3 hx3 hB2 hpb hW3 HPC HBR
        go_wp2_with fail
        refine (HR.out W3).mono ?_
        rintro z w4 ⟨B', c', rfl, hk4, hb4⟩
        obtain ⟨W5, hW5⟩ : ∃ W5, W5 = w4.alloc (.cells #[.int .i64 k', .int .i64 n', .int .i64 r', .slice B' q.len c'] 30) := ⟨_, rfl⟩
        have hb5 : Below w4.heap.size w4 W5 := by rw [hW5]; exact (Below.refl _ w4).alloc (Nat.le_refl _) _
        have hx5 : PlBox W5 w4.heap.size k' n' r' B' q.len c' := by rw [hW5]; exact PlBox.new w4 _ _ _ _ _ _ _
        obtain ⟨qb, hqb⟩ : ∃ qb, qb = w4.heap.size := ⟨_, rfl⟩
        rw [← hqb] at hx5
        have hb35 := hb4.trans (hb5.mono hb4.size)
        have HX5 := Lib.hid (And.intro (HX3.out.below hb35) hx5)
        have HK5 := Lib.hid (And.intro (HK3.out.below hb35) (hk4.below hb5))
        have HB5 := Lib.hid (HB3.out.trans (hb35.mono HB3.out.size))
        go_upto_region 6 with fail
        rw [← hqb, ← hW5]
        clear hk4 hb4 hb5 hx5 hqb hW5 hb35 HX3 HK3 HB3 HR hc
        have HB5' : Hid (Below wr.heap.size wr W5) := HB5
        have HPR := Lib.hid (fun w A c hk => (planRef_all23 (.cons k' n' r' q .nil)).1 HQ.out w A c hk)
        have HEQ := Lib.hid (fun w A A2 c c2 hk hk2 => (equal_all (.cons k' n' r' q .nil)).1 HQ.out w A A2 c c2 hk hk2)
        obtain ⟨⟨b0, b1x, b2, b3⟩, c0, c1, c2, c3⟩ := HX5.out
        refine wp_region_S (fun w' => w'.cell? ⟨pb, 0, none⟩ = some (.int .i64 k') ∧ w'.cell? ⟨pb, 1, none⟩ = some (.int .i64 n') ∧ w'.cell? ⟨pb, 2, none⟩ = some (.int .i64 r') ∧ w'.cell? ⟨pb, 3, none⟩ = some (.slice B q.len c) ∧ w'.cell? ⟨qb, 0, none⟩ = some (.int .i64 k') ∧ w'.cell? ⟨qb, 1, none⟩ = some (.int .i64 n') ∧ w'.cell? ⟨qb, 2, none⟩ = some (.int .i64 r') ∧ w'.cell? ⟨qb, 3, none⟩ = some (.slice B' q.len c') ∧ Hid (Below W5.heap.size W5 w')) 7 (by kernel_rfl) ?_
        have hS0 := (⟨b0, b1x, b2, b3, c0, c1, c2, c3, Lib.hid ((Below.refl _ W5).drew)⟩ : W5.drew.cell? ⟨pb, 0, none⟩ = some (.int .i64 k') ∧ W5.drew.cell? ⟨pb, 1, none⟩ = some (.int .i64 n') ∧ W5.drew.cell? ⟨pb, 2, none⟩ = some (.int .i64 r') ∧ W5.drew.cell? ⟨pb, 3, none⟩ = some (.slice B q.len c) ∧ W5.drew.cell? ⟨qb, 0, none⟩ = some (.int .i64 k') ∧ W5.drew.cell? ⟨qb, 1, none⟩ = some (.int .i64 n') ∧ W5.drew.cell? ⟨qb, 2, none⟩ = some (.int .i64 r') ∧ W5.drew.cell? ⟨qb, 3, none⟩ = some (.slice B' q.len c') ∧ Hid (Below W5.heap.size W5 W5.drew))
        refine Takes.intro [0,1,2,3,4,6] ?_
        repeat (first | (refine Takes.step (v := ?_) (by kernel_rfl) rfl (fun _ _ _ h => h) rfl hS0 (fun w hSw => by (try dsimp only at hSw); go_simp; try with_reducible rfl) ?_; try simp only [List.getElem_toArray, List.getElem_cons_zero, List.getElem_cons_succ, Act.put, List.setIfInBounds_toArray, List.set_cons_zero, List.set_cons_succ]) | (refine Takes.stepG (v := ?_) (by kernel_rfl) rfl (fun _ _ _ h => h) rfl hS0 (fun w hSw => by (try dsimp only at hSw); go_simp; try with_reducible rfl) ?_; try simp only [List.getElem_toArray, List.getElem_cons_zero, List.getElem_cons_succ, Act.put, List.setIfInBounds_toArray, List.set_cons_zero, List.set_cons_succ]) | (refine Takes.skip (by kernel_rfl) rfl (fun _ _ _ h => h) rfl hS0 ?_; try simp only [List.getElem_toArray, List.getElem_cons_zero, List.getElem_cons_succ, Act.put, List.setIfInBounds_toArray, List.set_cons_zero, List.set_cons_succ]))
        refine Takes.nil ?_
        refine wpAnyS_oneG (i := 5) (by kernel_rfl) rfl rfl (fun K hK => ?_)
        go_simp
        refine (HPR.out _ B c (HK5.out.1.below hS0.2.2.2.2.2.2.2.2.out)).mono ?_
        rintro z w6 ⟨B6, c6, rfl, hk6, hb6⟩
        have HO := Lib.hid (hS0.2.2.2.2.2.2.2.2.out.trans (hb6.mono hS0.2.2.2.2.2.2.2.2.out.size))
        have HK6 := Lib.hid hk6.kids
        have hS1 : w6.cell? ⟨pb, 0, none⟩ = some (.int .i64 k') ∧ w6.cell? ⟨pb, 1, none⟩ = some (.int .i64 n') ∧ w6.cell? ⟨pb, 2, none⟩ = some (.int .i64 r') ∧ w6.cell? ⟨pb, 3, none⟩ = some (.slice B q.len c) ∧ w6.cell? ⟨qb, 0, none⟩ = some (.int .i64 k') ∧ w6.cell? ⟨qb, 1, none⟩ = some (.int .i64 n') ∧ w6.cell? ⟨qb, 2, none⟩ = some (.int .i64 r') ∧ w6.cell? ⟨qb, 3, none⟩ = some (.slice B' q.len c') ∧ Hid (Below W5.heap.size W5 w6) := ⟨keep_cell HO.out b0, keep_cell HO.out b1x, keep_cell HO.out b2, keep_cell HO.out b3, keep_cell HO.out c0, keep_cell HO.out c1, keep_cell HO.out c2, keep_cell HO.out c3, HO⟩
        clear hk6 hb6 HO hS0
        refine hK.out _ _ (fun _ => hS1) ?_
        clear hK K
        try simp only [List.getElem_toArray, List.getElem_cons_zero, List.getElem_cons_succ, Act.put, List.setIfInBounds_toArray, List.set_cons_zero, List.set_cons_succ]
        refine wpAnyS_end 3 7 (by kernel_rfl) (by decide) rfl ?_
        simp only [List.toList_toArray, List.drop_succ_cons, List.drop_zero]
        go_wp2_with fail
        refine (HEQ.out _ B6 B' c6 c' HK6.out (HK5.out.2.below hS1.2.2.2.2.2.2.2.2.out)).mono ?_
        rintro z w7 ⟨rfl, hb7⟩
        have HO := Lib.hid (hS1.2.2.2.2.2.2.2.2.out.trans (hb7.mono hS1.2.2.2.2.2.2.2.2.out.size))
        clear hb7 hS1
        have HBW := Lib.hid (hb.out.trans ((HB5'.out.trans (HO.out.mono HB5'.out.size)).mono hb.out.size))
        clear b0 b1x b2 b3 c0 c1 c2 c3 HX5 HK5 hb
        go_wp2
        exact ⟨⟨k + 1, by omega, by go_num, HBW⟩, by simp [intOf]; omega⟩
      · obtain rfl : k = 2 := by omega
        have HBW := Lib.hid (HB1.out.trans (hb.out.mono HB1.out.size))
        clear hb
        go_wp2_with fail
        refine (HW.out wr).mono ?_
        rintro z w9 ⟨rfl, hb9⟩
        have HB9 := Lib.hid (HBW.out.trans (hb9.mono HBW.out.size))
        clear hb9
        go_wp2
        go_ret
        exact ⟨rfl, HB9.out⟩
end Go.Proofs.YtmgfaeineklccaaGreat
