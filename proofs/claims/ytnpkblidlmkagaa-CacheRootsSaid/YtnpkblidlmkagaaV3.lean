/- The contracts of near, plain, quarter. -/
import Derived.Test.YtnpkblidlmkagaaV2
import Derived.Test.YtnpkblidlmkagaaV1
import Derived.Test.YtnpkblidlmkagaaW20
set_option linter.unusedSimpArgs false
set_option linter.unusedVariables false
namespace Go.Proofs.Ytnpkblidlmkagaa
open Go.RowKit Fl

def serTo (sq : Nat × Nat) (f : Int) : Nat → Option ((Nat × Nat) × (Nat × Nat))
  | 0 => some ((oneW, 0), (oneW, 0))
  | k + 1 => (serTo sq f k).bind (serStep sq (f + 1 + 2 * k))

def serO (x : Nat × Nat) (f : Int) (R : Nat) : Option (Nat × Nat) := (mulF x x).bind fun p => (serTo (negP p) f R).bind fun t => some t.2

theorem serTo_all {sq : Nat × Nat} {f : Int} {R : Nat} {t : (Nat × Nat) × (Nat × Nat)} (h : serTo sq f R = some t) : ∀ k, k ≤ R → ∃ u, serTo sq f k = some u := by
  intro k hk
  induction R generalizing t with
  | zero => obtain rfl : k = 0 := by omega
            exact ⟨t, h⟩
  | succ R ih =>
    rcases (show k = R + 1 ∨ k ≤ R by omega) with rfl | hk
    · exact ⟨t, h⟩
    · simp only [serTo, Option.bind_eq_some_iff] at h
      obtain ⟨u, h1, h2⟩ := h
      exact ih h1 hk

theorem ser_any (x y c d : Nat) (f : Int) (R : Nat) (w : World) (hR : (f = 0 ∧ R = 15) ∨ (f = 1 ∧ R = 14)) (h : serO (x, y) f R = some (c, d)) :
    Calls Try.prog 99 #[num x y, .int .i64 f] w fun z w' => z = .returned (num c d) ∧ Below w.heap.size w w' := by
  simp only [serO, Option.bind_eq_some_iff, Option.some.injEq] at h
  obtain ⟨⟨p, q⟩, h1, t, h2, h3⟩ := h
  have hall := serTo_all h2
  have hT : ∀ k, k ≤ R → serTo (negP (p, q)) f k = some ((serTo (negP (p, q)) f k).getD default) := fun k hk => by
    obtain ⟨u, hu⟩ := hall k hk
    rw [hu]; rfl
  have := series_any x y p q f R (fun k => (serTo (negP (p, q)) f k).getD default) w hR h1 rfl (fun k hk => by
    have a := hT k (by omega)
    have b := hT (k + 1) (by omega)
    rw [← b]
    show _ = (serTo (negP (p, q)) f k).bind _
    rw [a]; rfl)
  have e : (serTo (negP (p, q)) f R).getD default = t := by rw [h2]; rfl
  simp only [e, h3] at this
  exact this

theorem quarter_any (w : World) : Calls Try.prog 98 #[] w fun z w' => z = .returned (num 4605249457297304856 4359948597267291143) ∧ Below w.heap.size w w' := by
  go_enter Try.func98, Try.ntmps98
  go_wp2
  refine bodyPost_ret (v := num 4605249457297304856 4359948597267291143) (by simp [results, Try.results98, go_sem]) rfl ⟨rfl, ?_⟩
  exact (Below.refl _ _).alloc (Nat.le_refl _) _

/-- A nought without a sign. -/
def plainF (a : Nat × Nat) : Nat × Nat := if iv a.1 = 0 then (0, 0) else a

theorem plain_any (x y : Nat) (w : World) (fx : Fnt x) : Calls Try.prog 83 #[num x y] w fun z w' => z = .returned (num (plainF (x, y)).1 (plainF (x, y)).2) ∧ Below w.heap.size w w' := by
  have hz := order_spec fx (show Fnt 0 by decide)
  rw [iv_zero] at hz
  unfold plainF
  by_cases h : iv x = 0
  · have h1 : (FloatKind.f64.format.order x 0 == some Ordering.eq) = true := by
      show (D.order x 0 == some .eq) = true
      rw [hz, h]; rfl
    rw [if_pos h]
    clear hz h
    go_enter Try.func83, Try.ntmps83
    go_wp2
    refine bodyPost_ret (v := num 0 0) (by simp [results, Try.results83, go_sem]) rfl ⟨rfl, ?_⟩
    exact ((Below.refl _ _).alloc (Nat.le_refl _) _).alloc (by simp) _
  · have h1 : (FloatKind.f64.format.order x 0 == some Ordering.eq) = false := by
      show (D.order x 0 == some .eq) = false
      rw [hz]
      rcases Int.lt_trichotomy (iv x) 0 with g | g | g
      · rw [show compare (iv x) 0 = .lt from Int.compare_eq_lt.2 g]; rfl
      · exact absurd g h
      · rw [show compare (iv x) 0 = .gt from Int.compare_eq_gt.2 g]; rfl
    rw [if_neg h]
    clear hz h
    go_enter Try.func83, Try.ntmps83
    go_wp2
    refine bodyPost_ret (v := num x y) (by simp [results, Try.results83, go_sem]) rfl ⟨rfl, ?_⟩
    exact ((Below.refl _ _).alloc (Nat.le_refl _) _).alloc (by simp) _

end Go.Proofs.Ytnpkblidlmkagaa
