/- Sizes and places of shapes: plain. -/
import Derived.Test.YtbobmhobaaeohaaMW1
import Derived.Test.YtbobmhobaaeohaaZ3
import Derived.Deep.QuietTactic
import Derived.BigQuiet
set_option linter.unusedSimpArgs false
set_option linter.unusedVariables false
namespace Go.Proofs.Ytbobmhobaaeohaa

/-- The product of the first numbers. -/
def preP (f : Nat → Int) : Nat → Int
  | 0 => 1
  | k + 1 => preP f k * f k
def okT (f : Nat → Int) : Nat → Bool
  | 0 => true
  | k + 1 => okT f k && (decide (1 ≤ f k) && decide (preP f (k + 1) ≤ 16384))
/-- May there be a shape? -/
def sizeB (f : Nat → Int) (l : Nat) : Bool := (decide (1 ≤ l) && decide (l ≤ 8)) && okT f l
def sizeV (f : Nat → Int) (l : Nat) : Int := if sizeB f l = true then preP f l else 0
theorem okT_bd {f : Nat → Int} : ∀ {k : Nat}, okT f k = true → 1 ≤ preP f k ∧ preP f k ≤ 16384
  | 0, _ => ⟨by show (1 : Int) ≤ 1; decide, by show (1 : Int) ≤ 16384; decide⟩
  | k + 1, h => by
    unfold okT at h
    simp only [Bool.and_eq_true, decide_eq_true_eq] at h
    have := okT_bd h.1
    refine ⟨?_, h.2.2⟩
    show 1 ≤ preP f k * f k
    have : 1 * 1 ≤ preP f k * f k := Int.mul_le_mul this.1 h.2.1 (by omega) (by omega)
    omega
theorem okT_le {f : Nat → Int} {k l : Nat} (h : okT f l = true) (hk : k ≤ l) : okT f k = true := by
  induction l with
  | zero => obtain rfl : k = 0 := by omega
            exact h
  | succ l ih =>
    by_cases e : k = l + 1
    · subst e; exact h
    · unfold okT at h
      simp only [Bool.and_eq_true] at h
      exact ih h.1 (by omega)
theorem okT_at {f : Nat → Int} {k l : Nat} (h : okT f l = true) (hk : k < l) : 1 ≤ f k := by
  have := okT_le h (show k + 1 ≤ l by omega)
  unfold okT at this
  simp only [Bool.and_eq_true, decide_eq_true_eq] at this
  exact this.2.1
theorem okT_next {f : Nat → Int} {k : Nat} (h : okT f k = true) (h1 : 1 ≤ f k) (h2 : preP f k * f k ≤ 16384) : okT f (k + 1) = true := by
  unfold okT
  simp only [Bool.and_eq_true, decide_eq_true_eq]
  exact ⟨h, h1, h2⟩
theorem okT_not {f : Nat → Int} {k l : Nat} (hk : k < l) (h : ¬ (1 ≤ f k ∧ preP f k * f k ≤ 16384)) : okT f l = false := by
  cases e : okT f l
  · rfl
  · have := okT_le e (show k + 1 ≤ l by omega)
    unfold okT at this
    simp only [Bool.and_eq_true, decide_eq_true_eq] at this
    exact absurd this.2 h
/-- The step of the program's test: d at most the quotient. -/
theorem quo_test {a d : Int} (a1 : 1 ≤ a) : (16384 / a < d) ↔ ¬ (a * d ≤ 16384) := by
  have h := Int.le_ediv_iff_mul_le (a := d) (b := 16384) (c := a) (by omega)
  rw [Int.mul_comm] at h
  omega
theorem quo_bd {a : Int} (a1 : 1 ≤ a) : 0 ≤ 16384 / a ∧ 16384 / a ≤ 16384 := ⟨Int.ediv_nonneg (by omega) (by omega), Int.ediv_le_self _ (by omega)⟩

/-- A place: digit by digit from the front. -/
def hor2 (f g : Nat → Int) : Nat → Int
  | 0 => 0
  | k + 1 => hor2 f g k * f k + g k
def inT (f g : Nat → Int) : Nat → Bool
  | 0 => true
  | k + 1 => inT f g k && (decide (0 ≤ g k) && decide (g k < f k))
theorem inT_le {f g : Nat → Int} {k l : Nat} (h : inT f g l = true) (hk : k ≤ l) : inT f g k = true := by
  induction l with
  | zero => obtain rfl : k = 0 := by omega
            exact h
  | succ l ih =>
    by_cases e : k = l + 1
    · subst e; exact h
    · unfold inT at h
      simp only [Bool.and_eq_true] at h
      exact ih h.1 (by omega)
theorem inT_next {f g : Nat → Int} {k : Nat} (h : inT f g k = true) (h1 : 0 ≤ g k) (h2 : g k < f k) : inT f g (k + 1) = true := by
  unfold inT
  simp only [Bool.and_eq_true, decide_eq_true_eq]
  exact ⟨h, h1, h2⟩
theorem inT_not {f g : Nat → Int} {k l : Nat} (hk : k < l) (h : ¬ (0 ≤ g k ∧ g k < f k)) : inT f g l = false := by
  cases e : inT f g l
  · rfl
  · have := inT_le e (show k + 1 ≤ l by omega)
    unfold inT at this
    simp only [Bool.and_eq_true, decide_eq_true_eq] at this
    exact absurd this.2 h
theorem inT_all {f g : Nat → Int} {l : Nat} (h : ∀ k, k < l → 0 ≤ g k ∧ g k < f k) : inT f g l = true := by
  induction l with
  | zero => rfl
  | succ l ih => exact inT_next (ih fun k hk => h k (by omega)) (h l (by omega)).1 (h l (by omega)).2
theorem hor_bd {f g : Nat → Int} {l : Nat} (hf : okT f l = true) : ∀ k, k ≤ l → inT f g k = true → 0 ≤ hor2 f g k ∧ hor2 f g k < preP f k
  | 0, _, _ => ⟨by show (0 : Int) ≤ 0; decide, by show (0 : Int) < 1; decide⟩
  | k + 1, hk, hg => by
    have h1 := hor_bd hf k (by omega) (inT_le hg (by omega))
    unfold inT at hg
    simp only [Bool.and_eq_true, decide_eq_true_eq] at hg
    have h2 := okT_at hf (show k < l by omega)
    have h3 : 0 ≤ hor2 f g k * f k := Int.mul_nonneg h1.1 (by omega)
    have h4 : (hor2 f g k + 1) * f k ≤ preP f k * f k := Int.mul_le_mul_of_nonneg_right (by omega) (by omega)
    rw [Int.add_mul, Int.one_mul] at h4
    have h5 := hg.2
    exact ⟨by show 0 ≤ hor2 f g k * f k + g k; omega, by show hor2 f g k * f k + g k < preP f k * f k; omega⟩
/-- From the back: the product of the last numbers, the sum. -/
def sufP (f : Nat → Int) (l : Nat) : Nat → Int
  | 0 => 1
  | m + 1 => sufP f l m * f (l - 1 - m)
def sufS (f g : Nat → Int) (l : Nat) : Nat → Int
  | 0 => 0
  | m + 1 => sufS f g l m + sufP f l m * g (l - 1 - m)
theorem suf_pre (f : Nat → Int) (l : Nat) : ∀ m, m ≤ l → preP f (l - m) * sufP f l m = preP f l
  | 0, _ => by show preP f l * 1 = _; omega
  | m + 1, h => by
    have ih := suf_pre f l m (by omega)
    rw [show l - m = (l - (m + 1)) + 1 from by omega] at ih
    show preP f (l - (m + 1)) * (sufP f l m * f (l - 1 - m)) = _
    rw [show l - 1 - m = l - (m + 1) from by omega, ← ih]
    show _ = preP f (l - (m + 1)) * f (l - (m + 1)) * sufP f l m
    rw [Int.mul_assoc, Int.mul_comm (f _)]
theorem suf_hor (f g : Nat → Int) (l : Nat) : ∀ m, m ≤ l → hor2 f g (l - m) * sufP f l m + sufS f g l m = hor2 f g l
  | 0, _ => by show hor2 f g l * 1 + 0 = _; omega
  | m + 1, h => by
    have ih := suf_hor f g l m (by omega)
    rw [show l - m = (l - (m + 1)) + 1 from by omega] at ih
    show hor2 f g (l - (m + 1)) * (sufP f l m * f (l - 1 - m)) + (sufS f g l m + sufP f l m * g (l - 1 - m)) = _
    rw [show l - 1 - m = l - (m + 1) from by omega, ← ih]
    show _ = (hor2 f g (l - (m + 1)) * f (l - (m + 1)) + g (l - (m + 1))) * sufP f l m + sufS f g l m
    rw [Int.add_mul, Int.mul_assoc, Int.mul_comm (f _), Int.mul_comm (g _)]
    omega
theorem suf_bd {f : Nat → Int} {l : Nat} (hf : okT f l = true) (m : Nat) (hm : m ≤ l) : 1 ≤ sufP f l m ∧ sufP f l m ≤ 16384 := by
  have h1 := suf_pre f l m hm
  have h2 := okT_bd hf
  have h3 := okT_bd (okT_le hf (show l - m ≤ l by omega))
  have h4 : 1 ≤ sufP f l m := by
    clear h1
    induction m with
    | zero => show (1 : Int) ≤ 1; decide
    | succ m ih =>
      have a := ih (by omega) (okT_bd (okT_le hf (by omega)))
      have b := okT_at hf (show l - 1 - m < l by omega)
      show 1 ≤ sufP f l m * f (l - 1 - m)
      have : 1 * 1 ≤ sufP f l m * f (l - 1 - m) := Int.mul_le_mul a b (by omega) (by omega)
      omega
  refine ⟨h4, ?_⟩
  have : 1 * sufP f l m ≤ preP f (l - m) * sufP f l m := Int.mul_le_mul_of_nonneg_right h3.1 (by omega)
  omega
theorem sufS_bd {f g : Nat → Int} {l : Nat} (hf : okT f l = true) : ∀ m, m ≤ l → (∀ i, l - m ≤ i → i < l → 0 ≤ g i ∧ g i < f i) → 0 ≤ sufS f g l m ∧ sufS f g l m < sufP f l m
  | 0, _, _ => ⟨by show (0 : Int) ≤ 0; decide, by show (0 : Int) < 1; decide⟩
  | m + 1, h, hg => by
    have ih := sufS_bd hf m (by omega) (fun i h1 h2 => hg i (by omega) h2)
    have hx := hg (l - 1 - m) (by omega) (by omega)
    have hp := (suf_bd hf m (by omega)).1
    have a : 0 ≤ sufP f l m * g (l - 1 - m) := Int.mul_nonneg (by omega) hx.1
    have b : sufP f l m * (g (l - 1 - m) + 1) ≤ sufP f l m * f (l - 1 - m) := Int.mul_le_mul_of_nonneg_left (by omega) (by omega)
    rw [Int.mul_add, Int.mul_one] at b
    exact ⟨by show 0 ≤ sufS f g l m + sufP f l m * g (l - 1 - m); omega, by show sufS f g l m + sufP f l m * g (l - 1 - m) < sufP f l m * f (l - 1 - m); omega⟩
/-- The place, and its error. -/
def placeE (f g : Nat → Int) (l m : Nat) : Int := if sizeB f l = false then 7 else if m ≠ l then 4 else if inT f g l = false then 2 else 0
def placeV (f g : Nat → Int) (l m : Nat) : Int := if placeE f g l m = 0 then hor2 f g l else 0
end Go.Proofs.Ytbobmhobaaeohaa
/- The contracts of multi.Size, multi.Place and of the document's Size, Place. -/
set_option linter.unusedSimpArgs false
set_option linter.unusedVariables false
namespace Go.Proofs.Ytbobmhobaaeohaa
open Go.RowKit Go.Lib

theorem sizeB_len {f : Nat → Int} {l : Nat} (h : ¬ (1 ≤ l ∧ l ≤ 8)) : sizeB f l = false := by
  unfold sizeB
  cases e : okT f l <;> simp <;> omega
theorem sizeB_of {f : Nat → Int} {l : Nat} (h1 : 1 ≤ l) (h2 : l ≤ 8) : sizeB f l = okT f l := by
  unfold sizeB; simp [h1, h2]
set_option maxRecDepth 100000 in
set_option maxHeartbeats 2000000 in
theorem Size_any (A : Option Addr) (l c : Nat) (f : Nat → Int) (w : World) (hA : IntsAt w A l f) :
    Calls Try.prog 4 #[.slice A l c] w fun z w' => z = .returned (.tuple #[.int .i64 (sizeV f l), .int .i64 (if sizeB f l = true then 0 else 7)]) ∧ w' = w := by
  have HA := Lib.hid hA
  clear hA
  obtain ⟨v, hv⟩ : ∃ v, v = sizeV f l := ⟨_, rfl⟩
  obtain ⟨e, he⟩ : ∃ e : Int, e = if sizeB f l = true then 0 else 7 := ⟨_, rfl⟩
  rw [← hv, ← he]
  have HV := Lib.hid hv
  have HE := Lib.hid he
  clear hv he
  have bad : sizeB f l = false → v = 0 ∧ e = 7 := fun h => ⟨by rw [HV.out]; unfold sizeV; rw [h]; rfl, by rw [HE.out, h]; rfl⟩
  have HBAD := Lib.hid bad
  clear bad
  go_enter Try.func4, Try.ntmps4
  by_cases h1 : 1 ≤ l
  · by_cases h2 : l ≤ 8
    · have hb := sizeB_of (f := f) h1 h2
      have HB := Lib.hid hb
      have g1 : ¬ (l : Int) < 1 := by omega
      have g2 : ¬ (l : Int) > 8 := by omega
      clear hb
      go_wp2
      go_loopw [4, 17] (fun va vi wr => ∃ k : Nat, k ≤ l ∧ vi = .int .i64 k ∧ va = .int .i64 (preP f k) ∧ Hid (okT f k = true) ∧ wr = w) (fun _ vi _ => l - (intOf vi).toNat)
      case atStart => exact ⟨0, by omega, rfl, rfl, Lib.hid rfl, rfl⟩
      case round =>
        obtain ⟨k, hk, rfl, rfl, ho, rfl⟩ := hrel
        by_cases hlt : k < l
        · obtain ⟨b, o, rfl, hc⟩ := HA.out k hlt
          have hki : (k : Int) < l := by omega
          obtain ⟨b1, b2⟩ := okT_bd ho.out
          have HT := Lib.hid (quo_test (d := f k) b1)
          have HN : Hid (preP f (k + 1) = preP f k * f k) := Lib.hid rfl
          obtain ⟨q1, q2⟩ := quo_bd b1
          have HS : Hid (1 ≤ f k → preP f k * f k ≤ 16384 → okT f (k + 1) = true ∧ 1 ≤ preP f k * f k) := Lib.hid (fun x y => by have := okT_next ho.out x y; exact ⟨this, (okT_bd this).1⟩)
          have HF : Hid (¬ (1 ≤ f k ∧ preP f k * f k ≤ 16384) → okT f l = false) := Lib.hid (okT_not hlt)
          generalize preP f k = a at *
          generalize f k = d at *
          generalize hq : 16384 / a = q at *
          have hq' : (16384 : Int).tdiv a = q := by rw [Int.tdiv_eq_ediv_of_nonneg (by omega), hq]
          have ha0 : ¬ a = 0 := by omega
          have hqw : wrap64 q = q := by unfold wrap64; omega
          have hqw2 : IntKind.i64.wrap q = q := by rw [IntKind.wrap_i64]; omega
          by_cases hd1 : d < 1
          · obtain ⟨rfl, rfl⟩ := HBAD.out (by rw [HB.out]; exact HF.out (by omega))
            clear HF HS HT
            go_wp2
            go_ret2
            exact ⟨rfl, rfl⟩
          · by_cases hd2 : q < d
            · obtain ⟨rfl, rfl⟩ := HBAD.out (by rw [HB.out]; exact HF.out (fun h => HT.out.1 hd2 h.2))
              have hd2' : d > q := hd2
              clear HF HS HT
              go_wp2
              go_ret2
              exact ⟨rfl, rfl⟩
            · have hm : a * d ≤ 16384 := by have := HT.out; omega
              obtain ⟨s1, s2⟩ := HS.out (by omega) hm
              have HO := Lib.hid s1
              generalize hm2 : a * d = m at *
              have hmw : wrap64 m = m := by unfold wrap64; omega
              have hmw2 : IntKind.i64.wrap m = m := by rw [IntKind.wrap_i64]; omega
              have hd2' : ¬ d > q := hd2
              clear HF HS HT s1 hq
              go_wp2
              exact ⟨⟨k + 1, by omega, by go_num, by rw [HN.out], HO, by trivial⟩, by simp [intOf]; omega⟩
        · obtain rfl : k = l := by omega
          obtain rfl : v = preP f k := by rw [HV.out]; unfold sizeV; rw [HB.out, ho.out]; rfl
          obtain rfl : e = 0 := by rw [HE.out, HB.out, ho.out]; rfl
          go_wp2
          go_ret2
          exact ⟨rfl, rfl⟩
    · obtain ⟨rfl, rfl⟩ := HBAD.out (sizeB_len (by omega))
      have g1 : ¬ (l : Int) < 1 := by omega
      have g2 : (l : Int) > 8 := by omega
      go_wp2
      go_ret2
      exact ⟨rfl, rfl⟩
  · obtain ⟨rfl, rfl⟩ := HBAD.out (sizeB_len (by omega))
    have g1 : (l : Int) < 1 := by omega
    go_wp2
    go_ret2
    exact ⟨rfl, rfl⟩

set_option maxRecDepth 100000 in
set_option maxHeartbeats 2000000 in
theorem refSize_any (A : Option Addr) (l c : Nat) (f : Nat → Int) (w : World) (hA : IntsAt w A l f) :
    Calls Try.prog 5 #[.slice A l c] w fun z w' => z = .returned (.int .i64 (sizeV f l)) ∧ w' = w := by
  have HA := Lib.hid hA
  clear hA
  obtain ⟨v, hv⟩ : ∃ v, v = sizeV f l := ⟨_, rfl⟩
  rw [← hv]
  have HV := Lib.hid hv
  clear hv
  have HBAD : Hid (sizeB f l = false → v = 0) := Lib.hid (fun h => by rw [HV.out]; unfold sizeV; rw [h]; rfl)
  go_enter Try.func5, Try.ntmps5
  by_cases h1 : 1 ≤ l
  · by_cases h2 : l ≤ 8
    · have hb := sizeB_of (f := f) h1 h2
      have HB := Lib.hid hb
      have g1 : ¬ (l : Int) < 1 := by omega
      have g2 : ¬ (l : Int) > 8 := by omega
      clear hb
      go_wp2
      go_loopw [3, 4] (fun va vi wr => ∃ k : Nat, k ≤ l ∧ vi = .int .i64 k ∧ va = .int .i64 (preP f k) ∧ Hid (okT f k = true) ∧ wr = w) (fun _ vi _ => l - (intOf vi).toNat)
      case atStart => exact ⟨0, by omega, rfl, rfl, Lib.hid rfl, rfl⟩
      case round =>
        obtain ⟨k, hk, rfl, rfl, ho, rfl⟩ := hrel
        by_cases hlt : k < l
        · obtain ⟨b, o, rfl, hc⟩ := HA.out k hlt
          have hki : (k : Int) < l := by omega
          obtain ⟨b1, b2⟩ := okT_bd ho.out
          have HN : Hid (preP f (k + 1) = preP f k * f k) := Lib.hid rfl
          have HS : Hid (1 ≤ f k → preP f k * f k ≤ 16384 → okT f (k + 1) = true ∧ 1 ≤ preP f k * f k) := Lib.hid (fun x y => by have := okT_next ho.out x y; exact ⟨this, (okT_bd this).1⟩)
          have HF : Hid (¬ (1 ≤ f k ∧ preP f k * f k ≤ 16384) → okT f l = false) := Lib.hid (okT_not hlt)
          generalize preP f k = a at *
          generalize f k = d at *
          by_cases hd1 : d < 1
          · obtain rfl := HBAD.out (by rw [HB.out]; exact HF.out (by omega))
            clear HF HS
            go_wp2
            go_ret
            exact ⟨rfl, rfl⟩
          · have hmul : d ≤ a * d := by
              have : 1 * d ≤ a * d := Int.mul_le_mul_of_nonneg_right b1 (by omega)
              omega
            have hmul2 : 16384 < d → 16384 < a * d := fun h => by omega
            by_cases hd2 : 16384 < d
            · obtain rfl := HBAD.out (by rw [HB.out]; exact HF.out (fun h => by have := hmul2 hd2; omega))
              have hd2' : d > 16384 := hd2
              clear HF HS hmul hmul2
              go_wp2
              go_ret
              exact ⟨rfl, rfl⟩
            · have hd2' : ¬ d > 16384 := hd2
              have hup : a * d ≤ 268435456 := by
                have : a * d ≤ 16384 * 16384 := Int.mul_le_mul b2 (by omega) (by omega) (by omega)
                omega
              have hlo : 1 ≤ a * d := by omega
              generalize hm2 : a * d = m at *
              have hmw : wrap64 m = m := by unfold wrap64; omega
              have hmw2 : IntKind.i64.wrap m = m := by rw [IntKind.wrap_i64]; omega
              by_cases hm : m ≤ 16384
              · obtain ⟨s1, s2⟩ := HS.out (by omega) hm
                have HO := Lib.hid s1
                have hm' : ¬ m > 16384 := by omega
                clear HF HS s1 hmul hmul2
                go_wp2
                exact ⟨⟨k + 1, by omega, by go_num, by rw [HN.out], HO, by trivial⟩, by simp [intOf]; omega⟩
              · obtain rfl := HBAD.out (by rw [HB.out]; exact HF.out (fun h => hm h.2))
                have hm' : m > 16384 := by omega
                clear HF HS hmul hmul2
                go_wp2
                go_ret
                exact ⟨rfl, rfl⟩
        · obtain rfl : k = l := by omega
          obtain rfl : v = preP f k := by rw [HV.out]; unfold sizeV; rw [HB.out, ho.out]; rfl
          go_wp2
          go_ret
          exact ⟨rfl, rfl⟩
    · obtain rfl := HBAD.out (sizeB_len (by omega))
      have g1 : ¬ (l : Int) < 1 := by omega
      have g2 : (l : Int) > 8 := by omega
      go_wp2
      go_ret
      exact ⟨rfl, rfl⟩
  · obtain rfl := HBAD.out (sizeB_len (by omega))
    have g1 : (l : Int) < 1 := by omega
    go_wp2
    go_ret
    exact ⟨rfl, rfl⟩
end Go.Proofs.Ytbobmhobaaeohaa
/- The contracts of multi.Place and of the document's Place. -/
set_option linter.unusedSimpArgs false
set_option linter.unusedVariables false
namespace Go.Proofs.Ytbobmhobaaeohaa
open Go.RowKit Go.Lib

set_option maxRecDepth 100000 in
set_option maxHeartbeats 2000000 in
theorem Place_any (A B : Option Addr) (l m c c' : Nat) (f g : Nat → Int) (w : World) (hA : IntsAt w A l f) (hB : IntsAt w B m g) :
    Calls Try.prog 6 #[.slice A l c, .slice B m c'] w fun z w' => z = .returned (.tuple #[.int .i64 (placeV f g l m), .int .i64 (placeE f g l m)]) ∧ w' = w := by
  have HA := Lib.hid hA
  have HB := Lib.hid hB
  obtain ⟨v, hv⟩ : ∃ v, v = placeV f g l m := ⟨_, rfl⟩
  obtain ⟨e, he⟩ : ∃ e : Int, e = placeE f g l m := ⟨_, rfl⟩
  rw [← hv, ← he]
  have HV := Lib.hid hv
  have HE := Lib.hid he
  have HS := Lib.hid (Size_any A l c f w hA)
  clear hv he hA hB
  have bad : ∀ x : Int, x ≠ 0 → placeE f g l m = x → v = 0 ∧ e = x := fun x h h' => ⟨by rw [HV.out]; unfold placeV; rw [if_neg (by rw [h']; exact h)], by rw [HE.out, h']⟩
  have HBAD := Lib.hid bad
  clear bad
  go_enter Try.func6, Try.ntmps6
  by_cases hs : sizeB f l = true
  · rw [hs] at HS
    go_wp2_with fail
    refine HS.out.mono ?_
    rintro z w' ⟨rfl, rfl⟩
    by_cases hm : m = l
    · subst hm
      have hml : (m : Int) = m := rfl
      have ho : okT f m = true := by unfold sizeB at hs; simp only [Bool.and_eq_true] at hs; exact hs.2
      have hl8 : m ≤ 8 := by unfold sizeB at hs; simp only [Bool.and_eq_true, decide_eq_true_eq] at hs; exact hs.1.2
      have HO := Lib.hid ho
      have HSZ := Lib.hid hs
      clear ho hs
      go_wp2
      go_loopw [8, 26] (fun va vi wr => ∃ k : Nat, k ≤ m ∧ vi = .int .i64 k ∧ va = .int .i64 (hor2 f g k) ∧ Hid (inT f g k = true) ∧ wr = w') (fun _ vi _ => m - (intOf vi).toNat)
      case atStart => exact ⟨0, by omega, rfl, rfl, Lib.hid rfl, rfl⟩
      case round =>
        obtain ⟨k, hk, rfl, rfl, hi, rfl⟩ := hrel
        by_cases hlt : k < m
        · obtain ⟨b, o, rfl, hc⟩ := HA.out k hlt
          obtain ⟨b', o', rfl, hc'⟩ := HB.out k hlt
          have hki : (k : Int) < m := by omega
          obtain ⟨b1, b2⟩ := hor_bd HO.out k (by omega) hi.out
          obtain ⟨p1, p2⟩ := okT_bd (okT_le HO.out (show k ≤ m by omega))
          have f1 := okT_at HO.out hlt
          have HN : Hid (hor2 f g (k + 1) = hor2 f g k * f k + g k) := Lib.hid rfl
          have HG : Hid (0 ≤ g k → g k < f k → inT f g (k + 1) = true ∧ 0 ≤ hor2 f g k * f k + g k ∧ hor2 f g k * f k + g k < 16385 ∧ 0 ≤ hor2 f g k * f k ∧ hor2 f g k * f k ≤ 16384) := Lib.hid (fun x y => by
            have h1 := inT_next hi.out x y
            have h2 := hor_bd HO.out (k + 1) (by omega) h1
            have h3 := okT_bd (okT_le HO.out (show k + 1 ≤ m by omega))
            have h4 : 0 ≤ hor2 f g k * f k := Int.mul_nonneg b1 (by omega)
            have h5 : hor2 f g (k + 1) = hor2 f g k * f k + g k := rfl
            exact ⟨h1, by omega, by omega, h4, by omega⟩)
          have HF : Hid (¬ (0 ≤ g k ∧ g k < f k) → placeE f g m m = 2) := Lib.hid (fun h => by unfold placeE; rw [HSZ.out, if_neg (by decide), if_neg (by simp), if_pos (inT_not hlt h)])
          generalize hor2 f g k = a at *
          generalize f k = d at *
          generalize g k = x at *
          by_cases hx1 : x < 0
          · obtain ⟨rfl, rfl⟩ := HBAD.out 2 (by decide) (HF.out (by omega))
            clear HF HG
            go_wp2
            go_ret2
            exact ⟨rfl, rfl⟩
          · by_cases hx2 : d ≤ x
            · obtain ⟨rfl, rfl⟩ := HBAD.out 2 (by decide) (HF.out (by omega))
              have hx2' : x ≥ d := hx2
              clear HF HG
              go_wp2
              go_ret2
              exact ⟨rfl, rfl⟩
            · obtain ⟨s1, s2, s3, s4, s5⟩ := HG.out (by omega) (by omega)
              have HI := Lib.hid s1
              generalize hm2 : a * d = y at *
              have hmw : wrap64 y = y := by unfold wrap64; omega
              have hmw2 : IntKind.i64.wrap y = y := by rw [IntKind.wrap_i64]; omega
              have hmw3 : wrap64 (y + x) = y + x := by unfold wrap64; omega
              have hmw4 : IntKind.i64.wrap (y + x) = y + x := by rw [IntKind.wrap_i64]; omega
              have hx2' : ¬ x ≥ d := by omega
              have hx0 : ¬ x < 0 := hx1
              clear HF HG s1
              go_wp2
              exact ⟨⟨k + 1, by omega, by go_num, by rw [HN.out], HI, by trivial⟩, by simp [intOf]; omega⟩
        · obtain rfl : k = m := by omega
          have h0 : placeE f g k k = 0 := by unfold placeE; rw [HSZ.out, if_neg (by decide), if_neg (by simp), hi.out, if_neg (by decide)]
          obtain rfl : v = hor2 f g k := by rw [HV.out]; unfold placeV; rw [if_pos h0]
          obtain rfl : e = 0 := by rw [HE.out, h0]
          clear h0
          go_wp2
          go_ret2
          exact ⟨rfl, rfl⟩
    · obtain ⟨rfl, rfl⟩ := HBAD.out 4 (by decide) (by unfold placeE; rw [hs, if_neg (by decide), if_pos hm])
      have hml : ¬ (m : Int) = l := by omega
      have hml2 : ((m : Int) == l) = false := by simpa using hml
      have hml3 : ((m : Int) != l) = true := by simpa using hml
      go_wp2
      go_ret2
      exact ⟨rfl, rfl⟩
  · have hs' : sizeB f l = false := by simpa using hs
    obtain ⟨rfl, rfl⟩ := HBAD.out 7 (by decide) (by unfold placeE; rw [hs', if_pos rfl])
    rw [hs'] at HS
    go_wp2_with fail
    refine HS.out.mono ?_
    rintro z w' ⟨rfl, rfl⟩
    go_wp2
    go_ret2
    exact ⟨rfl, rfl⟩

set_option maxRecDepth 100000 in
set_option maxHeartbeats 2000000 in
theorem refPlace_any (A B : Option Addr) (l m c c' : Nat) (f g : Nat → Int) (w : World) (hA : IntsAt w A l f) (hB : IntsAt w B m g) :
    Calls Try.prog 7 #[.slice A l c, .slice B m c'] w fun z w' => z = .returned (.tuple #[.int .i64 (placeV f g l m), .int .i64 (placeE f g l m)]) ∧ Below w.heap.size w w' := by
  have HA := Lib.hid hA
  have HB := Lib.hid hB
  obtain ⟨v, hv⟩ : ∃ v, v = placeV f g l m := ⟨_, rfl⟩
  obtain ⟨e, he⟩ : ∃ e : Int, e = placeE f g l m := ⟨_, rfl⟩
  rw [← hv, ← he]
  have HV := Lib.hid hv
  have HE := Lib.hid he
  have HS := Lib.hid (refSize_any A l c f w hA)
  clear hv he hA hB
  have bad : ∀ x : Int, x ≠ 0 → placeE f g l m = x → v = 0 ∧ e = x := fun x h h' => ⟨by rw [HV.out]; unfold placeV; rw [if_neg (by rw [h']; exact h)], by rw [HE.out, h']⟩
  have HBAD := Lib.hid bad
  clear bad
  go_enter Try.func7, Try.ntmps7
  by_cases hs : sizeB f l = true
  · have hsv : Hid (1 ≤ sizeV f l) := Lib.hid (by
      have ho : okT f l = true := by unfold sizeB at hs; simp only [Bool.and_eq_true] at hs; exact hs.2
      unfold sizeV; rw [hs, if_pos rfl]; exact (okT_bd ho).1)
    generalize sizeV f l = sv at *
    have hsv0 : ¬ sv = 0 := by have := hsv.out; omega
    have hsv1 : (sv == 0) = false := by simpa using hsv0
    go_wp2_with fail
    refine HS.out.mono ?_
    rintro z w' ⟨rfl, rfl⟩
    by_cases hm : m = l
    · subst hm
      have hml : (m : Int) = m := rfl
      have ho : okT f m = true := by unfold sizeB at hs; simp only [Bool.and_eq_true] at hs; exact hs.2
      have hl8 : m ≤ 8 := by unfold sizeB at hs; simp only [Bool.and_eq_true, decide_eq_true_eq] at hs; exact hs.1.2
      have HO := Lib.hid ho
      have HSZ := Lib.hid hs
      clear ho hs
      go_wp2
      go_loopw [7, 8, 9] (fun va vb vi wr => ∃ k : Nat, k ≤ m ∧ vi = .int .i64 ((m : Int) - 1 - k) ∧ va = .int .i64 (sufS f g m k) ∧ vb = .int .i64 (sufP f m k) ∧ Hid (∀ i, m - k ≤ i → i < m → 0 ≤ g i ∧ g i < f i) ∧ Hid (Below w'.heap.size w' wr)) (fun _ _ vi _ => (intOf vi + 1).toNat)
      case atStart => exact ⟨0, by omega, by go_num, rfl, rfl, Lib.hid (fun i h1 h2 => absurd h2 (by omega)), Lib.hid (Below.refl _ _)⟩
      case round =>
        obtain ⟨k, hk, rfl, rfl, rfl, hi, hb⟩ := hrel
        by_cases hlt : k < m
        · obtain ⟨j, hj⟩ : ∃ j : Nat, j = m - 1 - k := ⟨_, rfl⟩
          have hjm : j < m := by omega
          obtain ⟨b, o, rfl, hc⟩ := HA.out.keep hb.out j hjm
          obtain ⟨b', o', rfl, hc'⟩ := HB.out.keep hb.out j hjm
          have hji : (m : Int) - 1 - k = (j : Int) := by omega
          have hjl : (j : Int) < m := by omega
          have hj0 : (0 : Int) ≤ j := by omega
          obtain ⟨p1, p2⟩ := suf_bd HO.out k hk
          obtain ⟨s1, s2⟩ := sufS_bd HO.out k hk hi.out
          have hfj := okT_at HO.out hjm
          have HN1 : Hid (sufS f g m (k + 1) = sufS f g m k + sufP f m k * g j) := Lib.hid (by rw [hj]; rfl)
          have HN2 : Hid (sufP f m (k + 1) = sufP f m k * f j) := Lib.hid (by rw [hj]; rfl)
          have HG : Hid (0 ≤ g j → g j < f j → (∀ i, m - (k + 1) ≤ i → i < m → 0 ≤ g i ∧ g i < f i) ∧ 0 ≤ sufP f m k * g j ∧ sufP f m k * g j ≤ 16384 ∧ sufS f g m k + sufP f m k * g j ≤ 16384 ∧ 1 ≤ sufP f m k * f j ∧ sufP f m k * f j ≤ 16384) := Lib.hid (fun x y => by
            have h1 : ∀ i, m - (k + 1) ≤ i → i < m → 0 ≤ g i ∧ g i < f i := fun i a b => by
              by_cases e : i = j
              · subst e; exact ⟨x, y⟩
              · exact hi.out i (by omega) b
            have h2 := sufS_bd HO.out (k + 1) (by omega) h1
            have h3 := suf_bd HO.out (k + 1) (by omega)
            rw [HN1.out, HN2.out] at h2
            rw [HN2.out] at h3
            have h4 : 0 ≤ sufP f m k * g j := Int.mul_nonneg (by omega) x
            exact ⟨h1, h4, by omega, by omega, h3.1, h3.2⟩)
          have HF : Hid (¬ (0 ≤ g j ∧ g j < f j) → placeE f g m m = 2) := Lib.hid (fun h => by unfold placeE; rw [HSZ.out, if_neg (by decide), if_neg (by simp), if_pos (inT_not hjm h)])
          generalize sufP f m k = p at *
          generalize sufS f g m k = q at *
          generalize f j = d at *
          generalize g j = x at *
          rw [hji]
          have HJ := Lib.hid hj
          clear hj
          by_cases hx1 : x < 0
          · obtain ⟨rfl, rfl⟩ := HBAD.out 2 (by decide) (HF.out (by omega))
            clear HF HG
            go_upto_region 11 with (fail)
            refine wp_region_S (fun w' => w'.cell? ⟨b, o + j, none⟩ = some (.int .i64 d) ∧ w'.cell? ⟨b', o' + j, none⟩ = some (.int .i64 x)) 14 (by kernel_rfl) ?_
            have hS0 := (⟨hc, hc'⟩ : wr.drew.cell? ⟨b, o + j, none⟩ = some (.int .i64 d) ∧ wr.drew.cell? ⟨b', o' + j, none⟩ = some (.int .i64 x))
            refine Takes.intro [0,1,2,3,4,5,6,7,8,9,10,11,12,13] ?_
            repeat (first | (refine Takes.step (v := ?_) (by kernel_rfl) rfl (fun _ _ _ h => h) rfl hS0 (fun w hSw => by (try dsimp only at hSw); go_simp; try with_reducible rfl) ?_; try simp only [List.getElem_toArray, List.getElem_cons_zero, List.getElem_cons_succ, Act.put, List.setIfInBounds_toArray, List.set_cons_zero, List.set_cons_succ]) | (refine Takes.stepG (v := ?_) (by kernel_rfl) rfl (fun _ _ _ h => h) rfl hS0 (fun w hSw => by (try dsimp only at hSw); go_simp; try with_reducible rfl) ?_; try simp only [List.getElem_toArray, List.getElem_cons_zero, List.getElem_cons_succ, Act.put, List.setIfInBounds_toArray, List.set_cons_zero, List.set_cons_succ]) | (refine Takes.skip (by kernel_rfl) rfl (fun _ _ _ h => h) rfl hS0 ?_; try simp only [List.getElem_toArray, List.getElem_cons_zero, List.getElem_cons_succ, Act.put, List.setIfInBounds_toArray, List.set_cons_zero, List.set_cons_succ]))
            refine Takes.nil ?_
            refine wpAnyS_end 2 14 (by kernel_rfl) (by decide) rfl ?_
            simp only [List.toList_toArray, List.drop_succ_cons, List.drop_zero]
            go_wp2
            go_ret2
            exact ⟨rfl, hb.out.drew⟩
          · by_cases hx2 : d ≤ x
            · obtain ⟨rfl, rfl⟩ := HBAD.out 2 (by decide) (HF.out (by omega))
              have hx2' : x ≥ d := hx2
              clear HF HG
              go_upto_region 11 with (fail)
              refine wp_region_S (fun w' => w'.cell? ⟨b, o + j, none⟩ = some (.int .i64 d) ∧ w'.cell? ⟨b', o' + j, none⟩ = some (.int .i64 x)) 14 (by kernel_rfl) ?_
              have hS0 := (⟨hc, hc'⟩ : wr.drew.cell? ⟨b, o + j, none⟩ = some (.int .i64 d) ∧ wr.drew.cell? ⟨b', o' + j, none⟩ = some (.int .i64 x))
              refine Takes.intro [0,1,2,3,4,5,6,7,8,9,10,11,12,13] ?_
              repeat (first | (refine Takes.step (v := ?_) (by kernel_rfl) rfl (fun _ _ _ h => h) rfl hS0 (fun w hSw => by (try dsimp only at hSw); go_simp; try with_reducible rfl) ?_; try simp only [List.getElem_toArray, List.getElem_cons_zero, List.getElem_cons_succ, Act.put, List.setIfInBounds_toArray, List.set_cons_zero, List.set_cons_succ]) | (refine Takes.stepG (v := ?_) (by kernel_rfl) rfl (fun _ _ _ h => h) rfl hS0 (fun w hSw => by (try dsimp only at hSw); go_simp; try with_reducible rfl) ?_; try simp only [List.getElem_toArray, List.getElem_cons_zero, List.getElem_cons_succ, Act.put, List.setIfInBounds_toArray, List.set_cons_zero, List.set_cons_succ]) | (refine Takes.skip (by kernel_rfl) rfl (fun _ _ _ h => h) rfl hS0 ?_; try simp only [List.getElem_toArray, List.getElem_cons_zero, List.getElem_cons_succ, Act.put, List.setIfInBounds_toArray, List.set_cons_zero, List.set_cons_succ]))
              refine Takes.nil ?_
              refine wpAnyS_end 2 14 (by kernel_rfl) (by decide) rfl ?_
              simp only [List.toList_toArray, List.drop_succ_cons, List.drop_zero]
              go_wp2
              go_ret2
              exact ⟨rfl, hb.out.drew⟩
            · obtain ⟨t1, t2, t3, t4, t5, t6⟩ := HG.out (by omega) (by omega)
              have HI := Lib.hid t1
              generalize hm2 : p * x = y at *
              generalize hm3 : p * d = y2 at *
              have hmw : wrap64 y = y := by unfold wrap64; omega
              have hmw2 : IntKind.i64.wrap y = y := by rw [IntKind.wrap_i64]; omega
              have hmw3 : wrap64 (q + y) = q + y := by unfold wrap64; omega
              have hmw4 : IntKind.i64.wrap (q + y) = q + y := by rw [IntKind.wrap_i64]; omega
              have hmw5 : wrap64 y2 = y2 := by unfold wrap64; omega
              have hmw6 : IntKind.i64.wrap y2 = y2 := by rw [IntKind.wrap_i64]; omega
              have hx2' : ¬ x ≥ d := by omega
              have hx0 : ¬ x < 0 := hx1
              have hjd : wrap64 ((j : Int) - 1) = (j : Int) - 1 := by unfold wrap64; omega
              clear HF HG t1
              go_upto_region 11 with (fail)
              refine wp_region_S (fun w' => w'.cell? ⟨b, o + j, none⟩ = some (.int .i64 d) ∧ w'.cell? ⟨b', o' + j, none⟩ = some (.int .i64 x)) 14 (by kernel_rfl) ?_
              have hS0 := (⟨hc, hc'⟩ : wr.drew.cell? ⟨b, o + j, none⟩ = some (.int .i64 d) ∧ wr.drew.cell? ⟨b', o' + j, none⟩ = some (.int .i64 x))
              refine Takes.intro [0,1,2,3,4,5,6,7,8,9,10,11,12,13] ?_
              repeat (first | (refine Takes.step (v := ?_) (by kernel_rfl) rfl (fun _ _ _ h => h) rfl hS0 (fun w hSw => by (try dsimp only at hSw); go_simp; try with_reducible rfl) ?_; try simp only [List.getElem_toArray, List.getElem_cons_zero, List.getElem_cons_succ, Act.put, List.setIfInBounds_toArray, List.set_cons_zero, List.set_cons_succ]) | (refine Takes.stepG (v := ?_) (by kernel_rfl) rfl (fun _ _ _ h => h) rfl hS0 (fun w hSw => by (try dsimp only at hSw); go_simp; try with_reducible rfl) ?_; try simp only [List.getElem_toArray, List.getElem_cons_zero, List.getElem_cons_succ, Act.put, List.setIfInBounds_toArray, List.set_cons_zero, List.set_cons_succ]) | (refine Takes.skip (by kernel_rfl) rfl (fun _ _ _ h => h) rfl hS0 ?_; try simp only [List.getElem_toArray, List.getElem_cons_zero, List.getElem_cons_succ, Act.put, List.setIfInBounds_toArray, List.set_cons_zero, List.set_cons_succ]))
              refine Takes.nil ?_
              refine wpAnyS_end 2 14 (by kernel_rfl) (by decide) rfl ?_
              simp only [List.toList_toArray, List.drop_succ_cons, List.drop_zero]
              go_wp2
              exact ⟨⟨k + 1, by omega, by go_num, by rw [HN1.out], by rw [HN2.out], HI, Lib.hid hb.out.drew⟩, by simp [intOf] <;> omega⟩
        · obtain rfl : k = m := by omega
          have hk0 : ¬ (0 : Int) ≤ (k : Int) - 1 - k := by omega
          have hin : inT f g k = true := inT_all fun i h => hi.out i (by omega) h
          have h0 : placeE f g k k = 0 := by unfold placeE; rw [HSZ.out, if_neg (by decide), if_neg (by simp), hin, if_neg (by decide)]
          obtain rfl : v = sufS f g k k := by
            rw [HV.out]; unfold placeV; rw [if_pos h0]
            have := suf_hor f g k k (Nat.le_refl _)
            rw [Nat.sub_self] at this
            have z : hor2 f g 0 = 0 := rfl
            rw [z, Int.zero_mul, Int.zero_add] at this
            exact this.symm
          obtain rfl : e = 0 := by rw [HE.out, h0]
          clear h0
          go_wp2
          go_ret2
          exact ⟨rfl, hb.out⟩
    · obtain ⟨rfl, rfl⟩ := HBAD.out 4 (by decide) (by unfold placeE; rw [hs, if_neg (by decide), if_pos hm])
      have hml : ¬ (m : Int) = l := by omega
      have hml2 : ((m : Int) == l) = false := by simpa using hml
      have hml3 : ((m : Int) != l) = true := by simpa using hml
      go_wp2
      go_ret2
      exact ⟨rfl, Below.refl _ _⟩
  · have hs' : sizeB f l = false := by simpa using hs
    obtain ⟨rfl, rfl⟩ := HBAD.out 7 (by decide) (by unfold placeE; rw [hs', if_pos rfl])
    have hz : sizeV f l = 0 := by unfold sizeV; rw [hs']; rfl
    rw [hz] at HS
    go_wp2_with fail
    refine HS.out.mono ?_
    rintro z w' ⟨rfl, rfl⟩
    go_wp2
    go_ret2
    exact ⟨rfl, Below.refl _ _⟩
end Go.Proofs.Ytbobmhobaaeohaa
