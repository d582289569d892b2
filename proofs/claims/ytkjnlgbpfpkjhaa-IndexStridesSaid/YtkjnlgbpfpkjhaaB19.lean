/- The contracts of strided and of the document's Strided. -/
import Derived.Test.YtkjnlgbpfpkjhaaB3
set_option linter.unusedSimpArgs false
set_option linter.unusedVariables false
namespace Go.Proofs.Ytkjnlgbpfpkjhaa
open Go.RowKit

/-- So many fit. -/
def Fits (n off st cnt : Int) : Prop := cnt = 0 ∨ off + (cnt - 1) * st < n
/-- What is answered. -/
inductive Str (n off st cnt : Int) : Int → Prop
  | arg (h : off < 0 ∨ cnt < 0 ∨ st < 1) : Str n off st cnt 2
  | len (h1 : 0 ≤ off) (h2 : 0 ≤ cnt) (h3 : 1 ≤ st) (h : ¬ Fits n off st cnt) : Str n off st cnt 4
  | ok (h1 : 0 ≤ off) (h2 : 0 ≤ cnt) (h3 : 1 ≤ st) (h : Fits n off st cnt) : Str n off st cnt 0

theorem str_ex (n off st cnt : Int) : ∃ e, Str n off st cnt e := by
  by_cases h : off < 0 ∨ cnt < 0 ∨ st < 1
  · exact ⟨2, .arg h⟩
  · by_cases h2 : Fits n off st cnt
    · exact ⟨0, .ok (by omega) (by omega) (by omega) h2⟩
    · exact ⟨4, .len (by omega) (by omega) (by omega) h2⟩

theorem div_fits {n off st cnt : Int} (h3 : 1 ≤ st) : (n - 1 - off) / st < cnt - 1 ↔ ¬ off + (cnt - 1) * st < n := by
  rw [Int.ediv_lt_iff_lt_mul (by omega)]
  generalize (cnt - 1) * st = m
  omega

set_option maxRecDepth 100000 in
set_option maxHeartbeats 1000000 in
theorem strided_any (n off st cnt e : Int) (w : World) (hn0 : 0 ≤ n) (hn : n ≤ 9223372036854775807) (hs : st ≤ 9223372036854775807) (hcn : cnt ≤ 9223372036854775807) (h : Str n off st cnt e) :
    Calls Try.prog 32 #[.int .i64 n, .int .i64 off, .int .i64 st, .int .i64 cnt] w fun z w' => z = .returned (.int .i64 e) ∧ w = w' := by
  cases h with
  | arg h =>
    by_cases a : off < 0
    · clear h
      go_enter Try.func32, Try.ntmps32
      go_wp2
      go_ret
      exact ⟨rfl, rfl⟩
    · by_cases b : cnt < 0
      · clear h
        go_enter Try.func32, Try.ntmps32
        go_wp2
        go_ret
        exact ⟨rfl, rfl⟩
      · have d : st < 1 := by omega
        clear h
        go_enter Try.func32, Try.ntmps32
        go_wp2
        go_ret
        exact ⟨rfl, rfl⟩
  | len h1 h2 h3 h =>
    have hc : 0 < cnt := by
      apply Decidable.byContradiction
      intro hh
      exact h (.inl (by omega))
    by_cases a : n ≤ off
    · clear h
      go_enter Try.func32, Try.ntmps32
      go_wp2
      go_ret
      exact ⟨rfl, rfl⟩
    · have hd : (n - 1 - off) / st < cnt - 1 := (div_fits h3).2 (fun hh => h (.inr hh))
      have hd1 := Int.ediv_nonneg (show 0 ≤ n - 1 - off by omega) (show 0 ≤ st by omega)
      have hd2 := Int.ediv_le_self st (show 0 ≤ n - 1 - off by omega)
      clear h
      go_enter Try.func32, Try.ntmps32
      go_wp2
      go_ret
      exact ⟨rfl, rfl⟩
  | ok h1 h2 h3 h =>
    by_cases hc : cnt = 0
    · subst hc
      clear h
      go_enter Try.func32, Try.ntmps32
      go_wp2
      go_ret
      exact ⟨rfl, rfl⟩
    · have hf : off + (cnt - 1) * st < n := h.resolve_left hc
      have hm : 0 ≤ (cnt - 1) * st := Int.mul_nonneg (by omega) (by omega)
      have hc1 : 0 < cnt := by omega
      have ho : off < n := by omega
      have hd : ¬ (n - 1 - off) / st < cnt - 1 := fun hh => (div_fits h3).1 hh hf
      have hd1 := Int.ediv_nonneg (show 0 ≤ n - 1 - off by omega) (show 0 ≤ st by omega)
      have hd2 := Int.ediv_le_self st (show 0 ≤ n - 1 - off by omega)
      clear h hc hf hm
      go_enter Try.func32, Try.ntmps32
      go_wp2
      go_ret
      exact ⟨rfl, rfl⟩

set_option maxRecDepth 100000 in
set_option maxHeartbeats 2000000 in
theorem Strided_any (n off st cnt e : Int) (w : World) (hn0 : 0 ≤ n) (hn : n ≤ 9223372036854775807) (ho : off ≤ 9223372036854775807) (hs : st ≤ 9223372036854775807) (hcn : cnt ≤ 9223372036854775807) (h : Str n off st cnt e) :
    Calls Try.prog 23 #[.int .i64 n, .int .i64 off, .int .i64 st, .int .i64 cnt] w fun z w' => z = .returned (.int .i64 e) ∧ w = w' := by
  by_cases harg : off < 0 ∨ cnt < 0 ∨ st < 1
  · obtain rfl : e = 2 := by cases h <;> first | rfl | omega
    clear h
    by_cases a : off < 0
    · clear harg
      go_enter Try.func23, Try.ntmps23
      go_wp2
      go_ret
      exact ⟨rfl, rfl⟩
    · by_cases b : cnt < 0
      · clear harg
        go_enter Try.func23, Try.ntmps23
        go_wp2
        go_ret
        exact ⟨rfl, rfl⟩
      · have d : st < 1 := by omega
        clear harg
        go_enter Try.func23, Try.ntmps23
        go_wp2
        go_ret
        exact ⟨rfl, rfl⟩
  · have h1 : 0 ≤ off := by omega
    have h2 : 0 ≤ cnt := by omega
    have h3 : 1 ≤ st := by omega
    have HY : Hid (Fits n off st cnt → e = 0) := Lib.hid (fun hf => by cases h with | arg hh => exact absurd hh harg | len _ _ _ hh => exact absurd hf hh | ok _ _ _ _ => rfl)
    have HN : Hid (¬ Fits n off st cnt → e = 4) := Lib.hid (fun hf => by cases h with | arg hh => exact absurd hh harg | len _ _ _ hh => rfl | ok _ _ _ hh => exact absurd hh hf)
    clear h harg
    obtain ⟨c, rfl⟩ := Int.eq_ofNat_of_zero_le h2
    go_enter Try.func23, Try.ntmps23
    go_wp2
    go_loop [9, 10] (fun a i => ∃ (k : Nat) (x : Int), k ≤ c ∧ i = .int .i64 k ∧ a = .int .i64 x ∧ 0 ≤ x ∧ x ≤ 9223372036854775807 ∧ Hid (x < n → x = off + k * st) ∧ Hid (n ≤ x → n ≤ off + k * st) ∧ Hid (0 < k → off + ((k : Int) - 1) * st < n)) (fun _ i => c - (intOf i).toNat)
    case atStart => exact ⟨0, off, by omega, rfl, rfl, h1, ho, Lib.hid (fun _ => by simp), Lib.hid (fun h => by simpa using h), Lib.hid (fun h => by omega)⟩
    case round =>
      obtain ⟨k, x, hk, rfl, rfl, hx1, hx2, hlt1, hge1, hpr⟩ := hrel
      have es : ((k : Int) + 1) * st = k * st + st := by rw [Int.add_mul, Int.one_mul]
      have HES := Lib.hid es
      clear es
      by_cases hkc : k < c
      · have hki : (k : Int) < c := by omega
        by_cases hxn : x < n
        · have ex := hlt1.out hxn
          have HX := Lib.hid ex
          clear ex
          have hp2 : Hid (0 < k + 1 → off + (((k + 1 : Nat) : Int) - 1) * st < n) := Lib.hid (fun _ => by
            have e : (((k + 1 : Nat) : Int) - 1) = k := by omega
            rw [e, ← HX.out]; exact hxn)
          have e1 : ((k + 1 : Nat) : Int) = (k : Int) + 1 := by omega
          by_cases hbig : n - x < st
          · have q1 : Hid (n < n → n = off + ((k + 1 : Nat) : Int) * st) := Lib.hid (fun h => by omega)
            have q2 : Hid (n ≤ n → n ≤ off + ((k + 1 : Nat) : Int) * st) := Lib.hid (fun h => by rw [e1, HES.out]; have := HX.out; omega)
            clear e1
            go_wp2
            go_round
            case rel => exact ⟨k + 1, n, by omega, by go_num, rfl, by omega, by omega, q1, q2, hp2⟩
            case measure => simp [intOf]; omega
          · have q1 : Hid (x + st < n → x + st = off + ((k + 1 : Nat) : Int) * st) := Lib.hid (fun h => by rw [e1, HES.out]; have := HX.out; omega)
            have q2 : Hid (n ≤ x + st → n ≤ off + ((k + 1 : Nat) : Int) * st) := Lib.hid (fun h => by rw [e1, HES.out]; have := HX.out; omega)
            clear e1
            go_wp2
            go_round
            case rel => exact ⟨k + 1, x + st, by omega, by go_num, rfl, by omega, by omega, q1, q2, hp2⟩
            case measure => simp [intOf]; omega
        · obtain rfl := HN.out (fun hf => by
            have a := hge1.out (by omega)
            rcases hf with hf | hf
            · omega
            · have : (k : Int) * st ≤ ((c : Int) - 1) * st := Int.mul_le_mul_of_nonneg_right (by omega) (by omega)
              omega)
          go_wp2
          go_ret
          exact ⟨rfl, rfl⟩
      · obtain rfl : k = c := by omega
        obtain rfl := HY.out (by
          by_cases h0 : k = 0
          · subst h0; exact .inl rfl
          · exact .inr (hpr.out (by omega)))
        go_wp2
        go_ret
        exact ⟨rfl, rfl⟩
end Go.Proofs.Ytkjnlgbpfpkjhaa
