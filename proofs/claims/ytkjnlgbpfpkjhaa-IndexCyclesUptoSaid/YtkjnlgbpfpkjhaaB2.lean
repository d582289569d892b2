/- The contract of the document's Product; digits; turned. -/
import Derived.Test.YtkjnlgbpfpkjhaaB1
set_option linter.unusedSimpArgs false
set_option linter.unusedVariables false
namespace Go.Proofs.Ytkjnlgbpfpkjhaa
open Go.RowKit

set_option maxRecDepth 100000 in
theorem Product_any (A : Option Addr) (n c : Nat) (f : Nat → Int) (w : World) (hA : IntsAt w A n f) (hn : n ≤ 9223372036854775807) (r : Int) (h : (prodO f n = none ∧ r = 0) ∨ prodO f n = some r) :
    Calls Try.prog 10 #[.slice A n c] w fun z w' => z = .returned (.int .i64 r) ∧ w = w' := by
  have H := Lib.hid h
  clear h
  by_cases h30 : 30 < n
  · have h0 : prodO f n = none := by unfold prodO; rw [if_pos h30]
    obtain rfl : r = 0 := by
      rcases H.out with ⟨_, h⟩ | h
      · exact h
      · rw [h0] at h; cases h
    clear h0
    go_enter Try.func10, Try.ntmps10
    go_wp2
    go_ret
    exact ⟨rfl, rfl⟩
  · have HA := Lib.hid hA
    have HN : Hid (∀ k, k ≤ n → prodTo f k = none → r = 0) := Lib.hid (by
      intro k hk h
      have h0 : prodO f n = none := by unfold prodO; rw [if_neg h30]; exact prodTo_none_le h hk
      rcases H.out with ⟨_, h⟩ | h
      · exact h
      · rw [h0] at h; cases h)
    have HY : Hid (∀ m, prodTo f n = some m → r = m) := Lib.hid (by
      intro m h
      have h0 : prodO f n = some m := by unfold prodO; rw [if_neg h30]; exact h
      rcases H.out with ⟨h, _⟩ | h
      · rw [h0] at h; cases h
      · rw [h0] at h; cases h; rfl)
    clear hA H
    go_enter Try.func10, Try.ntmps10
    go_wp2
    go_loop [3, 4] (fun a i => ∃ (k : Nat) (m : Int), k ≤ n ∧ 1 ≤ m ∧ m ≤ 1048576 ∧ i = .int .i64 k ∧ a = .int .i64 m ∧ Hid (prodTo f k = some m)) (fun _ i => n - (intOf i).toNat)
    case atStart => exact ⟨0, 1, by omega, by omega, by omega, rfl, rfl, Lib.hid rfl⟩
    case round =>
      obtain ⟨k, m, hk, hm1, hm2, rfl, rfl, hp⟩ := hrel
      by_cases hlt : k < n
      · obtain ⟨b, o, rfl, hc⟩ := HA.out k hlt
        obtain ⟨v, hv⟩ : ∃ v, f k = v := ⟨_, rfl⟩
        have hr := rad_of hp.out hm1 hm2 hv
        rw [hv] at hc
        clear hv
        rcases hr with ⟨h1, h2⟩ | ⟨h1, h2, h3, h4, h5⟩ | ⟨h1, h2, h3, h4, h5, h6⟩
        · obtain rfl := HN.out _ hlt h2
          clear h2
          go_wp2
          go_ret
          exact ⟨rfl, rfl⟩
        · obtain rfl := HN.out _ hlt h5
          clear h5
          by_cases hv2 : v ≤ 1048576
          · have h6 := h4 hv2
            clear h4
            go_wp2
            go_ret
            exact ⟨rfl, rfl⟩
          · clear h4
            go_wp2
            go_ret
            exact ⟨rfl, rfl⟩
        · have H6 := Lib.hid h6
          clear h6
          go_wp2
          go_round
          case rel => exact ⟨k + 1, m * v, by omega, by omega, by omega, by go_num, rfl, H6⟩
          case measure => simp [intOf]; omega
      · obtain rfl : k = n := by omega
        obtain rfl := HY.out _ hp.out
        go_wp2
        go_ret
        exact ⟨rfl, rfl⟩

/-- n noughts. -/
def zs (n : Nat) : Array Value := madeCells #[.int .i64 0] n
theorem info3 : (Try.prog.info? 3).map (fun i => (i.zero, i.size, i.bytes)) = some (some (.int .i64 0), 1, 8) := by kernel_rfl
theorem mk22 (n : Nat) (hn : n ≤ 17592186044416) (w : World) : (Instr.makeSlice 22 (.int .i64 n) (.int .i64 n)).run Try.prog w = .ok (.slice (some ⟨w.heap.size, 0, none⟩) n n) (w.alloc (.cells (zs n) 3)) := by
  obtain ⟨i0, hi, hz0, hz1, hz2⟩ := info_parts info3
  have h := run_make (P := Try.prog) w 22 3 i0 _ Try.underlying22 hi hz0 .i64 .i64 n n (by omega) (by omega) (by rw [hz2]; omega) (by omega)
  rw [hz1] at h
  simpa [zs, Value.cells] using h
theorem zs_row (n : Nat) (w : World) : Row (w.alloc (.cells (zs n) 3)) w.heap.size n (fun _ => 0) := by
  intro i hi
  refine ⟨?_, World.frozen?_alloc_new _ _ _ _⟩
  rw [World.cell?_alloc_new, zs]
  simp [madeCells, hi, Nat.mod_one]

set_option maxRecDepth 100000 in
set_option maxHeartbeats 1000000 in
theorem digits_any (x : Int) (A : Option Addr) (n c : Nat) (f : Nat → Int) (w : World) (hA : IntsAt w A n f) (hn : n ≤ 30) (hf : ∀ i, i < n → 2 ≤ f i ∧ f i ≤ 1048576) (hx : 0 ≤ x) (hx2 : x ≤ 1048576) :
    Calls Try.prog 29 #[.int .i64 x, .slice A n c] w fun z w' => z = .returned (.slice (some ⟨w.heap.size, 0, none⟩) n n) ∧ Row w' w.heap.size n (dig f x) ∧ Below w.heap.size w w' := by
  have hmk := mk22 n (by omega)
  have HA := Lib.hid (hA.alloc (.cells (zs n) 3))
  have HL := Lib.hid (fun i (h : i < n) => show ∀ b o, A = some ⟨b, o, none⟩ → b < w.heap.size from fun b o e => by
    obtain ⟨b', o', e', hc⟩ := hA i h
    rw [e'] at e
    cases e
    exact World.block_lt_of_cell? _ _ hc)
  have HF := Lib.hid hf
  have R0 := Lib.hid (zs_row n w)
  clear hA hf
  go_enter Try.func29, Try.ntmps29
  go_wp2
  go_loopw [0, 6, 7, 13] (fun a p r i wr => ∃ (k : Nat) (y : Int), k ≤ n ∧ 0 ≤ y ∧ y ≤ 1048576 ∧ i = .int .i64 k ∧ a = .int .i64 y ∧ Hid (y = left f x k) ∧ Hid (Row wr w.heap.size n (fun j => if j < k then dig f x j else 0)) ∧ Hid (OnlyB w.heap.size (w.alloc (.cells (zs n) 3)) wr)) (fun _ _ _ i _ => n - (intOf i).toNat)
  case atStart => exact ⟨0, x, by omega, hx, hx2, rfl, rfl, Lib.hid rfl, Lib.hid (R0.out.congr fun i _ => by simp), Lib.hid (OnlyB.refl _ _)⟩
  case round =>
    obtain ⟨k, y, hk, hy1, hy2, rfl, rfl, hy, hr, ho⟩ := hrel
    by_cases hlt : k < n
    · have hl := HL.out k hlt
      obtain ⟨b, o, rfl, hc⟩ := HA.out.only ho.out (fun b o e => by have := hl b o e; omega) k hlt
      obtain ⟨r1, r2⟩ := hr.out k hlt
      simp only [Nat.lt_irrefl, if_false] at r1
      have hfk := HF.out k hlt
      have hy3 : Hid (y / f k = left f x (k + 1)) := Lib.hid (by rw [hy.out]; rfl)
      have hd : Hid (y % f k = dig f x k) := Lib.hid (by rw [hy.out]; rfl)
      have hq := Int.ediv_le_self (f k) hy1
      have hq0 := Int.ediv_nonneg hy1 (show 0 ≤ f k by omega)
      clear hl
      obtain ⟨v, hv⟩ : ∃ v, f k = v := ⟨_, rfl⟩
      rw [hv] at hc hfk hy3 hd hq hq0
      clear hv
      have hv1 : 2 ≤ v := hfk.1
      have hv2 : v ≤ 1048576 := hfk.2
      clear hfk
      go_wp2
      go_region
      all_goals
        go_wp2
        go_roundw
        case rel =>
          refine ⟨k + 1, y / v, by omega, by omega, by omega, by go_num, rfl, hy3, Lib.hid (Row.drew ?_), Lib.hid (ho.out.setCell _ _ _).drew⟩
          refine (hr.out.set hlt (y % v)).congr fun i hi => ?_
          unfold upd
          by_cases e : i = k
          · rw [if_pos e, if_pos (by omega), e]; exact hd.out
          · rw [if_neg e]
            by_cases e2 : i < k
            · simp [e2, show i < k + 1 from by omega]
            · simp [e2, show ¬ i < k + 1 from by omega]
        case measure => simp [intOf]; omega
    · obtain rfl : k = n := by omega
      go_wp2
      go_ret
      exact ⟨rfl, hr.out.congr fun i hi => by simp [hi], (((Below.refl _ w).alloc (Nat.le_refl _) _).trans (ho.out.below (Nat.le_refl _) (by simp)))⟩
end Go.Proofs.Ytkjnlgbpfpkjhaa
