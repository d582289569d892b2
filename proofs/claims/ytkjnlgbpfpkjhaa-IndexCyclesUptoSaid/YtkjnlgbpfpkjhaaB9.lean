/- The contracts of slices.Clone and slices.Reverse at []int. -/
import Derived.Test.YtkjnlgbpfpkjhaaB3
import Derived.BigRegion
import Derived.RegionTactic
set_option linter.unusedSimpArgs false
set_option linter.unusedVariables false
namespace Go.Proofs.Ytkjnlgbpfpkjhaa
open Go.RowKit

/-- A row of the call's own at A. -/
def RowAt (w : World) (base : Nat) (A : Option Addr) (n : Nat) (f : Nat → Int) : Prop := n = 0 ∨ ∃ b, base ≤ b ∧ A = some ⟨b, 0, none⟩ ∧ Row w b n f

theorem Own.rowAt {w : World} {base n : Nat} {v : Value} {g : Nat → Int} (h : Own w base v n g) : ∃ A c, v = .slice A n c ∧ RowAt w base A n g := by
  have h0 : w.ownsRow base 3 1 v n (ownL g n) := h
  obtain ⟨A, c, e, hi, _, _⟩ := h.ints
  refine ⟨A, c, e, ?_⟩
  rcases h0.2 with ⟨_, rfl⟩ | ⟨b, cap, cur, e2, hb, hh, _⟩
  · exact .inl rfl
  · by_cases hn : n = 0
    · exact .inl hn
    · right
      rw [e] at e2
      cases e2
      refine ⟨b, hb, rfl, fun i hil => ?_⟩
      obtain ⟨b', o', e3, hc⟩ := hi i hil
      cases e3
      rw [Nat.zero_add] at hc
      exact ⟨hc, by simp [World.frozen?, hh]⟩

theorem Addr.add_zero_ (b o i : Nat) : (⟨b, o, none⟩ : Addr).add i = ⟨b, o + i, none⟩ := by
  rw [Addr.add]
  split
  · rename_i e; subst e; rfl
  · rfl

set_option maxRecDepth 100000 in
set_option maxHeartbeats 2000000 in
theorem clone_any (A : Option Addr) (n c : Nat) (f : Nat → Int) (w : World) (hA : IntsAt w A n f) (hn : n ≤ 17592186044416) :
    Calls Try.prog 27 #[.slice A n c] w fun z w' => ∃ A' c', z = .returned (.slice A' n c') ∧ RowAt w' w.heap.size A' n f ∧ Below w.heap.size w w' := by
  have q22 : ∀ (w : World) (a : Option Addr) (n c n' c' : Nat), (binOp .eql 22 (.slice a n c) (.slice none n' c')).run Try.prog w = .ok (.bool a.isNone) w := fun w a n c n' c' => Lib.run_eql_slice_nil w _ _ a n c n' c' Try.underlying22
  obtain ⟨i0, hi, hz0, hz1, hz2⟩ := info_parts info3
  rcases A with _ | ad
  · obtain rfl : n = 0 := by
      rcases n with _ | n
      · rfl
      · obtain ⟨_, _, e, _⟩ := hA 0 (by omega)
        cases e
    clear hA
    go_enter Try.func27, Try.ntmps27
    go_wp2
    go_ret
    exact ⟨_, _, rfl, .inl rfl, Below.refl _ _⟩
  · have HA := Lib.hid hA
    clear hA
    go_enter Try.func27, Try.ntmps27
    go_wp2_with (at_builtin; refine wpList_append_own _ rfl _ _ 22 rfl w.heap.size 3 i0 (.int .i64 0) 1 8 Try.underlying22 hi hz0 hz1 hz2 rfl (by decide) _ _ _ rfl (World.ownsRow_made w #[] 0 (Nat.le_refl _) (Nat.zero_le _) rfl) ad n c (ownL f n) rfl ?qc1 ?qc2 ?qc3 ?qc4 ?qc5 ?qc6 ?_)
    case qc1 => simp [ownL_length]
    case qc2 =>
      intro j u hj
      have hjn : j < n := by
        have := (List.getElem?_eq_some_iff.1 hj).1
        rwa [ownL_length] at this
      rw [ownL_get f n j hjn] at hj
      cases hj
      obtain ⟨b, o, e, hc⟩ := HA.out.alloc (.cells #[] 3) j hjn
      cases e
      rw [Addr.add_zero_]
      exact hc
    case qc3 => intro u hu; unfold ownL at hu; obtain ⟨x, _, rfl⟩ := List.mem_map.1 hu; rfl
    case qc4 => unfold maxLen; omega
    case qc5 => omega
    case qc6 => simp
    intro v' w1 hown hgrow hnil
    have hO : Own w1 w.heap.size v' n f := by
      unfold Own
      simpa using hown
    have hB : Below w.heap.size w w1 := ((Below.refl _ w).alloc (Nat.le_refl _) _).grown hgrow (by simp) (by intro k hk; simp [Value.ownBlock] at hk; omega)
    obtain ⟨A', c', rfl, hr⟩ := hO.rowAt
    have HR := Lib.hid hr
    have HB := Lib.hid hB
    clear hown hgrow hnil hr hO hB
    go_wp2
    go_ret
    exact ⟨_, _, rfl, HR.out, HB.out⟩

set_option maxRecDepth 100000 in
theorem reverse_nil (A : Option Addr) (c : Nat) (w : World) : Calls Try.prog 28 #[.slice A 0 c] w fun z w' => z = .returned (.tuple #[]) ∧ w = w' := by
  go_enter Try.func28, Try.ntmps28
  go_wp2
  go_loop [2, 3] (fun i j => i = .int .i64 0 ∧ j = .int .i64 (-1)) (fun _ _ => 0)
  case atStart => exact ⟨rfl, rfl⟩
  case round =>
    obtain ⟨rfl, rfl⟩ := hrel
    go_wp2
    go_end0
    exact ⟨rfl, rfl⟩

/-- Turned about as far as k from both ends. -/
def turnTo (f : Nat → Int) (n k : Nat) : Nat → Int := fun x => if x < k ∨ n - 1 - k < x then f (n - 1 - x) else f x

set_option maxRecDepth 100000 in
set_option maxHeartbeats 2000000 in
theorem reverse_row (b n c : Nat) (f : Nat → Int) (w : World) (hA : Row w b n f) (hn : n ≤ 17592186044416) (h0 : 0 < n) :
    Calls Try.prog 28 #[.slice (some ⟨b, 0, none⟩) n c] w fun z w' => z = .returned (.tuple #[]) ∧ Row w' b n (fun i => f (n - 1 - i)) ∧ OnlyB b w w' := by
  have HA := Lib.hid hA
  clear hA
  go_enter Try.func28, Try.ntmps28
  go_wp2
  go_loopw [2, 3] (fun i j wr => ∃ k : Nat, k ≤ n ∧ i = .int .i64 k ∧ j = .int .i64 ((n : Int) - 1 - k) ∧ Hid (2 * k ≤ n + 1) ∧ Hid (Row wr b n (turnTo f n k)) ∧ Hid (OnlyB b w wr)) (fun i _ _ => n - (intOf i).toNat)
  case atStart => exact ⟨0, by omega, rfl, by simp, Lib.hid (by omega), Lib.hid (HA.out.congr fun i hi => by unfold turnTo; rw [if_neg (by omega)]), Lib.hid (OnlyB.refl _ _)⟩
  case round =>
    obtain ⟨k, hk, rfl, rfl, h2k, hr, ho⟩ := hrel
    by_cases hlt : k < n - 1 - k
    · obtain ⟨j, hj⟩ : ∃ j : Nat, j = n - 1 - k := ⟨_, rfl⟩
      have ej : (n : Int) - 1 - k = j := by omega
      rw [ej]
      have hjn : j < n := by omega
      have hkj : k < j := by omega
      have hkn : k < n := by omega
      obtain ⟨r1, r2⟩ := hr.out k hkn
      obtain ⟨r3, r4⟩ := hr.out j hjn
      have hset := (hr.out.set hkn (turnTo f n k j)).set hjn (turnTo f n k k)
      have HS : Hid (Row ((wr.setCell ⟨b, k, none⟩ (.int .i64 (turnTo f n k j))).setCell ⟨b, j, none⟩ (.int .i64 (turnTo f n k k))) b n (turnTo f n (k + 1))) := Lib.hid (hset.congr fun i hi => by
        unfold upd turnTo
        by_cases e1 : i = j
        · rw [if_pos e1, if_neg (by omega), if_pos (by omega)]
          congr 1; omega
        · rw [if_neg e1]
          by_cases e2 : i = k
          · rw [if_pos e2, if_neg (by omega), if_pos (by omega)]
            congr 1; omega
          · rw [if_neg e2]
            by_cases e3 : i < k ∨ n - 1 - k < i
            · rw [if_pos e3, if_pos (by omega)]
            · rw [if_neg e3, if_neg (by omega)])
      have HJ := Lib.hid ej
      obtain ⟨x, hx⟩ : ∃ x, turnTo f n k k = x := ⟨_, rfl⟩
      obtain ⟨y, hy⟩ : ∃ y, turnTo f n k j = y := ⟨_, rfl⟩
      rw [hx] at r1 HS
      rw [hy] at r3 HS
      have hne : (⟨b, k, none⟩ : Addr) ≠ ⟨b, j, none⟩ := by intro e; have := congrArg Addr.off e; simp at this; omega
      clear hset hx hy ej hj hlt
      go_wp2
      go_region
      all_goals
        go_wp2
        go_roundw
        case rel => exact ⟨k + 1, by omega, by go_num, by have := HJ.out; rw [show ((j : Int) - 1) = (n : Int) - 1 - ((k + 1 : Nat) : Int) from by omega], Lib.hid (by have := HJ.out; omega), Lib.hid HS.out.drew, Lib.hid ((ho.out.setCell _ _ _).setCell _ _ _).drew⟩
        case measure => simp [intOf]; omega
    · have hge : ((n : Int) - 1 - k) ≤ k := by omega
      have HR : Hid (Row wr b n (fun i => f (n - 1 - i))) := Lib.hid (hr.out.congr fun i hi => by
        unfold turnTo
        have := h2k.out
        by_cases e : i < k ∨ n - 1 - k < i
        · rw [if_pos e]
        · rw [if_neg e]
          congr 1; omega)
      clear hlt
      go_wp2
      go_end0
      exact ⟨rfl, HR.out, ho.out⟩
end Go.Proofs.Ytkjnlgbpfpkjhaa
