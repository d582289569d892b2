/- The walk of the law EftTops. -/
import Derived.Test.YtnpkblidlmkagaaE4
import Derived.Test.YtnpkblidlmkagaaW10
set_option linter.unusedSimpArgs false
set_option linter.unusedVariables false
namespace Go.Proofs.Ytnpkblidlmkagaa
open Go.RowKit Fl

set_option maxRecDepth 100000 in
set_option maxHeartbeats 4000000 in
theorem tops_all (A : Option Addr) (n c : Nat) (f : Nat → Int) (w : World) (hA : IntsAt w A n f) (hn : n ≤ 9223372036854775807) (hc0 : A = none → c = 0) (hnc : n ≤ c) :
    Calls Try.prog 16 #[.slice A n c] w fun z w' => z = .returned (.bool true) ∧ Below w.heap.size w w' := by
  have HA := Lib.hid hA
  clear hA
  by_cases h50 : 50 < n
  · go_enter Try.func16, Try.ntmps16
    go_wp2
    go_loopw [3, 5, 16] (fun v b i wr => ∃ k : Nat, k ≤ 50 ∧ i = .int .i64 k ∧ Hid (OwnF wr w.heap.size v k (fun j => wordOf (f j))) ∧ Hid (Below w.heap.size w wr)) (fun _ _ i _ => 50 - (intOf i).toNat)
    case atStart => exact ⟨0, by omega, rfl, Lib.hid (OwnF.nil _ _ _), Lib.hid (Below.refl _ _)⟩
    case round =>
      obtain ⟨k, hk, rfl, ho, hb⟩ := hrel
      have hz := hb.out.size
      by_cases hlt : k < 50
      · obtain ⟨b, o, rfl, hc⟩ := HA.out.keep hb.out k (by omega)
        go_wp2_with fail
        refine (float56_any _ _).mono ?_
        rintro z w' ⟨rfl, rfl⟩
        go_wp2_with (at_builtin; refine wpList_appF rfl _ _ rfl w.heap.size _ k (fun j => wordOf (f j)) rfl (ho.out.alloc _) _ _ (wordOf (f k)) rfl (by simp [go_sem]) rfl (by omega) (by simp; omega) ?_; intro v' w' h1 h2)
        go_roundw
        case rel => exact ⟨k + 1, by omega, by go_num, h1, Lib.hid ((ho.out.alloc _).grow (hb.out.alloc hb.out.size _) h2.out (by simp; omega))⟩
        case measure => simp [intOf]; omega
      · obtain rfl : k = 50 := by omega
        obtain ⟨A', c', rfl, h1, h2, h3⟩ := ho.out.flts
        have hT := fun w' (h : w' = wr) => top58_any A' _ c' _ w' (h ▸ h1) (by omega) (fun i hi => wordOf_lt _)
        have hR := fun w' (h : w' = wr) => refTop_any A' _ c' _ w' (h ▸ h1) (by omega) (fun i hi => wordOf_lt _)
        have HT := Lib.hid hT
        have HR := Lib.hid hR
        clear hT hR h1 h2 h3
        go_wp2_with fail
        refine (HT.out _ rfl).mono ?_
        rintro z w' ⟨⟨K, ok⟩, rfl, t1, rfl⟩
        go_wp2_with fail
        refine (HR.out _ rfl).mono ?_
        rintro z w' ⟨⟨K', ok'⟩, rfl, t2, rfl⟩
        obtain ⟨rfl, rfl⟩ := TopIs.same t1 t2
        have WK := Lib.hid wakes3_any
        clear t1 t2 HT HR
        go_wp2_with fail
        refine (WK.out _).mono ?_
        rintro z w' ⟨rfl, hb2⟩
        go_wp2
        go_ret
        exact ⟨rfl, hb.out.trans (hb2.mono hb.out.size)⟩
  · go_enter Try.func16, Try.ntmps16
    go_wp2
    go_loopw [3, 5, 16] (fun v b i wr => ∃ k : Nat, k ≤ n ∧ i = .int .i64 k ∧ Hid (OwnF wr w.heap.size v k (fun j => wordOf (f j))) ∧ Hid (Below w.heap.size w wr)) (fun _ _ i _ => n - (intOf i).toNat)
    case atStart => exact ⟨0, by omega, rfl, Lib.hid (OwnF.nil _ _ _), Lib.hid (Below.refl _ _)⟩
    case round =>
      obtain ⟨k, hk, rfl, ho, hb⟩ := hrel
      have hz := hb.out.size
      by_cases hlt : k < n
      · obtain ⟨b, o, rfl, hc⟩ := HA.out.keep hb.out k (by omega)
        go_wp2_with fail
        refine (float56_any _ _).mono ?_
        rintro z w' ⟨rfl, rfl⟩
        go_wp2_with (at_builtin; refine wpList_appF rfl _ _ rfl w.heap.size _ k (fun j => wordOf (f j)) rfl (ho.out.alloc _) _ _ (wordOf (f k)) rfl (by simp [go_sem]) rfl (by omega) (by simp; omega) ?_; intro v' w' h1 h2)
        go_roundw
        case rel => exact ⟨k + 1, by omega, by go_num, h1, Lib.hid ((ho.out.alloc _).grow (hb.out.alloc hb.out.size _) h2.out (by simp; omega))⟩
        case measure => simp [intOf]; omega
      · obtain rfl : k = n := by omega
        obtain ⟨A', c', rfl, h1, h2, h3⟩ := ho.out.flts
        have hT := fun w' (h : w' = wr) => top58_any A' _ c' _ w' (h ▸ h1) (by omega) (fun i hi => wordOf_lt _)
        have hR := fun w' (h : w' = wr) => refTop_any A' _ c' _ w' (h ▸ h1) (by omega) (fun i hi => wordOf_lt _)
        have HT := Lib.hid hT
        have HR := Lib.hid hR
        clear hT hR h1 h2 h3
        go_wp2_with fail
        refine (HT.out _ rfl).mono ?_
        rintro z w' ⟨⟨K, ok⟩, rfl, t1, rfl⟩
        go_wp2_with fail
        refine (HR.out _ rfl).mono ?_
        rintro z w' ⟨⟨K', ok'⟩, rfl, t2, rfl⟩
        obtain ⟨rfl, rfl⟩ := TopIs.same t1 t2
        have WK := Lib.hid wakes3_any
        clear t1 t2 HT HR
        go_wp2_with fail
        refine (WK.out _).mono ?_
        rintro z w' ⟨rfl, hb2⟩
        go_wp2
        go_ret
        exact ⟨rfl, hb.out.trans (hb2.mono hb.out.size)⟩

end Go.Proofs.Ytnpkblidlmkagaa
