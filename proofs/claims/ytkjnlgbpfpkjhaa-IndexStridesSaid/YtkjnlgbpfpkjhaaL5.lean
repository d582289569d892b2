/- The walk of IndexStrides. -/
import Derived.Test.YtkjnlgbpfpkjhaaL4
set_option linter.unusedSimpArgs false
set_option linter.unusedVariables false
namespace Go.Proofs.Ytkjnlgbpfpkjhaa
open Go.RowKit

theorem Tri.drewN {w : World} {b : Nat} {x y z : Int} (h : Tri w b x y z) (m : Nat) : Tri (w.drewN m) b x y z := h

set_option maxRecDepth 100000 in
set_option maxHeartbeats 8000000 in
theorem strides_no (A A' : Option Addr) (n c n' c' m : Nat) (off st cnt cnt' e1 e2 : Int) (f fr G : Nat → Int) (w : World) (hA : IntsAt w A n f) (hA' : IntsAt w A' n' fr) (hc : A = none → c = 0) (hn : n ≤ 17592186044416) (hn' : n' ≤ 17592186044416)
    (hq : cnt' = if 5000 < cnt ∧ 0 ≤ off ∧ 1 ≤ st then 5000 else cnt)
    (h23 : ∀ w, Calls Try.prog 23 #[.int .i64 n, .int .i64 off, .int .i64 st, .int .i64 cnt'] w fun z w' => z = .returned (.int .i64 e1) ∧ w = w')
    (h24 : ∀ w, IntsAt w A n f → Calls Try.prog 24 #[.slice A n c, .int .i64 off, .int .i64 st, .int .i64 cnt'] w fun z w' => ∃ B b, z = .returned (.tuple #[.slice B m b, .int .i64 e1]) ∧ IntsAt w' B m (gath f off st) ∧ Below w.heap.size w w')
    (hz1 : (e1 != 0) = true) (hz2 : (e1 == 0) = false) (hm : m = 0) (hfit : ∀ k : Nat, k < m → 0 ≤ off ∧ 0 ≤ (k : Int) * st ∧ off + (k : Int) * st < n) (hmn : m ≤ 17592186044416)
    (h23' : ∀ w, Calls Try.prog 23 #[.int .i64 n, .int .i64 off, .int .i64 st, .int .i64 n'] w fun z w' => z = .returned (.int .i64 e2) ∧ w = w')
    (h25 : ∀ w base B b, RowAt w base B n f → base ≤ w.heap.size → IntsAt w A' n' fr → (0 < n' → ∀ b o, A' = some ⟨b, o, none⟩ → b < base) → Calls Try.prog 25 #[.slice B n b, .slice A' n' c', .int .i64 off, .int .i64 st] w fun z w' => z = .returned (.int .i64 e2) ∧ IntsAt w' B n G ∧ Below base w w')
    (hG : ∀ y, y < n → (e2 = 0 ∧ hit off st n' y ∧ G y = fr (((y : Int) - off) / st).toNat) ∨ (¬ (e2 = 0 ∧ hit off st n' y) ∧ G y = f y)) (hok : e2 = 0 → 0 ≤ off ∧ 1 ≤ st) :
    Calls Try.prog 8 #[.slice A n c, .agg #[.int .i64 off, .int .i64 st, .int .i64 cnt], .slice A' n' c'] w fun z w' => z = .returned (.bool true) ∧ Below w.heap.size w w' := by
  have HQ := Lib.hid hq
  have H23 := Lib.hid h23
  have H24 := Lib.hid h24
  have H23' := Lib.hid h23'
  have H25 := Lib.hid h25
  have HG := Lib.hid hG
  have HOK := Lib.hid hok
  have HC := Lib.hid hc
  have HFIT := Lib.hid hfit
  have HT := Lib.hid (Tri.new w off st cnt 51)
  have HA := Lib.hid (hA.alloc (.cells #[.int .i64 off, .int .i64 st, .int .i64 cnt] 51))
  have HA' := Lib.hid (hA'.alloc (.cells #[.int .i64 off, .int .i64 st, .int .i64 cnt] 51))
  have HL : Hid (0 < n → ∀ b o, A = some ⟨b, o, none⟩ → b < w.heap.size) := Lib.hid (fun h => hA.block h)
  have HL' : Hid (0 < n' → ∀ b o, A' = some ⟨b, o, none⟩ → b < w.heap.size) := Lib.hid (fun h => hA'.block h)
  have HB0 : Hid (Below w.heap.size w (w.alloc (.cells #[.int .i64 off, .int .i64 st, .int .i64 cnt] 51))) := Lib.hid ((Below.refl _ w).alloc (Nat.le_refl _) _)
  obtain ⟨t0, t1, t2⟩ := HT.out
  subst hm
  clear hA hA' h23 h24 h23' h25 hG hok hc hfit hq
  go_enter Try.func8, Try.ntmps8
  go_wp2_with fail
  go_quiet (fail)
  go_wp2_with fail
  all_goals by_cases hX : 5000 < cnt ∧ 0 ≤ off ∧ 1 ≤ st
  all_goals first | (exfalso; omega) | skip
  all_goals
    have e9 := HQ.out
    first
      | rw [if_pos hX] at e9
      | rw [if_neg hX] at e9
    rw [e9] at H23 H24
    clear HQ e9
    obtain ⟨W0, hW0⟩ : ∃ W0, W0 = ((w.alloc (.cells #[.int .i64 off, .int .i64 st, .int .i64 cnt] 51)).drewN nq) := ⟨_, rfl⟩
    have HA0 : Hid (IntsAt W0 A n f) := Lib.hid (by rw [hW0]; exact HA.out)
    have HA0' : Hid (IntsAt W0 A' n' fr) := Lib.hid (by rw [hW0]; exact HA'.out)
    have HB1 : Hid (Below w.heap.size w W0) := Lib.hid (by rw [hW0]; exact HB0.out.trans ((below_drewN _ _).mono HB0.out.size))
    rw [← hW0]
    clear hW0 t0 t1 t2 HT HA HA' HB0
    refine (H23.out _).mono ?_
    rintro v w' ⟨rfl, rfl⟩
    go_wp2_with fail
    refine (H24.out _ HA0.out).mono ?_
    rintro v w1 ⟨B, b, rfl, hg, hb1⟩
    have HG1 := Lib.hid hg
    have HA1 := Lib.hid (HA0.out.keep hb1)
    have HA1' := Lib.hid (HA0'.out.keep hb1)
    have HB2 := Lib.hid (HB1.out.trans (hb1.mono HB1.out.size))
    clear hg hb1 HA0 HA0' HB1
    go_wp2_with fail
    refine (wakes_any _).mono ?_
    rintro v w2 ⟨rfl, hb2⟩
    have HG2 := Lib.hid (HG1.out.keep hb2)
    have HA2 := Lib.hid (HA1.out.keep hb2)
    have HA2' := Lib.hid (HA1'.out.keep hb2)
    have HB3 := Lib.hid (HB2.out.trans (hb2.mono HB2.out.size))
    clear hb2 HG1 HA1 HA1' HB2
    go_wp2_with fail
    go_loopw [13, 77] (fun q i wr => ∃ k : Nat, k ≤ 0 ∧ i = .int .i64 k ∧ Hid (∃ s, wr = w2.drewN s)) (fun _ i _ => 0 - (intOf i).toNat)
    case atStart => exact ⟨0, by omega, rfl, Lib.hid ⟨0, rfl⟩⟩
    case round =>
      obtain ⟨k, hk, rfl, hw⟩ := hrel
      by_cases hlt : k < 0
      · obtain ⟨a0, a1, a2⟩ := HFIT.out k hlt
        have hki : (k : Int) < 0 := by omega
        obtain ⟨s, hs7⟩ := hw.out
        subst hs7
        obtain ⟨y, hy⟩ := Int.eq_ofNat_of_zero_le (show 0 ≤ off + (k : Int) * st by omega)
        have hyn : y < n := by omega
        have hty : (off + (k : Int) * st).toNat = y := by omega
        have hv : gath f off st k = f y := by unfold gath; rw [hty]
        obtain ⟨bb, oo, rfl, hc2⟩ := HA2.out y hyn
        obtain ⟨b3, o3, rfl, hc3⟩ := HG2.out k hlt
        rw [hv] at hc3
        obtain ⟨u, hu⟩ : ∃ u, f y = u := ⟨_, rfl⟩
        rw [hu] at hc2 hc3
        have k1 : (w2.drewN s).cell? ⟨bb, oo + y, none⟩ = some (.int .i64 u) := hc2
        have k2 : (w2.drewN s).cell? ⟨b3, o3 + k, none⟩ = some (.int .i64 u) := hc3
        have x1 : IntKind.i64.wrap ((k : Int) * st) = (k : Int) * st := IntWalk.i64_in _ (by omega)
        have x2 : IntKind.i64.wrap (off + (k : Int) * st) = off + (k : Int) * st := IntWalk.i64_in _ (by omega)
        have HV := Lib.hid hv
        clear hv hu hy
        go_wp2_with fail
        go_quiet (fail)
        go_wp2
        exact ⟨⟨k + 1, by omega, by go_num, Lib.hid ⟨s + nq, rfl⟩⟩, by simp [intOf]; omega⟩
      · obtain rfl : k = 0 := by omega
        obtain ⟨s, hs7⟩ := hw.out
        subst hs7
        have HA3 : Hid (IntsAt (w2.drewN s) A n f) := Lib.hid (fun i hi => HA2.out i hi)
        have HA3' : Hid (IntsAt (w2.drewN s) A' n' fr) := Lib.hid (fun i hi => HA2'.out i hi)
        have HB4 : Hid (Below w.heap.size w (w2.drewN s)) := Lib.hid (HB3.out.trans ((below_drewN w2 s).mono HB3.out.size))
        obtain ⟨W3, hW3⟩ : ∃ W3, W3 = w2.drewN s := ⟨_, rfl⟩
        rw [← hW3] at HA3 HA3' HB4 ⊢
        clear hW3 HG2 HA2 HA2' HB3 hw hlt hk
        go_wp2_with (at_builtin; refine wpList_cat rfl _ _ rfl rfl A n c f rfl HA3.out HC.out (by omega) ?_; intro A4 c4 w4 h1' h2')
        have HA4 := Lib.hid (HA3.out.keep h2'.out)
        have HA4' := Lib.hid (HA3'.out.keep h2'.out)
        have HB5 := Lib.hid (HB4.out.trans (h2'.out.mono HB4.out.size))
        have hz4 : W3.heap.size ≤ w4.heap.size := h2'.out.size
        have hz3 := HB4.out.size
        clear h2' HA3 HA3'
        refine (H23'.out _).mono ?_
        rintro v w' ⟨rfl, rfl⟩
        go_wp2_with fail
        refine (H25.out _ W3.heap.size A4 c4 h1'.out hz4 HA4'.out (fun h b o e => by have := HL'.out h b o e; omega)).mono ?_
        rintro v w5 ⟨rfl, hi5, hb5⟩
        have HI5 := Lib.hid hi5
        have HA5 := Lib.hid (HA4.out.keepAt hb5 (fun h b o e => by have := HL.out h b o e; omega))
        have HA5' := Lib.hid (HA4'.out.keepAt hb5 (fun h b o e => by have := HL'.out h b o e; omega))
        have HB6 := Lib.hid (HB5.out.trans (hb5.mono hz3))
        clear hi5 hb5 h1' HA4 HA4' HB5 HB4
        go_wp2_with fail
        go_loop [17, 18, 113] (fun q r i => ∃ j : Nat, j ≤ n ∧ i = .int .i64 j) (fun _ _ i => n - (intOf i).toNat)
        case atStart => exact ⟨0, by omega, rfl⟩
        case round =>
          obtain ⟨j, hj, rfl⟩ := hrel
          by_cases hlt : j < n
          · have hji : (j : Int) < n := by omega
            obtain ⟨b6, o6, rfl, hc6⟩ := HA5.out j hlt
            obtain ⟨b7, o7, rfl, hc7⟩ := HI5.out j hlt
            rcases HG.out j hlt with ⟨he, hh, hg⟩ | ⟨hnot, hg⟩
            · obtain ⟨hoff, hst⟩ := HOK.out he
              obtain ⟨a1, a2, a3⟩ := hh
              have hb : (e2 == 0) = true := by simpa using he
              have hd1 := Int.ediv_nonneg (show 0 ≤ (j : Int) - off by omega) (show 0 ≤ st by omega)
              have hd2 := Int.ediv_le_self st (show 0 ≤ (j : Int) - off by omega)
              have hmod : (((j : Int) - off) % st == 0) = true := by simpa using a2
              obtain ⟨q, hq⟩ := Int.eq_ofNat_of_zero_le hd1
              rw [hq, Int.toNat_natCast] at hg
              have hqn : q < n' := by omega
              obtain ⟨b8, o8, rfl, hc8⟩ := HA5'.out q hqn
              rw [hg] at hc7
              obtain ⟨u, hu⟩ : ∃ u, fr q = u := ⟨_, rfl⟩
              rw [hu] at hc7 hc8
              have hqi : ((j : Int) - off) / st < n' := a3
              have hqt : (((j : Int) - off) / st).toNat = q := by omega
              clear hu hg he a2 hq
              first
                | (exfalso; omega)
                | (go_wp2
                   go_round
                   case rel => exact ⟨j + 1, by omega, by go_num⟩
                   case measure => simp [intOf]; omega)
            · rw [hg] at hc7
              obtain ⟨u, hu⟩ : ∃ u, f j = u := ⟨_, rfl⟩
              rw [hu] at hc6 hc7
              clear hu hg
              by_cases he : e2 = 0
              · obtain ⟨hoff, hst⟩ := HOK.out he
                have hb : (e2 == 0) = true := by simpa using he
                by_cases a1 : off ≤ (j : Int)
                · have hd1 := Int.ediv_nonneg (show 0 ≤ (j : Int) - off by omega) (show 0 ≤ st by omega)
                  have hd2 := Int.ediv_le_self st (show 0 ≤ (j : Int) - off by omega)
                  have hd3 := Int.emod_nonneg ((j : Int) - off) (show st ≠ 0 by omega)
                  have hd4 := Int.emod_lt_of_pos ((j : Int) - off) (show 0 < st by omega)
                  by_cases a2 : ((j : Int) - off) % st = 0
                  · have a3 : ¬ ((j : Int) - off) / st < n' := fun a3 => hnot ⟨he, a1, a2, a3⟩
                    have hmod : (((j : Int) - off) % st == 0) = true := by simpa using a2
                    clear he hnot a2
                    first
                      | (exfalso; omega)
                      | (go_wp2
                         go_round
                         case rel => exact ⟨j + 1, by omega, by go_num⟩
                         case measure => simp [intOf]; omega)
                  · have hmod : (((j : Int) - off) % st == 0) = false := by simpa using a2
                    clear he hnot a2
                    first
                      | (exfalso; omega)
                      | (go_wp2
                         go_round
                         case rel => exact ⟨j + 1, by omega, by go_num⟩
                         case measure => simp [intOf]; omega)
                · clear he hnot
                  first
                    | (exfalso; omega)
                    | (go_wp2
                       go_round
                       case rel => exact ⟨j + 1, by omega, by go_num⟩
                       case measure => simp [intOf]; omega)
              · have hb : (e2 == 0) = false := by simpa using he
                clear he hnot
                go_wp2
                go_round
                case rel => exact ⟨j + 1, by omega, by go_num⟩
                case measure => simp [intOf]; omega
          · obtain rfl : j = n := by omega
            go_wp2
            go_ret
            exact ⟨rfl, HB6.out⟩

set_option maxRecDepth 100000 in
set_option maxHeartbeats 8000000 in
theorem strides_ok (A A' : Option Addr) (n c n' c' m : Nat) (off st cnt cnt' e2 : Int) (f fr G : Nat → Int) (w : World) (hA : IntsAt w A n f) (hA' : IntsAt w A' n' fr) (hc : A = none → c = 0) (hn : n ≤ 17592186044416) (hn' : n' ≤ 17592186044416)
    (hq : cnt' = if 5000 < cnt ∧ 0 ≤ off ∧ 1 ≤ st then 5000 else cnt)
    (h23 : ∀ w, Calls Try.prog 23 #[.int .i64 n, .int .i64 off, .int .i64 st, .int .i64 cnt'] w fun z w' => z = .returned (.int .i64 0) ∧ w = w')
    (h24 : ∀ w, IntsAt w A n f → Calls Try.prog 24 #[.slice A n c, .int .i64 off, .int .i64 st, .int .i64 cnt'] w fun z w' => ∃ B b, z = .returned (.tuple #[.slice B m b, .int .i64 0]) ∧ IntsAt w' B m (gath f off st) ∧ Below w.heap.size w w')
    (hz1 : ((m : Int) != cnt') = false) (hfit : ∀ k : Nat, k < m → 0 ≤ off ∧ 0 ≤ (k : Int) * st ∧ off + (k : Int) * st < n) (hmn : m ≤ 17592186044416)
    (h23' : ∀ w, Calls Try.prog 23 #[.int .i64 n, .int .i64 off, .int .i64 st, .int .i64 n'] w fun z w' => z = .returned (.int .i64 e2) ∧ w = w')
    (h25 : ∀ w base B b, RowAt w base B n f → base ≤ w.heap.size → IntsAt w A' n' fr → (0 < n' → ∀ b o, A' = some ⟨b, o, none⟩ → b < base) → Calls Try.prog 25 #[.slice B n b, .slice A' n' c', .int .i64 off, .int .i64 st] w fun z w' => z = .returned (.int .i64 e2) ∧ IntsAt w' B n G ∧ Below base w w')
    (hG : ∀ y, y < n → (e2 = 0 ∧ hit off st n' y ∧ G y = fr (((y : Int) - off) / st).toNat) ∨ (¬ (e2 = 0 ∧ hit off st n' y) ∧ G y = f y)) (hok : e2 = 0 → 0 ≤ off ∧ 1 ≤ st) :
    Calls Try.prog 8 #[.slice A n c, .agg #[.int .i64 off, .int .i64 st, .int .i64 cnt], .slice A' n' c'] w fun z w' => z = .returned (.bool true) ∧ Below w.heap.size w w' := by
  have HQ := Lib.hid hq
  have H23 := Lib.hid h23
  have H24 := Lib.hid h24
  have H23' := Lib.hid h23'
  have H25 := Lib.hid h25
  have HG := Lib.hid hG
  have HOK := Lib.hid hok
  have HC := Lib.hid hc
  have HFIT := Lib.hid hfit
  have HT := Lib.hid (Tri.new w off st cnt 51)
  have HA := Lib.hid (hA.alloc (.cells #[.int .i64 off, .int .i64 st, .int .i64 cnt] 51))
  have HA' := Lib.hid (hA'.alloc (.cells #[.int .i64 off, .int .i64 st, .int .i64 cnt] 51))
  have HL : Hid (0 < n → ∀ b o, A = some ⟨b, o, none⟩ → b < w.heap.size) := Lib.hid (fun h => hA.block h)
  have HL' : Hid (0 < n' → ∀ b o, A' = some ⟨b, o, none⟩ → b < w.heap.size) := Lib.hid (fun h => hA'.block h)
  have HB0 : Hid (Below w.heap.size w (w.alloc (.cells #[.int .i64 off, .int .i64 st, .int .i64 cnt] 51))) := Lib.hid ((Below.refl _ w).alloc (Nat.le_refl _) _)
  obtain ⟨t0, t1, t2⟩ := HT.out
  clear hA hA' h23 h24 h23' h25 hG hok hc hfit hq
  go_enter Try.func8, Try.ntmps8
  go_wp2_with fail
  go_quiet (fail)
  go_wp2_with fail
  all_goals by_cases hX : 5000 < cnt ∧ 0 ≤ off ∧ 1 ≤ st
  all_goals first | (exfalso; omega) | skip
  all_goals
    have e9 := HQ.out
    first
      | rw [if_pos hX] at e9
      | rw [if_neg hX] at e9
    rw [e9] at H23 H24 hz1
    clear HQ e9
    obtain ⟨W0, hW0⟩ : ∃ W0, W0 = ((w.alloc (.cells #[.int .i64 off, .int .i64 st, .int .i64 cnt] 51)).drewN nq) := ⟨_, rfl⟩
    have HA0 : Hid (IntsAt W0 A n f) := Lib.hid (by rw [hW0]; exact HA.out)
    have HA0' : Hid (IntsAt W0 A' n' fr) := Lib.hid (by rw [hW0]; exact HA'.out)
    have HB1 : Hid (Below w.heap.size w W0) := Lib.hid (by rw [hW0]; exact HB0.out.trans ((below_drewN _ _).mono HB0.out.size))
    rw [← hW0]
    clear hW0 t0 t1 t2 HT HA HA' HB0
    refine (H23.out _).mono ?_
    rintro v w' ⟨rfl, rfl⟩
    go_wp2_with fail
    refine (H24.out _ HA0.out).mono ?_
    rintro v w1 ⟨B, b, rfl, hg, hb1⟩
    have HG1 := Lib.hid hg
    have HA1 := Lib.hid (HA0.out.keep hb1)
    have HA1' := Lib.hid (HA0'.out.keep hb1)
    have HB2 := Lib.hid (HB1.out.trans (hb1.mono HB1.out.size))
    clear hg hb1 HA0 HA0' HB1
    go_wp2_with fail
    refine (wakes_any _).mono ?_
    rintro v w2 ⟨rfl, hb2⟩
    have HG2 := Lib.hid (HG1.out.keep hb2)
    have HA2 := Lib.hid (HA1.out.keep hb2)
    have HA2' := Lib.hid (HA1'.out.keep hb2)
    have HB3 := Lib.hid (HB2.out.trans (hb2.mono HB2.out.size))
    clear hb2 HG1 HA1 HA1' HB2
    go_wp2_with fail
    go_loopw [13, 77] (fun q i wr => ∃ k : Nat, k ≤ m ∧ i = .int .i64 k ∧ Hid (∃ s, wr = w2.drewN s)) (fun _ i _ => m - (intOf i).toNat)
    case atStart => exact ⟨0, by omega, rfl, Lib.hid ⟨0, rfl⟩⟩
    case round =>
      obtain ⟨k, hk, rfl, hw⟩ := hrel
      by_cases hlt : k < m
      · obtain ⟨a0, a1, a2⟩ := HFIT.out k hlt
        have hki : (k : Int) < m := by omega
        obtain ⟨s, hs7⟩ := hw.out
        subst hs7
        obtain ⟨y, hy⟩ := Int.eq_ofNat_of_zero_le (show 0 ≤ off + (k : Int) * st by omega)
        have hyn : y < n := by omega
        have hty : (off + (k : Int) * st).toNat = y := by omega
        have hv : gath f off st k = f y := by unfold gath; rw [hty]
        obtain ⟨bb, oo, rfl, hc2⟩ := HA2.out y hyn
        obtain ⟨b3, o3, rfl, hc3⟩ := HG2.out k hlt
        rw [hv] at hc3
        obtain ⟨u, hu⟩ : ∃ u, f y = u := ⟨_, rfl⟩
        rw [hu] at hc2 hc3
        have k1 : (w2.drewN s).cell? ⟨bb, oo + y, none⟩ = some (.int .i64 u) := hc2
        have k2 : (w2.drewN s).cell? ⟨b3, o3 + k, none⟩ = some (.int .i64 u) := hc3
        have x1 : IntKind.i64.wrap ((k : Int) * st) = (k : Int) * st := IntWalk.i64_in _ (by omega)
        have x2 : IntKind.i64.wrap (off + (k : Int) * st) = off + (k : Int) * st := IntWalk.i64_in _ (by omega)
        have HV := Lib.hid hv
        clear hv hu hy
        go_wp2_with fail
        go_quiet (fail)
        go_wp2
        exact ⟨⟨k + 1, by omega, by go_num, Lib.hid ⟨s + nq, rfl⟩⟩, by simp [intOf]; omega⟩
      · obtain rfl : k = m := by omega
        obtain ⟨s, hs7⟩ := hw.out
        subst hs7
        have HA3 : Hid (IntsAt (w2.drewN s) A n f) := Lib.hid (fun i hi => HA2.out i hi)
        have HA3' : Hid (IntsAt (w2.drewN s) A' n' fr) := Lib.hid (fun i hi => HA2'.out i hi)
        have HB4 : Hid (Below w.heap.size w (w2.drewN s)) := Lib.hid (HB3.out.trans ((below_drewN w2 s).mono HB3.out.size))
        obtain ⟨W3, hW3⟩ : ∃ W3, W3 = w2.drewN s := ⟨_, rfl⟩
        rw [← hW3] at HA3 HA3' HB4 ⊢
        clear hW3 HG2 HA2 HA2' HB3 hw hlt hk
        go_wp2_with (at_builtin; refine wpList_cat rfl _ _ rfl rfl A n c f rfl HA3.out HC.out (by omega) ?_; intro A4 c4 w4 h1' h2')
        have HA4 := Lib.hid (HA3.out.keep h2'.out)
        have HA4' := Lib.hid (HA3'.out.keep h2'.out)
        have HB5 := Lib.hid (HB4.out.trans (h2'.out.mono HB4.out.size))
        have hz4 : W3.heap.size ≤ w4.heap.size := h2'.out.size
        have hz3 := HB4.out.size
        clear h2' HA3 HA3'
        refine (H23'.out _).mono ?_
        rintro v w' ⟨rfl, rfl⟩
        go_wp2_with fail
        refine (H25.out _ W3.heap.size A4 c4 h1'.out hz4 HA4'.out (fun h b o e => by have := HL'.out h b o e; omega)).mono ?_
        rintro v w5 ⟨rfl, hi5, hb5⟩
        have HI5 := Lib.hid hi5
        have HA5 := Lib.hid (HA4.out.keepAt hb5 (fun h b o e => by have := HL.out h b o e; omega))
        have HA5' := Lib.hid (HA4'.out.keepAt hb5 (fun h b o e => by have := HL'.out h b o e; omega))
        have HB6 := Lib.hid (HB5.out.trans (hb5.mono hz3))
        clear hi5 hb5 h1' HA4 HA4' HB5 HB4
        go_wp2_with fail
        go_loop [17, 18, 113] (fun q r i => ∃ j : Nat, j ≤ n ∧ i = .int .i64 j) (fun _ _ i => n - (intOf i).toNat)
        case atStart => exact ⟨0, by omega, rfl⟩
        case round =>
          obtain ⟨j, hj, rfl⟩ := hrel
          by_cases hlt : j < n
          · have hji : (j : Int) < n := by omega
            obtain ⟨b6, o6, rfl, hc6⟩ := HA5.out j hlt
            obtain ⟨b7, o7, rfl, hc7⟩ := HI5.out j hlt
            rcases HG.out j hlt with ⟨he, hh, hg⟩ | ⟨hnot, hg⟩
            · obtain ⟨hoff, hst⟩ := HOK.out he
              obtain ⟨a1, a2, a3⟩ := hh
              have hb : (e2 == 0) = true := by simpa using he
              have hd1 := Int.ediv_nonneg (show 0 ≤ (j : Int) - off by omega) (show 0 ≤ st by omega)
              have hd2 := Int.ediv_le_self st (show 0 ≤ (j : Int) - off by omega)
              have hmod : (((j : Int) - off) % st == 0) = true := by simpa using a2
              obtain ⟨q, hq⟩ := Int.eq_ofNat_of_zero_le hd1
              rw [hq, Int.toNat_natCast] at hg
              have hqn : q < n' := by omega
              obtain ⟨b8, o8, rfl, hc8⟩ := HA5'.out q hqn
              rw [hg] at hc7
              obtain ⟨u, hu⟩ : ∃ u, fr q = u := ⟨_, rfl⟩
              rw [hu] at hc7 hc8
              have hqi : ((j : Int) - off) / st < n' := a3
              have hqt : (((j : Int) - off) / st).toNat = q := by omega
              clear hu hg he a2 hq
              first
                | (exfalso; omega)
                | (go_wp2
                   go_round
                   case rel => exact ⟨j + 1, by omega, by go_num⟩
                   case measure => simp [intOf]; omega)
            · rw [hg] at hc7
              obtain ⟨u, hu⟩ : ∃ u, f j = u := ⟨_, rfl⟩
              rw [hu] at hc6 hc7
              clear hu hg
              by_cases he : e2 = 0
              · obtain ⟨hoff, hst⟩ := HOK.out he
                have hb : (e2 == 0) = true := by simpa using he
                by_cases a1 : off ≤ (j : Int)
                · have hd1 := Int.ediv_nonneg (show 0 ≤ (j : Int) - off by omega) (show 0 ≤ st by omega)
                  have hd2 := Int.ediv_le_self st (show 0 ≤ (j : Int) - off by omega)
                  have hd3 := Int.emod_nonneg ((j : Int) - off) (show st ≠ 0 by omega)
                  have hd4 := Int.emod_lt_of_pos ((j : Int) - off) (show 0 < st by omega)
                  by_cases a2 : ((j : Int) - off) % st = 0
                  · have a3 : ¬ ((j : Int) - off) / st < n' := fun a3 => hnot ⟨he, a1, a2, a3⟩
                    have hmod : (((j : Int) - off) % st == 0) = true := by simpa using a2
                    clear he hnot a2
                    first
                      | (exfalso; omega)
                      | (go_wp2
                         go_round
                         case rel => exact ⟨j + 1, by omega, by go_num⟩
                         case measure => simp [intOf]; omega)
                  · have hmod : (((j : Int) - off) % st == 0) = false := by simpa using a2
                    clear he hnot a2
                    first
                      | (exfalso; omega)
                      | (go_wp2
                         go_round
                         case rel => exact ⟨j + 1, by omega, by go_num⟩
                         case measure => simp [intOf]; omega)
                · clear he hnot
                  first
                    | (exfalso; omega)
                    | (go_wp2
                       go_round
                       case rel => exact ⟨j + 1, by omega, by go_num⟩
                       case measure => simp [intOf]; omega)
              · have hb : (e2 == 0) = false := by simpa using he
                clear he hnot
                go_wp2
                go_round
                case rel => exact ⟨j + 1, by omega, by go_num⟩
                case measure => simp [intOf]; omega
          · obtain rfl : j = n := by omega
            go_wp2
            go_ret
            exact ⟨rfl, HB6.out⟩

theorem indexStrides_all (A : Option Addr) (n c : Nat) (f : Nat → Int) (off st cnt : Int) (A' : Option Addr) (n' c' : Nat) (fr : Nat → Int) (w : World) (hA : IntsAt w A n f) (hn : n ≤ 17592186044416) (hc : A = none → c = 0) (hA' : IntsAt w A' n' fr) (hn' : n' ≤ 17592186044416)
    (ho : off ≤ 9223372036854775807) (hs : st ≤ 9223372036854775807) (hcn : cnt ≤ 9223372036854775807) :
    Calls Try.prog 8 #[.slice A n c, .agg #[.int .i64 off, .int .i64 st, .int .i64 cnt], .slice A' n' c'] w fun z w' => z = .returned (.bool true) ∧ Below w.heap.size w w' := by
  obtain ⟨cnt', hq⟩ : ∃ cnt', cnt' = if 5000 < cnt ∧ 0 ≤ off ∧ 1 ≤ st then 5000 else cnt := ⟨_, rfl⟩
  have hcn' : cnt' ≤ 9223372036854775807 := by rw [hq]; split <;> omega
  obtain ⟨e1, he1⟩ := str_ex n off st cnt'
  obtain ⟨e2, he2⟩ := str_ex n off st n'
  have h23 := fun w => Strided_any n off st cnt' e1 w (by omega) (by omega) ho hs hcn' he1
  have h23' := fun w => Strided_any n off st n' e2 w (by omega) (by omega) ho hs (by omega) he2
  -- what is scattered
  have h25 : ∃ G : Nat → Int, (∀ w base B b, RowAt w base B n f → base ≤ w.heap.size → IntsAt w A' n' fr → (0 < n' → ∀ b o, A' = some ⟨b, o, none⟩ → b < base) → Calls Try.prog 25 #[.slice B n b, .slice A' n' c', .int .i64 off, .int .i64 st] w fun z w' => z = .returned (.int .i64 e2) ∧ IntsAt w' B n G ∧ Below base w w') ∧
      (∀ y, y < n → (e2 = 0 ∧ hit off st n' y ∧ G y = fr (((y : Int) - off) / st).toNat) ∨ (¬ (e2 = 0 ∧ hit off st n' y) ∧ G y = f y)) ∧ (e2 = 0 → 0 ≤ off ∧ 1 ≤ st) := by
    by_cases h0 : e2 = 0
    · subst h0
      cases he2 with
      | ok h1 h2 h3 h =>
        refine ⟨scat f fr off st n', fun w base B b hr hb hfr hd => ?_, fun y hy => ?_, fun _ => ⟨h1, h3⟩⟩
        · by_cases hn0 : n = 0
          · subst hn0
            have := fits_le h h1 h3 (by omega)
            obtain rfl : n' = 0 := by omega
            exact (Scatter_nil B 0 b A' c' off st w hn h1 h3 hs).mono fun z w' ⟨e, e2⟩ => by subst e2; exact ⟨e, IntsAt.nil _ _ _, Below.refl _ _⟩
          · obtain ⟨b1, hb1, rfl, hr1⟩ := hr.resolve_left hn0
            exact (Scatter_ok b1 n b A' n' c' off st f fr w hr1 hfr (fun h b' o e => by have := hd h b' o e; omega) hn h1 h3 hs h).mono fun z w' ⟨e, e2, e3⟩ => ⟨e, e2.ints, e3.below hb1 hb⟩
        · by_cases hh : hit off st n' y
          · exact .inl ⟨rfl, hh, by unfold scat; rw [if_pos hh]⟩
          · exact .inr ⟨fun h => hh h.2, by unfold scat; rw [if_neg hh]⟩
    · exact ⟨f, fun w base B b hr hb hfr hd => (Scatter_no B A' n b n' c' off st e2 w hn hn' hs he2 h0).mono fun z w' ⟨e, e2⟩ => by subst e2; exact ⟨e, hr.ints, Below.refl _ _⟩, fun y hy => .inr ⟨fun h => h0 h.1, rfl⟩, fun h => absurd h h0⟩
  obtain ⟨G, h25, hG, hok⟩ := h25
  by_cases h0 : e1 = 0
  · subst h0
    cases he1 with
    | ok h1 h2 h3 h =>
      obtain ⟨m, hm⟩ := Int.eq_ofNat_of_zero_le h2
      have h' : Fits n off st m := by rw [← hm]; exact h
      have hmn := fits_le h' h1 h3 (by omega)
      exact strides_ok A A' n c n' c' m off st cnt cnt' e2 f fr G w hA hA' hc hn hn' hq h23 (fun w hw => by
          rw [hm]
          exact (Gather_ok A n c m off st f w hw hn h1 h3 hs h').mono fun z w' ⟨b, e, _, e3, e4⟩ => ⟨_, _, e, e3.ints, e4⟩)
        (by rw [bne_eq_false_iff_eq, hm]) (fun k hk => ⟨h1, fits_at h' h1 h3 hk⟩) (by omega) h23' h25 hG hok
  · exact strides_no A A' n c n' c' 0 off st cnt cnt' e1 e2 f fr G w hA hA' hc hn hn' hq h23 (fun w hw => (Gather_no A n c off st cnt' e1 w hn hs hcn' he1 h0).mono fun z w' ⟨e, e2⟩ => by subst e2; exact ⟨none, 0, e, IntsAt.nil _ _ _, Below.refl _ _⟩)
      (by rw [bne_iff_ne]; exact h0) (by simpa using h0) rfl (fun k hk => by omega) (by omega) h23' h25 hG hok
end Go.Proofs.Ytkjnlgbpfpkjhaa
