/- The contracts of Gather and Scatter. -/
import Derived.Test.YtkjnlgbpfpkjhaaB10
import Derived.Test.YtkjnlgbpfpkjhaaB17
import Derived.Test.YtkjnlgbpfpkjhaaB19
set_option linter.unusedSimpArgs false
set_option linter.unusedVariables false
namespace Go.Proofs.Ytkjnlgbpfpkjhaa
open Go.RowKit

set_option maxRecDepth 100000 in
theorem Gather_no (A : Option Addr) (n c : Nat) (off st cnt e : Int) (w : World) (hn : n ≤ 17592186044416) (hs : st ≤ 9223372036854775807) (hcn : cnt ≤ 9223372036854775807) (h : Str n off st cnt e) (he : e ≠ 0) :
    Calls Try.prog 24 #[.slice A n c, .int .i64 off, .int .i64 st, .int .i64 cnt] w fun z w' => z = .returned (.tuple #[.slice none 0 0, .int .i64 e]) ∧ w = w' := by
  have HP := Lib.hid (strided_any n off st cnt e w (by omega) (by omega) hs hcn h)
  have h0 : (e != 0) = true := by rw [bne_iff_ne]; exact he
  clear h he
  go_enter Try.func24, Try.ntmps24
  go_wp2_with fail
  refine HP.out.mono ?_
  rintro z w' ⟨rfl, rfl⟩
  go_wp2
  go_ret2
  exact ⟨rfl, rfl⟩

/-- A place of the stride lies within. -/
theorem fits_at {n off st : Int} {m k : Nat} (h : Fits n off st m) (h1 : 0 ≤ off) (h3 : 1 ≤ st) (hk : k < m) : 0 ≤ (k : Int) * st ∧ off + (k : Int) * st < n := by
  have a : (k : Int) * st ≤ ((m : Int) - 1) * st := Int.mul_le_mul_of_nonneg_right (by omega) (by omega)
  have b : 0 ≤ (k : Int) * st := Int.mul_nonneg (by omega) (by omega)
  rcases h with h | h
  · omega
  · exact ⟨b, by omega⟩
theorem fits_le {n off st : Int} {m : Nat} (h : Fits n off st m) (h1 : 0 ≤ off) (h3 : 1 ≤ st) (hn : 0 ≤ n) : (m : Int) ≤ n := by
  by_cases h0 : m = 0
  · omega
  · obtain ⟨a, b⟩ := fits_at h h1 h3 (show m - 1 < m by omega)
    have : ((m - 1 : Nat) : Int) * 1 ≤ ((m - 1 : Nat) : Int) * st := Int.mul_le_mul_of_nonneg_left h3 (by omega)
    omega

/-- Every st-th from off on. -/
def gath (f : Nat → Int) (off st : Int) : Nat → Int := fun k => f (off + (k : Int) * st).toNat

set_option maxRecDepth 100000 in
set_option maxHeartbeats 1000000 in
theorem Gather_ok (A : Option Addr) (n c m : Nat) (off st : Int) (f : Nat → Int) (w : World) (hA : IntsAt w A n f) (hn : n ≤ 17592186044416) (h1 : 0 ≤ off) (h3 : 1 ≤ st) (hs : st ≤ 9223372036854775807) (h : Fits n off st m) :
    Calls Try.prog 24 #[.slice A n c, .int .i64 off, .int .i64 st, .int .i64 m] w fun z w' => ∃ b, z = .returned (.tuple #[.slice (some ⟨b, 0, none⟩) m m, .int .i64 0]) ∧ (w.heap.size ≤ b ∧ b < w'.heap.size) ∧ Row w' b m (gath f off st) ∧ Below w.heap.size w w' := by
  have hm := fits_le h h1 h3 (by omega)
  have HP := Lib.hid (strided_any n off st m 0 w (by omega) (by omega) hs (by omega) (.ok h1 (by omega) h3 h))
  have hmk := mk22 m (by omega)
  have HA := Lib.hid hA
  have H := Lib.hid h
  clear hA h
  go_enter Try.func24, Try.ntmps24
  go_wp2_with fail
  refine HP.out.mono ?_
  rintro z w' ⟨rfl, rfl⟩
  go_wp2
  go_loopw [12, 26] (fun q i wr => ∃ k : Nat, k ≤ m ∧ i = .int .i64 k ∧ Hid (Row wr w.heap.size m (fun x => if x < k then gath f off st x else 0)) ∧ Hid (w.heap.size < wr.heap.size) ∧ Hid (Below w.heap.size w wr)) (fun _ i _ => m - (intOf i).toNat)
  case atStart => exact ⟨0, by omega, rfl, Lib.hid ((zs_row m w).congr fun i hi => by simp), Lib.hid (by simp), Lib.hid ((Below.refl _ w).alloc (Nat.le_refl _) _)⟩
  case round =>
    obtain ⟨k, hk, rfl, hr, hsz, hb⟩ := hrel
    by_cases hlt : k < m
    · obtain ⟨a1, a2⟩ := fits_at H.out h1 h3 hlt
      obtain ⟨y, hy⟩ : ∃ y : Nat, (off + (k : Int) * st).toNat = y := ⟨_, rfl⟩
      have hyn : y < n := by omega
      obtain ⟨b, o, rfl, hc⟩ := HA.out.keep hb.out y hyn
      obtain ⟨r1, r2⟩ := hr.out k hlt
      have HV : Hid (f y = gath f off st k) := Lib.hid (by unfold gath; rw [hy])
      have HS : Hid (Row (_ : World) w.heap.size m (fun x => if x < k + 1 then gath f off st x else 0)) := Lib.hid ((hr.out.set hlt (f y)).congr fun i hi => by
        unfold upd
        by_cases e : i = k
        · rw [if_pos e, if_pos (by omega), e]; exact HV.out
        · rw [if_neg e]
          by_cases e2 : i < k
          · simp [e2, show i < k + 1 from by omega]
          · simp [e2, show ¬ i < k + 1 from by omega])
      have HB2 := Lib.hid (hb.out.setCell (p := ⟨w.heap.size, k, none⟩) (Nat.le_refl _) (.int .i64 (f y)))
      have HZ2 : Hid (w.heap.size < ((_ : World).setCell ⟨w.heap.size, k, none⟩ (.int .i64 (f y))).heap.size) := Lib.hid (by simpa using hsz.out)
      have hki : (k : Int) < m := by omega
      go_wp2
      go_roundw
      case rel => exact ⟨k + 1, by omega, by go_num, HS, HZ2, HB2⟩
      case measure => simp [intOf]; omega
    · obtain rfl : k = m := by omega
      have HR : Hid (Row wr w.heap.size k (gath f off st)) := Lib.hid (hr.out.congr fun i hi => by simp [hi])
      go_wp2
      go_ret2
      exact ⟨_, rfl, ⟨Nat.le_refl _, hsz.out⟩, HR.out, hb.out⟩

set_option maxRecDepth 100000 in
theorem Scatter_no (A A' : Option Addr) (n c n' c' : Nat) (off st e : Int) (w : World) (hn : n ≤ 17592186044416) (hn' : n' ≤ 17592186044416) (hs : st ≤ 9223372036854775807) (h : Str n off st n' e) (he : e ≠ 0) :
    Calls Try.prog 25 #[.slice A n c, .slice A' n' c', .int .i64 off, .int .i64 st] w fun z w' => z = .returned (.int .i64 e) ∧ w = w' := by
  have HP := Lib.hid (strided_any n off st n' e w (by omega) (by omega) hs (by omega) h)
  have h0 : (e != 0) = true := by rw [bne_iff_ne]; exact he
  clear h he
  go_enter Try.func25, Try.ntmps25
  go_wp2_with fail
  refine HP.out.mono ?_
  rintro z w' ⟨rfl, rfl⟩
  go_wp2
  go_ret
  exact ⟨rfl, rfl⟩

/-- Is a place one of the first m of the stride? -/
def hit (off st : Int) (m : Nat) (y : Nat) : Prop := off ≤ y ∧ ((y : Int) - off) % st = 0 ∧ ((y : Int) - off) / st < m
instance (off st : Int) (m y : Nat) : Decidable (hit off st m y) := by unfold hit; infer_instance
/-- What is scattered. -/
def scat (g f : Nat → Int) (off st : Int) (m : Nat) : Nat → Int := fun y => if hit off st m y then f (((y : Int) - off) / st).toNat else g y

theorem hit_at {off st : Int} {m k y : Nat} (h3 : 1 ≤ st) (hy : (y : Int) = off + (k : Int) * st) : (hit off st m y ↔ k < m) ∧ ((y : Int) - off) / st = k := by
  have e : (y : Int) - off = (k : Int) * st := by omega
  have e1 : ((k : Int) * st) % st = 0 := Int.mul_emod_left _ _
  have e2 : ((k : Int) * st) / st = k := Int.mul_ediv_cancel _ (by omega)
  have b : 0 ≤ (k : Int) * st := Int.mul_nonneg (by omega) (by omega)
  unfold hit
  rw [e, e1, e2]
  exact ⟨⟨fun h => by omega, fun h => ⟨by omega, rfl, by omega⟩⟩, rfl⟩
theorem hit_not {off st : Int} {k y : Nat} (h3 : 1 ≤ st) (hy : ¬ (y : Int) = off + (k : Int) * st) : hit off st (k + 1) y ↔ hit off st k y := by
  unfold hit
  constructor
  · rintro ⟨a, b, c⟩
    refine ⟨a, b, ?_⟩
    have hd := Int.mul_ediv_add_emod ((y : Int) - off) st
    rw [b] at hd
    by_cases e : ((y : Int) - off) / st = k
    · exfalso
      apply hy
      rw [e, Int.mul_comm] at hd
      omega
    · omega
  · rintro ⟨a, b, c⟩
    exact ⟨a, b, by omega⟩

theorem scat_step {g f : Nat → Int} {off st : Int} {k y : Nat} (h3 : 1 ≤ st) (hy : (y : Int) = off + (k : Int) * st) (i : Nat) : upd (scat g f off st k) y (f k) i = scat g f off st (k + 1) i := by
  unfold upd
  by_cases e : i = y
  · rw [if_pos e]
    subst e
    unfold scat
    obtain ⟨a, b⟩ := hit_at (m := k + 1) h3 hy
    rw [if_pos (a.2 (by omega)), b]
    simp
  · rw [if_neg e]
    unfold scat
    have hn : ¬ (i : Int) = off + (k : Int) * st := fun h => e (by omega)
    by_cases hh : hit off st k i
    · rw [if_pos hh, if_pos ((hit_not h3 hn).2 hh)]
    · rw [if_neg hh, if_neg (fun h => hh ((hit_not h3 hn).1 h))]

theorem scat_zero (g f : Nat → Int) (off st : Int) (h3 : 1 ≤ st) (y : Nat) : scat g f off st 0 y = g y := by
  unfold scat
  rw [if_neg]
  rintro ⟨a, b, c⟩
  have := Int.ediv_nonneg (show 0 ≤ (y : Int) - off by omega) (show 0 ≤ st by omega)
  omega

set_option maxRecDepth 100000 in
set_option maxHeartbeats 1000000 in
theorem Scatter_ok (b n c : Nat) (A' : Option Addr) (m c' : Nat) (off st : Int) (g f : Nat → Int) (w : World) (hA : Row w b n g) (hA' : IntsAt w A' m f) (hd : 0 < m → ∀ b' o, A' = some ⟨b', o, none⟩ → b' ≠ b) (hn : n ≤ 17592186044416) (h1 : 0 ≤ off) (h3 : 1 ≤ st) (hs : st ≤ 9223372036854775807) (h : Fits n off st m) :
    Calls Try.prog 25 #[.slice (some ⟨b, 0, none⟩) n c, .slice A' m c', .int .i64 off, .int .i64 st] w fun z w' => z = .returned (.int .i64 0) ∧ Row w' b n (scat g f off st m) ∧ OnlyB b w w' := by
  have hm := fits_le h h1 h3 (by omega)
  have HP := Lib.hid (strided_any n off st m 0 w (by omega) (by omega) hs (by omega) (.ok h1 (by omega) h3 h))
  have HA := Lib.hid hA
  have HA' := Lib.hid hA'
  have HD := Lib.hid hd
  have H := Lib.hid h
  clear hA hA' h hd
  go_enter Try.func25, Try.ntmps25
  go_wp2_with fail
  refine HP.out.mono ?_
  rintro z w' ⟨rfl, rfl⟩
  go_wp2
  go_loopw [10, 11, 24] (fun q r i wr => ∃ k : Nat, k ≤ m ∧ i = .int .i64 k ∧ Hid (Row wr b n (scat g f off st k)) ∧ Hid (OnlyB b w wr)) (fun _ _ i _ => m - (intOf i).toNat)
  case atStart => exact ⟨0, by omega, rfl, Lib.hid (HA.out.congr fun i hi => (scat_zero g f off st h3 i).symm), Lib.hid (OnlyB.refl _ _)⟩
  case round =>
    obtain ⟨k, hk, rfl, hr, ho⟩ := hrel
    by_cases hlt : k < m
    · obtain ⟨a1, a2⟩ := fits_at H.out h1 h3 hlt
      obtain ⟨y, hy⟩ := Int.eq_ofNat_of_zero_le (show 0 ≤ off + (k : Int) * st by omega)
      have hyn : y < n := by omega
      have hty : (off + (k : Int) * st).toNat = y := by omega
      obtain ⟨b', o, rfl, hc⟩ := HA'.out.only' ho.out HD.out k hlt
      obtain ⟨r1, r2⟩ := hr.out y hyn
      have HS : Hid (Row (_ : World) b n (scat g f off st (k + 1))) := Lib.hid ((hr.out.set hyn (f k)).congr fun i hi => scat_step h3 hy.symm i)
      have HO2 := Lib.hid (ho.out.setCell y none (.int .i64 (f k)))
      have hki : (k : Int) < m := by omega
      clear hy
      go_wp2
      go_roundw
      case rel => exact ⟨k + 1, by omega, by go_num, HS, HO2⟩
      case measure => simp [intOf]; omega
    · obtain rfl : k = m := by omega
      go_wp2
      go_ret
      exact ⟨rfl, hr.out, ho.out⟩

set_option maxRecDepth 100000 in
theorem Scatter_nil (A : Option Addr) (n c : Nat) (A' : Option Addr) (c' : Nat) (off st : Int) (w : World) (hn : n ≤ 17592186044416) (h1 : 0 ≤ off) (h3 : 1 ≤ st) (hs : st ≤ 9223372036854775807) :
    Calls Try.prog 25 #[.slice A n c, .slice A' 0 c', .int .i64 off, .int .i64 st] w fun z w' => z = .returned (.int .i64 0) ∧ w = w' := by
  have HP := Lib.hid (strided_any n off st 0 0 w (by omega) (by omega) hs (by omega) (.ok h1 (by omega) h3 (.inl rfl)))
  go_enter Try.func25, Try.ntmps25
  go_wp2_with fail
  refine HP.out.mono ?_
  rintro z w' ⟨rfl, rfl⟩
  go_wp2
  go_loop [10, 11, 24] (fun q r i => i = .int .i64 0) (fun _ _ _ => 0)
  case atStart => rfl
  case round =>
    obtain rfl := hrel
    go_wp2
    go_ret
    exact ⟨rfl, rfl⟩
end Go.Proofs.Ytkjnlgbpfpkjhaa
