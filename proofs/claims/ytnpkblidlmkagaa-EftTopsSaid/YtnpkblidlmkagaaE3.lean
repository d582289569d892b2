/- The contract of Top. -/
import Derived.Test.YtnpkblidlmkagaaE1
import Derived.Test.YtnpkblidlmkagaaE2
set_option linter.unusedSimpArgs false
set_option linter.unusedVariables false
namespace Go.Proofs.Ytnpkblidlmkagaa
open Go.RowKit Fl

/-- What both tell: the least power of two above all. -/
def TopIs (f : Nat → Nat) (n : Nat) (K : Int) (ok : Bool) : Prop :=
  (ok = false ∧ K = 0 ∧ ∃ i, i < n ∧ finB (f i) = false) ∨
  (ok = true ∧ (∀ i, i < n → Fnt (f i)) ∧ ∃ E : Nat, (E : Int) = K + 1074 ∧ E ≤ 2098 ∧ (∀ i, i < n → (iv (f i)).natAbs < 2 ^ E) ∧ (E = 0 ∨ ∃ i, i < n ∧ 2 ^ (E - 1) ≤ (iv (f i)).natAbs))

theorem finB_of_fnt {x : Nat} (h : Fnt x) : finB x = true := finB_fnt h

theorem TopIs.same {f : Nat → Nat} {n : Nat} {K L : Int} {a b : Bool} (h : TopIs f n K a) (g : TopIs f n L b) : K = L ∧ a = b := by
  have aux : ∀ {K L : Int} {E F : Nat}, (E : Int) = K + 1074 → (F : Int) = L + 1074 → (∀ i, i < n → (iv (f i)).natAbs < 2 ^ E) → (F = 0 ∨ ∃ i, i < n ∧ 2 ^ (F - 1) ≤ (iv (f i)).natAbs) → L ≤ K := by
    intro K L E F h1 h2 h3 h4
    rcases h4 with h4 | ⟨i, hi, h4⟩
    · omega
    · have := h3 i hi
      have : F - 1 < E := pow_lt_inv (Nat.lt_of_le_of_lt h4 this)
      omega
  rcases h with ⟨rfl, rfl, i, hi, hf⟩ | ⟨rfl, hF, E, e1, e2, e3, e4⟩
  · rcases g with ⟨rfl, rfl, _⟩ | ⟨rfl, gF, _⟩
    · exact ⟨rfl, rfl⟩
    · rw [finB_fnt (gF i hi)] at hf; cases hf
  · rcases g with ⟨rfl, rfl, i, hi, hf⟩ | ⟨rfl, gF, F, f1, f2, f3, f4⟩
    · rw [finB_fnt (hF i hi)] at hf; cases hf
    · have a := aux e1 f1 e3 f4
      have b := aux f1 e1 f3 e4
      exact ⟨by omega, rfl⟩

theorem nan_fnt {x : Nat} (fx : Fnt x) : (FloatKind.f64.format.order x x != some Ordering.eq) = false := by
  show (D.order x x != some .eq) = false
  have : (D.order x x == some .eq) = true := by rw [(order_bool fx fx).1]; simp
  simp only [bne, this]; rfl

theorem inf_fnt {x : Nat} (fx : Fnt x) : (FloatKind.f64.format.order (fabs x) 9218868437227405311 == some Ordering.gt) = false := by
  obtain ⟨F, hF, vm⟩ := iv_max
  have oa := order_bool (fabs_fnt fx) fnt_max
  rw [iv_fabs fx, vm] at oa
  show (D.order (fabs x) _ == some .gt) = false
  rw [oa.2.2]
  have h9 : ((9007199254740991 * 2 ^ F : Nat) : Int) = 9007199254740991 * 2 ^ F := by rw [Int.natCast_mul, Int.natCast_pow]; rfl
  rw [← h9]
  apply decide_eq_false
  obtain ⟨e1, e2, e3, e4, e5⟩ := iv_parts fx
  have h0 := iv_abs fx
  have h1 : (2 : Nat) ^ (pe x + 1074).toNat ≤ 2 ^ F := pow_mono (by omega)
  have h2 : (pm x).natAbs * 2 ^ (pe x + 1074).toNat ≤ (pm x).natAbs * 2 ^ F := Nat.mul_le_mul_left _ h1
  have h3 : (pm x).natAbs * 2 ^ F ≤ 9007199254740991 * 2 ^ F := Nat.mul_le_mul_right _ (by omega)
  omega

theorem nf_cases {x : Nat} (hx : x < 2 ^ 64) (hf : finB x = false) : (FloatKind.f64.format.order x x != some Ordering.eq) = true ∨ (FloatKind.f64.format.order (fabs x) 9218868437227405311 == some Ordering.gt) = true := by
  have he : x / 2 ^ 52 % 2048 = 2047 := by unfold finB at hf; simpa using hf
  have hn := order_nf hx hf fnt_max
  show (D.order x x != some .eq) = true ∨ (D.order (fabs x) 9218868437227405311 == some .gt) = true
  rcases hn with h | h
  · left
    unfold Ieee.Format.order at h ⊢
    obtain ⟨s, m, k, h1, _⟩ := read_fin fnt_max
    rw [h1] at h
    have h2 : fabs x < 2 ^ 63 := by unfold fabs; omega
    have h3 : 2047 * 2 ^ 52 ≤ fabs x := by unfold fabs; omega
    have h4 : x % 2 ^ 63 = fabs x := by unfold fabs; rfl
    have h5 : fabs x % 2 ^ 63 = fabs x := Nat.mod_eq_of_lt h2
    unfold Ieee.Format.read at h ⊢
    rw [D_least, D_binade, D_sign, D_inf] at h ⊢
    simp only [h4, h5] at h ⊢
    rw [if_neg (by omega), if_neg (by omega)] at h ⊢
    by_cases hi : fabs x = 2047 * 2 ^ 52
    · rw [if_pos hi] at h
      simp only [Ieee.Datum.order] at h
      split at h <;> cases h
    · rw [if_neg hi]
      simp only [Ieee.Datum.order]
      rfl
  · right
    rw [h]; rfl

/-- The greater of a float and another's magnitude. -/
theorem fmax_spec {m x : Nat} (fm : Fnt m) (fx : Fnt x) (h0 : 0 ≤ iv m) : ∃ r, fmaxF m (fabs x) = some r ∧ Fnt r ∧ 0 ≤ iv r ∧ iv m ≤ iv r ∧ ((iv x).natAbs : Int) ≤ iv r ∧ (iv r = iv m ∨ iv r = ((iv x).natAbs : Int)) := by
  have ho := order_spec fm (fabs_fnt fx)
  have ha := iv_fabs fx
  unfold fmaxF
  rw [ho]
  rcases Int.lt_trichotomy (iv m) (iv (fabs x)) with h | h | h
  · rw [Int.compare_eq_lt.2 h]
    exact ⟨_, rfl, fabs_fnt fx, by omega, by omega, by omega, .inr ha⟩
  · rw [Int.compare_eq_eq.2 h]
    refine ⟨_, rfl, ?_⟩
    split
    · exact ⟨fabs_fnt fx, by omega, by omega, by omega, .inr ha⟩
    · exact ⟨fm, by omega, by omega, by omega, .inl rfl⟩
  · rw [Int.compare_eq_gt.2 h]
    exact ⟨_, rfl, fm, by omega, by omega, by omega, .inl rfl⟩

/-- The greatest magnitude of the first k. -/
structure MostIs (f : Nat → Nat) (k m : Nat) : Prop where
  fm : Fnt m
  all : ∀ i, i < k → Fnt (f i) ∧ ((iv (f i)).natAbs : Int) ≤ iv m
  is : iv m = 0 ∨ ∃ i, i < k ∧ ((iv (f i)).natAbs : Int) = iv m

theorem MostIs.nonneg {f : Nat → Nat} {k m : Nat} (h : MostIs f k m) : 0 ≤ iv m := by
  rcases h.is with h | ⟨i, _, h⟩ <;> omega

theorem MostIs.step {f : Nat → Nat} {k m : Nat} (h : MostIs f k m) (fx : Fnt (f k)) : ∃ r, fmaxF m (fabs (f k)) = some r ∧ MostIs f (k + 1) r := by
  obtain ⟨r, h1, h2, h3, h4, h5, h6⟩ := fmax_spec h.fm fx h.nonneg
  refine ⟨r, h1, h2, fun i hi => ?_, ?_⟩
  · rcases (show i < k ∨ i = k by omega) with g | rfl
    · exact ⟨(h.all i g).1, by have := (h.all i g).2; omega⟩
    · exact ⟨fx, h5⟩
  · rcases h6 with g | g
    · rcases h.is with e | ⟨i, hi, e⟩
      · left; omega
      · right; exact ⟨i, by omega, by omega⟩
    · right; exact ⟨k, by omega, g.symm⟩

set_option maxRecDepth 100000 in
set_option maxHeartbeats 2000000 in
theorem top58_any (A : Option Addr) (n c : Nat) (f : Nat → Nat) (w : World) (hA : FltsAt w A n f) (hn : n ≤ 1000) (hf : ∀ i, i < n → f i < 2 ^ 64) :
    Calls Try.prog 58 #[.slice A n c] w fun z w' => ∃ r : Int × Bool, z = .returned (.tuple #[.int .i64 r.1, .bool r.2]) ∧ TopIs f n r.1 r.2 ∧ w = w' := by
  have HA := Lib.hid hA
  have HF := Lib.hid hf
  clear hA hf
  go_enter Try.func58, Try.ntmps58
  go_wp2
  go_loopw [4, 6, 11] (fun m a i wr => ∃ k x : Nat, k ≤ n ∧ i = .int .i64 k ∧ m = .float .f64 x ∧ Hid (MostIs f k x) ∧ Hid (w = wr)) (fun _ _ i _ => n - (intOf i).toNat)
  case atStart => exact ⟨0, 0, by omega, rfl, rfl, Lib.hid ⟨fnt_zero, fun i hi => by omega, .inl iv_zero⟩, Lib.hid rfl⟩
  case round =>
    obtain ⟨k, x, hk, rfl, rfl, hm, hw⟩ := hrel
    obtain rfl := hw.out
    by_cases hlt : k < n
    · obtain ⟨b, o, rfl, hc⟩ := HA.out k hlt
      obtain ⟨y, hy⟩ : ∃ y, f k = y := ⟨_, rfl⟩
      have hyl : y < 2 ^ 64 := by rw [← hy]; exact HF.out k hlt
      rw [hy] at hc
      have HY := Lib.hid hy
      have HYL := Lib.hid hyl
      clear hy hyl
      by_cases hfin : finB y = true
      · have fy := fnt_of_finB HYL.out hfin
        obtain ⟨r, hr, hm'⟩ := MostIs.step hm.out (by rw [HY.out]; exact fy)
        rw [HY.out] at hr
        have HM' := Lib.hid hm'
        have n1 := Lib.hid (fun w => isnan_any y false w (nan_fnt fy))
        have i1 := Lib.hid (fun w => isinf_any y false w fy.1 (inf_fnt fy))
        have a1 := Lib.hid (fun w => abs_any y w fy.1)
        have m1 : ∀ ts t w, (Builtin.max_ ts t #[.float .f64 x, .float .f64 (fabs y)]).run Try.prog w = .ok (.float .f64 r) w := fun ts t w => run_max_float w ts t _ _ _ hr
        clear hm' hr fy
        go_wp2_with fail
        refine (n1.out _).mono ?_
        rintro z w' ⟨rfl, rfl⟩
        go_wp2_with fail
        refine (i1.out _).mono ?_
        rintro z w' ⟨rfl, rfl⟩
        go_wp2_with fail
        refine (a1.out _).mono ?_
        rintro z w' ⟨rfl, rfl⟩
        go_wp2_with (first | simp only [m1] | fail)
        exact ⟨⟨k + 1, r, by omega, by go_num, rfl, HM', Lib.hid trivial⟩, by simp [intOf]; omega⟩
      · have hfin' : finB y = false := by simpa using hfin
        have bad : TopIs f n 0 false := .inl ⟨rfl, rfl, k, hlt, by rw [HY.out]; exact hfin'⟩
        have BAD := Lib.hid bad
        obtain ⟨v, hv⟩ : ∃ v, (FloatKind.f64.format.order y y != some Ordering.eq) = v := ⟨_, rfl⟩
        have n1 := Lib.hid (fun w => isnan_any y v w hv)
        cases v
        · have i1 := Lib.hid (fun w => isinf_any y true w HYL.out (by
            rcases nf_cases HYL.out hfin' with h | h
            · rw [h] at hv; cases hv
            · exact h))
          clear hv bad
          go_wp2_with fail
          refine (n1.out _).mono ?_
          rintro z w' ⟨rfl, rfl⟩
          go_wp2_with fail
          refine (i1.out _).mono ?_
          rintro z w' ⟨rfl, rfl⟩
          go_wp2_with fail
          go_ret2
          exact ⟨(0, false), rfl, BAD.out, rfl⟩
        · clear hv bad
          go_wp2_with fail
          refine (n1.out _).mono ?_
          rintro z w' ⟨rfl, rfl⟩
          go_wp2_with fail
          go_ret2
          exact ⟨(0, false), rfl, BAD.out, rfl⟩
    · obtain rfl : k = n := by omega
      have hm0 := hm.out.nonneg
      have ob := (order_bool hm.out.fm fnt_zero).1
      rw [iv_zero] at ob
      by_cases h0 : iv x = 0
      · have good : TopIs f k (-1074) true := .inr ⟨rfl, fun i hi => (hm.out.all i hi).1, 0, by omega, by omega, fun i hi => by have := (hm.out.all i hi).2; rw [Nat.pow_zero]; omega, .inl rfl⟩
        have GOOD := Lib.hid good
        have z0 : (FloatKind.f64.format.order x 0 == some Ordering.eq) = true := by
          show (D.order x 0 == some .eq) = true
          rw [ob]; simpa using h0
        clear good ob h0 hm0
        go_wp2_with fail
        go_ret2
        first | exact ⟨(-1074, true), rfl, GOOD.out, rfl⟩ | exact ⟨-1074, .inr ⟨rfl, GOOD.out, rfl⟩⟩
      · obtain ⟨K, E, hK, e1, e2, e3, e4, e5⟩ := frexp_top hm.out.fm (by omega)
        have good : TopIs f k K true := .inr ⟨rfl, fun i hi => (hm.out.all i hi).1, E, e1, e5, fun i hi => by have := (hm.out.all i hi).2; omega, .inr (by
          rcases hm.out.is with h | ⟨i, hi, h⟩
          · exact absurd h h0
          · exact ⟨i, hi, by omega⟩)⟩
        have GOOD := Lib.hid good
        have z0 : (FloatKind.f64.format.order x 0 == some Ordering.eq) = false := by
          show (D.order x 0 == some .eq) = false
          rw [ob]; simpa using h0
        have HK := Lib.hid hK
        clear good ob h0 hm0 e1 e2 e3 e4 e5 hK
        go_wp2_with fail
        refine (HK.out _).mono ?_
        rintro z w' ⟨r, rfl, rfl⟩
        go_wp2_with fail
        go_ret2
        exact ⟨(K, true), rfl, GOOD.out, rfl⟩

end Go.Proofs.Ytnpkblidlmkagaa
