/- The contracts of Times and Few. -/
import Derived.Test.YtnpkblidlmkagaaW12
set_option linter.unusedSimpArgs false
set_option linter.unusedVariables false
namespace Go.Proofs.Ytnpkblidlmkagaa
open Go.RowKit Fl

theorem i64_low27 (v : Int) : bits .and .i64 v 134217727 = v % 134217728 := by
  show IntKind.i64.wrap ((BitVec.ofInt 64 v &&& BitVec.ofInt 64 134217727).toNat : Int) = _
  rw [BitVec.toNat_and]
  have e1 : (BitVec.ofInt 64 134217727).toNat = 2 ^ 27 - 1 := by decide
  have e2 : ((BitVec.ofInt 64 v).toNat : Int) = v % 18446744073709551616 := by
    rw [BitVec.toNat_ofInt]; omega
  rw [e1, Nat.and_two_pow_sub_one_eq_mod, IntKind.wrap_i64]
  omega

theorem pieces (M N : Nat) (hM : M < 2 ^ 53) (hN : N < 2 ^ 53) (E : Nat) (v00 v01 v10 v11 : Nat) (h00 : v00 = M % 134217728 * (N % 134217728)) (h01 : v01 = M % 134217728 * (N / 134217728))
    (h10 : v10 = M / 134217728 * (N % 134217728)) (h11 : v11 = M / 134217728 * (N / 134217728)) :
    (v00 : Int) * 2 ^ E + (v01 : Int) * 2 ^ (E + 27) + (v10 : Int) * 2 ^ (E + 27) + (v11 : Int) * 2 ^ (E + 54) = (M : Int) * N * 2 ^ E := by
  have e27 : (2 : Int) ^ 27 = 134217728 := by decide
  have e54 : (2 : Int) ^ 54 = 134217728 * 134217728 := by decide
  have hm : (M : Int) = ((M % 134217728 : Nat) : Int) + ((M / 134217728 : Nat) : Int) * 134217728 := by omega
  have hn : (N : Int) = ((N % 134217728 : Nat) : Int) + ((N / 134217728 : Nat) : Int) * 134217728 := by omega
  rw [Int.pow_add, Int.pow_add, e27, e54, hm, hn, h00, h01, h10, h11]
  simp only [Int.natCast_mul]
  generalize ((M % 134217728 : Nat) : Int) = a
  generalize ((M / 134217728 : Nat) : Int) = b
  generalize ((N % 134217728 : Nat) : Int) = c
  generalize ((N / 134217728 : Nat) : Int) = d
  generalize (2 : Int) ^ E = P
  simp only [Int.add_mul, Int.mul_add, Int.mul_assoc, Int.mul_left_comm, Int.mul_comm]
  omega

theorem wrap_prod (a b v : Nat) (h : v = a * b) (hv : v < 18014398509481984) : IntKind.i64.wrap ((a : Int) * b) = (v : Int) := by
  rw [← Int.natCast_mul, ← h]
  exact IntWalk.i64_in _ (by omega)

/-- Times: the product is added (the exponents together not too small). -/
theorem times_val (b x y : Nat) (f : Nat → Int) (w : World) (hx : Fnt x) (hy : Fnt y) (hE : (pm x = 0 ∨ pm y = 0) ∨ (-1150 ≤ pe x + pe y ∧ pe x + pe y ≤ 1800)) (hl : Limbs w b f) (B : Nat) (hB : B ≤ 2 ^ 60) (hf : Bnd f B) :
    Calls Try.prog 63 #[.pointer (some ⟨b, 0, none⟩), .float .f64 x, .float .f64 y] w fun z w' => z = .returned (.tuple #[]) ∧
      ∃ g, Limbs w' b g ∧ Bnd g (B + 4 * 2 ^ 32) ∧ val g 110 = val f 110 + pm x * pm y * 2 ^ (pe x + pe y + 1200).toNat ∧ OnlyB b w w' := by
  obtain ⟨_, m1, m2, m3, m4⟩ := iv_parts hx
  obtain ⟨_, n1, n2, n3, n4⟩ := iv_parts hy
  have px := parts_any x w hx.1
  have py := parts_any y w hy.1
  generalize pm x = m at *
  generalize pe x = e at *
  generalize pm y = n at *
  generalize pe y = e' at *
  obtain ⟨M, hM⟩ : ∃ M, M = m.natAbs := ⟨_, rfl⟩
  obtain ⟨N, hN⟩ : ∃ N, N = n.natAbs := ⟨_, rfl⟩
  have hM2 : M < 9007199254740992 := by omega
  have hN2 : N < 9007199254740992 := by omega
  have a0 : bits BinOp.and IntKind.i64 (M : Int) 134217727 = ((M % 134217728 : Nat) : Int) := by rw [i64_low27]; omega
  have a1 : bits BinOp.and IntKind.i64 ((M : Int) / 134217728) 134217727 = ((M / 134217728 : Nat) : Int) := by rw [i64_low27]; omega
  have c0 : bits BinOp.and IntKind.i64 (N : Int) 134217727 = ((N % 134217728 : Nat) : Int) := by rw [i64_low27]; omega
  have c1 : bits BinOp.and IntKind.i64 ((N : Int) / 134217728) 134217727 = ((N / 134217728 : Nat) : Int) := by rw [i64_low27]; omega
  have hZ : ((M % 134217728 * (N % 134217728) = 0 ∧ M % 134217728 * (N / 134217728) = 0 ∧ M / 134217728 * (N % 134217728) = 0 ∧ M / 134217728 * (N / 134217728) = 0)) ∨ (-1150 ≤ e + e' ∧ e + e' ≤ 1800) := by
    rcases hE with (h | h) | h
    · left
      have : M = 0 := by rw [hM, h]; rfl
      subst this
      simp
    · left
      have : N = 0 := by rw [hN, h]; rfl
      subst this
      simp
    · exact .inr h
  have lt : ∀ p q : Nat, p < 134217728 → q < 134217728 → p * q < 18014398509481984 := fun p q h1 h2 => Nat.mul_lt_mul'' h1 h2
  have l00 := lt (M % 134217728) (N % 134217728) (by omega) (by omega)
  have l01 := lt (M % 134217728) (N / 134217728) (by omega) (by omega)
  have l10 := lt (M / 134217728) (N % 134217728) (by omega) (by omega)
  have l11 := lt (M / 134217728) (N / 134217728) (by omega) (by omega)
  obtain ⟨E, hEE⟩ : ∃ E : Nat, E = (e + e' + 1200).toNat := ⟨_, rfl⟩
  have fin : ∀ (s : Int) (g : Nat → Int), (s = 1 ∨ s = -1) → m * n = s * ((M : Int) * N) → val g 110 = val f 110 + s * ((M % 134217728 * (N % 134217728) : Nat) : Int) * 2 ^ (e + e' + 1200).toNat + s * ((M % 134217728 * (N / 134217728) : Nat) : Int) * 2 ^ (e + e' + 27 + 1200).toNat +
      s * ((M / 134217728 * (N % 134217728) : Nat) : Int) * 2 ^ (e + e' + 27 + 1200).toNat + s * ((M / 134217728 * (N / 134217728) : Nat) : Int) * 2 ^ (e + e' + 27 + 27 + 1200).toNat → val g 110 = val f 110 + m * n * 2 ^ (e + e' + 1200).toNat := by
    intro s g hs hmn hg
    rcases hE with (h | h) | h
    · have h0 : M = 0 := by rw [hM, h]; rfl
      rw [hg, h, h0]; simp
    · have h0 : N = 0 := by rw [hN, h]; rfl
      rw [hg, h, h0]; simp
    · have e1 : (e + e' + 27 + 1200).toNat = E + 27 := by omega
      have e2 : (e + e' + 27 + 27 + 1200).toNat = E + 54 := by omega
      have hp := pieces M N hM2 hN2 E _ _ _ _ rfl rfl rfl rfl
      rw [hg, hmn, e1, e2, ← hEE, Int.mul_assoc s ((M : Int) * N), ← hp]
      rcases hs with rfl | rfl
      · simp only [Int.one_mul]; omega
      · simp only [Int.neg_mul, Int.one_mul]; omega
  have FIN := Lib.hid fin
  clear fin hEE lt
  by_cases hm : m < 0
  · by_cases hn : n < 0
    · refine (times_nn b x y f w m n e e' M N _ _ _ _ _ _ _ _ px py (by omega) (by omega) (by omega) (by omega) hM2 hN2 a0 a1 c0 c1 (wrap_prod _ _ _ rfl l00) (wrap_prod _ _ _ rfl l01) (wrap_prod _ _ _ rfl l10) (wrap_prod _ _ _ rfl l11) l00 l01 l10 l11 m3 m4 n3 n4 hZ hl B hB hf).mono ?_
      rintro z w' ⟨rfl, g, g1, g2, g3, g4⟩
      refine ⟨rfl, g, g1, g2, FIN.out 1 g (.inl rfl) ?_ (by rw [g3]; simp only [Int.one_mul]), g4⟩
      rw [show m = -(M : Int) from by omega, show n = -(N : Int) from by omega]
      simp only [Int.neg_mul, Int.mul_neg, Int.neg_neg, Int.one_mul]
    · refine (times_np b x y f w m n e e' M N _ _ _ _ _ _ _ _ px py (by omega) (by omega) (by omega) hM2 hN2 a0 a1 c0 c1 (wrap_prod _ _ _ rfl l00) (wrap_prod _ _ _ rfl l01) (wrap_prod _ _ _ rfl l10) (wrap_prod _ _ _ rfl l11) l00 l01 l10 l11 m3 m4 n3 n4 hZ hl B hB hf).mono ?_
      rintro z w' ⟨rfl, g, g1, g2, g3, g4⟩
      refine ⟨rfl, g, g1, g2, FIN.out (-1) g (.inr rfl) ?_ (by rw [g3]; simp only [Int.neg_mul, Int.one_mul]), g4⟩
      rw [show m = -(M : Int) from by omega, show n = (N : Int) from by omega]
      simp only [Int.neg_mul, Int.one_mul]
  · by_cases hn : n < 0
    · refine (times_pn b x y f w m n e e' M N _ _ _ _ _ _ _ _ px py (by omega) (by omega) (by omega) hM2 hN2 a0 a1 c0 c1 (wrap_prod _ _ _ rfl l00) (wrap_prod _ _ _ rfl l01) (wrap_prod _ _ _ rfl l10) (wrap_prod _ _ _ rfl l11) l00 l01 l10 l11 m3 m4 n3 n4 hZ hl B hB hf).mono ?_
      rintro z w' ⟨rfl, g, g1, g2, g3, g4⟩
      refine ⟨rfl, g, g1, g2, FIN.out (-1) g (.inr rfl) ?_ (by rw [g3]; simp only [Int.neg_mul, Int.one_mul]), g4⟩
      rw [show m = (M : Int) from by omega, show n = -(N : Int) from by omega]
      simp only [Int.neg_mul, Int.mul_neg, Int.one_mul]
    · refine (times_pp b x y f w m n e e' M N _ _ _ _ _ _ _ _ px py (by omega) (by omega) hM2 hN2 a0 a1 c0 c1 (wrap_prod _ _ _ rfl l00) (wrap_prod _ _ _ rfl l01) (wrap_prod _ _ _ rfl l10) (wrap_prod _ _ _ rfl l11) l00 l01 l10 l11 m3 m4 n3 n4 hZ hl B hB hf).mono ?_
      rintro z w' ⟨rfl, g, g1, g2, g3, g4⟩
      refine ⟨rfl, g, g1, g2, FIN.out 1 g (.inl rfl) ?_ (by rw [g3]; simp only [Int.one_mul]), g4⟩
      rw [show m = (M : Int) from by omega, show n = (N : Int) from by omega]
      simp only [Int.one_mul]

/-- On the way: a small number times a power of two. -/
def FewAt (q : Nat) : Prop := ∃ c i : Nat, q = c * 2 ^ i ∧ c < 134217728
theorem FewAt.half {q : Nat} (h : FewAt q) (h2 : q % 2 = 0) : FewAt (q / 2) := by
  obtain ⟨c, i, hi, hc⟩ := h
  cases i with
  | zero => exact ⟨q / 2, 0, by simp, by simp at hi; omega⟩
  | succ i => exact ⟨c, i, by rw [hi, Nat.pow_succ, ← Nat.mul_assoc, Nat.mul_div_cancel _ (by decide)], hc⟩
theorem FewAt.odd {q : Nat} (h : FewAt q) (h2 : q % 2 = 1 ∨ q = 0) : q < 134217728 := by
  obtain ⟨c, i, hi, hc⟩ := h
  rcases h2 with h2 | h2
  · cases i with
    | zero => simp at hi; omega
    | succ i =>
      exfalso
      rw [hi, Nat.pow_succ, ← Nat.mul_assoc] at h2
      omega
  · omega

/-- Few: halved as long as it is even. -/
theorem few_any (x : Nat) (w : World) (hx : Fnt x) (hc : FewAt (pm x).natAbs) :
    Calls Try.prog 61 #[.float .f64 x] w fun z w' => z = .returned (.bool true) ∧ w = w' := by
  have hp := parts_any x w hx.1
  obtain ⟨_, m1, m2, m3, m4⟩ := iv_parts hx
  generalize pm x = m at *
  generalize pe x = e at *
  obtain ⟨M, hM⟩ : ∃ M, M = m.natAbs := ⟨_, rfl⟩
  have hM2 : M < 9007199254740992 := by omega
  rw [← hM] at hc
  have HP := Lib.hid hp
  have HC := Lib.hid hc
  clear hp hc m1 m2
  by_cases hn : m < 0
  · obtain rfl : m = -(M : Int) := by omega
    clear hM
    go_enter Try.func61, Try.ntmps61
    go_wp2_with fail
    refine HP.out.mono ?_
    rintro z w' ⟨rfl, rfl⟩
    go_wp2
    go_loop [3] (fun v => ∃ q : Nat, v = .int .i64 q ∧ q < 9007199254740992 ∧ FewAt q) (fun v => (intOf v).toNat)
    case atStart => exact ⟨M, by simp, hM2, HC.out⟩
    case round =>
      obtain ⟨q, rfl, hq, hfq⟩ := hrel
      have HQ := Lib.hid hfq
      clear hfq
      by_cases h0 : 0 < q
      · by_cases h2 : q % 2 = 0
        · have t2 : ((q : Int) % 2 == 0) = true := by simp; omega
          have h0' : (0 : Int) < q := by omega
          go_wp2
          go_round
          case rel => exact ⟨q / 2, by go_num, by omega, HQ.out.half h2⟩
          case measure => simp [intOf]; omega
        · have t2 : ((q : Int) % 2 == 0) = false := by simp; omega
          have h0' : (0 : Int) < q := by omega
          have hlt := HQ.out.odd (by omega)
          have hlt' : (q : Int) < 134217728 := by omega
          go_wp2
          go_ret
          exact ⟨rfl, rfl⟩
      · obtain rfl : q = 0 := by omega
        go_wp2
        go_ret
        exact ⟨rfl, rfl⟩

  · obtain rfl : m = (M : Int) := by omega
    clear hM
    go_enter Try.func61, Try.ntmps61
    go_wp2_with fail
    refine HP.out.mono ?_
    rintro z w' ⟨rfl, rfl⟩
    go_wp2
    go_loop [3] (fun v => ∃ q : Nat, v = .int .i64 q ∧ q < 9007199254740992 ∧ FewAt q) (fun v => (intOf v).toNat)
    case atStart => exact ⟨M, rfl, hM2, HC.out⟩
    case round =>
      obtain ⟨q, rfl, hq, hfq⟩ := hrel
      have HQ := Lib.hid hfq
      clear hfq
      by_cases h0 : 0 < q
      · by_cases h2 : q % 2 = 0
        · have t2 : ((q : Int) % 2 == 0) = true := by simp; omega
          have h0' : (0 : Int) < q := by omega
          go_wp2
          go_round
          case rel => exact ⟨q / 2, by go_num, by omega, HQ.out.half h2⟩
          case measure => simp [intOf]; omega
        · have t2 : ((q : Int) % 2 == 0) = false := by simp; omega
          have h0' : (0 : Int) < q := by omega
          have hlt := HQ.out.odd (by omega)
          have hlt' : (q : Int) < 134217728 := by omega
          go_wp2
          go_ret
          exact ⟨rfl, rfl⟩
      · obtain rfl : q = 0 := by omega
        go_wp2
        go_ret
        exact ⟨rfl, rfl⟩


end Go.Proofs.Ytnpkblidlmkagaa
