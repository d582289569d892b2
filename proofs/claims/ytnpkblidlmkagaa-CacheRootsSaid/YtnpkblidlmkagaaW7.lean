/- The contracts of the laws of layer 4: what the document fixes, fine, put. -/
import Derived.Test.YtnpkblidlmkagaaW6
set_option linter.unusedSimpArgs false
set_option linter.unusedVariables false
namespace Go.Proofs.Ytnpkblidlmkagaa
open Go.RowKit Fl

@[go_sem] theorem run_equalIn_float {P : Program} (w : World) (d : Nat) (t : TypeId) (k k' : FloatKind) (a b : Nat) (h : P.underlying t = some (.float k')) :
    (Op.equalIn (d + 1) t (.float k a) (.float k b)).run P w = .ok (k.format.order a b == some .eq) w := by
  simp [Op.equalIn, run_underlying h, Op.floatEq]

theorem t1 : sumF 4607182418800017408 4336966441157787648 = some (4607182418800017408, 4336966441157787648) := by kernel_rfl
theorem t2 : mulF (4607182418800017408, 4336966441157787648) (4607182418800017408, 4336966441157787648) = some (4607182418800017408, 4341470040785158144) := by kernel_rfl

theorem neat_any (x y r : Nat) (v : Bool) (w : World) (hf : fadd x y = some r) (hv : (D.order r x == some .eq) = v) :
    Calls Try.prog 76 #[.float .f64 x, .float .f64 y] w fun z w' => z = .returned (.bool v) ∧ w = w' := by
  replace hf := hadd hf
  go_enter Try.func76, Try.ntmps76
  go_wp2_with (first | simp only [hf] | fail)
  go_ret
  refine ⟨?_, rfl⟩
  rw [← hv]
  rfl

set_option maxRecDepth 100000 in
theorem wakes4_any (w : World) :
    Calls Try.prog 27 #[] w fun z w' => z = .returned (.bool true) ∧ Below w.heap.size w w' := by
  go_enter Try.func27, Try.ntmps27
  go_wp2_with fail
  refine (new_any _ _ _ _ _ t1).mono ?_
  rintro z w1 ⟨rfl, hb⟩
  have hz := hb.size
  go_wp2_with fail
  refine (mul_any _ _ _ _ _ _ _ t2).mono ?_
  rintro z w2 ⟨rfl, hb2⟩
  have T := Two.keep hb2 (b := w1.heap.size) (u := .float .f64 4607182418800017408) (v := .float .f64 4336966441157787648) ⟨by simp [go_sem], by simp [go_sem], by simp [go_sem], by simp [go_sem]⟩
  have hz2 := T.lt
  obtain ⟨r0, r1, f0, f1⟩ := T
  have B2 := ((hb.trans ((Below.refl _ w1).mono hz)).alloc hz _).trans (hb2.mono (by simp; omega))
  clear hb hb2
  have o1 : (FloatKind.f64.format.order 4607182418800017408 4607182418800017408 == some Ordering.eq) = true := by kernel_rfl
  have o2 : (FloatKind.f64.format.order 4336966441157787648 4336966441157787648 == some Ordering.eq) = true := by kernel_rfl
  have o3 : (FloatKind.f64.format.order 4341470040785158144 4341452448599113728 == some Ordering.gt) = true := by kernel_rfl
  have o4 : (FloatKind.f64.format.order 4341470040785158144 4341487632971202560 == some Ordering.lt) = true := by kernel_rfl
  go_wp2
  go_ret
  exact ⟨rfl, B2.alloc (by omega) _⟩

theorem finB_fnt {x : Nat} (h : Fnt x) : finB x = true := by
  have h1 := h.1
  have h2 := h.2
  unfold finB
  simp
  omega

/-- fine, of a number that is. -/
theorem fine_any (h l r : Nat) (w : World) (h1 : Fnt h) (h2 : Fnt l) (hf : fadd h l = some r) (hv : (D.order r h == some .eq) = true) :
    Calls Try.prog 28 #[num h l] w fun z w' => z = .returned (.bool true) ∧ Below w.heap.size w w' := by
  have c1 := fun w => finite_any h w h1.1
  have c2 := fun w => finite_any l w h2.1
  rw [finB_fnt h1] at c1
  rw [finB_fnt h2] at c2
  have C1 := Lib.hid c1
  have C2 := Lib.hid c2
  have HF := Lib.hid hf
  have HV := Lib.hid hv
  clear c1 c2 hf hv h1 h2
  go_enter Try.func28, Try.ntmps28
  go_wp2_with fail
  refine (C1.out _).mono ?_
  rintro z w' ⟨rfl, rfl⟩
  go_wp2_with fail
  refine (C2.out _).mono ?_
  rintro z w' ⟨rfl, rfl⟩
  go_wp2_with fail
  refine (neat_any _ _ _ _ _ HF.out HV.out).mono ?_
  rintro z w' ⟨rfl, rfl⟩
  go_wp2
  go_ret
  exact ⟨rfl, (Below.refl _ _).alloc (Nat.le_refl _) _⟩

/-- put: a number times a sign is added. -/
theorem lput_any (b h l s p q : Nat) (f : Nat → Int) (w : World) (h1 : fmul s h = some p) (h2 : fmul s l = some q) (hp : Fnt p) (hq : Fnt q) (hl : Limbs w b f) (B : Nat) (hB : B ≤ 2 ^ 60) (hf : Bnd f B) :
    Calls Try.prog 30 #[.pointer (some ⟨b, 0, none⟩), num h l, .float .f64 s] w fun z w' => z = .returned (.tuple #[]) ∧
      ∃ g, Limbs w' b g ∧ Bnd g (B + 2 * 2 ^ 32) ∧ val g 110 = val f 110 + (iv p + iv q) * 2 ^ 126 ∧ OnlyB b w w' := by
  replace h1 := hmul h1
  replace h2 := hmul h2
  have hlt := hl.lt
  have hl1 : Hid (Limbs (w.alloc (.cells #[.float .f64 h, .float .f64 l] 25)) b f) := Lib.hid (hl.alloc _)
  have T : Two (w.alloc (.cells #[.float .f64 h, .float .f64 l] 25)) w.heap.size (.float .f64 h) (.float .f64 l) := ⟨by simp [go_sem], by simp [go_sem], by simp [go_sem], by simp [go_sem]⟩
  have HT := Lib.hid T
  have HP := Lib.hid hp
  have HQ := Lib.hid hq
  have HF := Lib.hid hf
  clear T hp hq hf hl
  go_enter Try.func30, Try.ntmps30
  go_wp2_with (first | simp only [h1, h2] | fail)
  refine (ladd_any b p f _ HP.out hl1.out B (by omega) HF.out).mono ?_
  rintro z w1 ⟨rfl, g, g1, g2, g3, g4⟩
  have T1 := HT.out.only g4 (by omega)
  obtain ⟨r0, r1, f0, f1⟩ := T1
  have G1 := Lib.hid g1
  have G2 := Lib.hid g2
  have G3 := Lib.hid g3
  have G4 := Lib.hid g4
  clear g1 g2 g3 g4
  go_wp2_with (first | simp only [h1, h2] | fail)
  refine (ladd_any b q g _ HQ.out G1.out _ (by omega) G2.out).mono ?_
  rintro z w2 ⟨rfl, g', k1, k2, k3, k4⟩
  have K1 := Lib.hid k1
  have K2 := Lib.hid k2
  have K3 := Lib.hid k3
  have K4 := Lib.hid k4
  clear k1 k2 k3 k4
  go_wp2
  go_end0
  refine ⟨rfl, g', K1.out, ?_, ?_, (((OnlyB.refl b w).alloc _).trans G4.out).trans K4.out⟩
  · have := K2.out
    rwa [show B + 2 ^ 32 + 2 ^ 32 = B + 2 * 2 ^ 32 from by omega] at this
  · rw [K3.out, G3.out, Int.add_mul]; omega

end Go.Proofs.Ytnpkblidlmkagaa
