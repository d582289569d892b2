/- What layer 22's document fixes. -/
import Derived.Test.YtbobmhobaaeohaaMU1
import Derived.Test.YtbobmhobaaeohaaU7
import Derived.Test.YtbobmhobaaeohaaQ9
import Derived.Great.BuildSlice
set_option linter.unusedSimpArgs false
set_option linter.unusedVariables false
namespace Go.Proofs.Ytbobmhobaaeohaa
open Go.RowKit Go.Lib

theorem word_of {x v : Nat} (h : nz x = v) (hv : v ≠ 9221120237041090560) : x = v := by
  rw [nz_eq] at h
  cases e : isN x
  · rw [e] at h; exact h
  · rw [e] at h; exact absurd h.symm hv
/-- What Execute gives of a line, by a plan that can be. -/
theorem exP_of (kind r : Int) (q : Fo) (N : Nat) (F : Tr Cx) (P : PlanE kind r q N F) (C : ChkC kind N r q N 0) (A : Option Addr) (c : Nat) (X : Option Addr) (cx : Nat) (x : Nat → Cx) (s : Int) (w : World) (hk : Kids w A 0 q) (hX : CsAt w X N x) (hN : N ≤ 16384) (hs : s = 1 ∨ s = -1) :
    Calls Try.prog 14 #[plV kind N r A q.len c, .slice X N cx, .int .i64 s] w (ExP F s N x w) := by
  by_cases hg : guardE x N = 0
  · refine (Execute_ok kind r q N F P C A c X cx x s w hk hX hN hs hg).mono ?_
    rintro z w' ⟨g, rfl, h1, h2, h3, h4⟩
    unfold ExP
    rw [if_pos hg]
    exact ⟨some ⟨g, 0, none⟩, 0, 0, N, rfl, h3.cs, fun b o e => by cases e; exact h1, h4⟩
  · have hm : mayE 0 N N s (guardE x N) = guardE x N := by unfold mayE; rw [if_neg (by omega), if_neg (by omega), if_neg (by omega), if_neg (by omega)]
    refine (Execute_bad kind N r q 0 C A c X N cx x s w hk hX (by omega) (by rw [hm]; exact hg)).mono ?_
    rintro z w' ⟨rfl, hb⟩
    unfold ExP
    rw [if_neg hg]
    exact ⟨none, 0, _, 0, rfl, CsAt.nil _ _ _, (fun b o e => by cases e), hb⟩
def x22 : Nat → Cx := fun i => if i = 0 then (4607182418800017408, 0) else (0, 0)
theorem rounds22 : ∀ i, i < 4 → roundsC (directF ringR 2) 1 2 4 x22 2 i = (4607182418800017408, 0) := by
  intro i hi
  rcases i with _ | _ | _ | _ | i
  · kernel_rfl
  · kernel_rfl
  · kernel_rfl
  · kernel_rfl
  · omega
theorem chk22 : ChkC 0 2 0 .nil 2 0 := by
  have h := Check_any 0 2 0 .nil 2 (by decide)
  rwa [show checkE 0 2 0 .nil 2 = 0 by kernel_rfl] at h
theorem plan22 : PlanE 0 0 .nil 2 (directF ringR 2) := fun m => planX_leaf (ringC_ok m) 2 (by decide) (by decide) .nil

def p22 : Nat → PQ := fun _ => ⟨0, 2, 0, none, 0, 0⟩
theorem fits22 : ∀ i, i < 4 → fitsC W880 (x22 i) = true := by
  intro i hi
  rcases i with _ | i
  · kernel_rfl
  · show fitsC W880 (0, 0) = true
    kernel_rfl
theorem trans22 (P A X : Addr) (hP0 : P.spot = none) (hA0 : A.spot = none) (w : World) (hP : PlsAt w (some P) 2 p22) (hA : IntsAt w (some A) 2 (fun _ => 2)) (hX : CsAt w (some X) 4 x22) :
    Calls Try.prog 9 #[.slice (some P) 2 2, .slice (some A) 2 2, .slice (some X) 4 4, .int .i64 1] w fun z w' => ∃ g c, z = .returned (.tuple #[.slice (some ⟨g, 0, none⟩) 4 c, .int .i64 0]) ∧ RowC w' g 4 (fun _ => (4607182418800017408, 0)) ∧ Below w.heap.size w w' := by
  have h := Trans_in (some P) (some A) (some X) 2 2 2 4 4 2 (fun _ => 2) p22 (directF ringR 2) x22 1 (.inl rfl) w hA hP hX (by decide) rfl
    (fun i _ => ⟨rfl, fun w' _ t ht => by subst ht; exact chk22 w' none 0 trivial⟩) fits22 (fun _ _ => rfl) rfl (by decide)
    (fun i _ w' _ Y cy y hY => exP_of 0 0 .nil 2 (directF ringR 2) plan22 chk22 none 0 Y cy y 1 w' trivial hY (by decide) (.inl rfl))
  refine (callsIn_wide.1 h).mono ?_
  rintro z w' ⟨g, c, rfl, -, hr, hb⟩
  exact ⟨g, c, rfl, hr.congr rounds22, hb⟩

set_option maxRecDepth 100000 in
set_option maxHeartbeats 4000000 in
theorem wakes22_any (w : World) : Calls Try.prog 8 #[] w fun z w' => z = .returned (.bool true) ∧ Below w.heap.size w w' := by
  obtain ⟨W, hW⟩ : ∃ W, W = ((w.alloc (.cells #[.int .i64 0, .int .i64 2, .int .i64 0, .slice none 0 0, .int .i64 0, .int .i64 2, .int .i64 0, .slice none 0 0] 35)).alloc (.cells #[.int .i64 2, .int .i64 2] 3)).alloc (.cells #[.float .f64 4607182418800017408, .float .f64 0, .float .f64 0, .float .f64 0, .float .f64 0, .float .f64 0, .float .f64 0, .float .f64 0] 41) := ⟨_, rfl⟩
  have hb : Below w.heap.size w W := by rw [hW]; exact (((Below.refl _ w).alloc (Nat.le_refl _) _).alloc (by simp) _).alloc (by simp; omega) _
  have hP : PlsAt W (some ⟨w.heap.size, 0, none⟩) 2 p22 := by
    intro i hi
    rw [hW]
    rcases i with _ | _ | i
    · exact ⟨_, _, rfl, by simp [go_sem, p22], by simp [go_sem, p22], by simp [go_sem, p22], by simp [go_sem, p22]⟩
    · exact ⟨_, _, rfl, by simp [go_sem, p22], by simp [go_sem, p22], by simp [go_sem, p22], by simp [go_sem, p22]⟩
    · omega
  have hA : IntsAt W (some ⟨w.heap.size + 1, 0, none⟩) 2 (fun _ => 2) := by
    intro i hi
    rw [hW]
    rcases i with _ | _ | i
    · exact ⟨_, _, rfl, by simp [go_sem]⟩
    · exact ⟨_, _, rfl, by simp [go_sem]⟩
    · omega
  have hX : CsAt W (some ⟨w.heap.size + 1 + 1, 0, none⟩) 4 x22 := by
    intro i hi
    rw [hW]
    rcases i with _ | _ | _ | _ | i
    · exact ⟨_, _, (⟨4607182418800017408, by decide⟩, 0), rfl, by simp [go_sem], by simp [go_sem], by kernel_rfl⟩
    · exact ⟨_, _, (0, 0), rfl, by simp [go_sem], by simp [go_sem], by kernel_rfl⟩
    · exact ⟨_, _, (0, 0), rfl, by simp [go_sem], by simp [go_sem], by kernel_rfl⟩
    · exact ⟨_, _, (0, 0), rfl, by simp [go_sem], by simp [go_sem], by kernel_rfl⟩
    · omega
  have HT := Lib.hid (trans22 _ _ _ rfl rfl W hP hA hX)
  have HB := Lib.hid hb
  clear hP hA hX hb
  go_enter Try.func8, Try.ntmps8
  go_upto_region 2 with (fail)
  go_wp2_with fail
  rw [← hW]
  clear hW
  refine HT.out.mono ?_
  rintro z w1 ⟨g, cg, rfl, hr, hb1⟩
  have HB1 := Lib.hid (HB.out.trans (hb1.mono HB.out.size))
  have HR := Lib.hid hr
  clear hb1 hr
  go_wp2_with fail
  obtain ⟨W2, hW2⟩ : ∃ W2, W2 = (w1.alloc (.cells #[.int .i64 2, .int .i64 3] 3)).alloc (.cells #[.int .i64 1, .int .i64 2] 3) := ⟨_, rfl⟩
  have hb2 : Below w1.heap.size w1 W2 := by rw [hW2]; exact ((Below.refl _ _).alloc (Nat.le_refl _) _).alloc (by simp) _
  have hA2 : IntsAt W2 (some ⟨w1.heap.size, 0, none⟩) 2 (fun i => if i = 0 then 2 else 3) := by
    intro i hi
    rw [hW2]
    rcases i with _ | _ | i
    · exact ⟨_, _, rfl, by simp [go_sem]⟩
    · exact ⟨_, _, rfl, by simp [go_sem]⟩
    · omega
  have hB2 : IntsAt W2 (some ⟨w1.heap.size + 1, 0, none⟩) 2 (fun i => if i = 0 then 1 else 2) := by
    intro i hi
    rw [hW2]
    rcases i with _ | _ | i
    · exact ⟨_, _, rfl, by simp [go_sem]⟩
    · exact ⟨_, _, rfl, by simp [go_sem]⟩
    · omega
  have hpl := Place_any (some ⟨w1.heap.size, 0, none⟩) (some ⟨w1.heap.size + 1, 0, none⟩) 2 2 2 2 _ _ W2 hA2 hB2
  rw [show placeV (fun i => if i = 0 then 2 else 3) (fun i => if i = 0 then 1 else 2) 2 2 = 5 by kernel_rfl, show placeE (fun i => if i = 0 then 2 else 3) (fun i => if i = 0 then 1 else 2) 2 2 = 0 by kernel_rfl] at hpl
  have HPL := Lib.hid hpl
  have HB2 := Lib.hid (HB1.out.trans (hb2.mono HB1.out.size))
  have HR2 := Lib.hid (HR.out.keep hb2)
  rw [← hW2]
  clear hW2 hb2 hA2 hB2 hpl
  refine HPL.out.mono ?_
  rintro z w3 ⟨rfl, rfl⟩
  have o1 : (FloatKind.f64.format.order 4607182418800017408 4607173411600762667 == some Ordering.lt) = false := by kernel_rfl
  have o2 : (FloatKind.f64.format.order 4607182418800017408 4607186922399644778 == some Ordering.gt) = false := by kernel_rfl
  have o3 : (FloatKind.f64.format.order 0 4562254508917369340 == some Ordering.gt) = false := by kernel_rfl
  have o4 : (FloatKind.f64.format.order 0 13785626545772145148 == some Ordering.lt) = false := by kernel_rfl
  go_wp2
  go_loopw [45] (fun vi wr => ∃ k : Nat, k ≤ 4 ∧ vi = .int .i64 k ∧ Hid (Below w3.heap.size w3 wr)) (fun vi _ => 4 - (intOf vi).toNat)
  case atStart => exact ⟨0, by omega, rfl, Lib.hid (Below.refl _ _)⟩
  case round =>
    obtain ⟨k, hk, rfl, hb⟩ := hrel
    by_cases hlt : k < 4
    · have hki : (k : Int) < 4 := by omega
      obtain ⟨u, h0, h1, -, -, hu⟩ := (HR2.out.keep hb.out) k hlt
      have hu1 : (u.1 : Nat) = 4607182418800017408 := word_of (congrArg Prod.fst hu) (by decide)
      have hu2 : (u.2 : Nat) = 0 := word_of (congrArg Prod.snd hu) (by decide)
      rw [hu1] at h0
      rw [hu2] at h1
      clear hu hu1 hu2
      have HB3 := Lib.hid (hb.out.alloc hb.out.size (.cells #[.float .f64 4607182418800017408, .float .f64 0] 41))
      go_wp2
      exact ⟨⟨k + 1, by omega, by go_num, HB3⟩, by simp [intOf]; omega⟩
    · obtain rfl : k = 4 := by omega
      go_wp2
      go_ret
      exact ⟨rfl, HB2.out.trans (hb.out.mono HB2.out.size)⟩
end Go.Proofs.Ytbobmhobaaeohaa
