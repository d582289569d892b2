/- The walk of the law CacheRoots. -/
import Derived.Test.YtnpkblidlmkagaaK30
import Derived.Test.YtnpkblidlmkagaaKC
import Derived.Deep.RegionHeld3
import Derived.BigQuiet
set_option linter.unusedSimpArgs false
set_option linter.unusedVariables false
namespace Go.Proofs.Ytnpkblidlmkagaa
open Go Go.RowKit Fl

abbrev cx (a b : Nat) : Value := .agg #[.float .f64 a, .float .f64 b]

set_option maxRecDepth 100000 in
theorem cmul_any (a b c d P Q D P' Q' D' : Nat) (w : World) (h1 : fmul a c = some P) (h2 : fmul b d = some Q) (h3 : fsub P Q = some D) (h4 : fmul a d = some P') (h5 : fmul b c = some Q') (h6 : fadd P' Q' = some D') :
    Calls Try.prog 69 #[cx a b, cx c d] w fun z w' => z = .returned (cx D D') ∧ Below w.heap.size w w' := by
  replace h1 := hmul h1
  replace h2 := hmul h2
  replace h3 := hsub h3
  replace h4 := hmul h4
  replace h5 := hmul h5
  replace h6 := hadd h6
  go_enter Try.func69, Try.ntmps69
  go_wp2
  refine bodyPost_ret (v := cx D D') (by simp [results, Try.results69, go_sem]) rfl ⟨rfl, ?_⟩
  exact ((((Below.refl _ _).alloc (Nat.le_refl _) _).alloc (by simp) _).alloc (by simp; omega) _)

set_option maxRecDepth 100000 in
theorem csub_any (a b c d D D' : Nat) (w : World) (h1 : fsub a c = some D) (h2 : fsub b d = some D') :
    Calls Try.prog 70 #[cx a b, cx c d] w fun z w' => z = .returned (cx D D') ∧ Below w.heap.size w w' := by
  replace h1 := hsub h1
  replace h2 := hsub h2
  go_enter Try.func70, Try.ntmps70
  go_wp2
  refine bodyPost_ret (v := cx D D') (by simp [results, Try.results70, go_sem]) rfl ⟨rfl, ?_⟩
  exact ((((Below.refl _ _).alloc (Nat.le_refl _) _).alloc (by simp) _).alloc (by simp; omega) _)

theorem tu_period (k n : Int) (m : Int) (n1 : 1 ≤ n) : tuC (k + n * m) n = tuC k n ∧ tuS (k + n * m) n = tuS k n := by
  have e : (k + n * m) % n = k % n := Int.add_mul_emod_self_left k n m
  have o : octO (k + n * m) n = octO k n := by unfold octO; rw [e]
  have r : octR (k + n * m) n = octR k n := by unfold octR; rw [o, e]
  have c : exC (k + n * m) n = exC k n := by unfold exC; rw [o, r]
  have s : exS (k + n * m) n = exS k n := by unfold exS; rw [o, r]
  exact ⟨by unfold tuC; rw [c], by unfold tuS; rw [s]⟩

theorem tu0 (n : Int) (n1 : 1 ≤ n) : tuC 0 n = oneW ∧ tuS 0 n = 0 := by
  have ho : octO 0 n = 0 := by
    unfold octO
    rw [Int.zero_emod]
    simp
  have hr : octR 0 n = 0 := by
    unfold octR
    rw [ho, Int.zero_emod]
    simp
  have h1 : exC 0 n = (oneW, 0) := by unfold exC; rw [ho, hr, (nC_nought n).1, (nC_nought n).2]; kernel_rfl
  have h2 : exS 0 n = (0, 0) := by unfold exS; rw [ho, hr, (nC_nought n).1, (nC_nought n).2]; kernel_rfl
  have e1 : fadd oneW 0 = some oneW := by kernel_rfl
  have e2 : fadd 0 0 = some 0 := by kernel_rfl
  exact ⟨by unfold tuC; rw [h1]; show (fadd oneW 0).getD 0 = _; rw [e1]; rfl, by unfold tuS; rw [h2]; show (fadd 0 0).getD 0 = _; rw [e2]; rfl⟩

theorem third (J K m : Nat) (hm : 1 ≤ m) : ∃ L : Nat, L < m ∧ ((J : Int) + K) % (m : Int) = L ∧ ∃ q : Int, -1 * (L : Int) = -1 * (J : Int) + -1 * (K : Int) + (m : Int) * q := by
  refine ⟨(J + K) % m, Nat.mod_lt _ (by omega), by rw [Int.natCast_emod, Int.natCast_add], (((J + K) / m : Nat) : Int), ?_⟩
  have h := Nat.mod_add_div (J + K) m
  obtain ⟨p, hp⟩ : ∃ p, m * ((J + K) / m) = p := ⟨_, rfl⟩
  have hp' : (m : Int) * (((J + K) / m : Nat) : Int) = (p : Int) := by rw [← hp, Int.natCast_mul]
  rw [hp'] 
  rw [hp] at h
  generalize (J + K) % m = r at *
  clear hp hp'
  omega

/-- The words of three roots, and what the law reckons of them. -/
structure Words (J K m L : Nat) (C1 S1 C2 S2 C3 S3 P Q E P' Q' E' R R' : Nat) : Prop where
  lt : L < m
  md : ((J : Int) + K) % (m : Int) = L
  c1 : tuC (-1 * (J : Int)) m = C1
  s1 : tuS (-1 * (J : Int)) m = S1
  c2 : tuC (-1 * (K : Int)) m = C2
  s2 : tuS (-1 * (K : Int)) m = S2
  c3 : tuC (-1 * (L : Int)) m = C3
  s3 : tuS (-1 * (L : Int)) m = S3
  h1 : fmul C1 C2 = some P
  h2 : fmul S1 S2 = some Q
  h3 : fsub P Q = some E
  h4 : fmul C1 S2 = some P'
  h5 : fmul S1 C2 = some Q'
  h6 : fadd P' Q' = some E'
  h7 : fsub E C3 = some R
  h8 : fsub E' S3 = some R'
  k1 : (FloatKind.f64.format.order R 4382002437431492608 == some Ordering.lt) = true
  k2 : (FloatKind.f64.format.order R 13605374474286268416 == some Ordering.gt) = true
  k3 : (FloatKind.f64.format.order R' 4382002437431492608 == some Ordering.lt) = true
  k4 : (FloatKind.f64.format.order R' 13605374474286268416 == some Ordering.gt) = true
theorem words_of (J K m : Nat) (hm : 1 ≤ m) (hm2 : m ≤ 3000) : ∃ L C1 S1 C2 S2 C3 S3 P Q E P' Q' E' R R', Words J K m L C1 S1 C2 S2 C3 S3 P Q E P' Q' E' R R' := by
  obtain ⟨L, h1, h2, q, hq⟩ := third J K m hm
  have hper := tu_period (-1 * (J : Int) + -1 * (K : Int)) m q (by omega)
  rw [← hq] at hper
  obtain ⟨P, Q, E, R, P', Q', E', R', r1, r2, r3, r4, r5, r6, r7, r8, r9, r10, r11, r12⟩ := roots_plain (-1 * (J : Int)) (-1 * (K : Int)) (m : Int) (by omega) (by omega)
  rw [← hper.1] at r7
  rw [← hper.2] at r8
  exact ⟨L, _, _, _, _, _, _, P, Q, E, P', Q', E', R, R', h1, h2, rfl, rfl, rfl, rfl, rfl, rfl, r1, r2, r3, r4, r5, r6, r7, r8, r9, r10, r11, r12⟩

/-- What a region keeps: three pairs of cells. -/
theorem sk6 {b i0 i1 i2 i3 i4 i5 : Nat} {v0 v1 v2 v3 v4 v5 : Value} {D w1 : World} (h0 : D.cell? ⟨b, i0, none⟩ = some v0) (h1 : D.cell? ⟨b, i1, none⟩ = some v1) (h2 : D.cell? ⟨b, i2, none⟩ = some v2) (h3 : D.cell? ⟨b, i3, none⟩ = some v3) (h4 : D.cell? ⟨b, i4, none⟩ = some v4) (h5 : D.cell? ⟨b, i5, none⟩ = some v5) (hb : Hid (Below D.heap.size D w1)) :
    w1.cell? ⟨b, i0, none⟩ = some v0 ∧ w1.cell? ⟨b, i1, none⟩ = some v1 ∧ w1.cell? ⟨b, i2, none⟩ = some v2 ∧ w1.cell? ⟨b, i3, none⟩ = some v3 ∧ w1.cell? ⟨b, i4, none⟩ = some v4 ∧ w1.cell? ⟨b, i5, none⟩ = some v5 ∧ Hid (Below D.heap.size D w1) :=
  ⟨keep_cell hb.out h0, keep_cell hb.out h1, keep_cell hb.out h2, keep_cell hb.out h3, keep_cell hb.out h4, keep_cell hb.out h5, hb⟩
theorem sB6 {A B C E F G : Prop} {D W w' : World} (hbb : Below W.heap.size W w') (h : A ∧ B ∧ C ∧ E ∧ F ∧ G ∧ Hid (Below D.heap.size D W)) : Hid (Below D.heap.size D w') :=
  Lib.hid (h.2.2.2.2.2.2.out.trans (hbb.mono h.2.2.2.2.2.2.out.size))

theorem facts_of (J K m L : Nat) (hJ : J < m) (hK : K < m) (hL : L < m) (hm : m ≤ 3000) (hmd : ((J : Int) + K) % (m : Int) = L) :
    IntKind.i64.wrap ((J : Int) + K) = (J : Int) + K ∧ (J : Int) < m ∧ (K : Int) < m ∧ (L : Int) < m ∧ ((J : Int) + K).tmod (m : Int) = L ∧ 0 ≤ (J : Int) + K ∧ (J + K) % m = L := by
  have h0 : 0 ≤ (J : Int) + K := by clear hmd; omega
  refine ⟨by clear hmd; rw [IntKind.wrap_i64]; omega, by clear hmd; omega, by clear hmd; omega, by clear hmd; omega, ?_, h0, ?_⟩
  · rw [Int.tmod_eq_emod_of_nonneg h0]; exact hmd
  · rw [← Int.natCast_add, ← Int.natCast_emod] at hmd; exact Int.ofNat.inj hmd

set_option maxRecDepth 100000 in
set_option maxHeartbeats 1000000 in
theorem roots15_any (n0 j0 k0 : Int) (w : World) : Calls Try.prog 22 #[.int .i64 n0, .int .i64 j0, .int .i64 k0] w fun z w' => z = .returned (.bool true) ∧ Below w.heap.size w w' := by
  obtain ⟨N, hN⟩ : ∃ N : Nat, 1 + max 0 n0 % 3000 = (N : Int) := ⟨(1 + max 0 n0 % 3000).toNat, by omega⟩
  have hNb : 1 ≤ N ∧ N ≤ 3000 := by omega
  obtain ⟨J, hJ⟩ : ∃ J : Nat, max 0 j0 % (N : Int) = J := ⟨(max 0 j0 % (N : Int)).toNat, by have := Int.emod_nonneg (max 0 j0) (show (N : Int) ≠ 0 by omega); omega⟩
  have hJb : J < N := by have := Int.emod_lt_of_pos (max 0 j0) (show (0 : Int) < N by omega); omega
  obtain ⟨K, hK⟩ : ∃ K : Nat, max 0 k0 % (N : Int) = K := ⟨(max 0 k0 % (N : Int)).toNat, by have := Int.emod_nonneg (max 0 k0) (show (N : Int) ≠ 0 by omega); omega⟩
  have hKb : K < N := by have := Int.emod_lt_of_pos (max 0 k0) (show (0 : Int) < N by omega); omega
  have w1 : wrap64 (N : Int) = N := by unfold wrap64; omega
  obtain ⟨L, C1, S1, C2, S2, C3, S3, P, Q, E, P', Q', E', R, R', hW⟩ := words_of J K N hNb.1 hNb.2
  have HF := facts_of J K N L hJb hKb hW.lt hNb.2 hW.md
  have HW := Lib.hid hW
  have HFH := Lib.hid HF
  clear hW HF
  have HMk := Lib.hid (fun w => Own15.made 0 w)
  have HWk := Lib.hid (fun w => wakes15_any w)
  have hN0 : ¬ (N : Int) = 0 := by omega
  go_enter Try.func22, Try.ntmps22
  go_upto_region 2 with (first | simp only [hN, w1] | fail)
  go_quiet (fail)
  clear w1
  go_wp2_with fail
  refine (HMk.out _).mono ?_
  rintro z wa ⟨p, r, rfl, a1, a2⟩
  have hmost : mostM 0 < (N : Int) := by
    have : mostM 0 = 0 := by decide
    omega
  have hask : (askK (mostM 0) ([], 0, 0) (N : Int) (-1)).1 = 0 := by
    unfold askK
    rw [if_neg (by omega), if_neg (by omega), if_neg (by simp), if_pos hmost]
  have hsa := a2.size
  have hT := a1.table (N : Int) (-1) (by decide) (by decide) (by decide) (by decide) hsa
  rw [hask] at hT
  have HT := Lib.hid hT
  have HBa : Hid (Below w.heap.size w wa) := Lib.hid (Below.trans (below_drewN (Below.refl _ w) _) a2)
  clear a1 a2 hask hT HMk
  go_wp2_with fail
  refine HT.out.mono ?_
  rintro z wb ⟨tv, rfl, -, g2, -, g4⟩
  rcases g4 with ⟨g4, -⟩ | ⟨-, b, c, m, hm, m1, m2, rfl, hb3, hTab, -, -⟩
  · exact absurd rfl g4
  obtain rfl : m = N := by omega
  have HBb : Hid (Below w.heap.size w wb) := Lib.hid (HBa.out.trans g2)
  have HTb := Lib.hid hTab
  have hsb := HBb.out.size
  clear g2 hTab hm HT HBa
  go_wp2_with fail
  refine (HWk.out wb).mono ?_
  rintro z D ⟨rfl, hbd⟩
  have HTD := Lib.hid (RowF.keep hbd HTb.out)
  have HBD : Hid (Below w.heap.size w D) := Lib.hid (HBb.out.trans (hbd.mono hsb))
  clear hbd HTb HBb HWk
  go_wp2_with fail
  clear hN hJ hK
  obtain ⟨⟨x0, -⟩, x1, -⟩ := HTD.out J hJb
  obtain ⟨⟨y0, -⟩, y1, -⟩ := HTD.out K hKb
  obtain ⟨⟨z0, -⟩, z1, -⟩ := HTD.out L HW.out.lt
  obtain ⟨⟨o0, -⟩, o1, -⟩ := HTD.out 0 (by omega)
  have t1 : -1 * ((0 : Nat) : Int) = 0 := by simp
  have t0 : tuC (-1 * ((0 : Nat) : Int)) m = oneW ∧ tuS (-1 * ((0 : Nat) : Int)) m = 0 := by rw [t1]; exact tu0 (m : Int) (by omega)
  have x0' : D.cell? ⟨b, J * 2, none⟩ = some (.float .f64 C1) := by rw [← HW.out.c1]; exact x0
  have x1' : D.cell? ⟨b, J * 2 + 1, none⟩ = some (.float .f64 S1) := by rw [← HW.out.s1]; exact x1
  have y0' : D.cell? ⟨b, K * 2, none⟩ = some (.float .f64 C2) := by rw [← HW.out.c2]; exact y0
  have y1' : D.cell? ⟨b, K * 2 + 1, none⟩ = some (.float .f64 S2) := by rw [← HW.out.s2]; exact y1
  have z0' : D.cell? ⟨b, L * 2, none⟩ = some (.float .f64 C3) := by rw [← HW.out.c3]; exact z0
  have z1' : D.cell? ⟨b, L * 2 + 1, none⟩ = some (.float .f64 S3) := by rw [← HW.out.s3]; exact z1
  have o0' : D.cell? ⟨b, 0, none⟩ = some (.float .f64 oneW) := t0.1 ▸ o0
  have o1' : D.cell? ⟨b, 1, none⟩ = some (.float .f64 0) := t0.2 ▸ o1
  clear x0 x1 y0 y1 z0 z1 o0 o1 t0 t1 hmost
  go_cut [9] from 40 to 57 (fun s9 wx => ∃ pp, s9 = .pointer (some ⟨pp, 0, none⟩) ∧ Two wx pp (.float .f64 R) (.float .f64 R') ∧ D.heap.size ≤ pp ∧ Below D.heap.size D wx)
  case first =>
    have HM := Lib.hid (fun w => cmul_any C1 S1 C2 S2 P Q E P' Q' E' w HW.out.h1 HW.out.h2 HW.out.h3 HW.out.h4 HW.out.h5 HW.out.h6)
    have HS := Lib.hid (fun w => csub_any E E' C3 S3 R R' w HW.out.h7 HW.out.h8)
    obtain ⟨wJK, hJi, hKi, hLi, hLt, hJK0, hLn⟩ := HFH.out
    have hm0n : ¬ m = 0 := by omega
    clear hNb hJb hKb hsa hsb
    clear HTD
    go_region_held3 (fun w' => w'.cell? ⟨b, J * 2, none⟩ = some (.float .f64 C1) ∧ w'.cell? ⟨b, J * 2 + 1, none⟩ = some (.float .f64 S1) ∧ w'.cell? ⟨b, K * 2, none⟩ = some (.float .f64 C2) ∧ w'.cell? ⟨b, K * 2 + 1, none⟩ = some (.float .f64 S2) ∧ w'.cell? ⟨b, L * 2, none⟩ = some (.float .f64 C3) ∧ w'.cell? ⟨b, L * 2 + 1, none⟩ = some (.float .f64 S3) ∧ Hid (Below D.heap.size D w'))
      (first
        | with_reducible exact sk6 x0' x1' y0' y1' z0' z1' (hid_drew _)
        | with_reducible exact sk6 x0' x1' y0' y1' z0' z1' (hid_refl _)
        | with_reducible exact sk6 x0' x1' y0' y1' z0' z1' (by assumption)
        | with_reducible exact sk6 x0' x1' y0' y1' z0' z1' (hid_alloc (by assumption))
        | with_reducible exact sk6 x0' x1' y0' y1' z0' z1' (hid_alloc (hid_refl _))
        | with_reducible exact sk6 x0' x1' y0' y1' z0' z1' (hid_alloc (hid_drew _))
        | with_reducible exact sk6 x0' x1' y0' y1' z0' z1' (hid_set (by assumption) (by omega))
        | with_reducible exact sk6 x0' x1' y0' y1' z0' z1' (hid_set (hid_alloc (by assumption)) (by omega))
        | fail)
      (first
        | (first | (go_at_call 69; refine (HM.out _).mono ?_) | (go_at_call 70; refine (HS.out _).mono ?_);
           rintro z w' ⟨rfl, hbb⟩; have hbw := (by with_reducible exact sB6 hbb (by assumption) : Hid (Below D.heap.size D w')); have hs := hbb.size; have hbs := hbw.out.size;
           try (with_reducible (replace hbb := undrew hbb));
           try (with_reducible (have o2 := Two.over0 o1 hbb));
           try (with_reducible (have o1 := Two.over0 k1 hbb));
           try (with_reducible (have k1 := keepA hbb));
           try (have oo := k1; have ol := oo.lt; obtain ⟨r0, r1, f0, f1⟩ := oo);
           try (have oo := o1; have ol := oo.lt; obtain ⟨r0, r1, f0, f1⟩ := oo);
           try (have oo := o2; have ol := oo.lt; obtain ⟨r0, r1, f0, f1⟩ := oo)))
    all_goals (go_wp2_with fail; go_meet)
    all_goals refine ⟨_, rfl, ?_, ?_, ?_⟩
    all_goals first
      | omega
      | (simp; done)
      | (simp; omega)
      | with_reducible exact Two.new _ _ _ _
      | with_reducible exact Two.new' (by simp) _ _ _
      | with_reducible exact Two.setBoth (by assumption) _ _
      | with_reducible exact (hid_alloc (by assumption)).out
      | with_reducible exact (hid_set (by assumption) (by omega)).out
      | fail
  case rest =>
    obtain ⟨pp, rfl, hp, hpD, hbw⟩ := hcut
    obtain ⟨z0, z1, z2, z3⟩ := hp
    have q0 := keep_cell hbw o0'
    have q1 := keep_cell hbw o1'
    have k1 := HW.out.k1
    have k2 := HW.out.k2
    have k3 := HW.out.k3
    have k4 := HW.out.k4
    have oe1 : (FloatKind.f64.format.order oneW oneW == some Ordering.eq) = true := by kernel_rfl
    have oe2 : (FloatKind.f64.format.order 0 0 == some Ordering.eq) = true := by kernel_rfl
    have HE := Lib.hid (HBD.out.trans (hbw.mono HBD.out.size))
    have hm0 : (0 : Int) < m := by omega
    clear hbw x0' x1' y0' y1' z0' z1' o0' o1' HTD
    go_wp2_with fail
    go_ret
    exact ⟨rfl, HE.out⟩

end Go.Proofs.Ytnpkblidlmkagaa
