/- Layer 21: sizes, the conjugate, the whole of a half. -/
import Derived.Test.YtmgfaeineklccaaGreatMQ4
import Derived.Test.YtmgfaeineklccaaGreatMY1
set_option linter.unusedSimpArgs false
set_option linter.unusedVariables false
namespace Go.Proofs.YtmgfaeineklccaaGreat
open Go.RowKit Go.Lib

/-- How large a plan a transform of n real numbers wants. -/
def wantsI (n : Int) : Int := if n < 1 ∨ 16384 < n then 0 else if n % 2 = 0 then n / 2 else n
theorem wants_bad {n : Int} (h : n < 1 ∨ 16384 < n) : wantsI n = 0 := by unfold wantsI; rw [if_pos h]
theorem wants_pos {n : Int} (h1 : 1 ≤ n) (h2 : n ≤ 16384) : 1 ≤ wantsI n ∧ wantsI n ≤ 16384 := by unfold wantsI; rw [if_neg (by omega)]; split <;> omega
theorem HWants_any (n : Int) (w : World) : Calls Tryz.prog 37 #[.int .i64 n] w fun z w' => z = .returned (.int .i64 (wantsI n)) ∧ w' = w := by
  obtain ⟨v, hv⟩ : ∃ v, v = wantsI n := ⟨_, rfl⟩
  rw [← hv]
  have HV := Lib.hid hv
  clear hv
  by_cases h1 : n < 1
  · obtain rfl : v = 0 := HV.out.trans (wants_bad (.inl h1))
    clear HV
    go_enter Tryz.func37, Tryz.ntmps37
    go_wp2
    go_ret
    exact ⟨rfl, rfl⟩
  · by_cases h2 : 16384 < n
    · obtain rfl : v = 0 := HV.out.trans (wants_bad (.inr h2))
      clear HV
      go_enter Tryz.func37, Tryz.ntmps37
      go_wp2
      go_ret
      exact ⟨rfl, rfl⟩
    · obtain ⟨k, rfl⟩ : ∃ k : Nat, n = k := ⟨n.toNat, by omega⟩
      have hk : Hid (1 ≤ k ∧ k ≤ 16384) := Lib.hid (by omega)
      have hv := HV.out
      unfold wantsI at hv
      rw [if_neg (by omega)] at hv
      have r1 : Int.tmod (k : Int) 2 = ((k % 2 : Nat) : Int) := by rw [Int.tmod_eq_emod_of_nonneg (by omega)]; rfl
      have r2 : Int.tdiv (k : Int) 2 = ((k / 2 : Nat) : Int) := by rw [Int.tdiv_eq_ediv_of_nonneg (by omega)]; rfl
      have r3 : Hid (k / 2 ≤ 16384) := Lib.hid (by omega)
      clear HV
      by_cases h3 : k % 2 = 0
      · rw [if_pos (by omega), show (k : Int) / 2 = ((k / 2 : Nat) : Int) by omega] at hv
        subst hv
        have HM := Lib.hid h3
        go_enter Tryz.func37, Tryz.ntmps37
        go_wp2
        all_goals first | (go_ret; exact ⟨rfl, rfl⟩) | skip
      · rw [if_neg (by omega)] at hv
        subst hv
        have HM := Lib.hid h3
        go_enter Tryz.func37, Tryz.ntmps37
        go_wp2
        all_goals first | (go_ret; exact ⟨rfl, rfl⟩) | skip
theorem refHWants_any (n : Int) (w : World) : Calls Tryz.prog 38 #[.int .i64 n] w fun z w' => z = .returned (.int .i64 (wantsI n)) ∧ w' = w := by
  obtain ⟨v, hv⟩ : ∃ v, v = wantsI n := ⟨_, rfl⟩
  rw [← hv]
  have HV := Lib.hid hv
  clear hv
  by_cases h1 : n < 1
  · obtain rfl : v = 0 := HV.out.trans (wants_bad (.inl h1))
    clear HV
    go_enter Tryz.func38, Tryz.ntmps38
    go_wp2
    go_ret
    exact ⟨rfl, rfl⟩
  · by_cases h2 : 16384 < n
    · obtain rfl : v = 0 := HV.out.trans (wants_bad (.inr h2))
      clear HV
      go_enter Tryz.func38, Tryz.ntmps38
      go_wp2
      go_ret
      exact ⟨rfl, rfl⟩
    · obtain ⟨k, rfl⟩ : ∃ k : Nat, n = k := ⟨n.toNat, by omega⟩
      have hk : Hid (1 ≤ k ∧ k ≤ 16384) := Lib.hid (by omega)
      have hv := HV.out
      unfold wantsI at hv
      rw [if_neg (by omega)] at hv
      have r1 : Int.tmod (k : Int) 2 = ((k % 2 : Nat) : Int) := by rw [Int.tmod_eq_emod_of_nonneg (by omega)]; rfl
      have r2 : Int.tdiv (k : Int) 2 = ((k / 2 : Nat) : Int) := by rw [Int.tdiv_eq_ediv_of_nonneg (by omega)]; rfl
      have r3 : Hid (k / 2 ≤ 16384) := Lib.hid (by omega)
      clear HV
      by_cases h3 : k % 2 = 0
      · rw [if_pos (by omega), show (k : Int) / 2 = ((k / 2 : Nat) : Int) by omega] at hv
        subst hv
        have HM := Lib.hid h3
        go_enter Tryz.func38, Tryz.ntmps38
        go_wp2
        all_goals first | (go_ret; exact ⟨rfl, rfl⟩) | skip
      · rw [if_neg (by omega)] at hv
        subst hv
        have HM := Lib.hid h3
        go_enter Tryz.func38, Tryz.ntmps38
        go_wp2
        all_goals first | (go_ret; exact ⟨rfl, rfl⟩) | skip

/-- The other sign of a float. -/
def negX (x : Nat) : Nat := nz (x ^^^ 9223372036854775808)
def cconj (a : Cx) : Cx := (a.1, negX a.2)
theorem isN_neg (x : Nat) : isN (x ^^^ 9223372036854775808) = isN x := by
  have h : (x ^^^ 9223372036854775808) % 9223372036854775808 = x % 9223372036854775808 := by
    have := @Nat.xor_mod_two_pow x 9223372036854775808 63
    rw [show (2 : Nat) ^ 63 = 9223372036854775808 by decide] at this
    rw [this, Nat.mod_self, Nat.xor_zero]
  rw [← isN_mod, h, isN_mod]
theorem nz_neg (x : Nat) : nz (x ^^^ 9223372036854775808) = negX (nz x) := by
  unfold negX
  cases e : isN x
  · rw [nz_of e]
  · rw [nz_eq, isN_neg, e, nz_eq x, e]
    kernel_rfl
theorem neg_lt (x : Fin 18446744073709551616) : (x : Nat) ^^^ 9223372036854775808 < 18446744073709551616 := by
  have := @Nat.xor_lt_two_pow x 9223372036854775808 64 x.isLt (by decide)
  exact this
def negF (x : Fin 18446744073709551616) : Fin 18446744073709551616 := ⟨(x : Nat) ^^^ 9223372036854775808, neg_lt x⟩
theorem nC_conj (u : Rx) : nC (u.1, negF u.2) = cconj (nC u) := by unfold nC cconj negF; simp only [nz_neg]
theorem negFloat_eq (x : Fin 18446744073709551616) : Op.negFloat .f64 (x : Nat) = ((negF x : Fin 18446744073709551616) : Nat) := rfl
theorem unary_negF (x : Fin 18446744073709551616) : Op.unary .neg (.float .f64 (x : Nat)) = pure (.float .f64 ((negF x : Fin 18446744073709551616) : Nat)) := rfl
set_option maxRecDepth 100000 in
theorem Conj_any (u : Rx) (w : World) : Calls Tryz.prog 131 #[cV u] w fun z w' => z = .returned (cV (u.1, negF u.2)) ∧ Below w.heap.size w w' := by
  have hn := unary_negF u.2
  go_enter Tryz.func131, Tryz.ntmps131
  go_wp2
  exact bodyPost_ret (v := cV (u.1, negF u.2)) (by simp [results, Tryz.results131, go_sem]) rfl ⟨rfl, ((Below.refl _ w).alloc (Nat.le_refl _) _).alloc (by simp) _⟩
/-- A row, one part written. -/
theorem RowC.setRe {w : World} {b n : Nat} {f : Nat → Cx} (h : RowC w b n f) {j : Nat} (hj : j < n) (x : Fin 18446744073709551616) : RowC (w.setCell ⟨b, j * 2, none⟩ (.float .f64 x)) b n (updT f j (nz x, (f j).2)) := fun i hi => by
  obtain ⟨v, h1, h2, h3, h4, h5⟩ := h i hi
  have ne : ∀ {x y : Nat}, x ≠ y → (⟨b, x, none⟩ : Addr) ≠ ⟨b, y, none⟩ := fun h e => h (congrArg Addr.off e)
  unfold updT
  by_cases e : i = j
  · subst e
    refine ⟨(x, v.2), World.cell?_setCell_same _ _ _ h1, ?_, by simp only [World.frozen?_setCell]; exact h3, by simp only [World.frozen?_setCell]; exact h4, by rw [if_pos rfl, ← h5]; rfl⟩
    rw [World.cell?_setCell_other _ _ _ _ (ne (by omega))]
    exact h2
  · refine ⟨v, ?_, ?_, by simp only [World.frozen?_setCell]; exact h3, by simp only [World.frozen?_setCell]; exact h4, by rw [if_neg e]; exact h5⟩
    · rw [World.cell?_setCell_other _ _ _ _ (ne (by omega))]; exact h1
    · rw [World.cell?_setCell_other _ _ _ _ (ne (by omega))]; exact h2
theorem RowC.setIm {w : World} {b n : Nat} {f : Nat → Cx} (h : RowC w b n f) {j : Nat} (hj : j < n) (x : Fin 18446744073709551616) : RowC (w.setCell ⟨b, j * 2 + 1, none⟩ (.float .f64 x)) b n (updT f j ((f j).1, nz x)) := fun i hi => by
  obtain ⟨v, h1, h2, h3, h4, h5⟩ := h i hi
  have ne : ∀ {x y : Nat}, x ≠ y → (⟨b, x, none⟩ : Addr) ≠ ⟨b, y, none⟩ := fun h e => h (congrArg Addr.off e)
  unfold updT
  by_cases e : i = j
  · subst e
    refine ⟨(v.1, x), ?_, World.cell?_setCell_same _ _ _ h2, by simp only [World.frozen?_setCell]; exact h3, by simp only [World.frozen?_setCell]; exact h4, by rw [if_pos rfl, ← h5]; rfl⟩
    rw [World.cell?_setCell_other _ _ _ _ (ne (by omega))]
    exact h1
  · refine ⟨v, ?_, ?_, by simp only [World.frozen?_setCell]; exact h3, by simp only [World.frozen?_setCell]; exact h4, by rw [if_neg e]; exact h5⟩
    · rw [World.cell?_setCell_other _ _ _ _ (ne (by omega))]; exact h1
    · rw [World.cell?_setCell_other _ _ _ _ (ne (by omega))]; exact h2
end Go.Proofs.YtmgfaeineklccaaGreat
/- Layer 21: the whole of a half. -/
set_option linter.unusedSimpArgs false
set_option linter.unusedVariables false
namespace Go.Proofs.YtmgfaeineklccaaGreat
open Go.RowKit Go.Lib

def wholeC (h : Nat → Cx) (n : Nat) : Nat → Cx := fun j => if j = 0 then ((h 0).1, 0) else if 2 * j < n then h j else if 2 * j = n then ((h j).1, 0) else cconj (h (n - j))
/-- Filled from both ends. -/
def whP (h : Nat → Cx) (n j : Nat) : Nat → Cx := fun i => if i < j ∨ n - j < i then wholeC h n i else (0, 0)
theorem whP_start (h : Nat → Cx) (n : Nat) (i : Nat) (hi : i < n) : updT (fun _ => (0, 0)) 0 ((h 0).1, 0) i = whP h n 1 i := by
  unfold updT whP
  by_cases e : i = 0
  · rw [if_pos e, if_pos (by omega), e]; rfl
  · rw [if_neg e, if_neg (by omega)]
theorem whP_next (h : Nat → Cx) (n j : Nat) (h1 : 1 ≤ j) (h2 : 2 * j < n) (i : Nat) (hi : i < n) : updT (updT (whP h n j) j (h j)) (n - j) (cconj (h j)) i = whP h n (j + 1) i := by
  unfold updT whP
  by_cases e : i = n - j
  · rw [if_pos e, if_pos (by omega), e]
    unfold wholeC
    rw [if_neg (by omega), if_neg (by omega), if_neg (by omega), show n - (n - j) = j by omega]
  · rw [if_neg e]
    by_cases e1 : i = j
    · rw [if_pos e1, if_pos (by omega), e1]
      unfold wholeC
      rw [if_neg (by omega), if_pos h2]
    · rw [if_neg e1]
      by_cases e2 : i < j ∨ n - j < i
      · rw [if_pos e2, if_pos (by omega)]
      · rw [if_neg e2, if_neg (by omega)]
theorem whP_odd (h : Nat → Cx) (n j : Nat) (h1 : 1 ≤ j) (h2 : n ≤ 2 * j) (h3 : 2 * j ≤ n + 1) (h4 : n % 2 = 1) (i : Nat) (hi : i < n) : whP h n j i = wholeC h n i := by
  unfold whP
  rw [if_pos (by omega)]
theorem whP_even (h : Nat → Cx) (n j : Nat) (h1 : 1 ≤ j) (h2 : n ≤ 2 * j) (h3 : 2 * j ≤ n + 1) (h4 : n % 2 = 0) (i : Nat) (hi : i < n) : updT (whP h n j) (n / 2) ((h (n / 2)).1, 0) i = wholeC h n i := by
  unfold updT
  by_cases e : i = n / 2
  · rw [if_pos e, e]
    unfold wholeC
    rw [if_neg (by omega), if_neg (by omega), if_pos (by omega)]
  · rw [if_neg e]
    unfold whP
    rw [if_pos (by omega)]

theorem wrap_next (j : Nat) (h : j + 1 ≤ 32768) : wrap64 ((j : Int) + 1) = ((j + 1 : Nat) : Int) := by unfold wrap64; omega
theorem keepPut {w : World} {b g k j : Nat} {u v : Rx} (h : b ≠ g) (hS : w.cell? ⟨b, k, none⟩ = some (.float .f64 v.1) ∧ w.cell? ⟨b, k + 1, none⟩ = some (.float .f64 v.2)) : (putC w g j u).cell? ⟨b, k, none⟩ = some (.float .f64 v.1) ∧ (putC w g j u).cell? ⟨b, k + 1, none⟩ = some (.float .f64 v.2) := by
  have ne : ∀ {x y : Nat}, (⟨g, y, none⟩ : Addr) ≠ ⟨b, x, none⟩ := fun e => h (congrArg Addr.block e).symm
  unfold putC
  exact ⟨by rw [World.cell?_setCell_other _ _ _ _ ne, World.cell?_setCell_other _ _ _ _ ne]; exact hS.1, by rw [World.cell?_setCell_other _ _ _ _ ne, World.cell?_setCell_other _ _ _ _ ne]; exact hS.2⟩
set_option maxRecDepth 100000 in
set_option maxHeartbeats 4000000 in
theorem whole_any (A : Option Addr) (n l c : Nat) (h : Nat → Cx) (w : World) (hA : CsAt w A l h) (hl : l = n / 2 + 1) (n1 : 1 ≤ n) (n2 : n ≤ 16384) :
    Calls Tryz.prog 91 #[.slice A l c, .int .i64 n] w fun z w' => ∃ g, z = .returned (.slice (some ⟨g, 0, none⟩) n n) ∧ w.heap.size ≤ g ∧ g < w'.heap.size ∧ RowC w' g n (wholeC h n) ∧ Below w.heap.size w w' := by
  have HA := Lib.hid hA
  have hmk := mk_C n (by omega) w
  obtain ⟨b, o, u, rfl, c0, c1, hu⟩ := hA 0 (by omega)
  have HU := Lib.hid hu
  have HL := Lib.hid hl
  have HN := Lib.hid n1
  have HN2 := Lib.hid n2
  have l0 : (0 : Int) < l := by omega
  have k0 : (0 : Int) < n := by omega
  rw [Nat.zero_mul, Nat.add_zero] at c0 c1
  obtain ⟨W, hW⟩ : ∃ W, W = w.alloc (.cells (zsC n) 52) := ⟨_, rfl⟩
  rw [← hW] at hmk
  have hb : Below w.heap.size w W := by rw [hW]; exact (Below.refl _ w).alloc (Nat.le_refl _) _
  have hr : RowC W w.heap.size n (fun _ => (0, 0)) := by rw [hW]; exact zs_rowC n w _
  have hs : w.heap.size < W.heap.size := by rw [hW]; simp
  obtain ⟨g, hg⟩ : ∃ g, g = w.heap.size := ⟨_, rfl⟩
  have c0' := c0
  have c0 := keep_cell hb c0
  rw [← hg] at hmk hr hs
  obtain ⟨v, v0, v1, v2, v3, v4⟩ := hr 0 (by omega)
  have hR := hr.setRe (j := 0) (by omega) u.1
  rw [Nat.zero_mul] at hR v0 v2
  obtain ⟨W2, hW2⟩ : ∃ W2, W2 = W.setCell ⟨g, 0, none⟩ (.float .f64 u.1) := ⟨_, rfl⟩
  rw [← hW2] at hR
  have hb2 : Below w.heap.size w W2 := by rw [hW2]; exact hb.setCell (p := ⟨g, 0, none⟩) (by show _ ≤ g; omega) _
  have hs2 : g < W2.heap.size := by rw [hW2]; simpa using hs
  have HR := Lib.hid (hR.congr (fun i hi => (congrArg (fun q => updT (fun _ => ((0 : Nat), (0 : Nat))) 0 (q, 0) i) (congrArg Prod.fst hu)).trans (whP_start h n i hi)))
  have HB := Lib.hid hb2
  have HG := Lib.hid hs2
  have HGW := Lib.hid hg
  clear hW hr hR hs hu hA hl n1 n2 hb hb2 hs2 hg v1 v3 v4 c1
  go_enter Tryz.func91, Tryz.ntmps91
  go_wp2
  rw [← hW2]
  clear hW2 v0 v2 hmk
  go_loopw [6] (fun vi wr => ∃ j : Nat, 1 ≤ j ∧ 2 * j ≤ n + 1 ∧ vi = .int .i64 j ∧ Hid (RowC wr g n (whP h n j)) ∧ Hid (Below w.heap.size w wr) ∧ Hid (g < wr.heap.size)) (fun vi _ => n - (intOf vi).toNat)
  case atStart => exact ⟨1, by omega, by have := HN.out; omega, rfl, HR, HB, HG⟩
  case round =>
    obtain ⟨j, j1, j2, rfl, hr, hb, hs⟩ := hrel
    have hj2 : Hid (j ≤ 16384) := Lib.hid (by have := HN2.out; omega)
    have hj9 : Hid (j + 1 ≤ 32768) := Lib.hid (by have := HN2.out; omega)
    by_cases hlt : 2 * j < n
    · have hm3 : n - (j + 1) < n - j ∧ 2 * (j + 1) ≤ n + 1 := by omega
      have HM3 := Lib.hid hm3
      clear hm3
      have hjl : j < l := by have := HL.out; omega
      obtain ⟨b', o', v, e', d0, d1, hv⟩ := HA.out.keep hb.out j hjl
      simp only [Option.some.injEq, Addr.mk.injEq, and_true] at e'
      obtain ⟨rfl, rfl⟩ := e'
      have HV := Lib.hid hv
      clear hv
      obtain ⟨m, hm⟩ : ∃ m, m = n - j := ⟨_, rfl⟩
      have hjn : j < n := by omega
      have hmn : m < n := by omega
      have hmj : m ≠ j := by omega
      obtain ⟨d, hd⟩ : ∃ d, d = 2 * j := ⟨_, rfl⟩
      have hd0 : wrap64 (2 * (j : Int)) = (d : Int) := by rw [show 2 * (j : Int) = (d : Int) by omega]; exact wrap64_nat d (Nat.lt_of_le_of_lt (show d ≤ 32768 by have := hj2.out; omega) (by decide))
      have hd1 : IntKind.i64.wrap (2 * (j : Int)) = (d : Int) := by rw [show 2 * (j : Int) = (d : Int) by omega]; exact wrapI_nat d (Nat.lt_of_le_of_lt (show d ≤ 32768 by have := hj2.out; omega) (by decide))
      have hki : (d : Int) < n := by omega
      have hkl : (j : Int) < l := by omega
      have hkn : (j : Int) < n := by omega
      have hkm : (m : Int) < n := by omega
      have hw0 : wrap64 ((n : Int) - j) = (m : Int) := by rw [show (n : Int) - j = (m : Int) by omega]; exact wrap64_nat m (Nat.lt_of_lt_of_le hmn (Nat.le_trans HN2.out (by decide)))
      have hw1 : IntKind.i64.wrap ((n : Int) - j) = (m : Int) := by rw [show (n : Int) - j = (m : Int) by omega]; exact wrapI_nat m (Nat.lt_of_lt_of_le hmn (Nat.le_trans HN2.out (by decide)))
      have hbg : b ≠ g := by have := World.block_lt_of_cell? _ _ c0'; have := HGW.out; simp only at *; omega
      have HM := Lib.hid hm
      have HLT := Lib.hid hlt
      clear hm hlt hd
      go_upto_region 6 with (fail)
      refine wp_region_S (fun w'' => w''.cell? ⟨b, o + j * 2, none⟩ = some (.float .f64 v.1) ∧ w''.cell? ⟨b, o + j * 2 + 1, none⟩ = some (.float .f64 v.2)) 17 (by kernel_rfl) ?_
      have hS0 := (⟨d0, d1⟩ : wr.drew.cell? ⟨b, o + j * 2, none⟩ = some (.float .f64 v.1) ∧ wr.drew.cell? ⟨b, o + j * 2 + 1, none⟩ = some (.float .f64 v.2))
      refine Takes.intro [0,1,2,3,4,5,6,7,8,9,10,11,12,13] ?_
      repeat (refine Takes.step (v := ?_) (by kernel_rfl) rfl (fun _ _ _ h => h) rfl hS0 (fun w hSw => by (try dsimp only at hSw); go_simp; try with_reducible rfl) ?_; try simp only [List.getElem_toArray, List.getElem_cons_zero, List.getElem_cons_succ, Act.put, List.setIfInBounds_toArray, List.set_cons_zero, List.set_cons_succ])
      refine Takes.nil ?_
      refine wpAnyS_one (i := 14) (by kernel_rfl) rfl rfl (fun K hK => ?_)
      go_simp
      refine (Conj_any v _).mono ?_
      rintro z w2 ⟨rfl, hb2⟩
      have HB2 : Hid (Below wr.heap.size wr w2) := Lib.hid ((Below.refl _ wr).drew.trans hb2)
      have hS1 : w2.cell? ⟨b, o + j * 2, none⟩ = some (.float .f64 v.1) ∧ w2.cell? ⟨b, o + j * 2 + 1, none⟩ = some (.float .f64 v.2) := ⟨keep_cell HB2.out d0, keep_cell HB2.out d1⟩
      have HR2 := Lib.hid (hr.out.keep HB2.out)
      obtain ⟨x, x0, x1, x2, x3, -⟩ := HR2.out j hjn
      clear hb2
      refine hK.out _ _ (fun _ => hS1) ?_
      clear hK K
      try simp only [List.getElem_toArray, List.getElem_cons_zero, List.getElem_cons_succ, Act.put, List.setIfInBounds_toArray, List.set_cons_zero, List.set_cons_succ]
      refine Takes.intro [15] ?_
      repeat (refine Takes.step (v := ?_) (by kernel_rfl) rfl (fun _ _ _ h => h) rfl hS1 (fun w hSw => by (try dsimp only at hSw); go_simp; try with_reducible rfl) ?_; try simp only [List.getElem_toArray, List.getElem_cons_zero, List.getElem_cons_succ, Act.put, List.setIfInBounds_toArray, List.set_cons_zero, List.set_cons_succ])
      refine Takes.nil ?_
      refine wpAnyS_one (i := 16) (by kernel_rfl) rfl rfl (fun K hK => ?_)
      go_simp
      have hS2 : (putC w2 g j v).cell? ⟨b, o + j * 2, none⟩ = some (.float .f64 v.1) ∧ (putC w2 g j v).cell? ⟨b, o + j * 2 + 1, none⟩ = some (.float .f64 v.2) := keepPut hbg hS1
      refine hK.out _ _ (fun _ => hS2) ?_
      clear hK K
      try simp only [List.getElem_toArray, List.getElem_cons_zero, List.getElem_cons_succ, Act.put, List.setIfInBounds_toArray, List.set_cons_zero, List.set_cons_succ]
      refine wpAnyS_end 2 17 (by kernel_rfl) (by decide) rfl ?_
      simp only [List.toList_toArray, List.drop_succ_cons, List.drop_zero]
      obtain ⟨W3, hW3⟩ : ∃ W3, W3 = putC w2 g j v := ⟨_, rfl⟩
      have hW3' : (w2.setCell ⟨g, j * 2, none⟩ (.float .f64 v.1)).setCell ⟨g, j * 2 + 1, none⟩ (.float .f64 v.2) = W3 := hW3.symm
      have hr3 : RowC W3 g n (updT (whP h n j) j (nC v)) := by rw [hW3]; exact HR2.out.set hjn v
      obtain ⟨y, y0, y1, y2, y3, -⟩ := hr3 m hmn
      have HR3 := Lib.hid (hr3.set hmn (v.1, negF v.2))
      have hgw : w.heap.size ≤ g := by have := HGW.out; omega
      have hb3 : Below w.heap.size w W3 := by rw [hW3]; exact ((hb.out.trans (HB2.out.mono hb.out.size)).setCell (p := ⟨g, _, none⟩) hgw _).setCell (p := ⟨g, _, none⟩) hgw _
      have hs3 : g < W3.heap.size := by rw [hW3]; have := HB2.out.size; have := hs.out; unfold putC; simp; omega
      have HB3 := Lib.hid (And.intro hb3 hs3)
      have HJ := Lib.hid (And.intro j1 j2)
      have HJW := Lib.hid (wrap_next j hj9.out)
      rw [hW3']
      clear hS0 hS1 hS2 hW3 hW3' hr3 hb3 hs3 x0 x1 x2 x3 d0 d1 j1 j2
      go_wp2
      refine ⟨⟨j + 1, ?_, ?_, ?_, ?_, ?_, ?_⟩, ?_⟩
      · exact Nat.le_add_left 1 j
      · exact HM3.out.2
      · exact congrArg (Value.int .i64) HJW.out
      · refine Lib.hid (HR3.out.congr (fun i hi => ?_))
        have e := whP_next h n j HJ.out.1 HLT.out i hi
        rw [← HV.out, ← HM.out, ← nC_conj] at e
        exact e
      · exact Lib.hid ((HB3.out.1.setCell (p := ⟨g, _, none⟩) hgw _).setCell (p := ⟨g, _, none⟩) hgw _)
      · refine Lib.hid ?_
        rw [World.size_setCell, World.size_setCell]
        exact HB3.out.2
      · rw [HJW.out]
        exact HM3.out.1
    · have HR2 := Lib.hid hr.out
      obtain ⟨q, hq⟩ : ∃ q, q = n / 2 := ⟨_, rfl⟩
      obtain ⟨d, hd⟩ : ∃ d, d = 2 * j := ⟨_, rfl⟩
      have hd0 : wrap64 (2 * (j : Int)) = (d : Int) := by rw [show 2 * (j : Int) = (d : Int) by omega]; exact wrap64_nat d (Nat.lt_of_le_of_lt (show d ≤ 32768 by have := hj2.out; omega) (by decide))
      have hd1 : IntKind.i64.wrap (2 * (j : Int)) = (d : Int) := by rw [show 2 * (j : Int) = (d : Int) by omega]; exact wrapI_nat d (Nat.lt_of_le_of_lt (show d ≤ 32768 by have := hj2.out; omega) (by decide))
      have hki : ¬ (d : Int) < n := by omega
      have hq0 : wrap64 ((n : Int) / 2) = (q : Int) := by rw [show (n : Int) / 2 = (q : Int) by omega]; exact wrap64_nat q (Nat.lt_of_le_of_lt (show q ≤ 32768 by have := HN2.out; omega) (by decide))
      have hq1 : IntKind.i64.wrap ((n : Int) / 2) = (q : Int) := by rw [show (n : Int) / 2 = (q : Int) by omega]; exact wrapI_nat q (Nat.lt_of_le_of_lt (show q ≤ 32768 by have := HN2.out; omega) (by decide))
      have hql : q < l := by have := HL.out; omega
      have hqn : q < n := by have := HN.out; omega
      have HQ := Lib.hid hq
      have HLT := Lib.hid hlt
      have HJ := Lib.hid (And.intro j1 j2)
      clear hlt hd hq hr
      by_cases hp : n % 2 = 0
      · have hpi : (n : Int) % 2 = 0 := by omega
        have HP := Lib.hid hp
        obtain ⟨b', o', v, e', d0, d1, hv⟩ := HA.out.keep hb.out q hql
        simp only [Option.some.injEq, Addr.mk.injEq, and_true] at e'
        obtain ⟨rfl, rfl⟩ := e'
        have HV := Lib.hid hv
        obtain ⟨x, x0, x1, x2, x3, -⟩ := HR2.out q hqn
        have hkl : (q : Int) < l := by omega
        have hkn : (q : Int) < n := by omega
        have HR3 := Lib.hid (HR2.out.set hqn (v.1, 0))
        clear hv hp j1 j2
        go_wp2
        go_ret
        refine ⟨g, rfl, by have := HGW.out; omega, ?_, HR3.out.congr (fun i hi => ?_), (hb.out.setCell (p := ⟨g, _, none⟩) (by show _ ≤ g; have := HGW.out; omega) _).setCell (p := ⟨g, _, none⟩) (by show _ ≤ g; have := HGW.out; omega) _⟩
        · simpa using hs.out
        · have := whP_even h n j HJ.out.1 (by have := HLT.out; omega) HJ.out.2 HP.out i hi
          rw [← HQ.out, ← HV.out] at this
          exact this
      · have hpi : (n : Int) % 2 = 1 := by omega
        have HP := Lib.hid hp
        clear hp j1 j2
        go_wp2
        go_ret
        exact ⟨g, rfl, by have := HGW.out; omega, hs.out, HR2.out.congr (fun i hi => whP_odd h n j HJ.out.1 (by have := HLT.out; omega) HJ.out.2 (by have := HP.out; omega) i hi), hb.out⟩
end Go.Proofs.YtmgfaeineklccaaGreat
/- Layer 21: real.Whole. -/
set_option linter.unusedSimpArgs false
set_option linter.unusedVariables false
namespace Go.Proofs.YtmgfaeineklccaaGreat
open Go.RowKit Go.Lib

/-- Why there is no whole. -/
def wholeE (l : Nat) (n : Int) : Int := if n < 1 ∨ 16384 < n then 3 else if (l : Int) ≠ n / 2 + 1 then 4 else 0
set_option maxRecDepth 100000 in
theorem Whole_any (A : Option Addr) (l c : Nat) (h : Nat → Cx) (n : Int) (w : World) (hA : CsAt w A l h) :
    Calls Tryz.prog 34 #[.slice A l c, .int .i64 n] w fun z w' => (wholeE l n ≠ 0 ∧ z = .returned (.tuple #[.slice none 0 0, .int .i64 (wholeE l n)]) ∨ wholeE l n = 0 ∧ ∃ g, z = .returned (.tuple #[.slice (some ⟨g, 0, none⟩) n.toNat n.toNat, .int .i64 0]) ∧ w.heap.size ≤ g ∧ g < w'.heap.size ∧ RowC w' g n.toNat (wholeC h n.toNat)) ∧ Below w.heap.size w w' := by
  have HW := Lib.hid (HWants_any n w)
  by_cases h1 : n < 1 ∨ 16384 < n
  · have e : wholeE l n = 3 := by unfold wholeE; rw [if_pos h1]
    rw [e]
    rw [wants_bad h1] at HW
    clear h1 hA e
    go_enter Tryz.func34, Tryz.ntmps34
    go_wp2_with fail
    refine HW.out.mono ?_
    rintro z w1 ⟨rfl, rfl⟩
    go_wp2
    go_ret2
    exact ⟨.inl ⟨by decide, rfl⟩, Below.refl _ _⟩
  · obtain ⟨k, rfl⟩ : ∃ k : Nat, n = k := ⟨n.toNat, by omega⟩
    have hw := wants_pos (n := (k : Int)) (by omega) (by omega)
    obtain ⟨v, hv⟩ : ∃ v, v = wantsI (k : Int) := ⟨_, rfl⟩
    rw [← hv] at hw HW
    have hv0 : (v == 0) = false := by have := hw.1; simp; omega
    have hv1 : ¬ v = 0 := by have := hw.1; omega
    obtain ⟨q, hq⟩ : ∃ q, q = k / 2 := ⟨_, rfl⟩
    have hk : Hid (1 ≤ k ∧ k ≤ 16384) := Lib.hid (by omega)
    obtain ⟨r, hr⟩ : ∃ r, r = q + 1 := ⟨_, rfl⟩
    have hq0 : wrap64 ((k : Int) / 2) = (q : Int) := by rw [show (k : Int) / 2 = (q : Int) by omega]; exact wrap64_nat q (by omega)
    have hq1 : IntKind.i64.wrap ((k : Int) / 2) = (q : Int) := by rw [show (k : Int) / 2 = (q : Int) by omega]; exact wrapI_nat q (by omega)
    have hr0 : wrap64 ((q : Int) + 1) = (r : Int) := by rw [show (q : Int) + 1 = (r : Int) by omega]; exact wrap64_nat r (by omega)
    have hr1 : IntKind.i64.wrap ((q : Int) + 1) = (r : Int) := by rw [show (q : Int) + 1 = (r : Int) by omega]; exact wrapI_nat r (by omega)
    by_cases h2 : l = r
    · have e : wholeE l (k : Int) = 0 := by unfold wholeE; rw [if_neg h1, if_neg (by omega)]
      rw [e]
      subst h2
      have HA := Lib.hid hA
      have HC := Lib.hid (whole_any A k l c h w hA (by omega) (by omega) (by omega))
      clear h1 hA e hv hw hq hr
      go_enter Tryz.func34, Tryz.ntmps34
      go_wp2_with fail
      refine HW.out.mono ?_
      rintro z w1 ⟨rfl, rfl⟩
      go_wp2_with fail
      refine HC.out.mono ?_
      rintro z w2 ⟨g, rfl, hg1, hg2, hrw, hb⟩
      have HG := Lib.hid (And.intro hg1 (And.intro hg2 (And.intro hrw hb)))
      clear hg1 hg2 hrw hb
      go_wp2
      go_ret2
      exact ⟨.inr ⟨trivial, g, rfl, HG.out.1, HG.out.2.1, HG.out.2.2.1⟩, HG.out.2.2.2⟩
    · have e : wholeE l (k : Int) = 4 := by unfold wholeE; rw [if_neg h1, if_pos (by omega)]
      rw [e]
      have hlr : ¬ (l : Int) = (r : Int) := by omega
      have hlr2 : ((l : Int) != (r : Int)) = true := by simpa using hlr
      clear h1 hA e hv hw hq hr h2
      go_enter Tryz.func34, Tryz.ntmps34
      go_wp2_with fail
      refine HW.out.mono ?_
      rintro z w1 ⟨rfl, rfl⟩
      go_wp2
      go_ret2
      exact ⟨.inl ⟨by decide, rfl⟩, Below.refl _ _⟩
end Go.Proofs.YtmgfaeineklccaaGreat
/- Layer 21: halves, quarter turns. -/
set_option linter.unusedSimpArgs false
set_option linter.unusedVariables false
namespace Go.Proofs.YtmgfaeineklccaaGreat
open Go.RowKit Go.Lib

def chalf (a : Cx) : Cx := (fD a.1 4611686018427387904, fD a.2 4611686018427387904)
def cturn1 (a : Cx) : Cx := (negX a.2, a.1)
def cturn3 (a : Cx) : Cx := (a.2, negX a.1)
theorem nz_two : nz 4611686018427387904 = 4611686018427387904 := by kernel_rfl
set_option maxRecDepth 100000 in
set_option maxHeartbeats 1000000 in
theorem half_any (a : Rx) (w : World) : Calls Tryz.prog 132 #[cV a] w fun z w' => (∃ r, z = .returned (cV r) ∧ nC r = chalf (nC a)) ∧ Below w.heap.size w w' := by
  have h4 := @run_fquoN Tryz.prog
  go_enter Tryz.func132, Tryz.ntmps132
  go_wp2
  generalize e0 : fres Ieee.double.div a.1 4611686018427387904 _ = q0
  generalize e1 : fres Ieee.double.div a.2 4611686018427387904 _ = q1
  have n0 : nz q0 = fN Ieee.double.div (nz a.1) (nz 4611686018427387904) := by rw [← e0]; exact nz_fres good_div _ _ _
  have l0 : q0 < 18446744073709551616 := by rw [← e0]; exact fres_lt good_div _ _ _
  have n1 : nz q1 = fN Ieee.double.div (nz a.2) (nz 4611686018427387904) := by rw [← e1]; exact nz_fres good_div _ _ _
  have l1 : q1 < 18446744073709551616 := by rw [← e1]; exact fres_lt good_div _ _ _
  clear e0 e1
  rw [nz_two] at n0 n1
  exact bodyPost_ret (v := cV (⟨q0, l0⟩, ⟨q1, l1⟩)) (by simp [results, Tryz.results132, go_sem]) rfl ⟨⟨(⟨q0, l0⟩, ⟨q1, l1⟩), rfl, by simp only [nC, chalf, fD, n0, n1]⟩, ((below_drewN (((Below.refl _ w).alloc (Nat.le_refl _) _).alloc (by simp) _) _).setCell (p := ⟨_, _, _⟩) (by show w.heap.size ≤ w.heap.size + 1; omega) _).setCell (p := ⟨_, _, _⟩) (by show w.heap.size ≤ w.heap.size + 1; omega) _⟩
set_option maxRecDepth 100000 in
theorem Turn1_any (u : Rx) (w : World) : Calls Tryz.prog 135 #[cV u, .int .i64 1] w fun z w' => z = .returned (cV (negF u.2, u.1)) ∧ Below w.heap.size w w' := by
  have hn := unary_negF u.2
  go_enter Tryz.func135, Tryz.ntmps135
  go_wp2
  exact bodyPost_ret (v := cV (negF u.2, u.1)) (by simp [results, Tryz.results135, go_sem]) rfl ⟨rfl, ((Below.refl _ w).alloc (Nat.le_refl _) _).alloc (by simp) _⟩
set_option maxRecDepth 100000 in
theorem Turn3_any (u : Rx) (w : World) : Calls Tryz.prog 135 #[cV u, .int .i64 3] w fun z w' => z = .returned (cV (u.2, negF u.1)) ∧ Below w.heap.size w w' := by
  have hn := unary_negF u.1
  go_enter Tryz.func135, Tryz.ntmps135
  go_wp2
  exact bodyPost_ret (v := cV (u.2, negF u.1)) (by simp [results, Tryz.results135, go_sem]) rfl ⟨rfl, ((Below.refl _ w).alloc (Nat.le_refl _) _).alloc (by simp) _⟩
theorem nC_turn1 (u : Rx) : nC (negF u.2, u.1) = cturn1 (nC u) := by unfold nC cturn1 negF; simp only [nz_neg]
theorem nC_turn3 (u : Rx) : nC (u.2, negF u.1) = cturn3 (nC u) := by unfold nC cturn3 negF; simp only [nz_neg]
end Go.Proofs.YtmgfaeineklccaaGreat
/- Layer 21: roots. -/
set_option linter.unusedSimpArgs false
set_option linter.unusedVariables false
namespace Go.Proofs.YtmgfaeineklccaaGreat
open Go.RowKit Go.Lib

def hroot (j n : Int) : Cx := (nz (T.tuC (-j) n), nz (T.tuS (-j) n))
set_option maxRecDepth 100000 in
theorem root_any (j n : Int) (w : World) (j1 : -65536 ≤ j) (j2 : j ≤ 65536) (n1 : 1 ≤ n) (n2 : n ≤ 65536) :
    Calls Tryz.prog 136 #[.int .i64 j, .int .i64 n] w fun z w' => (∃ r, z = .returned (cV r) ∧ nC r = hroot j n) ∧ Below w.heap.size w w' := by
  obtain ⟨ht, hf1, hf2, -, -⟩ := T.turn_fn (-j) n n1 (Int.le_trans n2 (by decide))
  have HT := Lib.hid ht
  obtain ⟨tc, htc⟩ : ∃ tc : Fin 18446744073709551616, tc.val = T.tuC (-j) n := ⟨⟨_, hf1.1⟩, rfl⟩
  obtain ⟨ts, hts⟩ : ∃ ts : Fin 18446744073709551616, ts.val = T.tuS (-j) n := ⟨⟨_, hf2.1⟩, rfl⟩
  have HQ : Hid (nC (tc, ts) = hroot j n) := Lib.hid (by unfold nC hroot; rw [htc, hts])
  rw [← htc, ← hts] at HT
  obtain ⟨i, hi⟩ : ∃ i, i = -j := ⟨_, rfl⟩
  have hw0 : wrap64 (-j) = i := by rw [hi]; unfold wrap64; omega
  have hw1 : IntKind.i64.wrap (-j) = i := by rw [hi, IntKind.wrap_i64]; omega
  rw [← hi] at HT
  clear ht hf1 hf2 htc hts hi j1 j2 n1 n2
  go_enter Tryz.func136, Tryz.ntmps136
  go_wp2_with fail
  refine (HT.out _).mono ?_
  rintro z w2 ⟨rfl, hb2⟩
  have HB2 := Lib.hid (((Below.refl _ w).alloc (Nat.le_refl _) (.cells #[.float .f64 0, .float .f64 0] 52)).trans (hb2.mono (by simp)))
  have c0 := keep_cell hb2 (show (w.alloc (.cells #[.float .f64 0, .float .f64 0] 52)).cell? ⟨w.heap.size, 0, none⟩ = some (.float .f64 0) by rw [World.cell?_alloc_new]; rfl)
  have c1 := keep_cell hb2 (show (w.alloc (.cells #[.float .f64 0, .float .f64 0] 52)).cell? ⟨w.heap.size, 1, none⟩ = some (.float .f64 0) by rw [World.cell?_alloc_new]; rfl)
  have f0 := (World.frozen?_of_block (w := w.alloc (.cells #[.float .f64 0, .float .f64 0] 52)) (a := ⟨w.heap.size, 0, none⟩) (Below.block hb2 _ (by simp))).trans (World.frozen?_alloc_new _ _ _ _)
  have f1 := (World.frozen?_of_block (w := w.alloc (.cells #[.float .f64 0, .float .f64 0] 52)) (a := ⟨w.heap.size, 1, none⟩) (Below.block hb2 _ (by simp))).trans (World.frozen?_alloc_new _ _ _ _)
  clear hb2
  have e0 : (w2.setCell ⟨w.heap.size, 0, none⟩ (.float .f64 tc)).cell? ⟨w.heap.size, 0, none⟩ = some (.float .f64 tc) := World.cell?_setCell_same _ _ _ c0
  have e1 : ((w2.setCell ⟨w.heap.size, 0, none⟩ (.float .f64 tc)).setCell ⟨w.heap.size, 1, none⟩ (.float .f64 ts)).cell? ⟨w.heap.size, 1, none⟩ = some (.float .f64 ts) := World.cell?_setCell_same _ _ _ (u := .float .f64 0) (by rw [World.cell?_setCell_other _ _ _ _ (fun e => by injection e; omega)]; exact c1)
  go_wp2
  exact bodyPost_ret (v := cV (tc, ts)) (by simp [results, Tryz.results136, go_sem, e0, e1]) rfl ⟨⟨(tc, ts), rfl, HQ.out⟩, (HB2.out.setCell (p := ⟨_, _, _⟩) (Nat.le_refl _) _).setCell (p := ⟨_, _, _⟩) (Nat.le_refl _) _⟩
end Go.Proofs.YtmgfaeineklccaaGreat
/- Layer 21: why there can be no transform. -/
set_option linter.unusedSimpArgs false
set_option linter.unusedVariables false
namespace Go.Proofs.YtmgfaeineklccaaGreat
open Go.RowKit Go.Lib

def hmayE (n e : Int) : Int := if n < 1 ∨ 16384 < n then 3 else e
set_option maxRecDepth 100000 in
theorem hmay_any (kind N r : Int) (q : Fo) (n e : Int) (C : ChkC kind N r q (wantsI n) e) (A : Option Addr) (c : Nat) (w : World) (hk : Kids w A 0 q) :
    Calls Tryz.prog 80 #[plV kind N r A q.len c, .int .i64 n] w fun z w' => z = .returned (.int .i64 (hmayE n e)) ∧ Below w.heap.size w w' := by
  have HW := Lib.hid (HWants_any n)
  have HC := Lib.hid C
  obtain ⟨W, hW⟩ : ∃ W, W = w.alloc (.cells #[.int .i64 kind, .int .i64 N, .int .i64 r, .slice A q.len c] 27) := ⟨_, rfl⟩
  have hb : Below w.heap.size w W := by rw [hW]; exact (Below.refl _ w).alloc (Nat.le_refl _) _
  obtain ⟨p0, p1, p2, p3⟩ := PlBox.new w kind N r A q.len c 27
  rw [← hW] at p0 p1 p2 p3
  have HB := Lib.hid hb
  have HK := Lib.hid (Kids.below hk hb)
  clear C hb hk
  by_cases h1 : n < 1 ∨ 16384 < n
  · rw [show hmayE n e = 3 from if_pos h1]
    rw [wants_bad h1] at HW
    clear h1
    go_enter Tryz.func80, Tryz.ntmps80
    go_upto_region 1 with (fail)
    rw [← hW]
    clear hW
    go_wp2_with fail
    refine (HW.out _).mono ?_
    rintro z w1 ⟨rfl, rfl⟩
    go_wp2
    go_ret
    exact ⟨rfl, HB.out⟩
  · rw [show hmayE n e = e from if_neg h1]
    have hw := (wants_pos (n := n) (by omega) (by omega)).1
    obtain ⟨v, hv⟩ : ∃ v, v = wantsI n := ⟨_, rfl⟩
    rw [← hv] at hw HW HC
    have hv0 : (v == 0) = false := by simp; omega
    have hv1 : ¬ v = 0 := by omega
    clear h1 hv
    go_enter Tryz.func80, Tryz.ntmps80
    go_upto_region 1 with (fail)
    rw [← hW]
    clear hW
    go_wp2_with fail
    refine (HW.out _).mono ?_
    rintro z w1 ⟨rfl, rfl⟩
    go_wp2_with fail
    refine (HC.out _ A c HK.out).mono ?_
    rintro z w2 ⟨⟨a, rfl⟩, hb2⟩
    have HB2 := Lib.hid (HB.out.trans (hb2.mono HB.out.size))
    clear hb2
    go_wp2
    go_ret
    exact ⟨rfl, HB2.out⟩
end Go.Proofs.YtmgfaeineklccaaGreat
/- Layer 21: floats that are too great. -/
set_option linter.unusedSimpArgs false
set_option linter.unusedVariables false
namespace Go.Proofs.YtmgfaeineklccaaGreat
open Go.RowKit Go.Lib

abbrev W890 : Nat := 8615386087159758848
set_option maxRecDepth 100000 in
theorem great_any (x : Nat) (w : World) (hx : x < 18446744073709551616) :
    Calls Tryz.prog 82 #[.float .f64 x] w fun z w' => z = .returned (.bool (!fitsB W890 x)) ∧ w = w' := by
  have HX := Lib.hid hx
  clear hx
  go_enter Tryz.func82, Tryz.ntmps82
  go_wp2_with fail
  refine (absF_any x _ HX.out).mono ?_
  rintro z w' ⟨rfl, rfl⟩
  go_wp2
  go_ret
  exact ⟨congrArg (fun q => Ending.returned (Value.bool q)) (Bool.not_or _ _).symm, rfl⟩
set_option maxRecDepth 100000 in
set_option maxHeartbeats 1000000 in
theorem great2_any (u : Rx) (w : World) :
    Calls Tryz.prog 89 #[cV u] w fun z w' => z = .returned (.bool (!fitsC W890 (nC u))) ∧ Below w.heap.size w w' := by
  rw [fitsC_nC]
  unfold fitsC
  have HG1 := Lib.hid (fun w => great_any u.1 w u.1.isLt)
  have HG2 := Lib.hid (fun w => great_any u.2 w u.2.isLt)
  cases h1 : fitsB W890 u.1
  · rw [h1] at HG1
    go_enter Tryz.func89, Tryz.ntmps89
    go_wp2_with fail
    refine (HG1.out _).mono ?_
    rintro z w' ⟨rfl, rfl⟩
    go_wp2
    go_ret
    exact ⟨rfl, (Below.refl _ _).alloc (Nat.le_refl _) _⟩
  · rw [h1] at HG1
    go_enter Tryz.func89, Tryz.ntmps89
    go_wp2_with fail
    refine (HG1.out _).mono ?_
    rintro z w' ⟨rfl, rfl⟩
    go_wp2_with fail
    refine (HG2.out _).mono ?_
    rintro z w' ⟨rfl, rfl⟩
    go_wp2
    go_ret
    exact ⟨by simp, (Below.refl _ _).alloc (Nat.le_refl _) _⟩
end Go.Proofs.YtmgfaeineklccaaGreat
/- Layer 21: is any number too great? -/
set_option linter.unusedSimpArgs false
set_option linter.unusedVariables false
namespace Go.Proofs.YtmgfaeineklccaaGreat
open Go.RowKit Go.Lib

set_option maxRecDepth 100000 in
set_option maxHeartbeats 2000000 in
theorem IndexFuncP_any (f : FuncId) (p : Cx → Bool) (hent : ∀ (args : Array Value) w, (callFunc f args).run Tryz.prog w = .ok (.enter f args) w)
    (hf : ∀ (u : Rx) w, Calls Tryz.prog f #[cV u] w fun z w' => z = .returned (.bool (p (nC u))) ∧ Below w.heap.size w w')
    (X : Option Addr) (n c : Nat) (x : Nat → Cx) (w : World) (hX : CsAt w X n x) (hn : n ≤ 4398046511104) :
    Calls Tryz.prog 100 #[.slice X n c, .func (.func f) #[] #[]] w fun z w' => z = .returned (.int .i64 (idxI p x n)) ∧ Below w.heap.size w w' := by
  have HF := Lib.hid hf
  have HX := Lib.hid hX
  clear hf hX
  go_enter Tryz.func100, Tryz.ntmps100
  go_wp2
  go_loopw [8] (fun vi wr => ∃ k : Nat, k ≤ n ∧ vi = .int .i64 k ∧ Hid (idxI p x k = -1) ∧ Hid (Below w.heap.size w wr)) (fun vi _ => n - (intOf vi).toNat)
  case atStart => exact ⟨0, by omega, rfl, Lib.hid rfl, Lib.hid (Below.refl _ _)⟩
  case round =>
    obtain ⟨k, hk, rfl, hi, hb⟩ := hrel
    by_cases hlt : k < n
    · obtain ⟨b', o, u, rfl, hc1, hc2, hu⟩ := HX.out.keep hb.out k hlt
      have HU := Lib.hid hu
      clear hu
      have hki : (k : Int) < n := by omega
      go_wp2_with fail
      refine (HF.out u wr).mono ?_
      rintro z w2 ⟨rfl, hb2⟩
      have HB2 := Lib.hid (hb.out.trans (hb2.mono hb.out.size))
      clear hb2 hc1 hc2
      cases hp : p (nC u)
      · have HI : Hid (idxI p x (k + 1) = -1) := Lib.hid (idxI_next hi.out (by rw [← HU.out]; exact hp))
        clear hp
        go_wp2
        exact ⟨⟨k + 1, by omega, by go_num, HI, HB2⟩, by simp [intOf]; omega⟩
      · have HI : Hid (idxI p x n = k) := Lib.hid (idxI_at hlt hi.out (by rw [← HU.out]; exact hp))
        clear hp
        go_wp2
        go_ret
        exact ⟨by rw [HI.out]; rfl, HB2.out⟩
    · obtain rfl : k = n := by omega
      go_wp2
      go_ret
      exact ⟨by rw [hi.out]; rfl, hb.out⟩

set_option maxRecDepth 100000 in
theorem ContainsC_any (f : FuncId) (p : Cx → Bool) (hent : ∀ (args : Array Value) w, (callFunc f args).run Tryz.prog w = .ok (.enter f args) w)
    (hf : ∀ (u : Rx) w, Calls Tryz.prog f #[cV u] w fun z w' => z = .returned (.bool (p (nC u))) ∧ Below w.heap.size w w')
    (X : Option Addr) (n c : Nat) (x : Nat → Cx) (w : World) (hX : CsAt w X n x) (hn : n ≤ 4398046511104) :
    Calls Tryz.prog 88 #[.slice X n c, .func (.func f) #[] #[]] w fun z w' => z = .returned (.bool (decide (0 ≤ idxI p x n))) ∧ Below w.heap.size w w' := by
  have HI := Lib.hid (IndexFuncP_any f p hent hf X n c x w hX hn)
  clear hf hX hent
  go_enter Tryz.func88, Tryz.ntmps88
  go_wp2_with fail
  refine HI.out.mono ?_
  rintro z w1 ⟨rfl, hb⟩
  have HB := Lib.hid hb
  clear hb
  go_wp2
  go_ret
  exact ⟨rfl, HB.out⟩
end Go.Proofs.YtmgfaeineklccaaGreat
/- Layer 21: lists of floats. -/
set_option linter.unusedSimpArgs false
set_option linter.unusedVariables false
namespace Go.Proofs.YtmgfaeineklccaaGreat
open Go.RowKit Go.Lib

/-- The slice at A reads as the floats f 0, .. (every NaN made one). -/
def FsAt (w : World) (A : Option Addr) (n : Nat) (f : Nat → Nat) : Prop := ∀ i, i < n → ∃ b o, ∃ u : Fin 18446744073709551616, A = some ⟨b, o, none⟩ ∧ w.cell? ⟨b, o + i, none⟩ = some (.float .f64 u) ∧ nz u = f i
theorem FsAt.keep {W w1 : World} {A : Option Addr} {n : Nat} {f : Nat → Nat} (hb : Below W.heap.size W w1) (h : FsAt W A n f) : FsAt w1 A n f := fun i hi => by
  obtain ⟨b, o, u, e, h1, h2⟩ := h i hi
  exact ⟨b, o, u, e, keep_cell hb h1, h2⟩
theorem FsAt.congr {w : World} {A : Option Addr} {n : Nat} {f g : Nat → Nat} (h : FsAt w A n f) (e : ∀ i, i < n → f i = g i) : FsAt w A n g := fun i hi => by rw [← e i hi]; exact h i hi
theorem FsAt.nil (w : World) (A : Option Addr) (f : Nat → Nat) : FsAt w A 0 f := fun i hi => by omega
def onF (p : Nat → Bool) : Cx → Bool := fun c => p c.1
def reF (x : Nat → Nat) : Nat → Cx := fun i => (x i, 0)
set_option maxRecDepth 100000 in
set_option maxHeartbeats 2000000 in
theorem IndexFuncF_any (f : FuncId) (p : Nat → Bool) (hent : ∀ (args : Array Value) w, (callFunc f args).run Tryz.prog w = .ok (.enter f args) w)
    (hf : ∀ (u : Fin 18446744073709551616) w, Calls Tryz.prog f #[.float .f64 (u : Nat)] w fun z w' => z = .returned (.bool (p (nz u))) ∧ Below w.heap.size w w')
    (X : Option Addr) (n c : Nat) (x : Nat → Nat) (w : World) (hX : FsAt w X n x) (hn : n ≤ 4398046511104) :
    Calls Tryz.prog 130 #[.slice X n c, .func (.func f) #[] #[]] w fun z w' => z = .returned (.int .i64 (idxI (onF p) (reF x) n)) ∧ Below w.heap.size w w' := by
  have HF := Lib.hid hf
  have HX := Lib.hid hX
  clear hf hX
  go_enter Tryz.func130, Tryz.ntmps130
  go_wp2
  go_loopw [8] (fun vi wr => ∃ k : Nat, k ≤ n ∧ vi = .int .i64 k ∧ Hid (idxI (onF p) (reF x) k = -1) ∧ Hid (Below w.heap.size w wr)) (fun vi _ => n - (intOf vi).toNat)
  case atStart => exact ⟨0, by omega, rfl, Lib.hid rfl, Lib.hid (Below.refl _ _)⟩
  case round =>
    obtain ⟨k, hk, rfl, hi, hb⟩ := hrel
    by_cases hlt : k < n
    · obtain ⟨b', o, u, rfl, hc1, hu⟩ := HX.out.keep hb.out k hlt
      have HU := Lib.hid hu
      clear hu
      have hki : (k : Int) < n := by omega
      go_wp2_with fail
      refine (HF.out u wr).mono ?_
      rintro z w2 ⟨rfl, hb2⟩
      have HB2 := Lib.hid (hb.out.trans (hb2.mono hb.out.size))
      clear hb2 hc1
      cases hp : p (nz u)
      · have HI : Hid (idxI (onF p) (reF x) (k + 1) = -1) := Lib.hid (idxI_next hi.out (by unfold onF reF; rw [← HU.out]; exact hp))
        clear hp
        go_wp2
        exact ⟨⟨k + 1, by omega, by go_num, HI, HB2⟩, by simp [intOf]; omega⟩
      · have HI : Hid (idxI (onF p) (reF x) n = k) := Lib.hid (idxI_at hlt hi.out (by unfold onF reF; rw [← HU.out]; exact hp))
        clear hp
        go_wp2
        go_ret
        exact ⟨by rw [HI.out]; rfl, HB2.out⟩
    · obtain rfl : k = n := by omega
      go_wp2
      go_ret
      exact ⟨by rw [hi.out]; rfl, hb.out⟩

set_option maxRecDepth 100000 in
theorem ContainsF_any (f : FuncId) (p : Nat → Bool) (hent : ∀ (args : Array Value) w, (callFunc f args).run Tryz.prog w = .ok (.enter f args) w)
    (hf : ∀ (u : Fin 18446744073709551616) w, Calls Tryz.prog f #[.float .f64 (u : Nat)] w fun z w' => z = .returned (.bool (p (nz u))) ∧ Below w.heap.size w w')
    (X : Option Addr) (n c : Nat) (x : Nat → Nat) (w : World) (hX : FsAt w X n x) (hn : n ≤ 4398046511104) :
    Calls Tryz.prog 81 #[.slice X n c, .func (.func f) #[] #[]] w fun z w' => z = .returned (.bool (decide (0 ≤ idxI (onF p) (reF x) n))) ∧ Below w.heap.size w w' := by
  have HI := Lib.hid (IndexFuncF_any f p hent hf X n c x w hX hn)
  clear hf hX hent
  go_enter Tryz.func81, Tryz.ntmps81
  go_wp2_with fail
  refine HI.out.mono ?_
  rintro z w1 ⟨rfl, hb⟩
  have HB := Lib.hid hb
  clear hb
  go_wp2
  go_ret
  exact ⟨rfl, HB.out⟩
end Go.Proofs.YtmgfaeineklccaaGreat
/- Lists of floats that grow by append. -/
set_option linter.unusedSimpArgs false
set_option linter.unusedVariables false
namespace Go.Proofs.YtmgfaeineklccaaGreat
open Go.RowKit Go.Lib

abbrev Wd := Fin 18446744073709551616
def fltV (L : List Wd) : List Value := L.map fun u : Wd => Value.float .f64 u.val
theorem fltV_app (L : List Wd) (u : Wd) : fltV L ++ [Value.float .f64 (u : Nat)] = fltV (L ++ [u]) := by unfold fltV; rw [List.map_append]; rfl
/-- A list of floats of the call's own (from block base on), that may grow. -/
def OwnL (w : World) (base : Nat) (v : Value) (L : List Wd) : Prop := w.ownsRow base 33 1 v L.length (fltV L)
theorem OwnL.nil (w : World) (base : Nat) : OwnL w base (.slice none 0 0) [] := World.ownsRow_nil _ _ _ _
theorem OwnL.fs {w : World} {base : Nat} {v : Value} {L : List Wd} (h : OwnL w base v L) : ∃ A c, v = .slice A L.length c ∧ FsAt w A L.length (fun i => nz (L.getD i 0)) ∧ L.length ≤ c ∧ c ≤ maxLen ∧ (∀ b o, A = some ⟨b, o, none⟩ → base ≤ b) := by
  obtain ⟨A, c, rfl, hc, h1, h2, h3⟩ := owns_cells h
  refine ⟨A, c, rfl, fun i hi => ?_, h1, h2, h3⟩
  obtain ⟨b, o, e, hx⟩ := hc i (.float .f64 ((L[i] : Wd) : Nat)) (by unfold fltV; simp [hi])
  exact ⟨b, o, L[i], e, hx, by show _ = nz (L.getD i 0); rw [List.getD_eq_getElem?_getD, List.getElem?_eq_getElem hi]; rfl⟩
theorem info_float : (Tryz.prog.info? 33).map (fun i => (i.zero, i.size, i.bytes)) = some (some (.float .f64 0), 1, 8) := by kernel_rfl
end Go.Proofs.YtmgfaeineklccaaGreat
/- Lists of complex floats that grow by append. -/
set_option linter.unusedSimpArgs false
set_option linter.unusedVariables false
namespace Go.Proofs.YtmgfaeineklccaaGreat
open Go.RowKit Go.Lib

/-- append of one complex float. -/
theorem wpList_appX {ops : Array Oper} {rest : List Oper} {o : Oper} {a : Act} {w : World} {Q : Exit → Act → World → Prop} (hgd : o.guard = none) (s x : Operand)
    (ho : o.op = .call { callee := .builtin .append, args := #[s, x], argTypes := #[47, 47] }) (base : Nat) (v : Value) (L : List Rx) (hs : a.eval s = v) (hown : OwnX w base v L)
    (b c : Nat) (u : Rx) (hx : a.eval x = .slice (some ⟨b, 0, none⟩) 1 c) (hc : w.cell? ⟨b, 0, none⟩ = some (.float .f64 (u.1 : Nat))) (hc2 : w.cell? ⟨b, 1, none⟩ = some (.float .f64 (u.2 : Nat))) (hk : L.length + 1 ≤ 1099511627776) (hbase : base ≤ w.heap.size)
    (h : ∀ v' w', Hid (OwnX w' base v' (L ++ [u])) → Hid (w.grownBy w' v.ownBlock) → wpList Tryz.prog ops Q rest (a.put o.dst v') w') : wpList Tryz.prog ops Q (o :: rest) a w := by
  refine wpList_appG hgd s x _ _ ho 2 16 (.agg #[.float .f64 0, .float .f64 0]) Tryz.underlying47 info_C rfl (by decide) (by decide) base v L.length (cxV L) hs hown b c [.float .f64 (u.1 : Nat), .float .f64 (u.2 : Nat)] rfl hx ?_ ?_ hk hbase ?_
  · intro j z hj
    rcases j with _ | _ | j
    · obtain rfl : Value.float .f64 (u.1 : Nat) = z := by simpa using hj
      exact hc
    · obtain rfl : Value.float .f64 (u.2 : Nat) = z := by simpa using hj
      exact hc2
    · simp at hj
  · intro z hz
    simp at hz
    rcases hz with rfl | rfl <;> rfl
  · intro v' w' h1 h2
    refine h v' w' (Lib.hid ?_) h2
    have h3 := h1.out
    rw [cxV_app] at h3
    show w'.ownsRow base _ 2 v' (L ++ [u]).length (cxV (L ++ [u]))
    rw [List.length_append]
    exact h3
end Go.Proofs.YtmgfaeineklccaaGreat
/- The whole of a half, part by part, as the document tells it. -/
set_option linter.unusedSimpArgs false
set_option linter.unusedVariables false
namespace Go.Proofs.YtmgfaeineklccaaGreat
open Go.RowKit Go.Lib

/-- Where the document looks. -/
def atK (n j : Nat) : Nat := if n < 2 * j then n - j else j
theorem atK_le {n j : Nat} (h : j < n) : atK n j < n / 2 + 1 := by unfold atK; split <;> omega
theorem wholeC_re (h : Nat → Cx) (n j : Nat) (hj : j < n) : (wholeC h n j).1 = (h (atK n j)).1 := by
  unfold wholeC atK
  by_cases h0 : j = 0
  · subst h0; rw [if_pos rfl, if_neg (by omega)]
  · rw [if_neg h0]
    by_cases h1 : 2 * j < n
    · rw [if_pos h1, if_neg (by omega)]
    · rw [if_neg h1]
      by_cases h2 : 2 * j = n
      · rw [if_pos h2, if_neg (by omega)]
      · rw [if_neg h2, if_pos (by omega)]; rfl
theorem wholeC_im (h : Nat → Cx) (n j : Nat) (hj : j < n) : (wholeC h n j).2 = if j = 0 ∨ 2 * j = n then 0 else if n < 2 * j then negX (h (n - j)).2 else (h j).2 := by
  unfold wholeC
  by_cases h0 : j = 0
  · subst h0; rw [if_pos rfl, if_pos (.inl rfl)]
  · rw [if_neg h0]
    by_cases h1 : 2 * j < n
    · rw [if_pos h1, if_neg (by omega), if_neg (by omega)]
    · rw [if_neg h1]
      by_cases h2 : 2 * j = n
      · rw [if_pos h2, if_pos (.inr h2)]
      · rw [if_neg h2, if_neg (by omega), if_pos (by omega)]; rfl
end Go.Proofs.YtmgfaeineklccaaGreat
/- Layer 21: are two floats the same, or both no number? -/
set_option linter.unusedSimpArgs false
set_option linter.unusedVariables false
namespace Go.Proofs.YtmgfaeineklccaaGreat
open Go.RowKit Go.Lib

theorem order_nan (x : Nat) (h : isN x = true) : Ieee.double.order x x = none := by
  unfold isN at h
  unfold Ieee.Format.order
  revert h
  cases Ieee.double.read x <;> intro h <;> first | rfl | simp_all [Ieee.Datum.isNaN]
theorem nz_same {a b : Nat} (h : nz a = nz b) : a = b ∨ isN a = true ∧ isN b = true := by
  cases ea : isN a
  · cases eb : isN b
    · rw [nz_of ea, nz_of eb] at h; exact .inl h
    · rw [nz_of ea, nz_eq b, eb] at h
      rw [h, if_pos rfl, isN_nan] at ea
      exact absurd ea (by decide)
  · cases eb : isN b
    · rw [nz_of eb, nz_eq a, ea] at h
      rw [← h, if_pos rfl, isN_nan] at eb
      exact absurd eb (by decide)
    · exact .inr ⟨rfl, rfl⟩
set_option maxRecDepth 100000 in
theorem bit_any (a b : Nat) (w : World) (h : nz a = nz b) : Calls Tryz.prog 36 #[.float .f64 a, .float .f64 b] w fun z w' => z = .returned (.bool true) ∧ w' = w := by
  have hb := run_bitsF
  rcases nz_same h with rfl | ⟨h1, h2⟩
  · clear h
    go_enter Tryz.func36, Tryz.ntmps36
    go_wp2
    all_goals first | (go_ret; exact ⟨rfl, rfl⟩) | skip
  · have o1 : FloatKind.f64.format.order a a = none := order_nan a h1
    have o2 : FloatKind.f64.format.order b b = none := order_nan b h2
    clear h
    by_cases e : a = b
    · subst e
      go_enter Tryz.func36, Tryz.ntmps36
      go_wp2
      all_goals first | (go_ret; exact ⟨rfl, rfl⟩) | skip
    · have e1 : ((a : Int) == (b : Int)) = false := by simpa using (fun h => e (by omega))
      have e2 : ¬ (a : Int) = (b : Int) := by omega
      go_enter Tryz.func36, Tryz.ntmps36
      go_wp2
      all_goals first | (go_ret; exact ⟨rfl, rfl⟩) | skip
end Go.Proofs.YtmgfaeineklccaaGreat
