/- What plans cost: plain. -/
import Derived.Test.YtmgfaeineklccaaGreatRK
import Derived.Test.YtmgfaeineklccaaGreatMC1
import Derived.Test.YtmgfaeineklccaaGreatMB1
import Derived.Test.YtmgfaeineklccaaGreatZ3
import Derived.Test.YtmgfaeineklccaaGreatMV1
import Derived.Test.YtmgfaeineklccaaGreatMC4
import Derived.Great.BuildSlice
import Derived.Shelf.Abstract
set_option linter.unusedSimpArgs false
set_option linter.unusedVariables false
namespace Go.Proofs.YtmgfaeineklccaaGreat
open Go.RowKit Go.Lib

/-- At most 2^50. -/
def capI (x : Int) : Int := if x ≤ 1125899906842624 then x else 1125899906842624
/-- The sum of the products. -/
def sumW (f : Nat → Int × Int) : Nat → Int
  | 0 => 0
  | n + 1 => sumW f n + (f n).1 * (f n).2
/-- Numbers that may be summed so. -/
def WOk (f : Nat → Int × Int) (n : Nat) : Prop := ∀ i, i < n → 0 ≤ (f i).1 ∧ (f i).1 ≤ 1125899906842624 ∧ 1 ≤ (f i).2 ∧ (f i).2 ≤ 65536
theorem sumW_nonneg (f : Nat → Int × Int) : ∀ n, WOk f n → 0 ≤ sumW f n
  | 0, _ => by simp [sumW]
  | n + 1, h => by
    have h1 := sumW_nonneg f n (fun i hi => h i (by omega))
    obtain ⟨a, b, c, d⟩ := h n (by omega)
    have := Int.mul_nonneg a (show 0 ≤ (f n).2 by omega)
    unfold sumW
    omega
theorem sumW_mono (f : Nat → Int × Int) (k : Nat) : ∀ n, k ≤ n → WOk f n → sumW f k ≤ sumW f n := by
  intro n hk
  induction n with
  | zero => intro _; rw [show k = 0 by omega]; exact Int.le_refl _
  | succ n ih =>
    intro h
    by_cases e : k = n + 1
    · subst e; exact Int.le_refl _
    · have h1 := ih (by omega) (fun i hi => h i (by omega))
      obtain ⟨a, b, c, d⟩ := h n (by omega)
      have := Int.mul_nonneg a (show 0 ≤ (f n).2 by omega)
      show _ ≤ sumW f n + (f n).1 * (f n).2
      omega
theorem cap_step {f : Nat → Int × Int} {n k : Nat} (h : WOk f n) (hk : k < n) (hx : ¬ (f k).1 > (1125899906842624 : Int).tdiv (f k).2) :
    0 ≤ (f k).1 * (f k).2 ∧ (f k).1 * (f k).2 ≤ 1125899906842624 ∧ capI (capI (sumW f k) + (f k).1 * (f k).2) = capI (sumW f (k + 1)) := by
  obtain ⟨a, b, c, d⟩ := h k hk
  have h0 := sumW_nonneg f k (fun i hi => h i (by omega))
  have hp := Int.mul_nonneg a (show 0 ≤ (f k).2 by omega)
  rw [Int.tdiv_eq_ediv_of_nonneg (by omega)] at hx
  have hq : (f k).1 * (f k).2 ≤ 1125899906842624 := by
    have h1 : (f k).1 ≤ 1125899906842624 / (f k).2 := by omega
    exact Int.le_trans (Int.mul_le_mul_of_nonneg_right h1 (by omega)) (Int.ediv_mul_le _ (by omega))
  refine ⟨hp, hq, ?_⟩
  show _ = capI (sumW f k + (f k).1 * (f k).2)
  generalize (f k).1 * (f k).2 = y at hp hq ⊢
  generalize sumW f k = s at h0 ⊢
  unfold capI
  by_cases e1 : s ≤ 1125899906842624
  · rw [if_pos e1]
  · rw [if_neg e1, if_neg (show ¬ s + y ≤ 1125899906842624 by omega)]
    by_cases e2 : (1125899906842624 : Int) + y ≤ 1125899906842624
    · rw [if_pos e2]; omega
    · rw [if_neg e2]
theorem cap_over {f : Nat → Int × Int} {n k : Nat} (h : WOk f n) (hk : k < n) (hx : (f k).1 > (1125899906842624 : Int).tdiv (f k).2) : capI (sumW f n) = 1125899906842624 := by
  obtain ⟨a, b, c, d⟩ := h k hk
  have h0 := sumW_nonneg f k (fun i hi => h i (by omega))
  rw [Int.tdiv_eq_ediv_of_nonneg (by omega)] at hx
  have hq : 1125899906842624 < (f k).1 * (f k).2 := by
    have h1 : 1125899906842624 / (f k).2 + 1 ≤ (f k).1 := by omega
    have h2 := Int.mul_le_mul_of_nonneg_right h1 (show 0 ≤ (f k).2 by omega)
    have h3 := Int.lt_ediv_add_one_mul_self 1125899906842624 (show 0 < (f k).2 by omega)
    omega
  have h4 := sumW_mono f (k + 1) n (by omega) h
  have h5 : sumW f (k + 1) = sumW f k + (f k).1 * (f k).2 := rfl
  unfold capI
  rw [if_neg (by omega)]
theorem cap_le (x : Int) (h : 0 ≤ x) : 0 ≤ capI x ∧ capI x ≤ 1125899906842624 := by unfold capI; split <;> omega
theorem cap_min (x : Int) : min 1125899906842624 x = capI x := by unfold capI; split <;> omega

/-- How often a number can be halved. -/
def logN (n : Nat) : Nat := n.log2
/-- What a plan costs over its kids. -/
def costF (kind n r : Int) (ks : List Int) : Int :=
  if kind = 1 then capI (ks.getD 0 0 * (n / r) + ks.getD 1 0 * r + 6 * n)
  else if kind = 2 then capI (4 * n * logN n.toNat)
  else if kind = 3 then capI (ks.getD 0 0 * 2 + 10 * n)
  else if kind = 4 then capI (ks.getD 0 0 * 2 + 6 * (padF n.toNat : Int) + 12 * n)
  else capI (6 * n * n)
/-- A plan's coefficient over its kids'. -/
def coefF (kind n r : Int) (ks : List Int) : Int :=
  if kind = 1 then capI (ks.getD 0 0 + ks.getD 1 0 + 4)
  else if kind = 2 then 4 * logN n.toNat
  else if kind = 3 then capI (ks.getD 0 0 * 3 + 8)
  else if kind = 4 then capI (ks.getD 0 0 * 3 + 12)
  else n + 2
/-- All plans in a row. -/
def Fo.fold (G : Int → Int → Int → List Int → Int) : Fo → List Int
  | .nil => []
  | .cons kind n r kids rest => G kind n r (kids.fold G) :: rest.fold G
theorem fold_len (G : Int → Int → Int → List Int → Int) : ∀ fo : Fo, (fo.fold G).length = fo.len
  | .nil => rfl
  | .cons _ _ _ _ rest => by
    show (rest.fold G).length + 1 = rest.len + 1
    rw [fold_len G rest]
end Go.Proofs.YtmgfaeineklccaaGreat
/- cost.sum, cost.log. -/
set_option linter.unusedSimpArgs false
set_option linter.unusedVariables false
namespace Go.Proofs.YtmgfaeineklccaaGreat
open Go.RowKit Go.Lib

@[go_sem] theorem run_min_int {P : Program} (w : World) (ts : Array TypeId) (t : TypeId) (x y : Int) :
    (Builtin.min_ ts t #[.int .i64 x, .int .i64 y]).run P w = .ok (.int .i64 (min x y)) w := by
  show ([Value.int .i64 y].foldlM Builtin.min2 (.int .i64 x)).run P w = _
  simp [List.foldlM, Builtin.min2]
  omega
/-- Pairs of numbers in a row. -/
def PrsAt (w : World) (A : Option Addr) (n : Nat) (f : Nat → Int × Int) : Prop := ∀ i, i < n → ∃ b o, A = some ⟨b, o, none⟩ ∧ w.cell? ⟨b, o + i * 2, none⟩ = some (.int .i64 (f i).1) ∧ w.cell? ⟨b, o + i * 2 + 1, none⟩ = some (.int .i64 (f i).2)
theorem PrsAt.keep {W w1 : World} {A : Option Addr} {n : Nat} {f : Nat → Int × Int} (h : PrsAt W A n f) (hb : Below W.heap.size W w1) : PrsAt w1 A n f := fun i hi => by
  obtain ⟨b, o, e, h1, h2⟩ := h i hi
  exact ⟨b, o, e, keep_cell hb h1, keep_cell hb h2⟩

set_option maxRecDepth 100000 in
set_option maxHeartbeats 2000000 in
theorem sumC_any (n c : Nat) (A : Option Addr) (f : Nat → Int × Int) (w : World) (hA : PrsAt w A n f) (hn : n ≤ 16) (hf : WOk f n) :
    Calls Tryz.prog 148 #[.slice A n c] w fun z w' => z = .returned (.int .i64 (capI (sumW f n))) ∧ Below w.heap.size w w' := by
  have HA := Lib.hid hA
  have HF := Lib.hid hf
  clear hA hf
  go_enter Tryz.func148, Tryz.ntmps148
  go_wp2
  go_loopw [3, 8] (fun s vi wr => ∃ k : Nat, k ≤ n ∧ vi = .int .i64 k ∧ s = .int .i64 (capI (sumW f k)) ∧ Hid (Below w.heap.size w wr)) (fun _ vi _ => n - (intOf vi).toNat)
  case atStart => exact ⟨0, by omega, rfl, rfl, Lib.hid (Below.refl _ _)⟩
  case round =>
    obtain ⟨k, hk, rfl, rfl, hb⟩ := hrel
    by_cases hlt : k < n
    · have hki : (k : Int) < n := by omega
      obtain ⟨b, o, rfl, hc1, hc2⟩ := (HA.out.keep hb.out) k hlt
      obtain ⟨a1, a2, a3, a4⟩ := HF.out k hlt
      have HX : Hid (¬ (f k).1 > (1125899906842624 : Int).tdiv (f k).2 → 0 ≤ (f k).1 * (f k).2 ∧ (f k).1 * (f k).2 ≤ 1125899906842624 ∧ capI (capI (sumW f k) + (f k).1 * (f k).2) = capI (sumW f (k + 1))) := Lib.hid (fun h => cap_step HF.out hlt h)
      have HY : Hid ((f k).1 > (1125899906842624 : Int).tdiv (f k).2 → capI (sumW f n) = 1125899906842624) := Lib.hid (fun h => cap_over HF.out hlt h)
      have HS : Hid (0 ≤ capI (sumW f k) ∧ capI (sumW f k) ≤ 1125899906842624) := Lib.hid (cap_le _ (sumW_nonneg f k (fun i hi => HF.out i (by omega))))
      obtain ⟨x, hx⟩ : ∃ x, (f k).1 = x := ⟨_, rfl⟩
      obtain ⟨y, hy⟩ : ∃ y, (f k).2 = y := ⟨_, rfl⟩
      rw [hx] at hc1 a1 a2
      rw [hy] at hc2 a3 a4
      simp only [hx, hy] at HX HY
      obtain ⟨S, hS⟩ : ∃ S, capI (sumW f k) = S := ⟨_, rfl⟩
      rw [hS] at HX HS ⊢
      have hyp : y > 0 := by omega
      have hy0 : ¬ y = 0 := by omega
      have HB2 := hb
      have HYY : Hid (y ≤ 65536 ∧ 0 ≤ x ∧ x ≤ 1125899906842624) := Lib.hid ⟨a4, a1, a2⟩
      have HBN := Lib.hid (hb.out.alloc hb.out.size (.cells #[.int .i64 x, .int .i64 y] 48))
      obtain ⟨q, hq⟩ : ∃ q, (1125899906842624 : Int).tdiv y = q := ⟨_, rfl⟩
      have hqe : (1125899906842624 : Int) / y = q := by rw [← hq, Int.tdiv_eq_ediv_of_nonneg (by omega)]
      have hqw : IntKind.i64.wrap q = q := by
        have h1 : 0 ≤ q := by rw [← hqe]; exact Int.ediv_nonneg (by decide) (by omega)
        have h2 : q ≤ 1125899906842624 := by rw [← hqe]; exact Int.ediv_le_self _ (by decide)
        rw [IntKind.wrap_i64]; omega
      rw [hq] at HX HY
      clear hx hy a1 a2 a4 hb a3 hS
      by_cases hgt : x > q
      · have HE := Lib.hid (HY.out hgt)
        go_upto_region 5 with (fail)
        go_quiet (fail)
        have HBM := Lib.hid (below_drewN HBN.out nq)
        go_wp2
        go_ret
        exact ⟨by rw [HE.out]; rfl, HBM.out⟩
      · obtain ⟨p1, p2, p3⟩ := HX.out hgt
        have HP := Lib.hid p3
        obtain ⟨p, hp⟩ : ∃ p, x * y = p := ⟨_, rfl⟩
        rw [hp] at p1 p2 HP
        have hw1 : wrap64 p = p := by unfold wrap64; omega
        have hw2 : wrap64 (S + p) = S + p := by have := HS.out; unfold wrap64; omega
        have hmin : min 1125899906842624 (S + p) = capI (S + p) := cap_min _
        clear p1 p2 p3
        go_upto_region 5 with (fail)
        go_quiet (fail)
        have HBM := Lib.hid (below_drewN HBN.out nq)
        go_wp2
        exact ⟨⟨k + 1, by omega, by go_num, by rw [← HP.out]; unfold capI; congr 1; split <;> split <;> omega, HBM⟩, by simp [intOf]; omega⟩
    · obtain rfl : k = n := by omega
      go_wp2
      go_ret
      exact ⟨rfl, hb.out⟩
end Go.Proofs.YtmgfaeineklccaaGreat
/- Logarithms; a plan's coefficient and cost over its kids'. -/
set_option linter.unusedSimpArgs false
set_option linter.unusedVariables false
namespace Go.Proofs.YtmgfaeineklccaaGreat
open Go.RowKit Go.Lib

theorem lenOf_log {x n : Nat} (h : LenOf x n) : (n : Int) - 1 = (logN x : Int) := by
  obtain ⟨h1, h2, h3, h4⟩ := h
  have h0 : x ≠ 0 := by have := Nat.two_pow_pos (n - 1); omega
  have : logN x = n - 1 := (Nat.log2_eq_iff h0).2 ⟨h3, by rw [show n - 1 + 1 = n by omega]; exact h4⟩
  rw [this]
  omega
theorem logN_le {n : Nat} (h1 : 1 ≤ n) (h : n ≤ 32768) : logN n ≤ 15 := by
  have := (Nat.log2_lt (show n ≠ 0 by omega) (k := 16)).2 (by omega)
  unfold logN
  omega
set_option maxRecDepth 100000 in
theorem log_any (n : Nat) (h1 : 1 ≤ n) (h2 : n ≤ 32768) (w : World) : Calls Tryz.prog 149 #[.int .i64 n] w fun z w' => z = .returned (.int .i64 (logN n)) ∧ w = w' := by
  have HL := Lib.hid (fun w => len64_any n h1 (by omega) w)
  have HQ := Lib.hid (logN_le h1 h2)
  have hw : IntKind.u64.wrap (n : Int) = n := by rw [IntKind.wrap_u64]; omega
  go_enter Tryz.func149, Tryz.ntmps149
  go_wp2_with fail
  go_enter Tryz.func163, Tryz.ntmps163
  go_wp2_with fail
  refine (HL.out _).mono ?_
  rintro z w' ⟨m, rfl, hm, rfl⟩
  have HM := Lib.hid (lenOf_log hm)
  have hb : (m : Int) ≤ 64 ∧ 1 ≤ (m : Int) := by have := hm.2.1; have := hm.1; omega
  have hw2 : wrap64 ((m : Int) - 1) = (logN n : Int) := by rw [HM.out]; unfold wrap64; have := HQ.out; omega
  clear hm
  go_wp2
  go_ret
  exact ⟨by rw [HM.out]; rfl, rfl⟩

theorem info_pr : (Tryz.prog.info? 48).map (fun i => (i.zero, i.size, i.bytes)) = some (some (.agg #[.int .i64 0, .int .i64 0]), 2, 16) := by kernel_rfl
theorem bs_prs2 (a b c d : Value) (w : World) : (Instr.buildSlice 46 2 #[(0, .agg #[a, b]), (1, .agg #[c, d])]).run Tryz.prog w = .ok (.slice (some ⟨w.heap.size, 0, none⟩) 2 2) (w.alloc (.cells #[a, b, c, d] 48)) := by
  obtain ⟨i0, hi, hz0, hz1, hz2⟩ := info_parts info_pr
  refine run_buildSlice w 46 48 2 _ #[a, b, c, d] i0 _ Tryz.underlying46 hi hz0 (by rw [hz1]; decide) (by rw [hz1]; decide) ?_
  rw [hz1]
  have hr : Array.range 4 = #[0, 1, 2, 3] := by decide
  have hr2 : Array.range 2 = #[0, 1] := by decide
  simp [Instr.fill, Value.cells, hr, hr2]
theorem bs_prs3 (a b c d e f : Value) (w : World) : (Instr.buildSlice 46 3 #[(0, .agg #[a, b]), (1, .agg #[c, d]), (2, .agg #[e, f])]).run Tryz.prog w = .ok (.slice (some ⟨w.heap.size, 0, none⟩) 3 3) (w.alloc (.cells #[a, b, c, d, e, f] 48)) := by
  obtain ⟨i0, hi, hz0, hz1, hz2⟩ := info_parts info_pr
  refine run_buildSlice w 46 48 3 _ #[a, b, c, d, e, f] i0 _ Tryz.underlying46 hi hz0 (by rw [hz1]; decide) (by rw [hz1]; decide) ?_
  rw [hz1]
  have hr : Array.range 6 = #[0, 1, 2, 3, 4, 5] := by decide
  have hr2 : Array.range 2 = #[0, 1] := by decide
  simp [Instr.fill, Value.cells, hr, hr2]
def prF (L : List (Int × Int)) : Nat → Int × Int := fun i => L.getD i (0, 0)
theorem prs_two (w : World) (a b c d : Int) : PrsAt (w.alloc (.cells #[.int .i64 a, .int .i64 b, .int .i64 c, .int .i64 d] 48)) (some ⟨w.heap.size, 0, none⟩) 2 (prF [(a, b), (c, d)]) := by
  intro i hi
  rcases i with _ | _ | i
  · exact ⟨_, _, rfl, by rw [World.cell?_alloc_new]; rfl, by rw [World.cell?_alloc_new]; rfl⟩
  · exact ⟨_, _, rfl, by rw [World.cell?_alloc_new]; rfl, by rw [World.cell?_alloc_new]; rfl⟩
  · omega
theorem prs_three (w : World) (a b c d e f : Int) : PrsAt (w.alloc (.cells #[.int .i64 a, .int .i64 b, .int .i64 c, .int .i64 d, .int .i64 e, .int .i64 f] 48)) (some ⟨w.heap.size, 0, none⟩) 3 (prF [(a, b), (c, d), (e, f)]) := by
  intro i hi
  rcases i with _ | _ | _ | i
  · exact ⟨_, _, rfl, by rw [World.cell?_alloc_new]; rfl, by rw [World.cell?_alloc_new]; rfl⟩
  · exact ⟨_, _, rfl, by rw [World.cell?_alloc_new]; rfl, by rw [World.cell?_alloc_new]; rfl⟩
  · exact ⟨_, _, rfl, by rw [World.cell?_alloc_new]; rfl, by rw [World.cell?_alloc_new]; rfl⟩
  · omega
theorem wok_two {a b c d : Int} (h1 : 0 ≤ a ∧ a ≤ 1125899906842624 ∧ 1 ≤ b ∧ b ≤ 65536) (h2 : 0 ≤ c ∧ c ≤ 1125899906842624 ∧ 1 ≤ d ∧ d ≤ 65536) : WOk (prF [(a, b), (c, d)]) 2 := by
  intro i hi
  rcases i with _ | _ | i
  · exact h1
  · exact h2
  · omega
theorem wok_three {a b c d e f : Int} (h1 : 0 ≤ a ∧ a ≤ 1125899906842624 ∧ 1 ≤ b ∧ b ≤ 65536) (h2 : 0 ≤ c ∧ c ≤ 1125899906842624 ∧ 1 ≤ d ∧ d ≤ 65536) (h3 : 0 ≤ e ∧ e ≤ 1125899906842624 ∧ 1 ≤ f ∧ f ≤ 65536) : WOk (prF [(a, b), (c, d), (e, f)]) 3 := by
  intro i hi
  rcases i with _ | _ | _ | i
  · exact h1
  · exact h2
  · exact h3
  · omega
theorem sum_two (a b c d : Int) : sumW (prF [(a, b), (c, d)]) 2 = a * b + c * d := by simp [sumW, prF]
theorem sum_three (a b c d e f : Int) : sumW (prF [(a, b), (c, d), (e, f)]) 3 = a * b + c * d + e * f := by simp [sumW, prF]
/-- Numbers up to 2^50. -/
def CkOk (ks : List Int) : Prop := ∀ x ∈ ks, 0 ≤ x ∧ x ≤ 1125899906842624
theorem CkOk.at' {ks : List Int} (h : CkOk ks) (i : Nat) : 0 ≤ ks.getD i 0 ∧ ks.getD i 0 ≤ 1125899906842624 := by
  rw [List.getD_eq_getElem?_getD]
  by_cases hi : i < ks.length
  · rw [List.getElem?_eq_getElem hi]
    exact h _ (List.getElem_mem hi)
  · rw [List.getElem?_eq_none (by omega)]
    exact ⟨by decide, by decide⟩

end Go.Proofs.YtmgfaeineklccaaGreat
/- cost.fold over a plan, by the coefficient. -/
set_option linter.unusedSimpArgs false
set_option linter.unusedVariables false
namespace Go.Proofs.YtmgfaeineklccaaGreat
open Go.RowKit Go.Lib

/-- Every node has as many kids as it wants, and a size. -/
def Fo.Sz : Fo → Prop
  | .nil => True
  | .cons kind n r kids rest => (1 ≤ n ∧ n ≤ 32768 ∧ (kind = 4 → n ≤ 16384) ∧ (kind = 1 → 2 ≤ r ∧ r < n) ∧ kids.len = (wantsF kind n r).length) ∧ kids.Sz ∧ rest.Sz
theorem Sz.at' : ∀ (i : Nat) (fo : Fo) {k n r : Int} {q rest : Fo}, fo.Sz → fo.drop i = .cons k n r q rest → (Fo.cons k n r q .nil).Sz
  | 0, .cons _ _ _ _ _, k, n, r, q, rest, h, e => by cases e; exact ⟨h.1, h.2.1, trivial⟩
  | i + 1, .cons _ _ _ _ fo, k, n, r, q, rest, h, e => Sz.at' i fo h.2.2 e
  | 0, .nil, _, _, _, _, _, _, e => by cases e
  | i + 1, .nil, _, _, _, _, _, _, e => by rw [drop_nil] at e; cases e
theorem bs_i64 (a : Value) (w : World) (ha : ∃ v, a = .int .i64 v) : (Instr.buildSlice 126 1 #[(0, a)]).run Tryz.prog w = .ok (.slice (some ⟨w.heap.size, 0, none⟩) 1 1) (w.alloc (.cells #[a] 2)) := by
  obtain ⟨i0, hi, hz0, hz1, hz2⟩ := info_parts info_int64
  obtain ⟨v, rfl⟩ := ha
  refine run_buildSlice w 126 2 1 _ #[.int .i64 v] i0 _ Tryz.underlying126 hi hz0 (by rw [hz1]; decide) (by rw [hz1]; decide) ?_
  rw [hz1]
  have hr : Array.range 1 = #[0] := by decide
  simp [Instr.fill, Value.cells, hr]
theorem bs_i64' (v : Int) (w : World) : (Instr.buildSlice 126 1 #[(0, .int .i64 v)]).run Tryz.prog w = .ok (.slice (some ⟨w.heap.size, 0, none⟩) 1 1) (w.alloc (.cells #[.int .i64 v] 2)) := bs_i64 _ w ⟨v, rfl⟩
/-- A list of integers of the call's own. -/
def OwnI (w : World) (base : Nat) (v : Value) (L : List Int) : Prop := w.ownsRow base 2 1 v L.length (L.map fun x => .int .i64 x)
theorem OwnI.nil (w : World) (base : Nat) : OwnI w base (.slice none 0 0) [] := World.ownsRow_nil _ _ _ _
theorem OwnI.form {w : World} {base : Nat} {v : Value} {L : List Int} (h : OwnI w base v L) : ∃ A c, v = .slice A L.length c ∧ IntsAt w A L.length (fun i => L.getD i 0) ∧ (∀ b o, A = some ⟨b, o, none⟩ → base ≤ b) := by
  obtain ⟨A, c, rfl, hc, h1, h2, h3⟩ := owns_cells h
  refine ⟨A, c, rfl, fun i hi => ?_, h3⟩
  obtain ⟨b, o, e, hx⟩ := hc i (.int .i64 L[i]) (by rw [List.getElem?_map, List.getElem?_eq_getElem hi]; rfl)
  refine ⟨b, o, e, ?_⟩
  dsimp only
  rw [List.getD_eq_getElem?_getD, List.getElem?_eq_getElem hi]
  exact hx
theorem OwnI.below {w w' : World} {base : Nat} {v : Value} {L : List Int} (h : OwnI w base v L) (hb : Below w.heap.size w w') : OwnI w' base v L := owns_below h hb

end Go.Proofs.YtmgfaeineklccaaGreat
/- The document's logarithm, and coefficient over the kids'. -/
set_option linter.unusedSimpArgs false
set_option linter.unusedVariables false
namespace Go.Proofs.YtmgfaeineklccaaGreat
open Go.RowKit Go.Lib

theorem logN_half (n : Nat) (h : 2 ≤ n) : logN n = logN (n / 2) + 1 := by
  unfold logN
  rw [Nat.log2_def, if_pos h]
theorem logN_one (n : Nat) (h : n ≤ 1) : logN n = 0 := by
  unfold logN
  rw [Nat.log2_def, if_neg (by omega)]
set_option maxRecDepth 100000 in
theorem RLog_any (n : Nat) (h2 : n ≤ 32768) (w : World) : Calls Tryz.prog 123 #[.int .i64 n] w fun z w' => z = .returned (.int .i64 (logN n)) ∧ w = w' := by
  go_enter Tryz.func123, Tryz.ntmps123
  go_wp2
  go_loopw [0, 3] (fun nv lv wr => ∃ m l : Nat, nv = .int .i64 m ∧ lv = .int .i64 l ∧ m ≤ 32768 ∧ l ≤ 15 ∧ l + logN m = logN n ∧ wr = w) (fun nv _ _ => (intOf nv).toNat)
  case atStart => exact ⟨n, 0, rfl, rfl, h2, by omega, by omega, rfl⟩
  case round =>
    obtain ⟨m, l, rfl, rfl, hm, hl, he, rfl⟩ := hrel
    by_cases h1 : m > 1
    · have hi : (m : Int) > 1 := by omega
      have hd : (m : Int).tdiv 2 = ((m / 2 : Nat) : Int) := by rw [Int.tdiv_eq_ediv_of_nonneg (by omega)]; omega
      have hd2 : (m : Int) / 2 = ((m / 2 : Nat) : Int) := by omega
      have hlog := logN_half m (by omega)
      have hle := Nat.le_of_lt_succ (Nat.lt_succ_of_le (show logN (m / 2) ≤ 15 by
        rcases Nat.eq_zero_or_pos (m / 2) with h0 | h0
        · rw [logN_one _ (by omega)]; omega
        · exact logN_le h0 (by omega)))
      have HX : Hid (l + 1 + logN (m / 2) = logN n ∧ m / 2 ≤ 32768 ∧ m / 2 < m ∧ (1 ≤ m / 2)) := Lib.hid (by omega)
      obtain ⟨h, hh⟩ : ∃ h, m / 2 = h := ⟨_, rfl⟩
      rw [hh] at hd hd2 HX
      have hlw : wrap64 ((l : Int) + 1) = (l : Int) + 1 := by unfold wrap64; omega
      have HL15 : Hid (l + 1 ≤ 15) := Lib.hid (by
        have := HX.out
        have h5 : logN n ≤ 15 ∨ n = 0 := by
          rcases Nat.eq_zero_or_pos n with h0 | h0
          · exact .inr h0
          · exact .inl (logN_le h0 h2)
        rcases h5 with h5 | h5
        · omega
        · subst h5; have := logN_one 0 (by omega); omega)
      clear hlog hle hh he
      go_wp2
      exact ⟨⟨h, l + 1, rfl, by go_num, HX.out.2.1, HL15.out, HX.out.1, trivial⟩, by simp [intOf]; have := HX.out; omega⟩
    · have hl0 := logN_one m (by omega)
      have hi : ¬ (m : Int) > 1 := by omega
      have HE : Hid (l = logN n) := Lib.hid (by omega)
      clear hl0 he
      go_wp2
      go_ret
      exact ⟨by rw [← HE.out]; rfl, rfl⟩
set_option maxRecDepth 100000 in
theorem cut_any (x : Int) (w : World) : Calls Tryz.prog 124 #[.int .i64 x] w fun z w' => z = .returned (.int .i64 (capI x)) ∧ w = w' := by
  by_cases h : x > 1125899906842624
  · have e : capI x = 1125899906842624 := by unfold capI; rw [if_neg (by omega)]
    have HE := Lib.hid e
    clear e
    go_enter Tryz.func124, Tryz.ntmps124
    go_wp2
    go_ret
    exact ⟨by rw [HE.out]; rfl, rfl⟩
  · have e : capI x = x := by unfold capI; rw [if_pos (by omega)]
    have HE := Lib.hid e
    clear e
    go_enter Tryz.func124, Tryz.ntmps124
    go_wp2
    go_ret
    exact ⟨by rw [HE.out]; rfl, rfl⟩

end Go.Proofs.YtmgfaeineklccaaGreat
