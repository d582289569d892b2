/- The search for the plan that costs least: plain. -/
import Derived.Test.YtmgfaeineklccaaGreatMH1
import Derived.Test.YtmgfaeineklccaaGreatMV1
set_option linter.unusedSimpArgs false
set_option linter.unusedVariables false
namespace Go.Proofs.YtmgfaeineklccaaGreat
open Go.RowKit Go.Lib

/-- The radices below r. -/
def radU (n : Nat) : Nat → List (Int × Int)
  | 0 => []
  | r + 1 => radU n r ++ (if 2 ≤ r ∧ n % r = 0 then [((1 : Int), (r : Int))] else [])
/-- What a size may be done by, in order. -/
def candL (n : Nat) (blue : Bool) : List (Int × Int) :=
  (if n ≤ 32 then [((0 : Int), (0 : Int))] else []) ++ radU n n ++ (if pow4 n = true then [((2 : Int), (0 : Int))] else []) ++
  (if primeB n = true ∧ 3 ≤ n then [((3 : Int), (0 : Int))] else []) ++ (if blue = false ∧ 2 ≤ n ∧ n ≤ 16384 then [((4 : Int), (0 : Int))] else [])
/-- All of them, before they are looked at. -/
def allU (n : Nat) (blue : Bool) : List (Int × Int) := [((0 : Int), (0 : Int))] ++ radU n n ++ [((2 : Int), (0 : Int)), ((3 : Int), (0 : Int))] ++ (if blue = true then [] else [((4 : Int), (0 : Int))])
/-- May it be, its kids left out? -/
def okC (n : Nat) (c : Int × Int) : Bool := if c.1 = 4 ∧ 16384 < n then false else decide (nodeE c.1 n c.2 (wantsF c.1 n c.2).length n false = 0)

theorem radU_mem {n : Nat} : ∀ {m : Nat} {c : Int × Int}, c ∈ radU n m → ∃ r : Nat, c = (1, (r : Int)) ∧ 2 ≤ r ∧ r < m ∧ n % r = 0
  | 0, c, h => by cases h
  | m + 1, c, h => by
    unfold radU at h
    rw [List.mem_append] at h
    rcases h with h | h
    · obtain ⟨r, h1, h2, h3, h4⟩ := radU_mem h
      exact ⟨r, h1, h2, by omega, h4⟩
    · by_cases e : 2 ≤ m ∧ n % m = 0
      · rw [if_pos e] at h
        simp only [List.mem_cons, List.not_mem_nil, or_false] at h
        exact ⟨m, h, e.1, by omega, e.2⟩
      · rw [if_neg e] at h; cases h
theorem radU_len (n : Nat) : ∀ m, (radU n m).length ≤ m
  | 0 => Nat.le_refl _
  | m + 1 => by
    have := radU_len n m
    unfold radU
    rw [List.length_append]
    split <;> simp <;> omega
theorem nodeE_ok {k n r : Int} {l : Nat} (h0 : 0 ≤ k) (h4 : k ≤ 4) (hs : sizeE k n = 0) (hl : l = (wantsF k n r).length) (hr : radixB k n r = true) : nodeE k n r l n false = 0 := by
  unfold nodeE
  rw [if_neg (by rintro (h | h | ⟨_, h⟩) <;> first | omega | cases h), if_neg (by simp), if_neg (by omega), if_neg (by omega), if_pos hr]
theorem okC_radix {n r : Nat} (h2 : 2 ≤ r) (hr : r < n) (hd : n % r = 0) : okC n (1, (r : Int)) = true := by
  unfold okC
  rw [if_neg (by simp)]
  refine decide_eq_true (nodeE_ok (show (0 : Int) ≤ 1 by decide) (show (1 : Int) ≤ 4 by decide) (by unfold sizeE; simp) rfl ?_)
  show radixB 1 n r = true
  unfold radixB
  rw [if_pos rfl]
  exact decide_eq_true ⟨by omega, by omega, by omega⟩
theorem radU_ok (n : Nat) : ∀ m, m ≤ n → (radU n m).filter (okC n) = radU n m := fun m hm => List.filter_eq_self.2 fun c hc => by
  obtain ⟨r, rfl, h2, hr, hd⟩ := radU_mem hc
  exact okC_radix h2 (by omega) hd
theorem okC_zero {n : Nat} {k : Int} (h0 : 0 ≤ k) (h4 : k ≤ 4) (h1 : k ≠ 1) : okC n (k, 0) = (decide (sizeE k n = 0)) := by
  unfold okC
  by_cases h : k = 4 ∧ 16384 < n
  · rw [if_pos h]
    obtain ⟨rfl, h⟩ := h
    symm
    refine decide_eq_false ?_
    unfold sizeE
    rw [if_neg (by decide), if_neg (by decide), if_neg (by decide), if_pos rfl, if_pos (Or.inr (by omega))]
    decide
  · rw [if_neg h]
    by_cases hs : sizeE k n = 0
    · rw [decide_eq_true hs, decide_eq_true]
      refine nodeE_ok h0 h4 hs rfl ?_
      unfold radixB
      rw [if_neg h1]
      rfl
    · rw [decide_eq_false hs, decide_eq_false]
      unfold nodeE
      rw [if_neg (by rintro (h | h | ⟨_, h⟩) <;> first | omega | cases h), if_neg (by simp), if_pos hs]
      exact hs
theorem cand_all (n : Nat) (blue : Bool) : (allU n blue).filter (okC n) = candL n blue := by
  unfold allU candL
  rw [List.filter_append, List.filter_append, List.filter_append, radU_ok n n (Nat.le_refl _), List.append_assoc _ (if pow4 n = true then _ else _) _]
  congr 1
  · congr 1
    · congr 1
      by_cases h : n ≤ 32
      · rw [if_pos h, List.filter_cons_of_pos (by rw [okC_zero (by decide) (by decide) (by decide)]; exact decide_eq_true (by unfold sizeE; rw [if_pos rfl, if_neg (by omega)]))]; rfl
      · rw [if_neg h, List.filter_cons_of_neg (by rw [okC_zero (by decide) (by decide) (by decide)]; simp [sizeE]; omega)]; rfl
    · have e2 : okC n (2, 0) = pow4 n := by
        rw [okC_zero (by decide) (by decide) (by decide)]
        unfold sizeE
        rw [if_neg (by decide), if_pos rfl]
        show decide ((if pow4 n = true then (0 : Int) else 24) = 0) = _
        cases pow4 n <;> rfl
      have e3 : okC n (3, 0) = decide (primeB n = true ∧ 3 ≤ n) := by
        rw [okC_zero (by decide) (by decide) (by decide)]
        unfold sizeE
        rw [if_neg (by decide), if_neg (by decide), if_pos rfl]
        show decide ((if (n : Int) < 3 ∨ primeB n = false then (25 : Int) else 0) = 0) = _
        by_cases h3 : 3 ≤ n
        · cases hp : primeB n
          · rw [if_pos (Or.inr rfl)]; simp
          · rw [if_neg (by simp; omega)]; simp [h3]
        · rw [if_pos (Or.inl (by omega))]; simp [h3]
      cases h2 : pow4 n <;> by_cases h3 : (primeB n = true ∧ 3 ≤ n) <;> simp [List.filter_cons, e2, e3, h2, h3]
  · cases blue
    · rw [if_neg (by decide)]
      by_cases h : 2 ≤ n ∧ n ≤ 16384
      · rw [if_pos ⟨rfl, h⟩, List.filter_cons_of_pos (by rw [okC_zero (by decide) (by decide) (by decide)]; exact decide_eq_true (by unfold sizeE; rw [if_neg (by decide), if_neg (by decide), if_neg (by decide), if_pos rfl, if_neg (by omega)]))]; rfl
      · rw [if_neg (by simp; omega), List.filter_cons_of_neg (by rw [okC_zero (by decide) (by decide) (by decide)]; simp [sizeE]; omega)]; rfl
    · rfl
theorem candL_cand {n : Nat} {blue : Bool} {c : Int × Int} (h1 : 1 ≤ n) (h : c ∈ candL n blue) : Cand n blue c.1 c.2 := by
  unfold candL at h
  simp only [List.mem_append] at h
  rcases h with (((h | h) | h) | h) | h
  · split at h
    · simp only [List.mem_cons, List.not_mem_nil, or_false] at h; subst h; exact .inl ⟨rfl, rfl⟩
    · cases h
  · obtain ⟨r, rfl, h2, hr, hd⟩ := radU_mem h
    refine .inr (.inr (.inl ⟨rfl, r, n / r, rfl, h2, ?_, Nat.mul_div_cancel' (Nat.dvd_of_mod_eq_zero hd)⟩))
    have hm := Nat.mul_div_cancel' (Nat.dvd_of_mod_eq_zero hd)
    generalize n / r = d at hm ⊢
    rcases Nat.lt_or_ge d 2 with h0 | h0
    · have : d = 0 ∨ d = 1 := by omega
      rcases this with e | e
      · rw [e, Nat.mul_zero] at hm; omega
      · rw [e, Nat.mul_one] at hm; omega
    · exact h0
  · split at h
    · simp only [List.mem_cons, List.not_mem_nil, or_false] at h; subst h; exact .inr (.inl ⟨rfl, rfl⟩)
    · cases h
  · split at h
    · next e => simp only [List.mem_cons, List.not_mem_nil, or_false] at h; subst h; exact .inr (.inr (.inr (.inl ⟨rfl, rfl, e.2⟩)))
    · cases h
  · split at h
    · next e => simp only [List.mem_cons, List.not_mem_nil, or_false] at h; subst h; exact .inr (.inr (.inr (.inr ⟨rfl, rfl, e.1, e.2.1, e.2.2⟩)))
    · cases h

/-- A plan and its cost; below 0: none. -/
structure Bst where
  k : Int
  n : Int
  r : Int
  q : Fo
  c : Int
def noB : Bst := ⟨0, 0, 0, .nil, -1⟩
/-- The better of two. -/
def Bst.or (out x : Bst) : Bst := if out.c < 0 ∨ x.c < out.c then x else out
/-- The kids. -/
def kidsB (G : Nat → Bool → Bst) (b : Bool) : List Int → Fo
  | [] => .nil
  | x :: ws => .cons (G x.toNat b).k (G x.toNat b).n (G x.toNat b).r (G x.toNat b).q (kidsB G b ws)
def costsB (G : Nat → Bool → Bst) (b : Bool) (ws : List Int) : List Int := ws.map fun x => (G x.toNat b).c
def tryB (G : Nat → Bool → Bst) (n : Nat) (blue : Bool) (c : Int × Int) : Bst :=
  ⟨c.1, n, c.2, kidsB G (blue || c.1 == 4) (wantsF c.1 n c.2), costF c.1 n c.2 (costsB G (blue || c.1 == 4) (wantsF c.1 n c.2))⟩
def pickB (F : Int × Int → Bst) (l : List (Int × Int)) : Bst := l.foldl (fun out c => out.or (F c)) noB
def bestB : Nat → Nat → Bool → Bst
  | 0, _, _ => noB
  | f + 1, n, blue => pickB (tryB (bestB f) n blue) (candL n blue)
/-- How deep it may go. -/
def deepB (n : Nat) (blue : Bool) : Nat := if blue = true then n else n + 40000
def bestV (n : Nat) (blue : Bool) : Bst := bestB (deepB n blue + 1) n blue

theorem kidsB_congr {G H : Nat → Bool → Bst} {b : Bool} : ∀ {ws : List Int}, (∀ x ∈ ws, G x.toNat b = H x.toNat b) → kidsB G b ws = kidsB H b ws
  | [], _ => rfl
  | x :: ws, h => by
    unfold kidsB
    rw [h x (List.mem_cons_self), kidsB_congr fun y hy => h y (List.mem_cons_of_mem _ hy)]
theorem costsB_congr {G H : Nat → Bool → Bst} {b : Bool} {ws : List Int} (h : ∀ x ∈ ws, G x.toNat b = H x.toNat b) : costsB G b ws = costsB H b ws :=
  List.map_congr_left fun x hx => by rw [h x hx]
theorem pickB_congr {F G : Int × Int → Bst} {l : List (Int × Int)} (h : ∀ c ∈ l, F c = G c) : pickB F l = pickB G l := by
  unfold pickB
  generalize noB = z
  induction l generalizing z with
  | nil => rfl
  | cons c l ih =>
    rw [List.foldl_cons, List.foldl_cons, h c (List.mem_cons_self)]
    exact ih (fun d hd => h d (List.mem_cons_of_mem _ hd)) _
theorem deep_less {n m : Nat} {blue : Bool} {k r : Int} (h : Cand n blue k r) (hm : m ≤ 32768) (hd : k = 4 ∨ m < n) : deepB m (blue || k == 4) < deepB n blue := by
  rcases hd with rfl | hd
  · rcases h with ⟨h, _⟩ | ⟨h, _⟩ | ⟨h, _⟩ | ⟨h, _⟩ | ⟨_, _, rfl, h⟩ <;> first | (exact absurd h (by decide)) | skip
    show (if true = true then m else _) < n + 40000
    rw [if_pos rfl]
    omega
  · by_cases e : k = 4
    · subst e
      rcases h with ⟨h, _⟩ | ⟨h, _⟩ | ⟨h, _⟩ | ⟨h, _⟩ | ⟨_, _, rfl, h⟩ <;> first | (exact absurd h (by decide)) | skip
      show (if true = true then m else _) < n + 40000
      rw [if_pos rfl]
      omega
    · rw [show (k == 4) = false from beq_eq_false_iff_ne.2 e, Bool.or_false]
      unfold deepB
      split <;> omega
theorem bestB_deep : ∀ (d n : Nat) (blue : Bool), deepB n blue = d → 1 ≤ n → n ≤ 32768 → ∀ f g, d < f → d < g → bestB f n blue = bestB g n blue := by
  intro d
  induction d using Nat.strongRecOn with
  | ind d ih =>
    intro n blue hd h1 hn f g hf hg
    match f, g, hf, hg with
    | f + 1, g + 1, hf, hg =>
      refine pickB_congr fun c hc => ?_
      have hcd := candL_cand h1 hc
      have hw := cand_wants hcd h1 hn
      have he : ∀ x ∈ wantsF c.1 n c.2, bestB f x.toNat (blue || c.1 == 4) = bestB g x.toNat (blue || c.1 == 4) := fun x hx => by
        obtain ⟨m, rfl, hm1, hm2, hm3⟩ := hw x hx
        have hl := deep_less hcd hm2 hm3
        exact ih _ (by rw [← hd]; exact hl) m _ rfl hm1 hm2 f g (by omega) (by omega)
      unfold tryB
      rw [kidsB_congr he, costsB_congr he]
/-- The best plan is the best of those that may be, its kids the best ones. -/
theorem bestV_eq (n : Nat) (blue : Bool) (h1 : 1 ≤ n) (hn : n ≤ 32768) : bestV n blue = pickB (tryB bestV n blue) (candL n blue) := by
  refine pickB_congr fun c hc => ?_
  have hcd := candL_cand h1 hc
  have he : ∀ x ∈ wantsF c.1 n c.2, bestB (deepB n blue) x.toNat (blue || c.1 == 4) = bestV x.toNat (blue || c.1 == 4) := fun x hx => by
    obtain ⟨m, rfl, hm1, hm2, hm3⟩ := cand_wants hcd h1 hn x hx
    have hl := deep_less hcd hm2 hm3
    exact bestB_deep _ m _ rfl hm1 hm2 _ _ (by simpa using hl) (Nat.lt_succ_self _)
  unfold tryB
  rw [kidsB_congr he, costsB_congr he]
theorem pickB_append (F : Int × Int → Bst) (l : List (Int × Int)) (c : Int × Int) : pickB F (l ++ [c]) = (pickB F l).or (F c) := by
  unfold pickB
  rw [List.foldl_append]
  rfl
/-- What is picked is one of them, or none. -/
theorem pickB_one (F : Int × Int → Bst) (l : List (Int × Int)) : pickB F l = noB ∨ ∃ c ∈ l, pickB F l = F c := by
  unfold pickB
  generalize noB = z
  induction l generalizing z with
  | nil => exact .inl rfl
  | cons c l ih =>
    rw [List.foldl_cons]
    rcases ih (z.or (F c)) with h | ⟨d, hd, h⟩
    · rw [h]
      unfold Bst.or
      split
      · exact .inr ⟨c, List.mem_cons_self, rfl⟩
      · exact .inl rfl
    · exact .inr ⟨d, List.mem_cons_of_mem _ hd, h⟩
end Go.Proofs.YtmgfaeineklccaaGreat
/- Contract: cost.Own. -/
set_option linter.unusedSimpArgs false
set_option linter.unusedVariables false
namespace Go.Proofs.YtmgfaeineklccaaGreat
open Go.RowKit Go.Lib

theorem bs_prs1 (a b : Value) (w : World) : (Instr.buildSlice 46 1 #[(0, .agg #[a, b])]).run Tryz.prog w = .ok (.slice (some ⟨w.heap.size, 0, none⟩) 1 1) (w.alloc (.cells #[a, b] 48)) := by
  obtain ⟨i0, hi, hz0, hz1, hz2⟩ := info_parts info_pr
  refine run_buildSlice w 46 48 1 _ #[a, b] i0 _ Tryz.underlying46 hi hz0 (by rw [hz1]; decide) (by rw [hz1]; decide) ?_
  rw [hz1]
  have hr2 : Array.range 2 = #[0, 1] := by decide
  have hr1 : Array.range 1 = #[0] := by decide
  simp [Instr.fill, Value.cells, hr2, hr1]
theorem prs_one (w : World) (a b : Int) : PrsAt (w.alloc (.cells #[.int .i64 a, .int .i64 b] 48)) (some ⟨w.heap.size, 0, none⟩) 1 (prF [(a, b)]) := by
  intro i hi
  rcases i with _ | i
  · exact ⟨_, _, rfl, by rw [World.cell?_alloc_new]; rfl, by rw [World.cell?_alloc_new]; rfl⟩
  · omega
theorem wok_one {a b : Int} (h1 : 0 ≤ a ∧ a ≤ 1125899906842624 ∧ 1 ≤ b ∧ b ≤ 65536) : WOk (prF [(a, b)]) 1 := by
  intro i hi
  match i, hi with
  | 0, _ => exact h1
theorem sum_one (a b : Int) : sumW (prF [(a, b)]) 1 = a * b := by simp [sumW, prF]

set_option maxRecDepth 100000 in
set_option maxHeartbeats 4000000 in
theorem Own_any (n : Nat) (blue : Bool) (kind r : Int) (hcd : Cand n blue kind r) (h2 : kind = 2 → 4 ≤ n) (h1 : 1 ≤ n) (hn : n ≤ 32768) (A : Option Addr) (l c : Nat) (ks : List Int) (K : Option Addr) (ck : Nat) (w : World)
    (hl : ks.length = (wantsF kind n r).length) (hk : IntsAt w K ks.length (fun i => ks.getD i 0)) (hc : CkOk ks) :
    Calls Tryz.prog 162 #[plV kind n r A l c, .slice K ks.length ck] w fun z w' => z = .returned (.int .i64 (costF kind n r ks)) ∧ Below w.heap.size w w' := by
  have HC := Lib.hid hc
  have hb1 := bs_prs1
  have hb2 := bs_prs2
  have hb3 := bs_prs3
  have HSM := Lib.hid (fun m c A f w => @sumC_any m c A f w)
  have HLG := Lib.hid (fun w => log_any n h1 hn w)
  have HLE := Lib.hid (logN_le (n := n) h1 hn)
  have HN : Hid (1 ≤ n ∧ n ≤ 32768) := Lib.hid (And.intro h1 hn)
  have HK : Hid (∀ i, i < ks.length → ∃ b o, K = some ⟨b, o, none⟩ ∧ w.cell? ⟨b, o + i, none⟩ = some (.int .i64 (ks.getD i 0))) := Lib.hid hk
  have HB0 := Lib.hid ((Below.refl _ w).alloc (Nat.le_refl _) (.cells #[.int .i64 kind, .int .i64 n, .int .i64 r, .slice A l c] 27))
  have HP0 := Lib.hid (PlBox.new w kind n r A l c 27)
  obtain ⟨W, hW⟩ : ∃ W, W = w.alloc (.cells #[.int .i64 kind, .int .i64 n, .int .i64 r, .slice A l c] 27) := ⟨_, rfl⟩
  rw [← hW] at HB0 HP0
  have HWN : Hid (∀ w, Calls Tryz.prog 161 #[plV kind n r A l c] w fun z w' => ∃ A', z = .returned (.slice A' ks.length ks.length) ∧ IntsAt w' A' ks.length (fun i => (wantsF kind n r).getD i 0) ∧ Below w.heap.size w w') := Lib.hid (fun w => by
    refine (Wants_any kind n r A l c w (by omega) (by omega) (fun h4 => by
      rcases hcd with ⟨h, _⟩ | ⟨h, _⟩ | ⟨h, _⟩ | ⟨h, _⟩ | ⟨_, _, _, _, h⟩ <;> omega)).mono ?_
    rintro z w' ⟨⟨A', rfl, hi, -⟩, hb⟩
    rw [← hl] at hi ⊢
    exact ⟨A', rfl, hi, hb⟩)
  have HW := Lib.hid hW
  clear hW hc hk
  rcases hcd with ⟨rfl, rfl⟩ | ⟨rfl, rfl⟩ | ⟨rfl, p, d, rfl, hp, hd, hpd⟩ | ⟨rfl, rfl, h3⟩ | ⟨rfl, rfl, rfl, h3, h4⟩
  · have hl2 : ks.length = 0 := by rw [hl]; rfl
    have HE : Hid (costF 0 n 0 ks = capI (6 * n * n)) := Lib.hid rfl
    obtain ⟨s1, hs1⟩ : ∃ s1, wrap64 (6 * (n : Int)) = s1 := ⟨_, rfl⟩
    have HS : Hid (s1 = 6 * (n : Int)) := Lib.hid (by rw [← hs1]; unfold wrap64; omega)
    have HV : Hid (0 ≤ s1 ∧ s1 ≤ 1125899906842624 ∧ 1 ≤ (n : Int) ∧ (n : Int) ≤ 65536) := Lib.hid (by have := HS.out; omega)
    rw [hl2] at HWN ⊢
    clear HK hl HC h2 h1 hn hl2 HLG HLE
    go_enter Tryz.func162, Tryz.ntmps162
    go_wp2_with fail
    rw [← HW.out]
    refine (HWN.out _).mono ?_
    rintro z w2 ⟨A', rfl, hwi, hbw⟩
    obtain ⟨p0, p1, p2, p3⟩ := HP0.out.below hbw
    have HB2 := Lib.hid (HB0.out.trans (hbw.mono HB0.out.size))
    clear hbw hwi
    go_wp2_with fail
    refine (HSM.out 1 1 _ _ _ (prs_one w2 s1 n) (by decide) (wok_one HV.out)).mono ?_
    rintro z w3 ⟨rfl, hb⟩
    have HB3 := Lib.hid ((HB2.out.alloc HB2.out.size _).trans (hb.mono (by have := HB2.out.size; simp; omega)))
    clear hb p0 p1 p2 p3
    go_wp2
    go_ret
    exact ⟨by rw [HE.out, sum_one, HS.out]; rfl, HB3.out⟩
  · have hl2 : ks.length = 0 := by rw [hl]; rfl
    have HE : Hid (costF 2 n 0 ks = capI (4 * n * logN n)) := Lib.hid rfl
    obtain ⟨s1, hs1⟩ : ∃ s1, wrap64 (4 * (n : Int)) = s1 := ⟨_, rfl⟩
    have HS : Hid (s1 = 4 * (n : Int)) := Lib.hid (by rw [← hs1]; unfold wrap64; omega)
    have hlg : 1 ≤ logN n := by
      unfold logN
      exact (Nat.le_log2 (by omega)).2 (by have := h2 rfl; omega)
    have HV : Hid (0 ≤ s1 ∧ s1 ≤ 1125899906842624 ∧ 1 ≤ (logN n : Int) ∧ (logN n : Int) ≤ 65536) := Lib.hid (by have := HS.out; have := HLE.out; omega)
    obtain ⟨L, hL⟩ : ∃ L : Int, (logN n : Int) = L := ⟨_, rfl⟩
    rw [hL] at HV HE HLG
    rw [hl2] at HWN ⊢
    clear HK hl HC h2 h1 hn hl2 hL hlg HLE
    go_enter Tryz.func162, Tryz.ntmps162
    go_wp2_with fail
    rw [← HW.out]
    refine (HWN.out _).mono ?_
    rintro z w2 ⟨A', rfl, hwi, hbw⟩
    obtain ⟨p0, p1, p2, p3⟩ := HP0.out.below hbw
    have HB2 := Lib.hid (HB0.out.trans (hbw.mono HB0.out.size))
    clear hbw hwi
    go_wp2_with fail
    refine (HLG.out _).mono ?_
    rintro z w' ⟨rfl, rfl⟩
    go_wp2_with fail
    refine (HSM.out 1 1 _ _ _ (prs_one w2 s1 L) (by decide) (wok_one HV.out)).mono ?_
    rintro z w3 ⟨rfl, hb⟩
    have HB3 := Lib.hid ((HB2.out.alloc HB2.out.size _).trans (hb.mono (by have := HB2.out.size; simp; omega)))
    clear hb p0 p1 p2 p3
    go_wp2
    go_ret
    exact ⟨by rw [HE.out, sum_one, HS.out]; rfl, HB3.out⟩
  · have hl2 : ks.length = 2 := by rw [hl]; unfold wantsF; rw [if_pos rfl, if_neg (by omega)]; rfl
    have hwf : wantsF 1 n p = [(p : Int), (d : Int)] := by
      unfold wantsF
      rw [if_pos rfl, if_neg (by omega)]
      have : ((n : Nat) : Int) / (p : Int) = d := by
        rw [← hpd, Int.natCast_mul, Int.mul_ediv_cancel_left _ (by omega)]
      rw [this]
    have hnr : ((n : Nat) : Int) / (p : Int) = d := by
      rw [← hpd, Int.natCast_mul, Int.mul_ediv_cancel_left _ (by omega)]
    obtain ⟨b, o, rfl, c0⟩ := HK.out 0 (by omega)
    obtain ⟨b', o', e, c1⟩ := HK.out 1 (by omega)
    cases e
    have hdle : d ≤ n := by rw [← hpd]; exact Nat.le_mul_of_pos_left d (by omega)
    have hple : p ≤ n := by rw [← hpd]; exact Nat.le_mul_of_pos_right p (by omega)
    have HE : Hid (costF 1 n p ks = capI (ks.getD 0 0 * d + ks.getD 1 0 * p + 6 * n)) := Lib.hid (by unfold costF; rw [if_pos rfl, hnr])
    have HV := Lib.hid (And.intro (HC.out.at' 0) (HC.out.at' 1))
    have HD : Hid (1 ≤ (d : Int) ∧ (d : Int) ≤ 65536 ∧ 1 ≤ (p : Int) ∧ (p : Int) ≤ 65536 ∧ 1 ≤ (n : Int) ∧ (n : Int) ≤ 65536) := Lib.hid (by omega)
    obtain ⟨k0, hk0⟩ : ∃ k0, ks.getD 0 0 = k0 := ⟨_, rfl⟩
    obtain ⟨kx, hkx⟩ : ∃ kx, ks.getD 1 0 = kx := ⟨_, rfl⟩
    rw [hk0] at c0 HV HE
    rw [hkx] at c1 HV HE
    rw [Nat.add_zero] at c0
    rw [hl2, hwf] at HWN
    rw [hl2]
    clear HK hl HC h2 h1 hn hl2 HLG HLE hk0 hkx hwf hnr hdle hple hp hd hpd
    go_enter Tryz.func162, Tryz.ntmps162
    go_wp2_with fail
    rw [← HW.out]
    refine (HWN.out _).mono ?_
    rintro z w2 ⟨A', rfl, hwi, hbw⟩
    obtain ⟨p0, p1, p2, p3⟩ := HP0.out.below hbw
    have HB2 := Lib.hid (HB0.out.trans (hbw.mono HB0.out.size))
    have HC0 := Lib.hid (keep_cell HB2.out c0)
    have HC1 := Lib.hid (keep_cell HB2.out c1)
    obtain ⟨bw, ow, rfl, d0'⟩ := hwi 0 (by omega)
    obtain ⟨bw', ow', e, d1'⟩ := hwi 1 (by omega)
    cases e
    have d0 : w2.cell? ⟨bw, ow, none⟩ = some (.int .i64 p) := d0'
    have d1 : w2.cell? ⟨bw, ow + 1, none⟩ = some (.int .i64 d) := d1'
    have HD0 := Lib.hid d0
    have HD1 := Lib.hid d1
    clear hbw hwi c0 c1 d0' d1' d0 d1
    go_upto_region 7 with (fail)
    clear p0 p1 p2 p3
    refine wp_region_S (fun w' => w'.cell? ⟨b, o, none⟩ = some (.int .i64 k0) ∧ w'.cell? ⟨b, o + 1, none⟩ = some (.int .i64 kx) ∧ w'.cell? ⟨bw, ow, none⟩ = some (.int .i64 p) ∧ w'.cell? ⟨bw, ow + 1, none⟩ = some (.int .i64 d)) 16 (by kernel_rfl) ?_
    have hS0 := (⟨HC0.out, HC1.out, HD0.out, HD1.out⟩ : w2.drew.cell? ⟨b, o, none⟩ = some (.int .i64 k0) ∧ w2.drew.cell? ⟨b, o + 1, none⟩ = some (.int .i64 kx) ∧ w2.drew.cell? ⟨bw, ow, none⟩ = some (.int .i64 p) ∧ w2.drew.cell? ⟨bw, ow + 1, none⟩ = some (.int .i64 d))
    refine Takes.intro [0,1,2,3,4,5,6,7,8,9,10,11,12,13,14,15] ?_
    repeat (refine Takes.step (v := ?_) (by kernel_rfl) rfl (fun _ _ _ h => h) rfl hS0 (fun w hSw => by (try dsimp only at hSw); go_simp; try with_reducible rfl) ?_; try simp only [List.getElem_toArray, List.getElem_cons_zero, List.getElem_cons_succ, Act.put, List.setIfInBounds_toArray, List.set_cons_zero, List.set_cons_succ])
    refine Takes.nil ?_
    refine wpAnyS_end 3 16 (by kernel_rfl) (by decide) rfl ?_
    simp only [List.toList_toArray, List.drop_succ_cons, List.drop_zero]
    have HB3 := Lib.hid (HB2.out.drew)
    clear hS0
    go_wp2_with fail
    refine (HSM.out 3 3 _ _ (w2.alloc _).drew (prs_three w2 k0 d kx p 6 n) (by decide) (wok_three ⟨HV.out.1.1, HV.out.1.2, HD.out.1, HD.out.2.1⟩ ⟨HV.out.2.1, HV.out.2.2, HD.out.2.2.1, HD.out.2.2.2.1⟩ ⟨by decide, by decide, HD.out.2.2.2.2.1, HD.out.2.2.2.2.2⟩)).mono ?_
    rintro z w3 ⟨rfl, hb⟩
    have HB4 := Lib.hid (((HB2.out.alloc HB2.out.size (.cells #[.int .i64 k0, .int .i64 d, .int .i64 kx, .int .i64 p, .int .i64 6, .int .i64 n] 48)).drew).trans (hb.mono (by have := HB2.out.size; simp [World.drew]; omega)))
    clear hb
    go_wp2
    go_ret
    exact ⟨by rw [HE.out, sum_three]; rfl, HB4.out⟩
  · have hl2 : ks.length = 1 := by rw [hl]; rfl
    obtain ⟨b, o, rfl, c0⟩ := HK.out 0 (by omega)
    have HE : Hid (costF 3 n 0 ks = capI (ks.getD 0 0 * 2 + 10 * n)) := Lib.hid rfl
    have HV := Lib.hid (HC.out.at' 0)
    have HD : Hid (1 ≤ (n : Int) ∧ (n : Int) ≤ 65536) := Lib.hid (by omega)
    obtain ⟨k0, hk0⟩ : ∃ k0, ks.getD 0 0 = k0 := ⟨_, rfl⟩
    rw [hk0] at c0 HV HE
    rw [Nat.add_zero] at c0
    rw [hl2] at HWN ⊢
    clear HK hl HC h2 h1 hn hl2 HLG HLE hk0
    go_enter Tryz.func162, Tryz.ntmps162
    go_wp2_with fail
    rw [← HW.out]
    refine (HWN.out _).mono ?_
    rintro z w2 ⟨A', rfl, hwi, hbw⟩
    obtain ⟨p0, p1, p2, p3⟩ := HP0.out.below hbw
    have HB2 := Lib.hid (HB0.out.trans (hbw.mono HB0.out.size))
    have hc0 := keep_cell HB2.out c0
    clear hbw hwi c0
    go_wp2_with fail
    refine (HSM.out 2 2 _ _ _ (prs_two w2 k0 2 10 n) (by decide) (wok_two ⟨HV.out.1, HV.out.2, by decide, by decide⟩ ⟨by decide, by decide, HD.out.1, HD.out.2⟩)).mono ?_
    rintro z w3 ⟨rfl, hb⟩
    have HB3 := Lib.hid ((HB2.out.alloc HB2.out.size _).trans (hb.mono (by have := HB2.out.size; simp; omega)))
    clear hb p0 p1 p2 p3 hc0
    go_wp2
    go_ret
    exact ⟨by rw [HE.out, sum_two]; rfl, HB3.out⟩
  · have hl2 : ks.length = 1 := by rw [hl]; rfl
    have hwf : wantsF 4 n 0 = [(padF n : Int)] := rfl
    have hpf := padF_spec n (by omega) h4
    have HE : Hid (costF 4 n 0 ks = capI (ks.getD 0 0 * 2 + 6 * (padF n : Int) + 12 * n)) := Lib.hid rfl
    have HD : Hid (1 ≤ (padF n : Int) ∧ (padF n : Int) ≤ 65536 ∧ 1 ≤ (n : Int) ∧ (n : Int) ≤ 65536) := Lib.hid (by omega)
    rw [hwf] at HWN
    generalize padF n = d at HE HD HWN
    obtain ⟨b, o, rfl, c0⟩ := HK.out 0 (by omega)
    have HV := Lib.hid (HC.out.at' 0)
    obtain ⟨k0, hk0⟩ : ∃ k0, ks.getD 0 0 = k0 := ⟨_, rfl⟩
    rw [hk0] at c0 HV HE
    rw [Nat.add_zero] at c0
    rw [hl2] at HWN ⊢
    clear HK hl HC h2 h1 hn hl2 HLG HLE hk0 hpf hwf
    go_enter Tryz.func162, Tryz.ntmps162
    go_wp2_with fail
    rw [← HW.out]
    refine (HWN.out _).mono ?_
    rintro z w2 ⟨A', rfl, hwi, hbw⟩
    obtain ⟨p0, p1, p2, p3⟩ := HP0.out.below hbw
    have HB2 := Lib.hid (HB0.out.trans (hbw.mono HB0.out.size))
    have HC0 := Lib.hid (keep_cell HB2.out c0)
    obtain ⟨bw, ow, rfl, d0'⟩ := hwi 0 (by omega)
    have d0 : w2.cell? ⟨bw, ow, none⟩ = some (.int .i64 d) := d0'
    have HD0 := Lib.hid d0
    clear hbw hwi c0 d0' d0
    go_upto_region 13 with (fail)
    clear p0 p1 p2 p3
    refine wp_region_S (fun w' => w'.cell? ⟨b, o, none⟩ = some (.int .i64 k0) ∧ w'.cell? ⟨bw, ow, none⟩ = some (.int .i64 d)) 10 (by kernel_rfl) ?_
    have hS0 := (⟨HC0.out, HD0.out⟩ : w2.drew.cell? ⟨b, o, none⟩ = some (.int .i64 k0) ∧ w2.drew.cell? ⟨bw, ow, none⟩ = some (.int .i64 d))
    refine Takes.intro [0,1,2,3,4,5,6,7,8,9] ?_
    repeat (refine Takes.step (v := ?_) (by kernel_rfl) rfl (fun _ _ _ h => h) rfl hS0 (fun w hSw => by (try dsimp only at hSw); go_simp; try with_reducible rfl) ?_; try simp only [List.getElem_toArray, List.getElem_cons_zero, List.getElem_cons_succ, Act.put, List.setIfInBounds_toArray, List.set_cons_zero, List.set_cons_succ])
    refine Takes.nil ?_
    refine wpAnyS_end 3 10 (by kernel_rfl) (by decide) rfl ?_
    simp only [List.toList_toArray, List.drop_succ_cons, List.drop_zero]
    clear hS0
    go_wp2_with fail
    refine (HSM.out 3 3 _ _ (w2.alloc _).drew (prs_three w2 k0 2 6 d 12 n) (by decide) (wok_three ⟨HV.out.1, HV.out.2, by decide, by decide⟩ ⟨by decide, by decide, HD.out.1, HD.out.2.1⟩ ⟨by decide, by decide, HD.out.2.2.1, HD.out.2.2.2⟩)).mono ?_
    rintro z w3 ⟨rfl, hb⟩
    have HB4 := Lib.hid (((HB2.out.alloc HB2.out.size (.cells #[.int .i64 k0, .int .i64 2, .int .i64 6, .int .i64 d, .int .i64 12, .int .i64 n] 48)).drew).trans (hb.mono (by have := HB2.out.size; simp [World.drew]; omega)))
    clear hb
    go_wp2
    go_ret
    exact ⟨by rw [HE.out, sum_three]; rfl, HB4.out⟩
end Go.Proofs.YtmgfaeineklccaaGreat
/- The search for the plan that costs least: every size has one. -/
set_option linter.unusedSimpArgs false
set_option linter.unusedVariables false
namespace Go.Proofs.YtmgfaeineklccaaGreat
open Go.RowKit Go.Lib

theorem priL_false : ∀ (f d n : Nat), 2 ≤ d → priL f d n = false → ∃ r, d ≤ r ∧ r ≤ n / r ∧ n % r = 0
  | 0, d, n, hd, h => by simp [priL] at h
  | f + 1, d, n, hd, h => by
    rw [priL] at h
    cases h1 : Nat.ble d (n / d)
    · rw [h1] at h; simp at h
    · rw [h1] at h
      have hle : d ≤ n / d := Nat.le_of_ble_eq_true h1
      cases h2 : Nat.beq (n % d) 0
      · rw [h2] at h
        obtain ⟨r, a, b, c⟩ := priL_false f (d + 1) n (by omega) h
        exact ⟨r, by omega, b, c⟩
      · exact ⟨d, Nat.le_refl _, hle, Nat.eq_of_beq_eq_true h2⟩
theorem radU_has {n r : Nat} (h2 : 2 ≤ r) (hd : n % r = 0) : ∀ m, r < m → ((1 : Int), (r : Int)) ∈ radU n m
  | 0, h => by omega
  | m + 1, h => by
    unfold radU
    rw [List.mem_append]
    rcases Nat.lt_or_ge r m with h0 | h0
    · exact .inl (radU_has h2 hd m h0)
    · obtain rfl : r = m := by omega
      rw [if_pos ⟨h2, hd⟩]
      exact .inr (by simp)
theorem candL_ne (n : Nat) (blue : Bool) (h1 : 1 ≤ n) : candL n blue ≠ [] := by
  intro h
  have key : ∃ c, c ∈ candL n blue := by
    by_cases h32 : n ≤ 32
    · refine ⟨(0, 0), ?_⟩
      unfold candL
      simp only [List.mem_append]
      exact .inl (.inl (.inl (.inl (by rw [if_pos h32]; simp))))
    · cases hp : primeB n
      · unfold primeB at hp
        have hb : Nat.ble n 1 = false := by
          cases e : Nat.ble n 1
          · rfl
          · have := Nat.le_of_ble_eq_true e; omega
        rw [hb] at hp
        obtain ⟨r, a, b, c⟩ := priL_false n 2 n (by omega) hp
        refine ⟨(1, (r : Int)), ?_⟩
        unfold candL
        simp only [List.mem_append]
        refine .inl (.inl (.inl (.inr (radU_has a c n ?_))))
        have := Nat.div_mul_le_self n r
        have h3 : r * r ≤ n := Nat.le_trans (Nat.mul_le_mul_right r b) this
        have h4 : 2 * r ≤ r * r := Nat.mul_le_mul_right r a
        omega
      · refine ⟨(3, 0), ?_⟩
        unfold candL
        simp only [List.mem_append]
        exact .inl (.inr (by rw [if_pos ⟨hp, by omega⟩]; simp))
  obtain ⟨c, hc⟩ := key
  rw [h] at hc
  cases hc
theorem pickB_has (F : Int × Int → Bst) (l : List (Int × Int)) (hl : l ≠ []) (hF : ∀ c ∈ l, 0 ≤ (F c).c) : ∃ c ∈ l, pickB F l = F c := by
  rcases l with _ | ⟨c, l⟩
  · exact absurd rfl hl
  · have h0 : noB.or (F c) = F c := by unfold Bst.or; rw [if_pos (.inl (by decide))]
    have key : ∀ (l : List (Int × Int)) (z : Bst), (l.foldl (fun out c => out.or (F c)) z = z) ∨ ∃ d ∈ l, l.foldl (fun out c => out.or (F c)) z = F d := by
      intro l
      induction l with
      | nil => exact fun z => .inl rfl
      | cons d l ih =>
        intro z
        rw [List.foldl_cons]
        rcases ih (z.or (F d)) with h | ⟨e, he, h⟩
        · rw [h]
          unfold Bst.or
          split
          · exact .inr ⟨d, List.mem_cons_self, rfl⟩
          · exact .inl rfl
        · exact .inr ⟨e, List.mem_cons_of_mem _ he, h⟩
    unfold pickB
    rw [List.foldl_cons, h0]
    rcases key l (F c) with h | ⟨d, hd, h⟩
    · exact ⟨c, List.mem_cons_self, h⟩
    · exact ⟨d, List.mem_cons_of_mem _ hd, h⟩
theorem costF_rng {kind n r : Int} {ks : List Int} (h1 : 0 ≤ n) (hr : 0 ≤ r) (h : CkOk ks) : 0 ≤ costF kind n r ks ∧ costF kind n r ks ≤ 1125899906842624 := by
  have a0 := (h.at' 0).1
  have a1 := (h.at' 1).1
  have b1 : 0 ≤ n / r := Int.ediv_nonneg h1 hr
  have b2 := Int.mul_nonneg a0 b1
  have b3 := Int.mul_nonneg a1 hr
  have b4 := Int.mul_nonneg h1 h1
  unfold costF
  (repeat' split)
  · exact cap_le _ (by omega)
  · have := Int.mul_nonneg h1 (show (0 : Int) ≤ (logN n.toNat : Int) by omega)
    exact cap_le _ (by rw [Int.mul_assoc]; omega)
  · exact cap_le _ (by omega)
  · exact cap_le _ (by omega)
  · exact cap_le _ (by rw [Int.mul_assoc]; omega)
theorem cand_nonneg {n : Nat} {blue : Bool} {k r : Int} (h : Cand n blue k r) : 0 ≤ r := by
  rcases h with ⟨_, h⟩ | ⟨_, h⟩ | ⟨_, p, d, h, _⟩ | ⟨_, h, _⟩ | ⟨_, h, _⟩ <;> omega
theorem bestV_cost : ∀ (d n : Nat) (blue : Bool), deepB n blue = d → 1 ≤ n → n ≤ 32768 → 0 ≤ (bestV n blue).c ∧ (bestV n blue).c ≤ 1125899906842624 := by
  intro d
  induction d using Nat.strongRecOn with
  | ind d ih =>
    intro n blue hd h1 hn
    have hc : ∀ c ∈ candL n blue, 0 ≤ (tryB bestV n blue c).c ∧ (tryB bestV n blue c).c ≤ 1125899906842624 := fun c hc => by
      have hcd := candL_cand h1 hc
      refine costF_rng (by omega) (cand_nonneg hcd) fun y hy => ?_
      unfold costsB at hy
      rw [List.mem_map] at hy
      obtain ⟨x, hx, rfl⟩ := hy
      obtain ⟨m, rfl, hm1, hm2, hm3⟩ := cand_wants hcd h1 hn x hx
      exact ih _ (by rw [← hd]; exact deep_less hcd hm2 hm3) m _ rfl hm1 hm2
    rw [bestV_eq n blue h1 hn]
    obtain ⟨c, hm, e⟩ := pickB_has (tryB bestV n blue) (candL n blue) (candL_ne n blue h1) fun c h => (hc c h).1
    rw [e]
    exact hc c hm
theorem costsB_ok {n : Nat} {blue : Bool} {k r : Int} (h : Cand n blue k r) (h1 : 1 ≤ n) (hn : n ≤ 32768) (b : Bool) : CkOk (costsB bestV b (wantsF k n r)) := fun y hy => by
  unfold costsB at hy
  rw [List.mem_map] at hy
  obtain ⟨x, hx, rfl⟩ := hy
  obtain ⟨m, rfl, hm1, hm2, hm3⟩ := cand_wants h h1 hn x hx
  exact bestV_cost _ m _ rfl hm1 hm2
theorem kidsB_len (G : Nat → Bool → Bst) (b : Bool) : ∀ ws : List Int, (kidsB G b ws).len = ws.length
  | [] => rfl
  | x :: ws => by show (kidsB G b ws).len + 1 = _; rw [kidsB_len G b ws]; rfl
/-- How many nodes the best plan has. -/
theorem bestV_count : ∀ (d n : Nat) (blue : Bool), deepB n blue = d → 1 ≤ n → n ≤ 32768 → 1 + (bestV n blue).q.count ≤ capN blue n := by
  intro d
  induction d using Nat.strongRecOn with
  | ind d ih =>
    intro n blue hd h1 hn
    rw [bestV_eq n blue h1 hn]
    rcases pickB_one (tryB bestV n blue) (candL n blue) with e | ⟨c, hm, e⟩
    · rw [e]
      show 1 + 0 ≤ _
      unfold capN
      cases blue <;> simp <;> omega
    · rw [e]
      have hcd := candL_cand h1 hm
      have hcap := cand_cap hcd h1
      have hw : ∀ x ∈ wantsF c.1 n c.2, ∃ m : Nat, x = m ∧ 1 + (bestV m (blue || c.1 == 4)).q.count ≤ capN (blue || c.1 == 4) m := fun x hx => by
        obtain ⟨m, rfl, hm1, hm2, hm3⟩ := cand_wants hcd h1 hn x hx
        exact ⟨m, rfl, ih _ (by rw [← hd]; exact deep_less hcd hm2 hm3) m _ rfl hm1 hm2⟩
      refine Nat.le_trans ?_ hcap
      show 1 + (kidsB bestV (blue || c.1 == 4) (wantsF c.1 n c.2)).count ≤ _
      generalize wantsF c.1 n c.2 = ws at hw
      have : (kidsB bestV (blue || c.1 == 4) ws).count ≤ capL (blue || c.1 == 4) ws := by
        induction ws with
        | nil => exact Nat.le_refl _
        | cons x ws ihw =>
          obtain ⟨m, rfl, hm⟩ := hw x List.mem_cons_self
          have := ihw fun y hy => hw y (List.mem_cons_of_mem _ hy)
          show 1 + (bestV m (blue || c.1 == 4)).q.count + (kidsB bestV (blue || c.1 == 4) ws).count ≤ capN (blue || c.1 == 4) m + capL (blue || c.1 == 4) ws
          omega
      omega
theorem cand_pow {n : Nat} {blue : Bool} {c : Int × Int} (h : c ∈ candL n blue) : c.1 = 2 → 4 ≤ n := by
  intro e
  unfold candL at h
  simp only [List.mem_append] at h
  rcases h with (((h | h) | h) | h) | h
  · split at h
    · simp only [List.mem_cons, List.not_mem_nil, or_false] at h; subst h; cases e
    · cases h
  · obtain ⟨r, rfl, -⟩ := radU_mem h; cases e
  · split at h
    · next hp =>
      rcases Nat.lt_or_ge n 4 with h4 | h4
      · rw [pow4_small n h4] at hp; cases hp
      · exact h4
    · cases h
  · split at h
    · simp only [List.mem_cons, List.not_mem_nil, or_false] at h; subst h; cases e
    · cases h
  · split at h
    · simp only [List.mem_cons, List.not_mem_nil, or_false] at h; subst h; cases e
    · cases h
end Go.Proofs.YtmgfaeineklccaaGreat
