/- The document's transform over a field is the one that is defined; there and back, twice. Plain. -/
import Derived.Test.YteaimnemobnknaaMD2
import Derived.Test.YteaimnemobnknaaD4L18
set_option linter.unusedSimpArgs false
set_option linter.unusedVariables false
namespace Go.Proofs.Yteaimnemobnknaa
open Go.RowKit Go.Lib

section
variable {q : Nat} [NeZero q]
theorem rtF_ne {v o : Nat} (O : Ord v o q) (k : Int) (n : Nat) : rtF q v o k n ≠ 0 := by
  intro h
  have h1 : (rtF q v o k n).val = (0 : Fin q).val := by rw [h]
  exact ord_pow_ne O _ h1
theorem rt_mul {v o : Nat} (O : Ord v o q) (hp : Prm q) {n : Nat} (n1 : 1 ≤ n) (hn : n ∣ o) (a b : Int) : rtF q v o (a + b) n = rtF q v o a n * rtF q v o b n := (O.rts hp).add n a b n1 hn
theorem rdF_dft {v o : Nat} (hp : Prm q) (O : Ord v o q) (hoq : o < q) {n : Nat} (n1 : 1 ≤ n) (hn : n ∣ o) {s : Int} (hs : s = 1 ∨ s = -1) (f : Nat → Int) (j : Nat) :
    hq q ((rdF q v o n s f j : Nat) : Int) = dft (rtF q v o) n s (fun k => hq q (f k)) j := by
  have H := hom_law hp O hoq
  have hst : hq q ((rootR q v o (unitI s * (j : Int)) n : Nat) : Int) = rtF q v o (s * (j : Int)) n := by
    rw [unit_one hs]
    exact H.root (s * (j : Int)) n n1 hn
  unfold rdF
  generalize rootR q v o (unitI s * (j : Int)) n = st at hst ⊢
  have hne : st ≠ 0 := by
    rintro rfl
    exact rtF_ne O _ _ (hst.symm.trans hq_zero)
  rw [if_neg hne]
  have key : ∀ k, hq q ((rdL q st 1 f k).1 : Nat) = (sumF k fun i => hq q (f i) * rtF q v o (s * ((j : Int) * i)) n) ∧ hq q ((rdL q st 1 f k).2 : Nat) = rtF q v o (s * ((j : Int) * k)) n := by
    intro k
    induction k with
    | zero =>
      refine ⟨hq_zero, ?_⟩
      show hq q ((1 : Nat) : Int) = _
      rw [Int.natCast_zero, Int.mul_zero, Int.mul_zero, (O.rts hp).zero n n1 hn]
      exact hq_one
    | succ k ih =>
      obtain ⟨h1, h2⟩ := ih
      have hx : (((f k % (q : Int)).toNat : Nat) : Int) = f k % q := Int.toNat_of_nonneg (Int.emod_nonneg _ (by have := hp.1; omega))
      refine ⟨?_, ?_⟩
      · show hq q ((((rdL q st 1 f k).1 + (f k % (q : Int)).toNat * (rdL q st 1 f k).2 % q) % q : Nat) : Int) = _
        rw [Int.natCast_emod, hq_mod, Int.natCast_add, hq_add, Int.natCast_emod, hq_mod, Int.natCast_mul, hq_mul, hx, hq_mod, h1, h2, sumF_succ]
      · show hq q (((rdL q st 1 f k).2 * st % q : Nat) : Int) = _
        rw [Int.natCast_emod, hq_mod, Int.natCast_mul, hq_mul, h2, hst, ← rt_mul O hp n1 hn]
        congr 1
        rw [Int.natCast_add]
        grind
  exact (key n).1
/-- There and back. -/
theorem dft_back {v o : Nat} (hp : Prm q) (O : Ord v o q) {n : Nat} (n1 : 1 ≤ n) (hn : n ∣ o) (s : Int) (hs : s = 1 ∨ s = -1) (x : Nat → Fin q) (j : Nat) (hj : j < n) :
    dft (rtF q v o) n (-s) (fun k => dft (rtF q v o) n s x k) j = sumF n (fun _ => 1) * x j := by
  have H := O.rts hp
  unfold dft
  have e1 : ∀ k : Nat, sumF n (fun i => x i * rtF q v o (s * ((k : Int) * (i : Nat))) n) * rtF q v o (-s * ((j : Int) * (k : Nat))) n = sumF n (fun i => x i * rtF q v o ((s * ((i : Int) - j)) * (k : Nat)) n) := fun k => by
    rw [← sumF_right]
    refine sumF_congr fun i _ => ?_
    have : s * ((i : Int) - j) * (k : Nat) = s * ((k : Int) * (i : Nat)) + -s * ((j : Int) * (k : Nat)) := by grind
    rw [this, H.add n _ _ n1 hn]
    grind
  rw [sumF_congr (g := fun k => sumF n (fun i => x i * rtF q v o ((s * ((i : Int) - j)) * (k : Nat)) n)) (fun k _ => e1 k), sumF_comm]
  have e2 : ∀ i, i < n → sumF n (fun k => x i * rtF q v o ((s * ((i : Int) - j)) * (k : Nat)) n) = if i = j then sumF n (fun _ => 1) * x j else 0 := fun i hi => by
    rw [sumF_left, H.orth' n1 hn]
    by_cases h : i = j
    · subst h
      rw [if_pos rfl, if_pos (by rw [Int.sub_self, Int.mul_zero]; exact Int.dvd_zero _)]
      grind
    · rw [if_neg h, if_neg]
      · grind
      · intro hd
        have hd2 : (n : Int) ∣ ((i : Int) - j) := by
          rcases hs with rfl | rfl
          · rwa [Int.one_mul] at hd
          · rw [show (-1 : Int) * ((i : Int) - j) = -((i : Int) - j) from by omega] at hd
            exact (Int.dvd_neg).1 hd
        obtain ⟨c, hc⟩ := hd2
        have h3 : -(n : Int) < (i : Int) - j ∧ (i : Int) - j < n := by omega
        rw [hc] at h3
        have hc0 : c = 0 := by
          rcases Int.lt_trichotomy c 0 with h4 | h4 | h4
          · have : (n : Int) * c ≤ (n : Int) * (-1) := Int.mul_le_mul_of_nonneg_left (by omega) (by omega)
            omega
          · exact h4
          · have : (n : Int) * 1 ≤ (n : Int) * c := Int.mul_le_mul_of_nonneg_left (by omega) (by omega)
            omega
        rw [hc0, Int.mul_zero] at hc
        exact h (by omega)
  rw [sumF_congr e2, sumF_pick n j _ hj (fun k hk hne => if_neg hne), if_pos rfl]
/-- Twice: the list the other way round. -/
theorem dft_twice {v o : Nat} (hp : Prm q) (O : Ord v o q) {n : Nat} (n1 : 1 ≤ n) (hn : n ∣ o) (x : Nat → Fin q) (j : Nat) (hj : j < n) :
    dft (rtF q v o) n 1 (fun k => dft (rtF q v o) n 1 x k) j = sumF n (fun _ => 1) * x ((n - j) % n) := by
  have H := O.rts hp
  have hb := dft_back hp O n1 hn 1 (.inl rfl) x ((n - j) % n) (Nat.mod_lt _ n1)
  rw [← hb]
  unfold dft
  refine sumF_congr fun k _ => ?_
  congr 1
  have e : (1 : Int) * ((j : Int) * (k : Nat)) = -1 * ((((n - j) % n : Nat) : Int) * (k : Nat)) + n * ((k : Nat) * (((n - j) / n : Nat) : Int) * 0 + (if j = 0 then 0 else (k : Int))) := by
    by_cases h0 : j = 0
    · subst h0
      rw [if_pos rfl, Nat.sub_zero, Nat.mod_self]
      simp
    · rw [if_neg h0, Nat.mod_eq_of_lt (by omega), Int.ofNat_sub (by omega)]
      grind
  rw [e]
  exact H.mod n1 hn _ _
theorem hq_ne {n : Nat} (hp : Prm q) (n1 : 1 ≤ n) (hn : n < q) : hq q (n : Int) ≠ 0 := by
  intro h
  have h1 := hq_val (q := q) (n : Int)
  rw [h, Int.emod_eq_of_lt (by omega) (by omega)] at h1
  have : (((0 : Fin q).val : Nat) : Int) = 0 := rfl
  omega
theorem mul_cancel (hp : Prm q) {a b c : Fin q} (hc : c ≠ 0) (h : a * c = b * c) : a = b := by
  have h1 : (a - b) * c = 0 := by grind
  rcases fin_mul_zero hp h1 with e | e
  · grind
  · exact absurd e hc
end
end Go.Proofs.Yteaimnemobnknaa
/- Run and Back over the statement's field give the document's lists. -/
set_option linter.unusedSimpArgs false
set_option linter.unusedVariables false
namespace Go.Proofs.Yteaimnemobnknaa
open Go.RowKit Go.Lib

theorem oroL_dvd : ∀ (l : List (Int × Int × Int)) (a o : Nat), (∀ x ∈ l, Vld x) → oroL l a = some o → a ∣ o ∧ ∀ x ∈ l, rootN x.1 x.2.1 ∣ o
  | [], a, o, _, h => by
    injection h with h
    subst h
    exact ⟨Nat.dvd_refl _, fun x hx => by cases hx⟩
  | (k, n, r) :: t, a, o, hv, h => by
    rw [oroL] at h
    split at h
    · cases h
    · obtain ⟨h1, h2⟩ := oroL_dvd t _ o (fun y hy => hv y (List.mem_cons_of_mem _ hy)) h
      have hx := hv (k, n, r) (List.mem_cons_self ..)
      have hm : 1 ≤ rootN k n := by
        have h2 : (1 : Int) ≤ n := hx.2.2.1
        unfold rootN
        split <;> omega
      have hg : 1 ≤ Nat.gcd a (rootN k n) := Nat.gcd_pos_of_pos_right _ hm
      refine ⟨Nat.dvd_trans ⟨_, rfl⟩ h1, fun x hx => ?_⟩
      rcases List.mem_cons.1 hx with rfl | hx
      · refine Nat.dvd_trans ?_ h1
        show rootN k n ∣ a * (rootN k n / Nat.gcd a (rootN k n))
        obtain ⟨c, hc⟩ := Nat.gcd_dvd_left a (rootN k n)
        obtain ⟨d, hd⟩ := Nat.gcd_dvd_right a (rootN k n)
        have e : rootN k n / Nat.gcd a (rootN k n) = d := by
          have : rootN k n / Nat.gcd a (rootN k n) = Nat.gcd a (rootN k n) * d / Nat.gcd a (rootN k n) := by rw [← hd]
          rw [this]
          exact Nat.mul_div_cancel_left d hg
        rw [e]
        generalize Nat.gcd a (rootN k n) = g at *
        generalize rootN k n = m at *
        exact ⟨c, by rw [hc, hd]; grind⟩
      · exact h2 x hx
/-- The order of a plan that can be: all roots' orders divide it. -/
theorem ordR_dvd {kind n r : Int} {q : Fo} {o : Nat} (h : ordR kind n r q = (o, 0)) : ∀ x ∈ (kind, n, r) :: q.flat, rootN x.1 x.2.1 ∣ o := by
  unfold ordR at h
  by_cases h0 : checkE kind n r q n = 0
  · rw [if_neg (by simp [h0])] at h
    have hv := (check_valid h0).1
    rcases h2 : oroL ((kind, n, r) :: q.flat) 1 with _ | o2
    · rw [h2] at h
      exact absurd (congrArg Prod.snd h) (show ¬ (28 : Int) = 0 by decide)
    · rw [h2] at h
      have : o2 = o := congrArg Prod.fst h
      subst this
      exact (oroL_dvd _ 1 _ hv h2).2
  · rw [if_pos h0] at h
    exact absurd (congrArg Prod.snd h) h0

/-- A plan that can be, over a field with all its roots. -/
structure PlanF (Q V O : Nat) (kind : Int) (N : Nat) (r : Int) (q : Fo) : Prop where
  fo : FieldOk Q V O
  ck : checkE kind N r q N = 0
  le : N ≤ 512
  rt : ∀ x ∈ (kind, (N : Int), r) :: q.flat, rootN x.1 x.2.1 ∣ O
def InQ (Q : Nat) (x : Nat → Int) : Prop := ∀ i, 0 ≤ x i ∧ x i < Q
theorem PlanF.n1 {Q V O : Nat} {kind : Int} {N : Nat} {r : Int} {q : Fo} (P : PlanF Q V O kind N r q) : 1 ≤ N := by
  have := (check_fine (B := 512) (by omega) P.ck (by have := P.le; omega)).2.2
  omega
theorem PlanF.dvd {Q V O : Nat} {kind : Int} {N : Nat} {r : Int} {q : Fo} (P : PlanF Q V O kind N r q) : N ∣ O := by
  have := root_dvd (P.rt _ (List.mem_cons_self ..))
  exact this
section
variable {Q V O : Nat} {kind : Int} {N : Nat} {r : Int} {q : Fo}
theorem PlanF.lawOk (P : PlanF Q V O kind N r q) : (lawV Q V O).Ok Mem.plain := law_ok Q V O P.fo.pr.1 (by have := P.fo.q; omega) (by have := P.fo.q; have := P.fo.v; omega) (by have := P.fo.q; have := P.fo.nq; omega)
theorem PlanF.planC (P : PlanF Q V O kind N r q) : PlanC Mem.plain (lawV Q V O) kind N r q N (nodeR (lawV Q V O) kind N r q) := by
  have h := (plans_all P.lawOk (.cons kind N r q .nil) (check_fine (B := 512) (by omega) P.ck (by have := P.le; omega)).1).1
  have e : (N : Int).toNat = N := Int.toNat_natCast N
  rw [e] at h
  exact h
/-- What the plan does is the document's transform. -/
theorem PlanF.node (P : PlanF Q V O kind N r q) {s : Int} (hs : s = 1 ∨ s = -1) {x : Nat → Int} (hx : InQ Q x) (j : Nat) (hj : j < N) : nodeR (lawV Q V O) kind N r q s x j = ((rdF Q V O N s x j : Nat) : Int) := by
  have hq0 : NeZero Q := ⟨by have := P.fo.pr.1; omega⟩
  have H := hom_law P.fo.pr P.fo.od P.fo.nq
  have hD := (runs_dft H (.cons kind N r q .nil) (check_fine (B := 512) (by omega) P.ck (by have := P.le; omega)).1 (fun y hy => P.rt y (by simpa [Fo.flat] using hy))).1 s hs x j (by rw [Int.toNat_natCast]; exact hj)
  have hin : 0 ≤ nodeR (lawV Q V O) kind N r q s x j ∧ nodeR (lawV Q V O) kind N r q s x j < Q := P.planC.cl s x hx j
  have hlt := rdF_lt (v := V) (o := O) (n := N) P.fo.pr.1 s x j
  refine hq_inj hin.1 hin.2 (by omega) (by omega) ?_
  rw [rdF_dft P.fo.pr P.fo.od P.fo.nq P.n1 P.dvd hs x j]
  rw [Int.toNat_natCast] at hD
  exact hD
theorem rdF_in (P : PlanF Q V O kind N r q) (s : Int) (x : Nat → Int) : InQ Q (fun j => ((rdF Q V O N s x j : Nat) : Int)) := fun j => by
  have hlt := rdF_lt (v := V) (o := O) (n := N) P.fo.pr.1 s x j
  show 0 ≤ ((rdF Q V O N s x j : Nat) : Int) ∧ ((rdF Q V O N s x j : Nat) : Int) < Q
  omega
theorem InQ.rng (P : PlanF Q V O kind N r q) {x : Nat → Int} (h : InQ Q x) : Rng x := fun i => by
  have := h i
  have := P.fo.q
  omega
theorem Run_f (P : PlanF Q V O kind N r q) (s : Int) (hs : s = 1 ∨ s = -1) (hc : q.count ≤ 549755813888) (w : World) (A : Option Addr) (c : Nat) (X : Option Addr) (cx : Nat) (x : Nat → Int) (hk : Kids w A 0 q) (hX : IntsAt w X N x) (hx : InQ Q x) :
    Calls Try.prog 16 #[.iface 35 (rgV Q V O), plV kind N r A q.len c, .slice X N cx, .int .i64 s] w fun z w' => ∃ g, z = .returned (.tuple #[.slice (some ⟨g, 0, none⟩) N N, .int .i64 0]) ∧ IntsAt w' (some ⟨g, 0, none⟩) N (fun j => ((rdF Q V O N s x j : Nat) : Int)) ∧ Below w.heap.size w w' := by
  have hch : ChkC kind N r q N 0 := by have := Check_any kind N r q N hc; rw [P.ck] at this; exact this
  refine (Run_r P.lawOk kind r q N _ P.planC hch s hs w A c X cx x hk hX hx trivial).mono ?_
  rintro z w' ⟨g, rfl, -, ho, hon⟩
  exact ⟨g, rfl, ho.ints.congr fun j hj => P.node hs hx j hj, hon.fr⟩
theorem Back_f (P : PlanF Q V O kind N r q) (s : Int) (hs : s = 1 ∨ s = -1) (hc : q.count ≤ 549755813888) (w : World) (A : Option Addr) (c : Nat) (X : Option Addr) (cx : Nat) (x : Nat → Int) (hk : Kids w A 0 q) (hX : IntsAt w X N x) (hx : InQ Q x) :
    Calls Try.prog 17 #[.iface 35 (rgV Q V O), plV kind N r A q.len c, .slice X N cx, .int .i64 s] w fun z w' => ∃ g, z = .returned (.tuple #[.slice (some ⟨g, 0, none⟩) N N, .int .i64 0]) ∧ IntsAt w' (some ⟨g, 0, none⟩) N (fun j => ((rbF Q V O N s x j : Nat) : Int)) ∧ Below w.heap.size w w' := by
  have hch : ChkC kind N r q N 0 := by have := Check_any kind N r q N hc; rw [P.ck] at this; exact this
  refine (Back_r P.lawOk kind r q N P.n1 (by have := P.le; omega) _ P.planC hch s hs w A c X cx x hk hX hx trivial).mono ?_
  rintro z w' ⟨g, rfl, -, ho, hon⟩
  refine ⟨g, rfl, ho.ints.congr fun j hj => ?_, hon.fr⟩
  show ((overN Q (nodeR (lawV Q V O) kind N r q (-s) x j) N : Nat) : Int) = _
  rw [P.node (s := -s) (by omega) hx j hj]
  have hlt := rdF_lt (v := V) (o := O) (n := N) P.fo.pr.1 (-s) x j
  unfold overN rbF
  rw [← Int.natCast_emod, ← Int.natCast_emod, Int.toNat_natCast, Int.toNat_natCast, Nat.mod_eq_of_lt hlt]
/-- Of a transform the list again. -/
theorem rb_rd (P : PlanF Q V O kind N r q) (s : Int) (hs : s = 1 ∨ s = -1) {x : Nat → Int} (hx : InQ Q x) (j : Nat) (hj : j < N) : ((rbF Q V O N s (fun k => ((rdF Q V O N s x k : Nat) : Int)) j : Nat) : Int) = x j := by
  have hq0 : NeZero Q := ⟨by have := P.fo.pr.1; omega⟩
  have H := hom_law P.fo.pr P.fo.od P.fo.nq
  have hlt : rbF Q V O N s (fun k => ((rdF Q V O N s x k : Nat) : Int)) j < Q := Nat.mod_lt _ (by have := P.fo.pr.1; omega)
  have hNQ : N < Q := Nat.lt_of_le_of_lt (Nat.le_of_dvd P.fo.n1 P.dvd) P.fo.nq
  refine hq_inj (by omega) (by omega) (hx j).1 (hx j).2 (mul_cancel P.fo.pr (hq_ne P.fo.pr P.n1 hNQ) ?_)
  have ho := H.over ((rdF Q V O N (-s) (fun k => ((rdF Q V O N s x k : Nat) : Int)) j : Nat) : Int) N P.n1 P.dvd
  have e : (lawRg Q V O).over ((rdF Q V O N (-s) (fun k => ((rdF Q V O N s x k : Nat) : Int)) j : Nat) : Int) N = ((rbF Q V O N s (fun k => ((rdF Q V O N s x k : Nat) : Int)) j : Nat) : Int) := by
    have hlt := rdF_lt (v := V) (o := O) (n := N) P.fo.pr.1 (-s) (fun k => ((rdF Q V O N s x k : Nat) : Int)) j
    show ((overN Q _ N : Nat) : Int) = _
    unfold overN rbF
    rw [← Int.natCast_emod, ← Int.natCast_emod, Int.toNat_natCast, Int.toNat_natCast, Nat.mod_eq_of_lt hlt]
  rw [e] at ho
  rw [ho, rdF_dft P.fo.pr P.fo.od P.fo.nq P.n1 P.dvd (s := -s) (by omega)]
  have e2 : (fun k : Nat => hq Q ((rdF Q V O N s x k : Nat) : Int)) = fun k => dft (rtF Q V O) N s (fun i => hq Q (x i)) k := funext fun k => rdF_dft P.fo.pr P.fo.od P.fo.nq P.n1 P.dvd hs x k
  rw [e2, dft_back P.fo.pr P.fo.od P.n1 P.dvd s hs _ j hj, ← hq_many]
  grind
end
end Go.Proofs.Yteaimnemobnknaa
/- What the document fixes of layer 18. -/
set_option linter.unusedSimpArgs false
set_option linter.unusedVariables false
namespace Go.Proofs.Yteaimnemobnknaa
open Go.RowKit Go.Lib

/-- The kids of the plan that wakes. -/
def wk0 : Fo := .cons 0 2 0 .nil (.cons 0 3 0 .nil .nil)
theorem wk_check : checkE 1 6 2 wk0 6 = 0 := by decide +kernel
theorem wk_ord : ordR 1 6 2 wk0 = (6, 0) := by decide +kernel
def wkV : Nat := (smallF 6).2.1
theorem wk_small : smallF 6 = (1009, wkV, 6) := by
  unfold wkV
  decide +kernel
theorem wk_field : fieldF 1 6 2 wk0 = ((1009, wkV, 6), true) := by
  unfold fieldF
  rw [wk_ord, if_neg (by decide), wk_small]
  rfl
theorem wk_plan : PlanF 1009 wkV 6 1 (6 : Nat) 2 wk0 where
  fo := by
    have h := (smallF_ok (o := 6) (by omega) (by omega) (by rw [wk_small]; decide)).1
    rw [wk_small] at h
    exact h
  ck := wk_check
  le := by omega
  rt := ordR_dvd (o := 6) wk_ord
def wkX : Nat → Int := fun i => [1, 0, 0, 0, 0, 0].getD i 0
theorem wk_in : InQ 1009 wkX := fun i => by
  unfold wkX
  match i with
  | 0 => exact (by decide)
  | 1 => exact (by decide)
  | 2 => exact (by decide)
  | 3 => exact (by decide)
  | 4 => exact (by decide)
  | 5 => exact (by decide)
  | n + 6 => exact ⟨Int.le_refl 0, (by decide : (0 : Int) < 1009)⟩
theorem wk_out : ∀ j, j < 6 → ((rdF 1009 wkV 6 6 1 wkX j : Nat) : Int) = [1, 1, 1, 1, 1, 1].getD j 0 := by
  have h : ∀ j : Fin 6, ((rdF 1009 wkV 6 6 1 wkX j.val : Nat) : Int) = [1, 1, 1, 1, 1, 1].getD j.val 0 := by decide +kernel
  intro j hj
  exact h ⟨j, hj⟩

theorem bs_six (a b c d e f : Int) (w : World) : (Instr.buildSlice 38 6 #[(0, .int .i64 a), (1, .int .i64 b), (2, .int .i64 c), (3, .int .i64 d), (4, .int .i64 e), (5, .int .i64 f)]).run Try.prog w = .ok (.slice (some ⟨w.heap.size, 0, none⟩) 6 6) (w.alloc (.cells #[.int .i64 a, .int .i64 b, .int .i64 c, .int .i64 d, .int .i64 e, .int .i64 f] 2)) := by
  obtain ⟨i0, hi, hz0, hz1, hz2⟩ := info_parts info_int64
  refine run_buildSlice w 38 2 6 _ #[.int .i64 a, .int .i64 b, .int .i64 c, .int .i64 d, .int .i64 e, .int .i64 f] i0 _ Try.underlying38 hi hz0 (by rw [hz1]; decide) (by rw [hz1]; decide) ?_
  rw [hz1]
  have hr : Array.range 1 = #[0] := by decide
  have hr6 : Array.range 6 = #[0, 1, 2, 3, 4, 5] := by decide
  simp [Instr.fill, Value.cells, hr, hr6]
theorem ints_six (w : World) (a b c d e f : Int) (t : TypeId) (n : Nat) (hn : n = w.heap.size) : IntsAt (w.alloc (.cells #[.int .i64 a, .int .i64 b, .int .i64 c, .int .i64 d, .int .i64 e, .int .i64 f] t)) (some ⟨n, 0, none⟩) 6 (fun i => [a, b, c, d, e, f].getD i 0) := fun i hi => by
  subst hn
  refine ⟨w.heap.size, 0, rfl, ?_⟩
  match i, hi with
  | 0, _ => go_simp
  | 1, _ => go_simp
  | 2, _ => go_simp
  | 3, _ => go_simp
  | 4, _ => go_simp
  | 5, _ => go_simp
/-- The kids lie in a block. -/
theorem wk_kids (w : World) (t : TypeId) (n : Nat) (hn : n = w.heap.size) : Kids (w.alloc (.cells #[.int .i64 0, .int .i64 2, .int .i64 0, .slice none 0 0, .int .i64 0, .int .i64 3, .int .i64 0, .slice none 0 0] t)) (some ⟨n, 0, none⟩) 0 wk0 := by
  have hc := cells_eight w (.int .i64 0) (.int .i64 2) (.int .i64 0) (.slice none 0 0) (.int .i64 0) (.int .i64 3) (.int .i64 0) (.slice none 0 0) t n hn
  exact ⟨⟨n, 0, none, 0, rfl, hc 0 _ rfl, hc 1 _ rfl, hc 2 _ rfl, hc 3 _ rfl, trivial⟩, ⟨n, 0, none, 0, rfl, hc 4 _ rfl, hc 5 _ rfl, hc 6 _ rfl, hc 7 _ rfl, trivial⟩, trivial⟩
set_option maxRecDepth 100000 in
set_option maxHeartbeats 4000000 in
theorem wakes18 (w : World) : Calls Try.prog 15 #[] w (Ret w (.bool true)) := by
  have bs2 := bs_plans2
  have bs6 := bs_six
  obtain ⟨W1, hW1⟩ : ∃ W1, W1 = w.alloc (.cells #[.int .i64 0, .int .i64 2, .int .i64 0, .slice none 0 0, .int .i64 0, .int .i64 3, .int .i64 0, .slice none 0 0] 26) := ⟨_, rfl⟩
  have hk1 := wk_kids w 26 w.heap.size rfl
  rw [← hW1] at hk1
  have hb1 : Below w.heap.size w W1 := by rw [hW1]; exact (Below.refl _ w).alloc (Nat.le_refl _) _
  have hs1 : W1.heap.size = w.heap.size + 1 := by rw [hW1]; simp
  obtain ⟨W2, hW2⟩ : ∃ W2, W2 = W1.alloc (.cells #[.int .i64 1, .int .i64 6, .int .i64 2, .slice (some ⟨w.heap.size, 0, none⟩) 2 2] 26) := ⟨_, rfl⟩
  have hb2 : Below W1.heap.size W1 W2 := by rw [hW2]; exact (Below.refl _ W1).alloc (Nat.le_refl _) _
  have hs2 : W2.heap.size = w.heap.size + 2 := by rw [hW2]; simp; omega
  have hp2 := PlBox.new W1 1 6 2 (some ⟨w.heap.size, 0, none⟩) 2 2 26
  rw [← hW2, hs1] at hp2
  have HK2 := Lib.hid (hk1.below hb2)
  have HB2 := Lib.hid (hb1.trans (hb2.mono (by omega)))
  have HP2 := Lib.hid hp2
  have HPR := Lib.hid ((planRef_all18 (.cons 1 6 2 wk0 .nil)).1 (by decide) W2 _ 2 HK2.out)
  have HS2 := Lib.hid hs2
  obtain ⟨p0, p1, p2, p3⟩ := hp2
  have hwl : wk0.len = 2 := rfl
  clear hk1 hb1 hb2 hs2
  go_enter Try.func15, Try.ntmps15
  go_upto_region 2 with (fail)
  rw [← hW1, ← hW2]
  clear hW1 hW2 bs2 hs1
  go_wp2_with fail
  refine HPR.out.mono ?_
  rintro z w3 ⟨B3, c3, rfl, hky, hb3⟩
  have HF := Lib.hid (fieldOf_any 1 6 2 wk0 (by decide) w3 B3 c3 hky.kids)
  rw [wk_field] at HF
  have HP3 := Lib.hid (HP2.out.below hb3)
  have HK3 := Lib.hid (HK2.out.below hb3)
  have HB3 : Hid (Below w.heap.size w w3 ∧ w.heap.size + 2 ≤ w3.heap.size) := Lib.hid ⟨HB2.out.trans (hb3.mono (by rw [HS2.out]; omega)), by have := hb3.size; rw [HS2.out] at this; exact this⟩
  clear hky hb3 p0 p1 p2 p3 HPR HP2 HK2 HB2 HS2
  go_wp2_with fail
  refine HF.out.mono ?_
  rintro z w4 ⟨rfl, hb4⟩
  have HP4 := Lib.hid (HP3.out.below hb4)
  have HK4 := Lib.hid (HK3.out.below hb4)
  have HB4 : Hid (Below w.heap.size w w4 ∧ w.heap.size + 2 ≤ w4.heap.size) := Lib.hid ⟨HB3.out.1.trans (hb4.mono (by have := HB3.out.2; omega)), Nat.le_trans HB3.out.2 hb4.size⟩
  clear hb4 HP3 HK3 HB3 HF
  go_upto_region 3 with (fail)
  obtain ⟨w5, hw5⟩ : ∃ w5, w5 = w4.alloc (.cells #[.int .i64 1009, .int .i64 wkV, .int .i64 6] 33) := ⟨_, rfl⟩
  have hb5 : Below w4.heap.size w4 w5 := by rw [hw5]; exact (Below.refl _ w4).alloc (Nat.le_refl _) _
  have hT5 := Tri.new w4 1009 wkV 6 33
  rw [← hw5] at hT5 ⊢
  obtain ⟨bF, hbF⟩ : ∃ bF, w4.heap.size = bF := ⟨_, rfl⟩
  rw [hbF] at hT5 ⊢
  have HT5 := Lib.hid hT5
  have HP5 := Lib.hid (HP4.out.below hb5)
  have HK5 := Lib.hid (HK4.out.below hb5)
  have HB5 : Hid (Below w.heap.size w w5 ∧ w.heap.size + 2 ≤ w5.heap.size) := Lib.hid ⟨HB4.out.1.trans (hb5.mono (by have := HB4.out.2; omega)), Nat.le_trans HB4.out.2 hb5.size⟩
  obtain ⟨p0, p1, p2, p3⟩ := HP5.out
  obtain ⟨t0, t1, t2⟩ := hT5
  have hx5 := ints_six w5 1 0 0 0 0 0 2 w5.heap.size rfl
  have hb6 : Below w5.heap.size w5 (w5.alloc (.cells #[.int .i64 1, .int .i64 0, .int .i64 0, .int .i64 0, .int .i64 0, .int .i64 0] 2)) := (Below.refl _ w5).alloc (Nat.le_refl _) _
  have HRUN := Lib.hid (Run_f wk_plan 1 (.inl rfl) (by decide) _ _ 2 _ 6 wkX (HK5.out.below hb6) hx5 wk_in)
  have HB6 : Hid (Below w.heap.size w (w5.alloc (.cells #[.int .i64 1, .int .i64 0, .int .i64 0, .int .i64 0, .int .i64 0, .int .i64 0] 2))) := Lib.hid (HB5.out.1.trans (hb6.mono (by have := HB5.out.2; omega)))
  have HT6 := Lib.hid (HT5.out.below hb6)
  have HP6 := Lib.hid (HP5.out.below hb6)
  have HK6 := Lib.hid (HK5.out.below hb6)
  have hs6 : w.heap.size + 2 ≤ (w5.alloc (.cells #[.int .i64 1, .int .i64 0, .int .i64 0, .int .i64 0, .int .i64 0, .int .i64 0] 2)).heap.size := Nat.le_trans HB5.out.2 hb6.size
  obtain ⟨w6, hw6⟩ : ∃ w6, w6 = w5.alloc (.cells #[.int .i64 1, .int .i64 0, .int .i64 0, .int .i64 0, .int .i64 0, .int .i64 0] 2) := ⟨_, rfl⟩
  rw [← hw6] at HRUN HB6 HT6 HP6 HK6 hs6
  clear hw5 hb5 hbF HP4 HK4 HB4 hx5 hb6
  go_wp2_with fail
  rw [← hw6]
  refine HRUN.out.mono ?_
  rintro z w7 ⟨g, rfl, hy, hb7⟩
  have HY := Lib.hid hy
  obtain ⟨p0, p1, p2, p3⟩ := HP6.out.below hb7
  obtain ⟨t0, t1, t2⟩ := HT6.out.below hb7
  have HB7 : Hid (Below w.heap.size w w7) := Lib.hid (HB6.out.trans (hb7.mono (by omega)))
  have HNO := Lib.hid (Run_no (.iface 35 (rgV 1009 wkV 6)) 1 6 2 wk0 (by decide) 1 0 (by decide +kernel) w7 _ 2 none 0 (HK6.out.below hb7))
  rw [show runE 1 6 2 wk0 ((0 : Nat) : Int) 1 = 4 from by decide +kernel] at HNO
  have hs7 : w.heap.size + 2 ≤ w7.heap.size := Nat.le_trans hs6 hb7.size
  clear hw6 hb7 hy HRUN HB6 HT6 HP6 HK6 hs6 HT5 HP5 HK5 HB5
  go_wp2_with fail
  refine HNO.out.mono ?_
  rintro z w8 ⟨rfl, hb8⟩
  have HY8 := Lib.hid (HY.out.keep hb8)
  have HB8 : Hid (Below w.heap.size w w8) := Lib.hid (HB7.out.trans (hb8.mono (by omega)))
  have hs8 : w.heap.size + 2 ≤ w8.heap.size := Nat.le_trans hs7 hb8.size
  clear hb8 HNO HY HB7 p0 p1 p2 p3 t0 t1 t2
  obtain ⟨w9, hw9⟩ : ∃ w9, w9 = w8.alloc (.cells #[.int .i64 1, .int .i64 1, .int .i64 1, .int .i64 1, .int .i64 1, .int .i64 1] 2) := ⟨_, rfl⟩
  have hb9 : Below w8.heap.size w8 w9 := by rw [hw9]; exact (Below.refl _ w8).alloc (Nat.le_refl _) _
  have hx9 := ints_six w8 1 1 1 1 1 1 2 w8.heap.size rfl
  rw [← hw9] at hx9
  have hsm : sameB2 6 6 (fun j => ((rdF 1009 wkV 6 6 1 wkX j : Nat) : Int)) (fun i => [1, 1, 1, 1, 1, 1].getD i 0) = true := decide_eq_true ⟨rfl, wk_out⟩
  have HS := Lib.hid (same18 _ _ 6 6 6 6 _ _ w9 (HY8.out.keep hb9) hx9 (by omega) (by omega))
  rw [hsm] at HS
  have HB9 : Hid (Below w.heap.size w w9) := Lib.hid (HB8.out.trans (hb9.mono (by omega)))
  have hs9 : w.heap.size ≤ w9.heap.size := by have := hb9.size; omega
  clear hb9 hx9 hsm HY8 HB8
  go_wp2_with fail
  rw [← hw9]
  refine HS.out.mono ?_
  rintro z w10 ⟨rfl, hqt⟩
  have HB10 : Hid (Below w.heap.size w w10) := Lib.hid (HB9.out.trans (hqt.below.mono hs9))
  clear hqt hw9
  go_wp2
  go_ret
  exact ⟨rfl, HB10.out⟩
end Go.Proofs.Yteaimnemobnknaa
