/- A region that draws: calls one behind another, and beside them two places of memory that are made at any time ahead of the tail. -/
import Derived.Test.YtmgfaeineklccaaGreatMW1
import Derived.Test.YtmgfaeineklccaaGreatMQ1
import Derived.Test.YtmgfaeineklccaaGreatMQ3
import Derived.Test.YtmgfaeineklccaaGreatZ3
set_option linter.unusedSimpArgs false
set_option linter.unusedVariables false
namespace Go.Proofs.YtmgfaeineklccaaGreat
open Go Go.RowKit

section
variable {P : Program} {md : Region.Mode} {ops : Array Oper} {Q : Exit → Act → World → Prop} {S : World → Prop} {t : Nat}
/-- Which of the two are made. -/
def flL (listed : Array Bool) (f1 f2 : Nat) : Bool → Bool → Array Bool
  | false, false => listed
  | true, false => listed.setIfInBounds f1 true
  | false, true => listed.setIfInBounds f2 true
  | true, true => (listed.setIfInBounds f1 true).setIfInBounds f2 true
def flN : Bool → Bool → Nat
  | false, false => 2
  | true, false => 1
  | false, true => 1
  | true, true => 0
/-- The slots, with what the two hold. -/
abbrev ptA (a : Act) (d1 d2 : Tmp) (x1 x2 : Value) : Act := (a.put (some d1) x1).put (some d2) x2
def wpFl (P : Program) (md : Region.Mode) (ops : Array Oper) (Q : Exit → Act → World → Prop) (S : World → Prop) (t : Nat) (F : Bool → Value → Bool → Value → World → Prop) (f1 f2 : Nat) (d1 d2 : Tmp) (fuel : Nat) (listed : Array Bool) (a : Act) : Prop :=
  ∀ b1 x1 b2 x2 w, S w → F b1 x1 b2 x2 w → wpAnyS P md ops Q S t (fuel + flN b1 b2) (flL listed f1 f2 b1 b2) (ptA a d1 d2 x1 x2) w
/-- What a state with these two may pick. -/
def flIn (md : Region.Mode) (ops : Array Oper) (listed : Array Bool) (f1 f2 : Nat) (b1 b2 : Bool) (is : List Nat) : Bool :=
  (Region.ready md ops (flL listed f1 f2 b1 b2)).all (fun k => is.contains k || ((k == f1 && !b1) || (k == f2 && !b2)))
def flOut (md : Region.Mode) (ops : Array Oper) (listed : Array Bool) (f1 f2 : Nat) (b1 b2 : Bool) : Bool := !(Region.ready md ops (flL listed f1 f2 b1 b2)).isEmpty
def flOk (md : Region.Mode) (ops : Array Oper) (listed : Array Bool) (f1 f2 i : Nat) : Bool :=
  (flIn md ops listed f1 f2 false false [i] && (flIn md ops listed f1 f2 true false [i] && (flIn md ops listed f1 f2 false true [i] && flIn md ops listed f1 f2 true true [i]))) &&
  (flOut md ops listed f1 f2 false false && (flOut md ops listed f1 f2 true false && (flOut md ops listed f1 f2 false true && flOut md ops listed f1 f2 true true)))
theorem flOk_spec {listed : Array Bool} {f1 f2 i : Nat} (h : flOk md ops listed f1 f2 i = true) (b1 b2 : Bool) : Region.ready md ops (flL listed f1 f2 b1 b2) ≠ [] ∧ ∀ k ∈ Region.ready md ops (flL listed f1 f2 b1 b2), k = i ∨ (k = f1 ∧ b1 = false) ∨ (k = f2 ∧ b2 = false) := by
  unfold flOk at h
  simp only [Bool.and_eq_true] at h
  obtain ⟨⟨a1, a2, a3, a4⟩, c1, c2, c3, c4⟩ := h
  have ha : flIn md ops listed f1 f2 b1 b2 [i] = true := by cases b1 <;> cases b2 <;> assumption
  have hc : flOut md ops listed f1 f2 b1 b2 = true := by cases b1 <;> cases b2 <;> assumption
  refine ⟨fun e => ?_, fun k hk => ?_⟩
  · unfold flOut at hc
    rw [e] at hc
    cases hc
  · unfold flIn at ha
    have := List.all_eq_true.1 ha k hk
    simp only [Bool.or_eq_true, Bool.and_eq_true, List.contains_cons, List.contains_nil, Bool.or_false, beq_iff_eq, Bool.not_eq_true'] at this
    exact this
theorem flL_set {listed : Array Bool} {f1 f2 i : Nat} (b1 b2 : Bool) (h1 : i ≠ f1) (h2 : i ≠ f2) : (flL listed f1 f2 b1 b2).setIfInBounds i true = flL (listed.setIfInBounds i true) f1 f2 b1 b2 := by
  cases b1 <;> cases b2 <;> unfold flL
  · rfl
  · exact (Array.setIfInBounds_comm _ _ (Ne.symm h2))
  · exact (Array.setIfInBounds_comm _ _ (Ne.symm h1))
  · show ((listed.setIfInBounds f1 true).setIfInBounds f2 true).setIfInBounds i true = ((listed.setIfInBounds i true).setIfInBounds f1 true).setIfInBounds f2 true
    rw [Array.setIfInBounds_comm _ _ (Ne.symm h2), Array.setIfInBounds_comm _ _ (Ne.symm h1)]
theorem flL_1 (listed : Array Bool) (f1 f2 : Nat) (h : f1 ≠ f2) (b2 : Bool) : (flL listed f1 f2 false b2).setIfInBounds f1 true = flL listed f1 f2 true b2 := by
  cases b2 <;> unfold flL
  · rfl
  · exact Array.setIfInBounds_comm _ _ (Ne.symm h)
theorem flL_2 (listed : Array Bool) (f1 f2 : Nat) (b1 : Bool) : (flL listed f1 f2 b1 false).setIfInBounds f2 true = flL listed f1 f2 b1 true := by cases b1 <;> rfl
theorem flN_1 (b2 : Bool) : flN false b2 = flN true b2 + 1 := by cases b2 <;> rfl
theorem flN_2 (b1 : Bool) : flN b1 false = flN b1 true + 1 := by cases b1 <;> rfl
theorem ptA_1 (a : Act) (d1 d2 : Tmp) (h : d1 ≠ d2) (x1 x2 v : Value) : (ptA a d1 d2 x1 x2).put (some d1) v = ptA a d1 d2 v x2 := by
  simp only [ptA, Act.put]
  rw [Array.setIfInBounds_comm _ _ (Ne.symm h), Array.setIfInBounds_setIfInBounds]
theorem ptA_2 (a : Act) (d1 d2 : Tmp) (x1 x2 v : Value) : (ptA a d1 d2 x1 x2).put (some d2) v = ptA a d1 d2 x1 v := by
  simp only [ptA, Act.put]
  rw [Array.setIfInBounds_setIfInBounds]
theorem ptA_o (a : Act) (d1 d2 d : Tmp) (h1 : d ≠ d1) (h2 : d ≠ d2) (x1 x2 v : Value) : (ptA a d1 d2 x1 x2).put (some d) v = ptA (a.put (some d) v) d1 d2 x1 x2 := by
  simp only [ptA, Act.put]
  rw [Array.setIfInBounds_comm _ _ (Ne.symm h2), Array.setIfInBounds_comm _ _ (Ne.symm h1)]

/-- The two floating operations. -/
structure Floats (P : Program) (ops : Array Oper) (S : World → Prop) (F : Bool → Value → Bool → Value → World → Prop) (f1 f2 : Nat) (d1 d2 : Tmp) : Prop where
  ne : f1 ≠ f2
  dn : d1 ≠ d2
  o1 : ∃ o, ops[f1]? = some o ∧ o.guard = none ∧ o.dst = some d1 ∧ ∀ (a : Act) w x1 b2 x2, S w → F false x1 b2 x2 w → ∃ v w', (execOp a.eval o).run P w = .ok (.value v) w' ∧ S w' ∧ F true v b2 x2 w'
  o2 : ∃ o, ops[f2]? = some o ∧ o.guard = none ∧ o.dst = some d2 ∧ ∀ (a : Act) w b1 x1 x2, S w → F b1 x1 false x2 w → ∃ v w', (execOp a.eval o).run P w = .ok (.value v) w' ∧ S w' ∧ F b1 x1 true v w'

variable {F : Bool → Value → Bool → Value → World → Prop} {f1 f2 : Nat} {d1 d2 : Tmp}
theorem fl_go1 (H : Floats P ops S F f1 f2 d1 d2) {n : Nat} {listed : Array Bool} {a : Act} {x1 x2 : Value} {b2 : Bool} {w : World} (hS : S w) (hF : F false x1 b2 x2 w)
    (h : ∀ v w', S w' → F true v b2 x2 w' → wpAnyS P md ops Q S t (n + flN true b2) (flL listed f1 f2 true b2) (ptA a d1 d2 v x2) w') :
    wpOp P ops Q f1 (fun a' w' => (f1 < t → S w') ∧ wpAnyS P md ops Q S t (n + flN true b2) ((flL listed f1 f2 false b2).setIfInBounds f1 true) a' w') (ptA a d1 d2 x1 x2) w := by
  obtain ⟨o, h1, h2, h3, h4⟩ := H.o1
  obtain ⟨v, w', hr, hS', hF'⟩ := h4 (ptA a d1 d2 x1 x2) w x1 b2 x2 hS hF
  unfold wpOp
  rw [h1]
  have hwt : Region.wanted o (yielded ops (ptA a d1 d2 x1 x2).tmps) = true := by unfold Region.wanted; rw [h2]
  simp only [hwt, if_true]
  refine .inl ?_
  unfold Oper.wp
  rw [hr, Oper.upon_value, h3, ptA_1 _ _ _ H.dn, flL_1 _ _ _ H.ne]
  exact ⟨fun _ => hS', h v w' hS' hF'⟩
theorem fl_go2 (H : Floats P ops S F f1 f2 d1 d2) {n : Nat} {listed : Array Bool} {a : Act} {x1 x2 : Value} {b1 : Bool} {w : World} (hS : S w) (hF : F b1 x1 false x2 w)
    (h : ∀ v w', S w' → F b1 x1 true v w' → wpAnyS P md ops Q S t (n + flN b1 true) (flL listed f1 f2 b1 true) (ptA a d1 d2 x1 v) w') :
    wpOp P ops Q f2 (fun a' w' => (f2 < t → S w') ∧ wpAnyS P md ops Q S t (n + flN b1 true) ((flL listed f1 f2 b1 false).setIfInBounds f2 true) a' w') (ptA a d1 d2 x1 x2) w := by
  obtain ⟨o, h1, h2, h3, h4⟩ := H.o2
  obtain ⟨v, w', hr, hS', hF'⟩ := h4 (ptA a d1 d2 x1 x2) w b1 x1 x2 hS hF
  unfold wpOp
  rw [h1]
  have hwt : Region.wanted o (yielded ops (ptA a d1 d2 x1 x2).tmps) = true := by unfold Region.wanted; rw [h2]
  simp only [hwt, if_true]
  refine .inl ?_
  unfold Oper.wp
  rw [hr, Oper.upon_value, h3, ptA_2, flL_2]
  exact ⟨fun _ => hS', h v w' hS' hF'⟩

/-- One call comes up, and beside it those of the two that are not made yet. -/
theorem wpFl_one (i : Nat) (di : Tmp) {oi : Oper} {fuel : Nat} {listed : Array Bool} {a : Act} (H : Floats P ops S F f1 f2 d1 d2) (hk : flOk md ops listed f1 f2 i = true) (hi : ops[i]? = some oi) (hd : oi.dst = some di) (hg : oi.guard = none)
    (hn1 : i ≠ f1) (hn2 : i ≠ f2) (hd1 : di ≠ d1) (hd2 : di ≠ d2)
    (h : ∀ b1 x1 b2 x2 w, S w → F b1 x1 b2 x2 w → ∀ K : Act → World → Prop, Hid (∀ v w', S w' → F b1 x1 b2 x2 w' → wpFl P md ops Q S t F f1 f2 d1 d2 fuel (listed.setIfInBounds i true) (a.put (some di) v) → K ((ptA a d1 d2 x1 x2).put (some di) v) w') → Oper.wp P oi (ptA a d1 d2 x1 x2) w K Q) :
    wpFl P md ops Q S t F f1 f2 d1 d2 (fuel + 1) listed a := by
  have main : ∀ b1 x1 b2 x2 w, S w → F b1 x1 b2 x2 w → ∀ m, m = fuel + flN b1 b2 → wpOp P ops Q i (fun a' w' => (i < t → S w') ∧ wpAnyS P md ops Q S t m ((flL listed f1 f2 b1 b2).setIfInBounds i true) a' w') (ptA a d1 d2 x1 x2) w := by
    intro b1 x1 b2 x2 w hS hF m hm
    unfold wpOp
    rw [hi]
    have hwt : Region.wanted oi (yielded ops (ptA a d1 d2 x1 x2).tmps) = true := by unfold Region.wanted; rw [hg]
    simp only [hwt, if_true]
    refine .inl (h b1 x1 b2 x2 w hS hF _ (Lib.hid fun v w' hS' hF' hc => ⟨fun _ => hS', ?_⟩))
    rw [flL_set _ _ hn1 hn2, ptA_o _ _ _ _ hd1 hd2, hm]
    exact hc b1 x1 b2 x2 w' hS' hF'
  -- both made
  have h11 : ∀ x1 x2 w, S w → F true x1 true x2 w → wpAnyS P md ops Q S t (fuel + 1 + flN true true) (flL listed f1 f2 true true) (ptA a d1 d2 x1 x2) w := by
    intro x1 x2 w hS hF
    obtain ⟨hne, hin⟩ := flOk_spec hk true true
    refine ⟨fun e => absurd e hne, fun k hk' => ?_⟩
    rcases hin k hk' with rfl | ⟨-, h⟩ | ⟨-, h⟩
    · exact main true x1 true x2 w hS hF fuel rfl
    · cases h
    · cases h
  have h10 : ∀ x1 x2 w, S w → F true x1 false x2 w → wpAnyS P md ops Q S t (fuel + 1 + flN true false) (flL listed f1 f2 true false) (ptA a d1 d2 x1 x2) w := by
    intro x1 x2 w hS hF
    obtain ⟨hne, hin⟩ := flOk_spec hk true false
    refine ⟨fun e => absurd e hne, fun k hk' => ?_⟩
    rcases hin k hk' with rfl | ⟨-, h⟩ | ⟨rfl, -⟩
    · exact main true x1 false x2 w hS hF (fuel + 1) rfl
    · cases h
    · exact fl_go2 (n := fuel + 1) H hS hF fun v w' hS' hF' => h11 x1 v w' hS' hF'
  have h01 : ∀ x1 x2 w, S w → F false x1 true x2 w → wpAnyS P md ops Q S t (fuel + 1 + flN false true) (flL listed f1 f2 false true) (ptA a d1 d2 x1 x2) w := by
    intro x1 x2 w hS hF
    obtain ⟨hne, hin⟩ := flOk_spec hk false true
    refine ⟨fun e => absurd e hne, fun k hk' => ?_⟩
    rcases hin k hk' with rfl | ⟨rfl, -⟩ | ⟨-, h⟩
    · exact main false x1 true x2 w hS hF (fuel + 1) rfl
    · exact fl_go1 (n := fuel + 1) H hS hF fun v w' hS' hF' => h11 v x2 w' hS' hF'
    · cases h
  intro b1 x1 b2 x2 w hS hF
  rcases b1 with _ | _ <;> rcases b2 with _ | _
  · obtain ⟨hne, hin⟩ := flOk_spec hk false false
    refine ⟨fun e => absurd e hne, fun k hk' => ?_⟩
    rcases hin k hk' with rfl | ⟨rfl, -⟩ | ⟨rfl, -⟩
    · exact main false x1 false x2 w hS hF (fuel + 2) rfl
    · exact fl_go1 (n := fuel + 1) H hS hF fun v w' hS' hF' => h10 v x2 w' hS' hF'
    · exact fl_go2 (n := fuel + 1) H hS hF fun v w' hS' hF' => h01 x1 v w' hS' hF'
  · exact h01 x1 x2 w hS hF
  · exact h10 x1 x2 w hS hF
  · exact h11 x1 x2 w hS hF

/-- All calls are done: what is left of the two, then the tail. -/
def flEnd (md : Region.Mode) (ops : Array Oper) (listed : Array Bool) (f1 f2 n k : Nat) : Bool :=
  (flIn md ops listed f1 f2 false false [] && (flIn md ops listed f1 f2 true false [] && flIn md ops listed f1 f2 false true [])) &&
  ((flOut md ops listed f1 f2 false false && (flOut md ops listed f1 f2 true false && flOut md ops listed f1 f2 false true)) && tailOk md ops n k (flL listed f1 f2 true true))
theorem wpFl_end (n k : Nat) {listed : Array Bool} {a : Act} (H : Floats P ops S F f1 f2 d1 d2) (hk : flEnd md ops listed f1 f2 n k = true) (ht : t ≤ k) (hn : ops.size = k + n)
    (h : ∀ x1 x2 w, S w → F true x1 true x2 w → wpList P ops Q (ops.toList.drop k) (ptA a d1 d2 x1 x2) w) : wpFl P md ops Q S t F f1 f2 d1 d2 n listed a := by
  unfold flEnd at hk
  simp only [Bool.and_eq_true] at hk
  obtain ⟨⟨a1, a2, a3⟩, ⟨c1, c2, c3⟩, ht'⟩ := hk
  have spec : ∀ b1 b2, flIn md ops listed f1 f2 b1 b2 [] = true → flOut md ops listed f1 f2 b1 b2 = true → Region.ready md ops (flL listed f1 f2 b1 b2) ≠ [] ∧ ∀ k ∈ Region.ready md ops (flL listed f1 f2 b1 b2), (k = f1 ∧ b1 = false) ∨ (k = f2 ∧ b2 = false) := by
    intro b1 b2 ha hc
    refine ⟨fun e => ?_, fun k hk => ?_⟩
    · unfold flOut at hc
      rw [e] at hc
      cases hc
    · unfold flIn at ha
      have := List.all_eq_true.1 ha k hk
      simp only [Bool.or_eq_true, Bool.and_eq_true, List.contains_nil, Bool.false_eq_true, false_or, beq_iff_eq, Bool.not_eq_true'] at this
      exact this
  have h11 : ∀ x1 x2 w, S w → F true x1 true x2 w → wpAnyS P md ops Q S t (n + flN true true) (flL listed f1 f2 true true) (ptA a d1 d2 x1 x2) w := fun x1 x2 w hS hF => wpAnyS_end n k ht' ht hn (h x1 x2 w hS hF)
  have h10 : ∀ x1 x2 w, S w → F true x1 false x2 w → wpAnyS P md ops Q S t (n + flN true false) (flL listed f1 f2 true false) (ptA a d1 d2 x1 x2) w := by
    intro x1 x2 w hS hF
    obtain ⟨hne, hin⟩ := spec true false a2 c2
    refine ⟨fun e => absurd e hne, fun k hk' => ?_⟩
    rcases hin k hk' with ⟨-, h⟩ | ⟨rfl, -⟩
    · cases h
    · exact fl_go2 (n := n) H hS hF fun v w' hS' hF' => h11 x1 v w' hS' hF'
  have h01 : ∀ x1 x2 w, S w → F false x1 true x2 w → wpAnyS P md ops Q S t (n + flN false true) (flL listed f1 f2 false true) (ptA a d1 d2 x1 x2) w := by
    intro x1 x2 w hS hF
    obtain ⟨hne, hin⟩ := spec false true a3 c3
    refine ⟨fun e => absurd e hne, fun k hk' => ?_⟩
    rcases hin k hk' with ⟨rfl, -⟩ | ⟨-, h⟩
    · exact fl_go1 (n := n) H hS hF fun v w' hS' hF' => h11 v x2 w' hS' hF'
    · cases h
  intro b1 x1 b2 x2 w hS hF
  rcases b1 with _ | _ <;> rcases b2 with _ | _
  · obtain ⟨hne, hin⟩ := spec false false a1 c1
    refine ⟨fun e => absurd e hne, fun k hk' => ?_⟩
    rcases hin k hk' with ⟨rfl, -⟩ | ⟨rfl, -⟩
    · exact fl_go1 (n := n) H hS hF fun v w' hS' hF' => h10 v x2 w' hS' hF'
    · exact fl_go2 (n := n) H hS hF fun v w' hS' hF' => h01 x1 v w' hS' hF'
  · exact h01 x1 x2 w hS hF
  · exact h10 x1 x2 w hS hF
  · exact h11 x1 x2 w hS hF
/-- At the start none of the two is made. -/
theorem wpFl_start (f1 f2 : Nat) (d1 d2 : Tmp) (F : Bool → Value → Bool → Value → World → Prop) (x1 x2 : Value) {fuel : Nat} {listed : Array Bool} {a : Act} {w : World} (ha : ptA a d1 d2 x1 x2 = a) (hS : S w) (hF : F false x1 false x2 w)
    (h : wpFl P md ops Q S t F f1 f2 d1 d2 fuel listed a) : wpAnyS P md ops Q S t (fuel + 2) listed a w := by
  have := h false x1 false x2 w hS hF
  rw [ha] at this
  exact this
theorem ptA_self (a : Act) (d1 d2 : Tmp) (h1 : d1 < a.tmps.size) (h2 : d2 < a.tmps.size) : ptA a d1 d2 a.tmps[d1] a.tmps[d2] = a := by
  have key : ∀ (l : Array Value) (d : Nat) (h : d < l.size), l.setIfInBounds d l[d] = l := fun l d h => by
    apply Array.ext
    · simp
    · intro i hi hi2
      rw [Array.getElem_setIfInBounds]
      split
      · rename_i e; subst e; rfl
      · rfl
  rcases a with ⟨l, ds⟩
  simp only [ptA, Act.put]
  dsimp only at h1 h2 ⊢
  rw [key l d1 h1, key l d2 h2]
theorem wpFl_begin (f1 f2 : Nat) (d1 d2 : Tmp) (F : Bool → Value → Bool → Value → World → Prop) {fuel : Nat} {listed : Array Bool} {a : Act} {w : World} (h1 : d1 < a.tmps.size) (h2 : d2 < a.tmps.size) (hS : S w) (hF : ∀ x1 x2, F false x1 false x2 w)
    (h : wpFl P md ops Q S t F f1 f2 d1 d2 fuel listed a) : wpAnyS P md ops Q S t (fuel + 2) listed a w := wpFl_start f1 f2 d1 d2 F _ _ (ptA_self a d1 d2 h1 h2) hS (hF _ _) h
end
end Go.Proofs.YtmgfaeineklccaaGreat
/- The pieces of transforms over any ring: the elements of a rectangle, each times its root. -/
set_option linter.unusedSimpArgs false
set_option linter.unusedVariables false
namespace Go.Proofs.YtmgfaeineklccaaGreat
open Go.RowKit Go.Lib
section
variable {M : Mem} {ρ : RingC}

end
end Go.Proofs.YtmgfaeineklccaaGreat
/- Runners, plans in memory, what runners' small methods do; strided places beside a ring. -/
set_option linter.unusedSimpArgs false
set_option linter.unusedVariables false
namespace Go.Proofs.YtmgfaeineklccaaGreat
open Go.RowKit Go.Lib
section
variable {M : Mem} {ρ : RingC}

/-- A box that holds a runner. -/
def RnBox (w : World) (b : Nat) (ρ : RingC) (s : Int) : Prop := w.cell? ⟨b, 0, none⟩ = some (.iface ρ.t ρ.v) ∧ w.cell? ⟨b, 1, none⟩ = some (.int .i64 s)
theorem RnBox.new (w : World) (ρ : RingC) (s : Int) (t : TypeId) : RnBox (w.alloc (.cells #[.iface ρ.t ρ.v, .int .i64 s] t)) w.heap.size ρ s := ⟨by simp [go_sem], by simp [go_sem]⟩
theorem RnBox.keep (H : M.Ok) {w w' : World} {b : Nat} {ρ : RingC} {s : Int} (h : RnBox w b ρ s) (k : M.On w w') (hs : M.St w) : RnBox w' b ρ s := ⟨H.cell hs k.fr h.1, H.cell hs k.fr h.2⟩
set_option maxRecDepth 100000 in
theorem withC_r (H : ρ.Ok M) (s : Int) (hs : s = 1 ∨ s = -1) (k : Int) (n : Nat) (w : World) (h1 : -65536 ≤ k) (h2 : k ≤ 65536) (n1 : 1 ≤ n) (n2 : n ≤ 65536) (hw : M.St w) :
    Calls Tryz.prog 173 #[rnC ρ s, .int .i64 k, .int .i64 n] w fun z w' => (∃ q, z = .returned (cV q) ∧ nC q = ρ.R.root (s * k) n) ∧ M.On w w' := by
  obtain ⟨hk, hk1, hk2⟩ := wrap_sign s hs k h1 h2
  have HK := Lib.hid (show -4294967296 ≤ s * k ∧ s * k ≤ 4294967296 from ⟨hk1, hk2⟩)
  have HH := Lib.hid H
  have HW := Lib.hid hw
  have e1 := H.nr
  have e2 := H.mr
  have e3 := H.cr
  clear hk1 hk2 H hw hs
  go_enter Tryz.func173, Tryz.ntmps173
  go_wp2_with fail
  have hA := (HH.out.mem.on_refl HW.out).below HH.out.mem ((Below.refl _ w).alloc (Nat.le_refl _) (.cells #[.iface ρ.t ρ.v, .int .i64 s] 193))
  obtain ⟨h4, ho4⟩ := BoxC.zero HH.out.mem hA 52
  have hsz : (w.alloc (.cells #[.iface ρ.t ρ.v, .int .i64 s] 193)).heap.size = w.heap.size + 1 := by simp
  rw [hsz] at h4
  obtain ⟨W, hWW⟩ : ∃ W, W = (w.alloc (.cells #[.iface ρ.t ρ.v, .int .i64 s] 193)).alloc (.cells #[.float .f64 0, .float .f64 0] 52) := ⟨_, rfl⟩
  obtain ⟨b4, hb4⟩ : ∃ b4, b4 = w.heap.size + 1 := ⟨_, rfl⟩
  rw [← hWW] at h4 ho4 ⊢
  rw [← hb4] at h4 ⊢
  have HX4 := Lib.hid h4
  have HO4 := Lib.hid ho4
  have HB4 : Hid (w.heap.size ≤ b4) := Lib.hid (by omega)
  clear hWW hb4 h4 ho4 hA hsz
  refine (HH.out.root _ _ _ HK.out.1 HK.out.2 n1 n2 HO4.out.st).mono ?_
  rintro z w1 ⟨⟨q, rfl, hq⟩, hb2⟩
  have HQ := Lib.hid hq
  have HX1 := HX4.out.keep HH.out.mem hb2 HO4.out.st
  have HE := Lib.hid (HX1.set HH.out.mem (HO4.out.trans HH.out.mem hb2) HB4.out q)
  obtain ⟨q0, q1, -, -, -, -⟩ := HE.out.1
  obtain ⟨d0, d1, d2, d3, -, -⟩ := HX1
  unfold setB at q0 q1
  clear hb2 hq
  go_wp2
  exact bodyPost_ret (v := cV q) (by simp [results, Tryz.results173, go_sem, q0, q1]) rfl ⟨⟨q, rfl, HQ.out⟩, HE.out.2⟩

theorem gatherC_r (H : ρ.Ok M) (A : Option Addr) (n c off st cnt : Nat) (f : Nat → Cx) (w : World) (hA : CsAt w A n f) (hn : n ≤ 4398046511104) (hst : 1 ≤ st) (hs2 : st ≤ 4398046511104) (hc : cnt ≤ 4398046511104) (ho : off ≤ 4398046511104) (h : Fits n off st cnt) (hw : M.St w) :
    Calls Tryz.prog 171 #[.slice A n c, .int .i64 off, .int .i64 st, .int .i64 cnt] w fun z w' => z = .returned (.slice (some ⟨w.heap.size, 0, none⟩) cnt cnt) ∧ OwnC M w' w.heap.size cnt (gathT f off st) ∧ M.On w w' :=
  (gatherC_any A n c off st cnt f w hA hn hst hs2 hc ho h).mono fun z w' ⟨e, hz, hr, hb⟩ => ⟨e, ⟨hr, hz, H.mem.new hw hb (Nat.le_refl _)⟩, (H.mem.on_refl hw).below H.mem hb⟩
end
end Go.Proofs.YtmgfaeineklccaaGreat
/- Radix, over any ring. -/
set_option linter.unusedSimpArgs false
set_option linter.unusedVariables false
namespace Go.Proofs.YtmgfaeineklccaaGreat
open Go.RowKit Go.Lib
section
variable {M : Mem} {ρ : RingC}

end
end Go.Proofs.YtmgfaeineklccaaGreat
/- Lists of complex floats as values. -/
set_option linter.unusedSimpArgs false
set_option linter.unusedVariables false
namespace Go.Proofs.YtmgfaeineklccaaGreat
open Go.RowKit Go.Lib

def cxV : List Rx → List Value
  | [] => []
  | u :: L => .float .f64 (u.1 : Nat) :: .float .f64 (u.2 : Nat) :: cxV L
theorem cxV_app : ∀ (L : List Rx) (u : Rx), cxV L ++ [Value.float .f64 (u.1 : Nat), Value.float .f64 (u.2 : Nat)] = cxV (L ++ [u])
  | [], u => rfl
  | v :: L, u => by
    show _ :: _ :: (cxV L ++ _) = _
    rw [cxV_app L u]
    rfl
theorem cxV_get : ∀ (L : List Rx) (i : Nat) (h : i < L.length), (cxV L)[i * 2]? = some (.float .f64 (L[i].1 : Nat)) ∧ (cxV L)[i * 2 + 1]? = some (.float .f64 (L[i].2 : Nat))
  | [], i, h => absurd h (by simp)
  | v :: L, 0, h => ⟨rfl, rfl⟩
  | v :: L, i + 1, h => by
    rw [show (i + 1) * 2 = i * 2 + 1 + 1 by omega]
    exact cxV_get L i (by simpa using h)
/-- A list of complex floats of the call's own (from block base on), that may grow. -/
def OwnX (w : World) (base : Nat) (v : Value) (L : List Rx) : Prop := w.ownsRow base 52 2 v L.length (cxV L)
theorem OwnX.nil (w : World) (base : Nat) : OwnX w base (.slice none 0 0) [] := World.ownsRow_nil _ _ _ _
theorem OwnX.cs {w : World} {base : Nat} {v : Value} {L : List Rx} (h : OwnX w base v L) : ∃ A c, v = .slice A L.length c ∧ CsAt w A L.length (fun i => nC (L.getD i (0, 0))) ∧ L.length ≤ c ∧ c ≤ maxLen ∧ (∀ b o, A = some ⟨b, o, none⟩ → base ≤ b) := by
  obtain ⟨A, c, rfl, hc, h1, h2, h3⟩ := owns_cells h
  refine ⟨A, c, rfl, fun i hi => ?_, h1, h2, h3⟩
  obtain ⟨g1, g2⟩ := cxV_get L i hi
  obtain ⟨b, o, e, hx⟩ := hc _ _ g1
  obtain ⟨b', o', e', hy⟩ := hc _ _ g2
  rw [e] at e'
  simp only [Option.some.injEq, Addr.mk.injEq, and_true] at e'
  obtain ⟨rfl, rfl⟩ := e'
  exact ⟨b, o, L[i], e, hx, hy, by show _ = nC (L.getD i (0, 0)); rw [List.getD_eq_getElem?_getD, List.getElem?_eq_getElem hi]; rfl⟩
theorem cxV_len : ∀ L : List Rx, (cxV L).length = L.length * 2
  | [] => rfl
  | u :: L => by
    show (cxV L).length + 1 + 1 = (L.length + 1) * 2
    rw [cxV_len L]
    omega
theorem cxV_one : ∀ (L : List Rx) (u : Value), u ∈ cxV L → u.oneCell' = true
  | [], u, h => by cases h
  | v :: L, u, h => by
    rcases List.mem_cons.1 h with rfl | h
    · rfl
    · rcases List.mem_cons.1 h with rfl | h
      · rfl
      · exact cxV_one L u h
theorem cxV_snoc (L : List Rx) (u : Rx) : cxV (L ++ [u]) = cxV L ++ [Value.float .f64 (u.1 : Nat), Value.float .f64 (u.2 : Nat)] := (cxV_app L u).symm
/-- A row as a list of words. -/
theorem RowC.list {w : World} {b : Nat} {f : Nat → Cx} : ∀ n : Nat, RowC w b n f → ∃ L : List Rx, L.length = n ∧ (∀ j u, (cxV L)[j]? = some u → w.cell? ⟨b, j, none⟩ = some u) ∧ ∀ i, i < n → nC (L.getD i (0, 0)) = f i
  | 0, _ => ⟨[], rfl, fun j u h => by simp [cxV] at h, fun i hi => by omega⟩
  | n + 1, h => by
    obtain ⟨L, hl, hc, hf⟩ := RowC.list n (fun i hi => h i (by omega))
    obtain ⟨u, h1, h2, -, -, h5⟩ := h n (by omega)
    have hlen : (cxV L).length = n * 2 := by rw [cxV_len, hl]
    refine ⟨L ++ [u], by rw [List.length_append, hl]; rfl, fun j v hj => ?_, fun i hi => ?_⟩
    · rw [cxV_snoc] at hj
      by_cases hlt : j < n * 2
      · rw [List.getElem?_append_left (by omega)] at hj
        exact hc j v hj
      · rw [List.getElem?_append_right (by omega), hlen] at hj
        obtain ⟨k, hk⟩ : ∃ k, j = n * 2 + k := ⟨j - n * 2, by omega⟩
        subst hk
        rw [Nat.add_sub_cancel_left] at hj
        rcases k with _ | _ | k
        · obtain rfl : Value.float .f64 (u.1 : Nat) = v := by simpa using hj
          exact h1
        · obtain rfl : Value.float .f64 (u.2 : Nat) = v := by simpa using hj
          exact h2
        · simp at hj
    · rw [List.getD_eq_getElem?_getD]
      by_cases hlt : i < n
      · rw [List.getElem?_append_left (by omega)]
        have := hf i hlt
        rwa [List.getD_eq_getElem?_getD] at this
      · obtain rfl : i = n := by omega
        rw [List.getElem?_append_right (by omega), hl, Nat.sub_self]
        exact h5
end Go.Proofs.YtmgfaeineklccaaGreat
/- Two boxes of complex floats that are made at any time beside calls. -/
set_option linter.unusedSimpArgs false
set_option linter.unusedVariables false
namespace Go.Proofs.YtmgfaeineklccaaGreat
open Go.RowKit Go.Lib

theorem zero_C (w : World) : (zeroValue 52).run Tryz.prog w = .ok (.agg #[.float .f64 0, .float .f64 0]) w := by kernel_rfl
theorem exec_allocC (eval : Operand → Value) (o : Oper) (w : World) (ho : o.op = .alloc 52) :
    (execOp eval o).run Tryz.prog w = .ok (.value (.pointer (some ⟨w.heap.size, 0, none⟩))) (w.alloc (.cells #[.float .f64 0, .float .f64 0] 52)) := by
  unfold execOp
  simp only [ho]
  have := zero_C w
  go_simp
section
variable {M : Mem}
/-- Which of the two boxes are made. -/
def FlC (M : Mem) (B : Nat) (b1 : Bool) (x1 : Value) (b2 : Bool) (x2 : Value) (w : World) : Prop :=
  (b1 = true → ∃ g, x1 = .pointer (some ⟨g, 0, none⟩) ∧ B ≤ g ∧ BoxC M w g (0, 0)) ∧ (b2 = true → ∃ g, x2 = .pointer (some ⟨g, 0, none⟩) ∧ B ≤ g ∧ BoxC M w g (0, 0)) ∧ (b1 = true → b2 = true → x1 ≠ x2)
theorem FlC.start (B : Nat) (x1 x2 : Value) (w : World) : FlC M B false x1 false x2 w := ⟨fun h => (by cases h), fun h => (by cases h), fun h => (by cases h)⟩
theorem FlC.keep (H : M.Ok) {B : Nat} {b1 b2 : Bool} {x1 x2 : Value} {w w' : World} (h : FlC M B b1 x1 b2 x2 w) (k : M.On w w') (hs : M.St w) : FlC M B b1 x1 b2 x2 w' :=
  ⟨fun e => (by obtain ⟨g, e1, e2, e3⟩ := h.1 e; exact ⟨g, e1, e2, e3.keep H k hs⟩), fun e => (by obtain ⟨g, e1, e2, e3⟩ := h.2.1 e; exact ⟨g, e1, e2, e3.keep H k hs⟩), h.2.2⟩
theorem FlC.swap {B : Nat} {b1 b2 : Bool} {x1 x2 : Value} {w : World} (h : FlC M B b1 x1 b2 x2 w) : FlC M B b2 x2 b1 x1 w := ⟨h.2.1, h.1, fun e1 e2 e => h.2.2 e2 e1 e.symm⟩
theorem FlC.one (H : M.Ok) {D : World} {b2 : Bool} {x1 x2 : Value} {w : World} (k : M.On D w) (h : FlC M D.heap.size false x1 b2 x2 w) (t : TypeId) :
    FlC M D.heap.size true (.pointer (some ⟨w.heap.size, 0, none⟩)) b2 x2 (w.alloc (.cells #[.float .f64 0, .float .f64 0] t)) := by
  obtain ⟨h1, h2⟩ := BoxC.zero H (H.on_refl k.st) t
  refine ⟨fun _ => ⟨_, rfl, H.size k.fr, h1⟩, fun e => ?_, fun _ e e' => ?_⟩
  · obtain ⟨g, e1, e2, e3⟩ := h.2.1 e
    exact ⟨g, e1, e2, e3.keep H h2 k.st⟩
  · obtain ⟨g, e1, e2, e3⟩ := h.2.1 e
    rw [e1] at e'
    have := e3.lt
    simp at e'
    done
theorem FlC.done {B : Nat} {x1 x2 : Value} {w : World} (h : FlC M B true x1 true x2 w) : ∃ g1 g2, x1 = .pointer (some ⟨g1, 0, none⟩) ∧ x2 = .pointer (some ⟨g2, 0, none⟩) ∧ g1 ≠ g2 ∧ B ≤ g1 ∧ B ≤ g2 ∧ BoxC M w g1 (0, 0) ∧ BoxC M w g2 (0, 0) := by
  obtain ⟨g1, e1, l1, o1⟩ := h.1 rfl
  obtain ⟨g2, e2, l2, o2⟩ := h.2.1 rfl
  refine ⟨g1, g2, e1, e2, fun e => ?_, l1, l2, o1, o2⟩
  subst e
  exact h.2.2 rfl rfl (e1.trans e2.symm)
theorem floatsC (H : M.Ok) {ops : Array Oper} {S : World → Prop} {D : World} {f1 f2 : Nat} {d1 d2 : Tmp} (h1 : ∀ w, S w → M.On D w) (h2 : ∀ w, M.On D w → S w) (ne : f1 ≠ f2) (dn : d1 ≠ d2)
    (o1 : ∃ o, ops[f1]? = some o ∧ o.guard = none ∧ o.dst = some d1 ∧ o.op = .alloc 52) (o2 : ∃ o, ops[f2]? = some o ∧ o.guard = none ∧ o.dst = some d2 ∧ o.op = .alloc 52) :
    Floats Tryz.prog ops S (FlC M D.heap.size) f1 f2 d1 d2 := by
  obtain ⟨p1, a1, a2, a3, a4⟩ := o1
  obtain ⟨p2, c1, c2, c3, c4⟩ := o2
  refine ⟨ne, dn, ⟨p1, a1, a2, a3, fun a w x1 b2 x2 hS hF => ⟨_, _, exec_allocC a.eval p1 w a4, ?_, (FlC.one H (h1 w hS) hF _)⟩⟩, ⟨p2, c1, c2, c3, fun a w b1 x1 x2 hS hF => ⟨_, _, exec_allocC a.eval p2 w c4, ?_, (FlC.one H (h1 w hS) hF.swap _).swap⟩⟩⟩
  · exact h2 _ ((h1 w hS).below H ((Below.refl _ w).alloc (Nat.le_refl _) _))
  · exact h2 _ ((h1 w hS).below H ((Below.refl _ w).alloc (Nat.le_refl _) _))
/-- Two fresh boxes are written. -/
theorem box2 (H : M.Ok) {D wa : World} {gu gv : Nat} (on : M.On D wa) (hs : M.St D) (lu : D.heap.size ≤ gu) (lv : D.heap.size ≤ gv) (ne : gu ≠ gv) (bu : BoxC M wa gu (0, 0)) (bv : BoxC M wa gv (0, 0)) (ru rv : Rx) :
    BoxC M (setB wa gu ru) gv (0, 0) ∧ BoxC M (setB (setB wa gu ru) gv rv) gu ru ∧ BoxC M (setB (setB wa gu ru) gv rv) gv rv ∧ M.On D (setB (setB wa gu ru) gv rv) ∧ (∀ b u, BoxC M D b u → BoxC M (setB (setB wa gu ru) gv rv) b u) ∧
      (∀ b n f, OwnC M D b n f → OwnC M (setB (setB wa gu ru) gv rv) b n f) := by
  have o1 : OnlyB gu wa (setB wa gu ru) := (OnlyB.refl gu wa).setB ru
  have o2 : OnlyB gv (setB wa gu ru) (setB (setB wa gu ru) gv rv) := (OnlyB.refl gv _).setB rv
  have s1 := bu.set H on lu ru
  have s0 := bv.other H on.st bu.pv o1 (Ne.symm ne)
  have s2 := s0.set H s1.2 lv rv
  refine ⟨s0, s1.1.other H s1.2.st s0.pv o2 ne, s2.1, s2.2, fun b u hb => ?_, fun b n f hb => ?_⟩
  · have h1 := hb.lt
    exact (((hb.keep H on hs).other H on.st bu.pv o1 (by omega)).other H s1.2.st s0.pv o2 (by omega))
  · have h1 := hb.lt
    exact (((hb.keep H on hs).other H on.st bu.pv o1 (by omega)).other H s1.2.st s0.pv o2 (by omega))
/-- A place of a row is written: other boxes are as they were. -/
theorem own_put (H : M.Ok) {D w : World} {b n : Nat} {f : Nat → Cx} (h : OwnC M w b n f) (k : M.On D w) (hD : D.heap.size ≤ b) {j : Nat} (hj : j < n) (v : Rx) :
    OwnC M (putC w b j v) b n (updT f j (nC v)) ∧ M.On D (putC w b j v) ∧ (∀ c u, c ≠ b → BoxC M w c u → BoxC M (putC w b j v) c u) := by
  have s := h.set H k hD hj v
  exact ⟨s.1, s.2, fun c u hne hb => hb.other H k.st h.pv (only_putC _ _ _ _) hne⟩
end
end Go.Proofs.YtmgfaeineklccaaGreat
