/- Several lists that grow by one element each, in whatever order; where they lie afterwards. -/
import Derived.Test.YtmgfaeineklccaaGreatMZ5
set_option linter.unusedSimpArgs false
set_option linter.unusedVariables false
namespace Go.Proofs.YtmgfaeineklccaaGreat
open Go.RowKit Go.Lib

structure GrowB (base b0 : Nat) (Ts : Nat → Thr) (m : Nat) (f : Nat → Bool) (x : Nat → Value) (w : World) : Prop where
  sz : base ≤ w.heap.size
  sb : b0 ≤ w.heap.size
  fr : ∀ t, t < m → f (2 * t + 1) = true → ∀ g, (x (2 * t + 1)).ownBlock = some g → (Ts t).v.ownBlock = some g ∨ b0 ≤ g
  row0 : ∀ t, t < m → f (2 * t + 1) = false → w.ownsRow base (Ts t).e (Ts t).sz (Ts t).v (Ts t).k (Ts t).xs
  new : ∀ t, t < m → f (2 * t) = true → f (2 * t + 1) = false → ∃ g, x (2 * t) = .slice (some ⟨g, 0, none⟩) 1 1 ∧ g < w.heap.size ∧ ∀ (j : Nat) u, (Ts t).news[j]? = some u → w.cell? ⟨g, j, none⟩ = some u
  row1 : ∀ t, t < m → f (2 * t + 1) = true → ∃ g cap, x (2 * t + 1) = .slice (some ⟨g, 0, none⟩) ((Ts t).k + 1) cap ∧ w.ownsRow base (Ts t).e (Ts t).sz (x (2 * t + 1)) ((Ts t).k + 1) ((Ts t).xs ++ (Ts t).news)
  ap : ∀ s t, s < m → t < m → s ≠ t → ∀ g, cur (Ts s) (f (2 * s + 1)) (x (2 * s + 1)) = some g → cur (Ts t) (f (2 * t + 1)) (x (2 * t + 1)) ≠ some g
  apn : ∀ s t, s < m → t < m → ∀ g, cur (Ts s) (f (2 * s + 1)) (x (2 * s + 1)) = some g → f (2 * t) = true → f (2 * t + 1) = false → x (2 * t) ≠ .slice (some ⟨g, 0, none⟩) 1 1
theorem GrowB.curlt {base b0 : Nat} {Ts : Nat → Thr} {m : Nat} {f : Nat → Bool} {x : Nat → Value} {w : World} (h : GrowB base b0 Ts m f x w) {t : Nat} (ht : t < m) {g : Nat} (e : cur (Ts t) (f (2 * t + 1)) (x (2 * t + 1)) = some g) : base ≤ g ∧ g < w.heap.size := by
  unfold cur at e
  by_cases hf : f (2 * t + 1) = true
  · rw [if_pos hf] at e
    obtain ⟨g', cap, -, hr⟩ := h.row1 t ht hf
    exact World.ownsRow.lt hr g e
  · rw [if_neg hf] at e
    exact World.ownsRow.lt (h.row0 t ht (by simpa using hf)) g e
/-- A place for the new element. -/
theorem GrowB.build {base b0 : Nat} {Ts : Nat → Thr} {m : Nat} {f : Nat → Bool} {x : Nat → Value} {w : World} (h : GrowB base b0 Ts m f x w) {t : Nat} (ht : t < m) :
    GrowB base b0 Ts m (updB f (2 * t)) (updV x (2 * t) (.slice (some ⟨w.heap.size, 0, none⟩) 1 1)) (w.alloc (.cells (Ts t).news.toArray (Ts t).e)) := by
  have hb : Below w.heap.size w (w.alloc (.cells (Ts t).news.toArray (Ts t).e)) := (Below.refl _ w).alloc (Nat.le_refl _) _
  have o1 : ∀ s, updB f (2 * t) (2 * s + 1) = f (2 * s + 1) := fun s => updB_ne (by omega)
  have o2 : ∀ s (v : Value), updV x (2 * t) v (2 * s + 1) = x (2 * s + 1) := fun s v => updV_ne (by omega)
  refine ⟨Nat.le_trans h.sz hb.size, Nat.le_trans h.sb hb.size, fun s hs hf g e => (by rw [o1] at hf; rw [o2] at e; exact h.fr s hs hf g e), fun s hs hf => ?_, fun s hs hf1 hf2 => ?_, fun s hs hf => ?_, fun s u hs hu hne g e => ?_, fun s u hs hu g e hf1 hf2 => ?_⟩
  · rw [o1] at hf
    exact owns_below (h.row0 s hs hf) hb
  · rw [o1] at hf2
    by_cases e : s = t
    · subst e
      refine ⟨_, updV_eq _ _ _, by simp, fun j u hj => ?_⟩
      rw [World.cell?_alloc_new]
      simpa using hj
    · rw [updB_ne (by omega)] at hf1
      obtain ⟨g, e1, e2, e3⟩ := h.new s hs hf1 hf2
      exact ⟨g, by rw [updV_ne (by omega)]; exact e1, Nat.lt_of_lt_of_le e2 hb.size, fun j u hj => keep_cell hb (e3 j u hj)⟩
  · rw [o1] at hf
    obtain ⟨g, cap, e1, e2⟩ := h.row1 s hs hf
    exact ⟨g, cap, by rw [o2]; exact e1, by rw [o2]; exact owns_below e2 hb⟩
  · rw [o1, o2] at e ⊢
    exact h.ap s u hs hu hne g e
  · rw [o1] at hf2
    rw [o1, o2] at e
    by_cases e2 : u = t
    · subst e2
      rw [updV_eq]
      intro e3
      injection e3 with e4
      have := (h.curlt hs e).2
      simp at e4
      all_goals omega
    · rw [updB_ne (by omega)] at hf1
      rw [updV_ne (by omega)]
      exact h.apn s u hs hu g e hf1 hf2
/-- The element is put behind the list. -/
theorem GrowB.append {base b0 : Nat} {Ts : Nat → Thr} {m : Nat} {f : Nat → Bool} {x : Nat → Value} {w w' : World} (h : GrowB base b0 Ts m f x w) {t : Nat} (ht : t < m) (hf : f (2 * t + 1) = false) {g cap : Nat}
    (hO : w'.ownsRow base (Ts t).e (Ts t).sz (.slice (some ⟨g, 0, none⟩) ((Ts t).k + 1) cap) ((Ts t).k + 1) ((Ts t).xs ++ (Ts t).news)) (hG : w.grownBy w' (Ts t).v.ownBlock) (hL : (Ts t).v.ownBlock = some g ∨ g = w.heap.size) :
    GrowB base b0 Ts m (updB f (2 * t + 1)) (updV x (2 * t + 1) (.slice (some ⟨g, 0, none⟩) ((Ts t).k + 1) cap)) w' := by
  have hcur : cur (Ts t) (f (2 * t + 1)) (x (2 * t + 1)) = (Ts t).v.ownBlock := by unfold cur; rw [hf, if_neg (by decide)]
  have o1 : ∀ s, updB f (2 * t + 1) (2 * s) = f (2 * s) := fun s => updB_ne (by omega)
  have o2 : ∀ s (v : Value), updV x (2 * t + 1) v (2 * s) = x (2 * s) := fun s v => updV_ne (by omega)
  have p1 : ∀ s, s ≠ t → updB f (2 * t + 1) (2 * s + 1) = f (2 * s + 1) := fun s hs => updB_ne (by omega)
  have p2 : ∀ s (v : Value), s ≠ t → updV x (2 * t + 1) v (2 * s + 1) = x (2 * s + 1) := fun s v hs => updV_ne (by omega)
  have hne : ∀ s, s < m → s ≠ t → ∀ k, cur (Ts s) (f (2 * s + 1)) (x (2 * s + 1)) = some k → (Ts t).v.ownBlock ≠ some k := fun s hs he k e => by
    have := h.ap s t hs ht he k e
    rwa [hcur] at this
  have hne2 : ∀ s, s < m → s ≠ t → cur (Ts s) (f (2 * s + 1)) (x (2 * s + 1)) = none ∨ cur (Ts s) (f (2 * s + 1)) (x (2 * s + 1)) ≠ (Ts t).v.ownBlock := fun s hs he => by
    cases e : cur (Ts s) (f (2 * s + 1)) (x (2 * s + 1)) with
    | none => exact .inl rfl
    | some k => exact .inr (fun e2 => hne s hs he k e e2.symm)
  have cnew : cur (Ts t) (updB f (2 * t + 1) (2 * t + 1)) (updV x (2 * t + 1) (.slice (some ⟨g, 0, none⟩) ((Ts t).k + 1) cap) (2 * t + 1)) = some g := by
    unfold cur
    rw [updB_eq, if_pos rfl, updV_eq]
    rfl
  refine ⟨Nat.le_trans h.sz hG.size, Nat.le_trans h.sb hG.size, fun s hs hf1 k e => (by
    by_cases es : s = t
    · subst es
      rw [updV_eq] at e
      obtain rfl : g = k := by simpa [Value.ownBlock] using e
      rcases hL with hL | hL
      · exact .inl hL
      · exact .inr (by rw [hL]; exact h.sb)
    · rw [p1 s es] at hf1
      rw [p2 s _ es] at e
      exact h.fr s hs hf1 k e), fun s hs hf1 => ?_, fun s hs hf1 hf2 => ?_, fun s hs hf1 => ?_, fun s u hs hu hsu k e => ?_, fun s u hs hu k e hf1 hf2 => ?_⟩
  · by_cases e : s = t
    · subst e; rw [updB_eq] at hf1; cases hf1
    · rw [p1 s e] at hf1
      have h2 := hne2 s hs e
      unfold cur at h2
      rw [hf1, if_neg (by decide)] at h2
      exact (h.row0 s hs hf1).kept hG h2
  · by_cases e : s = t
    · subst e; rw [updB_eq] at hf2; cases hf2
    · rw [o1] at hf1
      rw [p1 s e] at hf2
      obtain ⟨g', e1, e2, e3⟩ := h.new s hs hf1 hf2
      refine ⟨g', by rw [o2]; exact e1, Nat.lt_of_lt_of_le e2 hG.size, fun j u hj => grown_cell hG (e3 j u hj) (fun e4 => ?_)⟩
      exact h.apn t s ht hs g' (by rw [hcur]; exact e4) hf1 hf2 e1
  · by_cases e : s = t
    · subst e
      exact ⟨g, cap, updV_eq _ _ _, by rw [updV_eq]; exact hO⟩
    · rw [p1 s e] at hf1
      obtain ⟨g', c', e1, e2⟩ := h.row1 s hs hf1
      have h2 := hne2 s hs e
      unfold cur at h2
      rw [if_pos hf1] at h2
      exact ⟨g', c', by rw [p2 s _ e]; exact e1, by rw [p2 s _ e]; exact e2.kept hG h2⟩
  · by_cases es : s = t
    · subst es
      rw [cnew] at e
      obtain rfl : g = k := by simpa using e
      rw [p1 u (Ne.symm hsu), p2 u _ (Ne.symm hsu)]
      intro e2
      rcases hL with hL | hL
      · exact hne u hu (Ne.symm hsu) g e2 hL
      · have := (h.curlt hu e2).2; omega
    · rw [p1 s es, p2 s _ es] at e
      by_cases eu : u = t
      · subst eu
        rw [cnew]
        intro e2
        obtain rfl : g = k := by simpa using e2
        rcases hL with hL | hL
        · exact hne s hs es g e hL
        · have := (h.curlt hs e).2; omega
      · rw [p1 u eu, p2 u _ eu]
        exact h.ap s u hs hu hsu k e
  · by_cases eu : u = t
    · subst eu; rw [updB_eq] at hf2; cases hf2
    · rw [o1] at hf1
      rw [p1 u eu] at hf2
      rw [o2]
      obtain ⟨g', e1, e2, -⟩ := h.new u hu hf1 hf2
      by_cases es : s = t
      · subst es
        rw [cnew] at e
        obtain rfl : g = k := by simpa using e
        rcases hL with hL | hL
        · exact h.apn s u hs hu g (by rw [hcur]; exact hL) hf1 hf2
        · intro e3
          rw [e1] at e3
          simp at e3
          all_goals omega
      · rw [p1 s es, p2 s _ es] at e
        exact h.apn s u hs hu k e hf1 hf2
/-- What comes out. -/
structure GrownB (base b0 : Nat) (Ts : Nat → Thr) (m : Nat) (x : Nat → Value) (w : World) : Prop where
  sz : base ≤ w.heap.size
  fr : ∀ t, t < m → ∀ g, (x (2 * t + 1)).ownBlock = some g → (Ts t).v.ownBlock = some g ∨ b0 ≤ g
  row : ∀ t, t < m → ∃ g cap, x (2 * t + 1) = .slice (some ⟨g, 0, none⟩) ((Ts t).k + 1) cap ∧ w.ownsRow base (Ts t).e (Ts t).sz (.slice (some ⟨g, 0, none⟩) ((Ts t).k + 1) cap) ((Ts t).k + 1) ((Ts t).xs ++ (Ts t).news)
  ap : ∀ s t, s < m → t < m → s ≠ t → ∀ g, (x (2 * s + 1)).ownBlock = some g → (x (2 * t + 1)).ownBlock ≠ some g
section
variable {md : Region.Mode} {ops : Array Oper} {Q : Exit → Act → World → Prop} {S : World → Prop} {t : Nat}
end
end Go.Proofs.YtmgfaeineklccaaGreat
/- Several lists that grow by one element each, in whatever order, beside operations that only read. -/
set_option linter.unusedSimpArgs false
set_option linter.unusedVariables false
namespace Go.Proofs.YtmgfaeineklccaaGreat
open Go.RowKit Go.Lib

theorem GrowB.other {base b0 : Nat} {Ts : Nat → Thr} {m : Nat} {f : Nat → Bool} {x : Nat → Value} {w : World} (h : GrowB base b0 Ts m f x w) {p : Nat} {v : Value} (hp : 2 * m ≤ p) : GrowB base b0 Ts m (updB f p) (updV x p v) w := by
  have e1 : ∀ q, q < 2 * m → updB f p q = f q := fun q hq => updB_ne (by omega)
  have e2 : ∀ q, q < 2 * m → updV x p v q = x q := fun q hq => updV_ne (by omega)
  refine ⟨h.sz, h.sb, fun t ht hf g e => ?_, fun t ht hf => ?_, fun t ht hf1 hf2 => ?_, fun t ht hf => ?_, fun s t hs ht hne g e => ?_, fun s t hs ht g e hf1 hf2 => ?_⟩
  · rw [e1 _ (by omega)] at hf; rw [e2 _ (by omega)] at e; exact h.fr t ht hf g e
  · rw [e1 _ (by omega)] at hf; exact h.row0 t ht hf
  · rw [e1 _ (by omega)] at hf1 hf2; rw [e2 _ (by omega)]; exact h.new t ht hf1 hf2
  · rw [e1 _ (by omega)] at hf; rw [e2 _ (by omega)]; exact h.row1 t ht hf
  · rw [e1 _ (by omega), e2 _ (by omega)] at e ⊢; exact h.ap s t hs ht hne g e
  · rw [e1 _ (by omega), e2 _ (by omega)] at e; rw [e1 _ (by omega)] at hf1 hf2; rw [e2 _ (by omega)]; exact h.apn s t hs ht g e hf1 hf2
section
variable {md : Region.Mode} {ops : Array Oper} {Q : Exit → Act → World → Prop} {S : World → Prop} {t : Nat}
/-- Lists that grow, in whatever order. -/
theorem wpAppendsX (m : Nat) (base b0 : Nat) (Ts : Nat → Thr) (is : List Nat) (need : List (List Nat)) (ds : List Tmp) (n k : Nat) (ve : Nat → Value) {listed : Array Bool} {a : Act} {w : World} (hT : ∀ t, t < m → (Ts t).Ok) (hil : 2 * m ≤ is.length) (hlen : ds.length = is.length) (hnd : ds.Nodup)
    (hnl : ∀ q, q < m → 2 * q ∈ need.getD (2 * q + 1) []) (hc : allF is.length (chkG md ops is need listed n k) = true) (ht : t ≤ k) (hn : ops.size = k + n) (hsz : ds.all (fun d => decide (d < a.tmps.size)) = true) (hS : S w)
    (hS1 : ∀ w o, S w → base ≤ w.heap.size → S (w.alloc o)) (hS2 : ∀ (w w' : World) t, t < m → S w → base ≤ w.heap.size → w.grownBy w' (Ts t).v.ownBlock → S w')
    (hbase : base ≤ w.heap.size) (hb0 : b0 ≤ w.heap.size) (hrow : ∀ t, t < m → w.ownsRow base (Ts t).e (Ts t).sz (Ts t).v (Ts t).k (Ts t).xs) (hap : ∀ s t, s < m → t < m → s ≠ t → ∀ g, (Ts s).v.ownBlock = some g → (Ts t).v.ownBlock ≠ some g)
    (hob : ∀ t, t < m → ∃ o d xb, ops[is.getD (2 * t) 0]? = some o ∧ o.guard = none ∧ o.dst = some d ∧ ds[2 * t]? = some d ∧ o.op = .buildSlice (Ts t).tt 1 #[(0, xb)] ∧ ∀ x, (putG x ds 0 a).eval xb = (Ts t).elem)
    (hoa : ∀ t, t < m → ∃ o d s y, ops[is.getD (2 * t + 1) 0]? = some o ∧ o.guard = none ∧ o.dst = some d ∧ ds[2 * t + 1]? = some d ∧ o.op = .call { callee := .builtin .append, args := #[s, y], argTypes := #[(Ts t).tt, (Ts t).tt] } ∧ (∀ x, (putG x ds 0 a).eval s = (Ts t).v) ∧ ∀ x, (putG x ds 0 a).eval y = x (2 * t))
    (hex : ∀ p, 2 * m ≤ p → p < is.length → ∃ o d, ops[is.getD p 0]? = some o ∧ o.guard = none ∧ o.dst = some d ∧ ds[p]? = some d ∧ ∀ x w, S w → (execOp (putG x ds 0 a).eval o).run Tryz.prog w = .ok (.value (ve p)) w)
    (hend : ∀ x w, S w → GrownB base b0 Ts m x w → (∀ p, 2 * m ≤ p → p < is.length → x p = ve p) → wpList Tryz.prog ops Q (ops.toList.drop k) (putG x ds 0 a) w) : wpAnyS Tryz.prog md ops Q S t (n + is.length) listed a w := by
  refine wpG is ds need (fun f x w => GrowB base b0 Ts m f x w ∧ ∀ p, 2 * m ≤ p → p < is.length → f p = true → x p = ve p) n k hlen hnd hc ht hn hsz hS (fun x => ⟨⟨hbase, hb0, fun _ _ h => (by cases h), fun t ht _ => hrow t ht, fun _ _ h => (by cases h), fun _ _ h => (by cases h), fun s t hs ht hne g e => hap s t hs ht hne g e, fun _ _ _ _ _ _ h => (by cases h)⟩, fun _ _ _ h => (by cases h)⟩) (fun p hp => ?_) (fun f x w hS hF hall => ?_)
  · by_cases hpx : 2 * m ≤ p
    · obtain ⟨o, d, h1, h2, h3, h4, h5⟩ := hex p hpx hp
      refine ⟨o, d, h1, h2, h3, h4, fun f x w hS hF hf hneed K hK => ?_⟩
      unfold Oper.wp
      rw [h5 x w hS, Oper.upon_value, h3]
      exact hK.out _ _ hS ⟨hF.1.other hpx, fun p' hp1 hp2 hf' => by
        by_cases e : p' = p
        · subst e; exact updV_eq _ _ _
        · rw [updB_ne e] at hf'
          rw [updV_ne e]
          exact hF.2 p' hp1 hp2 hf'⟩
    obtain ⟨q, hq | hq⟩ : ∃ q, p = 2 * q ∨ p = 2 * q + 1 := ⟨p / 2, by omega⟩
    · subst hq
      have hqm : q < m := by omega
      obtain ⟨o, d, xb, h1, h2, h3, h4, h5, h6⟩ := hob q hqm
      refine ⟨o, d, h1, h2, h3, h4, fun f x w hS hF hf hneed K hK => ?_⟩
      unfold Oper.wp execOp
      simp only [h5, Sem.run_bind, List.map_toArray, List.map_cons, List.map_nil, h6, (hT q hqm).hb, Sem.run_pure, Result.andThen_ok]
      rw [Oper.upon_value, h3]
      exact hK.out _ _ (hS1 _ _ hS hF.1.sz) ⟨hF.1.build hqm, fun p' hp1 hp2 hf' => by rw [updB_ne (by omega)] at hf'; rw [updV_ne (by omega)]; exact hF.2 p' hp1 hp2 hf'⟩
    · subst hq
      have hqm : q < m := by omega
      obtain ⟨o, d, s, y, h1, h2, h3, h4, h5, h6, h7⟩ := hoa q hqm
      refine ⟨o, d, h1, h2, h3, h4, fun f x w hS hF hf hneed K hK => ?_⟩
      have T := hT q hqm
      have hf0 : f (2 * q) = true := hneed _ (hnl q hqm)
      obtain ⟨g0, e1, e2, e3⟩ := hF.1.new q hqm hf0 hf
      have hrow := hF.1.row0 q hqm hf
      obtain ⟨i0, hi, hz0, hz1, hz2⟩ := info_parts T.hI
      refine wp_append_lies w s y (Ts q).tt h5 base (Ts q).e i0 (Ts q).z (Ts q).sz (Ts q).bytes T.hU hi hz0 hz1 hz2 T.hzs T.hsz (Ts q).v (Ts q).k (Ts q).xs (h6 x) hrow ⟨g0, 0, none⟩ 1 1 (Ts q).news (by rw [h7 x]; exact e1) (by rw [T.hl]; omega) (fun j u hj => ?_) T.h1 (by omega) (by have := T.hk; unfold maxLen; omega) (by
        have : ((Ts q).k + 1) * (Ts q).bytes ≤ 1099511627776 * 64 := Nat.mul_le_mul T.hk T.hby
        omega) hF.1.sz w.heap.size rfl (fun g cap w' hO hG hL _ => ?_)
      · have := e3 j u hj
        rw [Addr.add]
        split
        · rename_i e; subst e; exact this
        · simpa using this
      · rw [h3]
        exact hK.out _ _ (hS2 _ _ q hqm hS hF.1.sz hG) ⟨hF.1.append hqm hf hO hG hL, fun p' hp1 hp2 hf' => by rw [updB_ne (by omega)] at hf'; rw [updV_ne (by omega)]; exact hF.2 p' hp1 hp2 hf'⟩
  · refine hend x w hS ⟨hF.1.sz, fun t ht g e => hF.1.fr t ht (hall _ (by omega)) g e, fun t ht => ?_, fun s t hs ht hne g e => ?_⟩ (fun p hp1 hp2 => hF.2 p hp1 hp2 (hall p hp2))
    · obtain ⟨g, cap, e1, e2⟩ := hF.1.row1 t ht (hall _ (by omega))
      rw [e1] at e2
      exact ⟨g, cap, e1, e2⟩
    · have hs1 := hall (2 * s + 1) (by omega)
      have ht1 := hall (2 * t + 1) (by omega)
      have := hF.1.ap s t hs ht hne g (by unfold cur; rw [if_pos hs1]; exact e)
      unfold cur at this
      rwa [if_pos ht1] at this
end
end Go.Proofs.YtmgfaeineklccaaGreat
