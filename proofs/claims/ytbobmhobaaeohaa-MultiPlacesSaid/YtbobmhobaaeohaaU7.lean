/- multi.Transform: along all dimensions. -/
import Derived.Test.YtbobmhobaaeohaaU5
import Derived.Test.YtbobmhobaaeohaaU6
set_option linter.unusedSimpArgs false
set_option linter.unusedVariables false
namespace Go.Proofs.Ytbobmhobaaeohaa
open Go.RowKit Go.Lib Go.Shelf

attribute [local go_sem] Oper.semAt_some

/-- A line is transformed where it may be. -/
def lineT (F : Tr Cx) (s : Int) (d off st : Nat) (x : Nat → Cx) : Nat → Cx := scatT x (F s (gathT x off st)) off st (if guardE (gathT x off st) d = 0 then d else 0)
def colsT (F : Tr Cx) (s : Int) (d base st : Nat) (x : Nat → Cx) (m : Nat) : Nat → Cx := foldT m (fun y k => lineT F s d (base + k) st y) x
def dimT (F : Tr Cx) (s : Int) (d st : Nat) (x : Nat → Cx) (m : Nat) : Nat → Cx := foldT m (fun y a => colsT F s d (a * (st * d)) st y st) x
/-- The numbers behind so many dimensions of one size d. -/
def roundsC (F : Tr Cx) (s : Int) (d n : Nat) (x : Nat → Cx) : Nat → Nat → Cx
  | 0 => x
  | j + 1 => dimT F s d (d ^ j) (roundsC F s d n x j) (n / (d ^ j * d))

theorem pow_dvd {d D j : Nat} (h : j < D) : d ^ j * d * d ^ (D - 1 - j) = d ^ D := by
  rw [← Nat.pow_succ, ← Nat.pow_add]
  congr 1
  omega
theorem fits_line {n st d q a k : Nat} (hn : n = st * d * q) (ha : a < q) (hk : k < st) (hd : 1 ≤ d) : Fits n (a * (st * d) + k) st d := by
  refine .inr ?_
  have h1 : (a + 1) * (st * d) ≤ q * (st * d) := Nat.mul_le_mul_right _ (by omega)
  have h2 : st * d = (d - 1) * st + st := by
    rw [← Nat.succ_mul, Nat.mul_comm st d]; congr 1; omega
  rw [Nat.succ_mul] at h1
  have h3 : q * (st * d) = n := by rw [hn, Nat.mul_comm]
  omega
/-- What Execute gives of a line. -/
def ExP (F : Tr Cx) (s : Int) (d : Nat) (y : Nat → Cx) (w : World) : Ending → World → Prop := fun z w' => ∃ (A : Option Addr) (c e : Int) (c' : Nat), z = .returned (.tuple #[.slice A (if guardE y d = 0 then d else 0) c', .int .i64 e]) ∧ CsAt w' A (if guardE y d = 0 then d else 0) (F s y) ∧ (∀ b o, A = some ⟨b, o, none⟩ → w.heap.size ≤ b) ∧ Below w.heap.size w w'

def SBox (w : World) (b : Nat) (v : Value) : Prop := w.cell? ⟨b, 0, none⟩ = some v ∧ w.frozen? ⟨b, 0, none⟩ = false
theorem SBox.lt {w : World} {b : Nat} {v : Value} (h : SBox w b v) : b < w.heap.size := World.block_lt_of_cell? _ _ h.1
theorem SBox.kept {w w' : World} {row : Option Nat} {b : Nat} {v : Value} (h : SBox w b v) (hg : w.grownBy w' row) (hr : ∀ r, row = some r → ∃ o : Obj, w.heap[r]? = some o ∧ o.isCells = false) : SBox w' b v :=
  ⟨cell_kept h.1 hg hr, (frozen_kept h.1 hg hr).trans h.2⟩
theorem SBox.below {w w' : World} {b : Nat} {v : Value} (h : SBox w b v) (hb : Below w.heap.size w w') : SBox w' b v := ⟨keep_cell hb h.1, keep_free hb h.lt h.2⟩
theorem RowC.kept {w w' : World} {row : Option Nat} {b n : Nat} {f : Nat → Cx} (h : RowC w b n f) (hg : w.grownBy w' row) (hr : ∀ r, row = some r → ∃ o : Obj, w.heap[r]? = some o ∧ o.isCells = false) : RowC w' b n f :=
  h.of fun i v hc => ⟨cell_kept hc hg hr, frozen_kept hc hg hr⟩

theorem others_below {w w' : World} (h : Below w.heap.size w w') : KeepsOthers w w' := ⟨h.size, fun k o hk _ => (h.block k (Array.getElem?_eq_some_iff.1 hk).1).trans hk⟩
theorem others_only {g : Nat} {w w' : World} (h : OnlyB g w w') {o : Nat} {v : Value} (hc : w.cell? ⟨g, o, none⟩ = some v) : KeepsOthers w w' :=
  ⟨h.size, fun k ob hk ho => (h.block k (Array.getElem?_eq_some_iff.1 hk).1 (fun e => by
    subst e
    obtain ⟨o', h1, h2⟩ := cells_of_cell hc
    rw [hk] at h1
    cases h1
    rw [ho] at h2
    cases h2)).trans hk⟩
theorem SBox.only {g b : Nat} {w w' : World} {v : Value} (h : SBox w b v) (ho : OnlyB g w w') (hne : b ≠ g) : SBox w' b v :=
  ⟨(ho.cell (p := ⟨b, 0, none⟩) h.lt hne).trans h.1, (ho.frozen (p := ⟨b, 0, none⟩) h.lt hne).trans h.2⟩
theorem PlBox.only {g b : Nat} {w w' : World} {kind n r : Int} {A : Option Addr} {l c : Nat} (h : PlBox w b kind n r A l c) (ho : OnlyB g w w') (hne : b ≠ g) : PlBox w' b kind n r A l c := by
  obtain ⟨h1, h2, h3, h4⟩ := h
  have hl : b < w.heap.size := World.block_lt_of_cell? _ _ h1
  exact ⟨(ho.cell (p := ⟨b, 0, none⟩) hl hne).trans h1, (ho.cell (p := ⟨b, 1, none⟩) hl hne).trans h2, (ho.cell (p := ⟨b, 2, none⟩) hl hne).trans h3, (ho.cell (p := ⟨b, 3, none⟩) hl hne).trans h4⟩
/-- What holds at the head of each round over lines. -/
structure Lin (T : Nat → Prop) (n₀ : Nat) (W wr : World) (bS g gp n st : Nat) (P : PQ) (y : Nat → Cx) : Prop where
  s : SBox wr bS (.int .i64 (st : Nat))
  row : RowC wr g n y
  k : KeptT T n₀ W wr
  o : KeepsOthers W wr
  p : PlBox wr gp P.kind P.n P.r P.B P.l P.c
theorem Lin.below {T : Nat → Prop} {n₀ : Nat} {W wr w' : World} {bS g gp n st : Nat} {P : PQ} {y : Nat → Cx} (h : Lin T n₀ W wr bS g gp n st P y) (hb : Below wr.heap.size wr w') (hn : n₀ ≤ W.heap.size) : Lin T n₀ W w' bS g gp n st P y :=
  ⟨h.s.below hb, h.row.keep hb, h.k.trans (KeptT.of_below hb (Nat.le_trans hn h.k.size)), h.o.trans (others_below hb), PlBox.below h.p hb⟩
theorem Lin.put {T : Nat → Prop} {n₀ : Nat} {W wr w' : World} {bS g gp n st : Nat} {P : PQ} {y y' : Nat → Cx} (h : Lin T n₀ W wr bS g gp n st P y) (ho : OnlyB g wr w') (hr : RowC w' g n y') (hT : T g) (hn : n₀ ≤ W.heap.size) (h1 : bS ≠ g) (h2 : gp ≠ g) (hn1 : 0 < n) : Lin T n₀ W w' bS g gp n st P y' := by
  obtain ⟨u, hc, -⟩ := h.row 0 hn1
  exact ⟨h.s.only ho h1, hr, h.k.trans (KeptT.of_only ho hT (Nat.le_trans hn h.k.size)), h.o.trans (others_only ho hc), h.p.only ho h2⟩
set_option maxRecDepth 100000 in
set_option maxHeartbeats 4000000 in
theorem Trans_in (PA A X : Option Addr) (D cp ca n cx d : Nat) (f : Nat → Int) (p : Nat → PQ) (F : Tr Cx) (x : Nat → Cx) (s : Int) (hs : s = 1 ∨ s = -1) (w : World) (hA : IntsAt w A D f) (hP : PlsAt w PA D p) (hX : CsAt w X n x)
    (hsz : sizeB f D = true) (hln : (n : Int) = preP f D) (hok : PlansOk w D f p) (hx : ∀ i, i < n → fitsC W880 (x i) = true)
    (hfd : ∀ i, i < D → f i = d) (hnd : n = d ^ D) (hd1 : 1 ≤ d)
    (hE : ∀ i, i < D → ∀ w', Below w.heap.size w w' → ∀ (Y : Option Addr) (cy : Nat) (y : Nat → Cx), CsAt w' Y d y → Calls Try.prog 14 #[(p i).v, .slice Y d cy, .int .i64 s] w' (ExP F s d y w')) :
    CallsIn Fence.wide 9 Try.prog 9 #[.slice PA D cp, .slice A D ca, .slice X n cx, .int .i64 s] w fun z w' => ∃ g c, z = .returned (.tuple #[.slice (some ⟨g, 0, none⟩) n c, .int .i64 0]) ∧ w.heap.size ≤ g ∧ RowC w' g n (roundsC F s d n x D) ∧ Below w.heap.size w w' := by
  have HND := Lib.hid hnd
  have HFD := Lib.hid hfd
  clear hnd hfd
  have HD8 : Hid (D ≤ 8) := Lib.hid (by unfold sizeB at hsz; simp only [Bool.and_eq_true, decide_eq_true_eq] at hsz; exact hsz.1.2)
  have hd : Fence.wide.depth = none := rfl
  have hro : Fence.wide.round = none := rfl
  have hn1 : 1 ≤ n ∧ n ≤ 16384 := by
    have ho : okT f D = true := by unfold sizeB at hsz; simp only [Bool.and_eq_true] at hsz; exact hsz.2
    have := okT_bd ho
    omega
  have HM := Lib.hid (fun w1 (hb : Below w.heap.size w w1) => mmay_ok PA A X D cp ca n cx f p x s hs w1 (hA.keep hb) (hP.of fun b o _ _ i v hv => keep_cell hb hv) (hX.keep hb) (by omega) hsz hln (fun i hi => ⟨(hok i hi).1, fun w2 hb2 => (hok i hi).2 w2 (hb.trans (hb2.mono hb.size))⟩) hx)
  have HC := Lib.hid (fun w1 (hb : Below w.heap.size w w1) => CloneC_any X n cx x w1 (hX.keep hb) (by omega) (by omega))
  have HP := Lib.hid hP
  have HA := Lib.hid hA
  have HE := Lib.hid hE
  have HSZ := Lib.hid hsz
  have HLN := Lib.hid hln
  clear hE hx hok hP hA hX hsz hln hs
  refine callsIn_of_wp_marks Try.func9 rfl trivial ?_ hro
  simp only [Try.ntmps9, List.size_toArray, List.length_cons, List.length_nil, Nat.reduceAdd, Nat.reduceSub, Array.replicate_succ, Array.replicate_zero, List.push_toArray, List.append_toArray, List.nil_append, List.cons_append]
  obtain ⟨W0, hW0⟩ : ∃ W0, W0 = ((w.alloc (.cells #[.slice A D ca] 22)).alloc (.cells #[.slice X n cx] 36)).alloc (.cells #[.int .i64 s] 3) := ⟨_, rfl⟩
  have hb0 : Below w.heap.size w W0 := by rw [hW0]; exact (((Below.refl _ w).alloc (Nat.le_refl _) _).alloc (by simp) _).alloc (by simp; omega) _
  have hs0 : W0.heap.size = w.heap.size + 3 := by rw [hW0]; simp
  have h5 : SBox W0 w.heap.size (.slice A D ca) := by rw [hW0]; exact ⟨by go_simp, by go_simp⟩
  have h6 : SBox W0 (w.heap.size + 1) (.slice X n cx) := by rw [hW0]; exact ⟨by go_simp, by go_simp⟩
  have h7 : SBox W0 (w.heap.size + 2) (.int .i64 s) := by rw [hW0]; exact ⟨by go_simp, by go_simp⟩
  have HB0 := Lib.hid hb0
  have HS0 := Lib.hid hs0
  have H567 := Lib.hid (⟨h5, h6, h7⟩ : SBox W0 w.heap.size (.slice A D ca) ∧ SBox W0 (w.heap.size + 1) (.slice X n cx) ∧ SBox W0 (w.heap.size + 2) (.int .i64 s))
  obtain ⟨c5, f5⟩ := h5
  obtain ⟨c6, f6⟩ := h6
  obtain ⟨c7, f7⟩ := h7
  clear hb0 hs0
  gi_wp2_with fail
  rw [← hW0]
  refine ⟨trivial, (callsIn_wide.2 (HM.out W0 HB0.out)).mono ?_⟩
  rintro e w1 ⟨rfl, hb1⟩
  have d6 := keep_cell hb1 c6
  have HB1 := Lib.hid (HB0.out.trans (hb1.mono HB0.out.size))
  have H1 := Lib.hid (⟨H567.out.1.below hb1, H567.out.2.1.below hb1, H567.out.2.2.below hb1⟩ : SBox w1 w.heap.size (.slice A D ca) ∧ SBox w1 (w.heap.size + 1) (.slice X n cx) ∧ SBox w1 (w.heap.size + 2) (.int .i64 s))
  have HS1 : Hid (w.heap.size + 3 ≤ w1.heap.size) := Lib.hid (by have := hb1.size; have := HS0.out; omega)
  clear c5 f5 c6 f6 c7 f7 hb1 hW0 H567 HS0 HM HB0
  gi_wp2_with fail
  refine ⟨trivial, (callsIn_wide.2 (HC.out w1 HB1.out)).mono ?_⟩
  rintro e w2 ⟨g, cg, rfl, hg1, hg2, hr, hb2⟩
  have h62 := H1.out.2.1.below hb2
  obtain ⟨d6', f6'⟩ := h62
  clear d6
  gi_wp2_with fail
  obtain ⟨W3, hW3⟩ : ∃ W3, W3 = (w2.setCell ⟨w.heap.size + 1, 0, none⟩ (.slice (some ⟨g, 0, none⟩) n cg)).alloc (.cells #[.int .i64 1] 3) := ⟨_, rfl⟩
  rw [← hW3]
  have hs3 : W3.heap.size = w2.heap.size + 1 := by rw [hW3]; simp
  have hset : Below w1.heap.size w1 w2 := hb2
  have hs2 : w.heap.size + 3 ≤ w2.heap.size := by have := hb2.size; have := HS1.out; omega
  have hB2 : Below w.heap.size w (w2.setCell ⟨w.heap.size + 1, 0, none⟩ (.slice (some ⟨g, 0, none⟩) n cg)) := (HB1.out.trans (hb2.mono HB1.out.size)).setCell (p := ⟨_, _, _⟩) (by show w.heap.size ≤ w.heap.size + 1; omega) _
  have hB3 : Below w.heap.size w W3 := by rw [hW3]; exact hB2.alloc (by simp; omega) _
  have hbs : Below w2.heap.size (w2.setCell ⟨w.heap.size + 1, 0, none⟩ (.slice (some ⟨g, 0, none⟩) n cg)) W3 := by rw [hW3]; exact (Below.refl _ _).alloc (by simp) _
  have ne : ∀ {b : Nat}, b ≠ w.heap.size + 1 → ∀ i, (w2.setCell ⟨w.heap.size + 1, 0, none⟩ (.slice (some ⟨g, 0, none⟩) n cg)).cell? ⟨b, i, none⟩ = w2.cell? ⟨b, i, none⟩ := fun h i => by
    rw [World.cell?_setCell_other]
    intro e; exact h (congrArg Addr.block e).symm
  have cel : ∀ {b i : Nat} {v : Value}, b ≠ w.heap.size + 1 → w2.cell? ⟨b, i, none⟩ = some v → W3.cell? ⟨b, i, none⟩ = some v ∧ W3.frozen? ⟨b, i, none⟩ = w2.frozen? ⟨b, i, none⟩ := fun {b i v} h hc => by
    have hl := World.block_lt_of_cell? _ _ hc
    refine ⟨?_, ?_⟩
    · rw [hbs.cell (p := ⟨b, i, none⟩) hl, ne h]; exact hc
    · rw [hbs.frozen (p := ⟨b, i, none⟩) hl, World.frozen?_setCell]
  have h53 : SBox W3 w.heap.size (.slice A D ca) := by
    have := H1.out.1.below hb2
    exact ⟨(cel (by omega) this.1).1, ((cel (by omega) this.1).2).trans this.2⟩
  have h73 : SBox W3 (w.heap.size + 2) (.int .i64 s) := by
    have := H1.out.2.2.below hb2
    exact ⟨(cel (by omega) this.1).1, ((cel (by omega) this.1).2).trans this.2⟩
  have h63 : SBox W3 (w.heap.size + 1) (.slice (some ⟨g, 0, none⟩) n cg) := by
    refine ⟨?_, ?_⟩
    · rw [hbs.cell (p := ⟨w.heap.size + 1, 0, none⟩) (by show w.heap.size + 1 < w2.heap.size; omega)]; exact World.cell?_setCell_same _ _ _ d6'
    · rw [hbs.frozen (p := ⟨w.heap.size + 1, 0, none⟩) (by show w.heap.size + 1 < w2.heap.size; omega), World.frozen?_setCell]; exact f6'
  have hg0 : w.heap.size + 3 ≤ g := by have := HS1.out; omega
  have hr3 : RowC W3 g n x := hr.of fun i v hc => cel (by omega) hc
  have hS3 : SBox W3 w2.heap.size (.int .i64 1) := by
    rw [hW3]
    have e : (w2.setCell ⟨w.heap.size + 1, 0, none⟩ (.slice (some ⟨g, 0, none⟩) n cg)).heap.size = w2.heap.size := by simp
    constructor
    · have := World.cell?_alloc_new (w2.setCell ⟨w.heap.size + 1, 0, none⟩ (.slice (some ⟨g, 0, none⟩) n cg)) #[.int .i64 1] 3 0
      rw [e] at this
      rw [this]; rfl
    · have := World.frozen?_alloc_new (w2.setCell ⟨w.heap.size + 1, 0, none⟩ (.slice (some ⟨g, 0, none⟩) n cg)) #[.int .i64 1] 3 0
      rw [e] at this
      exact this
  have HB3 := Lib.hid hB3
  have H3 := Lib.hid (⟨h53, h63, h73, hS3, hr3⟩ : SBox W3 w.heap.size (.slice A D ca) ∧ SBox W3 (w.heap.size + 1) (.slice (some ⟨g, 0, none⟩) n cg) ∧ SBox W3 (w.heap.size + 2) (.int .i64 s) ∧ SBox W3 w2.heap.size (.int .i64 1) ∧ RowC W3 g n x)
  obtain ⟨bS, hbS⟩ : ∃ bS, bS = w2.heap.size := ⟨_, rfl⟩
  rw [← hbS] at hs3 hs2 hg2 H3 ⊢
  have HSS := Lib.hid (⟨hs3, hs2, hg0, hg2⟩ : W3.heap.size = bS + 1 ∧ w.heap.size + 3 ≤ bS ∧ w.heap.size + 3 ≤ g ∧ g < bS)
  clear hW3 hset hB2 hB3 hbs ne cel h53 h73 h63 hr3 hS3 hbS hs3 hs2 hg0 hg1 hg2 hr hb2 d6' f6' HB1 H1 HS1 HC
  refine ⟨trivial, (backward_in Fence.wide 8 trivial hro PA D cp W3).mono ?_⟩
  rintro e w' ⟨rfl, rfl⟩
  have hs3 := HSS.out.1
  obtain ⟨WL, hWL⟩ : ∃ WL, WL = W3.alloc (.cells #[.slice PA D cp] 33) := ⟨_, rfl⟩
  rw [← hWL, hs3]
  have hbl : Below W3.heap.size W3 WL := by rw [hWL]; exact (Below.refl _ _).alloc (Nat.le_refl _) _
  have hBsL : WL.cell? ⟨bS + 1, 0, none⟩ = some (.slice PA D cp) := by rw [hWL, ← hs3]; go_simp
  have hsL : WL.heap.size = bS + 2 := by rw [hWL]; simp [hs3]
  have HL := Lib.hid (⟨H3.out.1.below hbl, H3.out.2.1.below hbl, H3.out.2.2.1.below hbl, H3.out.2.2.2.1.below hbl, H3.out.2.2.2.2.keep hbl⟩ : SBox WL w.heap.size (.slice A D ca) ∧ SBox WL (w.heap.size + 1) (.slice (some ⟨g, 0, none⟩) n cg) ∧ SBox WL (w.heap.size + 2) (.int .i64 s) ∧ SBox WL bS (.int .i64 1) ∧ RowC WL g n x)
  have HBL := Lib.hid (HB3.out.trans (hbl.mono HB3.out.size))
  have HSL := Lib.hid (⟨hsL, hBsL⟩ : WL.heap.size = bS + 2 ∧ WL.cell? ⟨bS + 1, 0, none⟩ = some (.slice PA D cp))
  clear hWL hbl hBsL hsL H3 HB3 hs3
  gi_wp2_with fail
  obtain ⟨T, hT⟩ : ∃ T : Nat → Prop, T = fun k => k = bS ∨ k = g := ⟨_, rfl⟩
  have hTS : T bS := by rw [hT]; exact .inl rfl
  have hTg : T g := by rw [hT]; exact .inr rfl
  have hTn : ∀ k, k < w.heap.size + 3 → ¬ T k := fun k hk h => by rw [hT] at h; have := HSS.out; rcases h with h | h <;> omega
  have hTB : ¬ T (bS + 1) := fun h => by rw [hT] at h; have := HSS.out; rcases h with h | h <;> omega
  have hPL : PlsAt WL PA D p := HP.out.of fun b o _ _ i v hv => keep_cell HBL.out hv
  refine wpIn_rangeFunc_ownH hro (by omega) (gf := 21) (lb := #[.pointer (some ⟨bS + 1, 0, none⟩)]) rfl trivial (enters_of Try.func21 (by kernel_rfl) rfl)
    (back_stops Fence.wide 8 trivial hro (by omega) (bS + 1) T (bS + 2) D cp PA p (by have := HD8.out; omega) WL ⟨by omega, hTB⟩ (by rw [HSL.out.1]; omega) HSL.out.2 (fun hD b o e => by obtain ⟨b', o', e', hc, -⟩ := HP.out 0 hD; rw [e'] at e; cases e; have hl : b < w.heap.size := World.block_lt_of_cell? _ _ hc; have h3 := HSS.out; exact ⟨by omega, hTn b (by omega)⟩) hPL)
    KeptT.trans (fun W l o o' hl h hc _ => KeptT.put W l o o' (by rw [HSL.out.1] at hl; exact hl) h) (Below.refl _ _) (fun _ => rfl)
    (fun pre W => (SBox W bS (.int .i64 ((d ^ pre.length : Nat) : Int)) ∧ RowC W g n (roundsC F s d n x pre.length)) ∧ KeptT T (bS + 2) WL W)
    (fun c' pre W => False)
    (OwnFrom.and (Own.from (fun s A B row hs hg hr => ⟨hs.1.kept hg hr, hs.2.kept hg hr⟩) _) (fun s A B row hs hg hr => hs.trans ⟨hg.os, hg.tape, hg.output, hg.size, fun k hk _ => hg.block k (by have := hs.size; have := HSL.out.1; omega) (fun e => by have := (hr k e.symm).1; have := HSL.out.1; omega)⟩))
    (fun c' => fun s A B row hs hg hr => hs)
    ⟨⟨by simpa using HL.out.2.2.2.1, HL.out.2.2.2.2⟩, KeptT.refl _ _ _⟩
    (fun xi a' W => ∃ gp : Nat, a' = { tmps := #[.slice PA D cp, .slice A D ca, .slice X n cx, .int .i64 s, undef, .pointer (some ⟨w.heap.size, 0, none⟩), .pointer (some ⟨w.heap.size + 1, 0, none⟩), .pointer (some ⟨w.heap.size + 1 + 1, 0, none⟩), .slice none 0 0, .int .i64 0, .int .i64 0, .pointer (some ⟨bS, 0, none⟩), .int .i64 ((D - 1 - xi.val : Nat) : Int), .pointer (some ⟨gp, 0, none⟩), undef, undef, undef, undef, undef, .slice PA D cp, .slice A D ca, .slice X n cx, .int .i64 s, .int .i64 0, .int .i64 0, .bool false, undef, .slice X n cx, .slice (some ⟨g, 0, none⟩) n cg, .slice PA D cp, .func (.func 21) #[] #[.pointer (some ⟨bS + 1, 0, none⟩)], .int .i64 ((D - 1 - xi.val : Nat) : Int), (p (D - 1 - xi.val)).v, undef, undef, undef, undef, undef, undef, undef, undef, undef, undef, undef, undef, undef, undef, undef, undef, undef, undef, undef, undef, undef, undef, undef, undef, undef, undef, undef, undef, undef, undef, undef, undef, undef, undef, undef, undef, undef, undef, undef, undef, undef, undef, undef, undef, undef, undef], defers := [] } ∧ PlBox W gp (p (D - 1 - xi.val)).kind (p (D - 1 - xi.val)).n (p (D - 1 - xi.val)).r (p (D - 1 - xi.val)).B (p (D - 1 - xi.val)).l (p (D - 1 - xi.val)).c ∧ bS + 2 ≤ gp)
    (fun xi a' => Own.from (fun s A B row hs hg hr => by obtain ⟨gp, h0, ⟨h1, h2, h3, h4⟩, h5⟩ := hs; exact ⟨gp, h0, ⟨cell_kept h1 hg hr, cell_kept h2 hg hr, cell_kept h3 hg hr, cell_kept h4 hg hr⟩, h5⟩) _)
    ?assign ?body ?done ?stop
  case assign =>
    rintro l pre xi W K ⟨⟨hSt, hRow⟩, hKp⟩ hK
    simp only [bw, PQ.v]
    have hWs : bS + 2 ≤ W.heap.size := by have := hKp.size; have := HSL.out.1; omega
    have hal : Below W.heap.size W (W.alloc (.cells #[.int .i64 (p (D - 1 - xi.val)).kind, .int .i64 (p (D - 1 - xi.val)).n, .int .i64 (p (D - 1 - xi.val)).r, .slice (p (D - 1 - xi.val)).B (p (D - 1 - xi.val)).l (p (D - 1 - xi.val)).c] 35)) := (Below.refl _ W).alloc (Nat.le_refl _) _
    have hKK := hK _ (W.alloc (.cells #[.int .i64 (p (D - 1 - xi.val)).kind, .int .i64 (p (D - 1 - xi.val)).n, .int .i64 (p (D - 1 - xi.val)).r, .slice (p (D - 1 - xi.val)).B (p (D - 1 - xi.val)).l (p (D - 1 - xi.val)).c] 35)) ((KeepsOthers.alloc _ _).from _) (KeptT.of_below hal hWs) ⟨⟨hSt.below hal, hRow.keep hal⟩, hKp.trans (KeptT.of_below hal hWs)⟩ ⟨W.heap.size, rfl, PlBox.new W _ _ _ _ _ _ _, hWs⟩
    have HKK := Lib.hid hKK
    clear hKK hK hal
    gi_wp2
    exact HKK.out
  case body =>
    rintro l pre xi a' W hl - ⟨⟨hSt, hRow⟩, hKp⟩ ⟨gp, rfl, hp, hgp⟩ hlen
    obtain ⟨i, hi⟩ : ∃ i, D - 1 - xi.val = i := ⟨_, rfl⟩
    have hiD : i < D := by have := xi.isLt; omega
    rw [hi] at hp ⊢
    obtain ⟨st, hst⟩ : ∃ st, d ^ pre.length = st := ⟨_, rfl⟩
    obtain ⟨q, hq⟩ : ∃ q, d ^ (D - 1 - pre.length) = q := ⟨_, rfl⟩
    have hnq : n = st * d * q := by rw [← hst, ← hq, pow_dvd hlen, HND.out]
    have hst1 : 1 ≤ st := by rw [← hst]; exact Nat.pow_pos (by omega)
    have hq1 : 1 ≤ q := by rw [← hq]; exact Nat.pow_pos (by omega)
    have hsd : st * d ≤ n := by rw [hnq]; exact Nat.le_mul_of_pos_right _ (by omega)
    have hsn : st ≤ n := Nat.le_trans (Nat.le_mul_of_pos_right _ (by omega)) hsd
    have hdn : d ≤ n := Nat.le_trans (Nat.le_mul_of_pos_left _ (by omega)) hsd
    have hqd : n / (st * d) = q := by rw [hnq]; exact Nat.mul_div_cancel_left _ (by have : 1 * 1 ≤ st * d := Nat.mul_le_mul hst1 hd1; omega)
    have hnext : Hid (d ^ (pre ++ [xi]).length = st * d ∧ roundsC F s d n x (pre ++ [xi]).length = dimT F s d st (roundsC F s d n x pre.length) q) := Lib.hid (by
      rw [List.length_append]
      show d ^ (pre.length + 1) = _ ∧ roundsC F s d n x (pre.length + 1) = _
      refine ⟨by rw [Nat.pow_succ, hst], ?_⟩
      show dimT F s d (d ^ pre.length) _ (n / (d ^ pre.length * d)) = _
      rw [hst, hqd])
    rw [hst] at hSt
    obtain ⟨y0, hy0⟩ : ∃ y0, roundsC F s d n x pre.length = y0 := ⟨_, rfl⟩
    rw [hy0] at hRow hnext
    have hWs : bS + 2 ≤ W.heap.size := by have := hKp.size; have := HSL.out.1; omega
    have hkc : ∀ b, b < w.heap.size + 3 → ∀ {W' : World}, KeptT T (bS + 2) WL W' → ∀ o, W'.cell? ⟨b, o, none⟩ = WL.cell? ⟨b, o, none⟩ := fun b hb W' hk o => hk.cell (p := ⟨b, o, none⟩) (by show b < bS + 2; have := HSS.out; omega) (hTn b hb)
    obtain ⟨bA, oA, rfl, hcA⟩ := HA.out i hiD
    rw [HFD.out i hiD] at hcA
    have hAlt : bA < w.heap.size := World.block_lt_of_cell? _ _ hcA
    have hcAW : W.cell? ⟨bA, oA + i, none⟩ = some (.int .i64 (d : Int)) := (hkc bA (by omega) hKp _).trans (keep_cell HBL.out hcA)
    have h5W : W.cell? ⟨w.heap.size, 0, none⟩ = some (.slice (some ⟨bA, oA, none⟩) D ca) := (hkc w.heap.size (by omega) hKp _).trans HL.out.1.1
    have hii : (i : Int) < D := by omega
    have HKC := Lib.hid (fun (W' : World) (hk : KeptT T (bS + 2) WL W') => (⟨(hkc (w.heap.size + 1) (by omega) hk _).trans HL.out.2.1.1, (hkc (w.heap.size + 2) (by omega) hk _).trans HL.out.2.2.1.1⟩ : W'.cell? ⟨w.heap.size + 1, 0, none⟩ = some (.slice (some ⟨g, 0, none⟩) n cg) ∧ W'.cell? ⟨w.heap.size + 2, 0, none⟩ = some (.int .i64 s)))
    have HEX := Lib.hid (fun (W' : World) (hb : Below w.heap.size w W') => HE.out i hiD W' hb)
    have HBW : ∀ W' : World, KeptT T (bS + 2) WL W' → Below w.heap.size w W' := fun W' hk => HBL.out.trans (hk.below (fun k h => by rw [hT] at h; have := HSS.out; rcases h with h | h <;> omega) (by have := HSS.out; omega))
    have HBWH := Lib.hid HBW
    have HFITS := Lib.hid (fun (a k : Nat) (ha : a < q) (hk : k < st) => fits_line hnq ha hk hd1)
    have HST := Lib.hid hSt
    have HROW := Lib.hid hRow
    have HKP := Lib.hid hKp
    have HPB := Lib.hid hp
    have HN := Lib.hid (⟨hst1, hq1, hsd, hsn, hdn, hnq⟩ : 1 ≤ st ∧ 1 ≤ q ∧ st * d ≤ n ∧ st ≤ n ∧ d ≤ n ∧ n = st * d * q)
    have HT3 := Lib.hid (⟨hTS, hTg⟩ : T bS ∧ T g)
    obtain ⟨sd, hsd2⟩ : ∃ sd, st * d = sd := ⟨_, rfl⟩
    have HSD := Lib.hid hsd2
    have hsd16 : sd < 9223372036854775808 := Nat.lt_of_le_of_lt (Nat.le_trans (by rw [← hsd2]; exact hsd) hn1.2) (by decide)
    have hsdw : wrap64 ((st : Int) * d) = (sd : Int) := by rw [← Int.natCast_mul, hsd2]; exact wrap64_nat sd hsd16
    have hsdw2 : IntKind.i64.wrap ((st : Int) * d) = (sd : Int) := by rw [← Int.natCast_mul, hsd2]; exact wrapI_nat sd hsd16
    have hsdn : sd ≤ n := by rw [← hsd2]; exact hsd
    have HSDW := Lib.hid (⟨hsdw, hsdw2⟩ : wrap64 ((st : Int) * d) = (sd : Int) ∧ IntKind.i64.wrap ((st : Int) * d) = (sd : Int))
    clear hsd16 hsdw hsdw2
    have hsd1 : 1 ≤ sd := by rw [← hsd2]; have : 1 * 1 ≤ st * d := Nat.mul_le_mul hst1 hd1; omega
    have hnsd := Lib.hid (show n = sd * q by rw [← hsd2]; exact hnq)
    have hwl := Lib.hid hWs
    clear hSt hRow hKp hp hst hq hqd hnq hsd hkc hy0 hT hTS hTg hTn hTB hPL HBW hsd2 hWs hcA hAlt hi hst1 hq1
    gi_wp2
    gi_loopw [15] (fun v15 wr => ∃ a : Nat, a ≤ q ∧ v15 = .int .i64 ((a * sd : Nat) : Int) ∧ Hid (Lin T (bS + 2) W wr bS g gp n st (p i) (dimT F s d st y0 a))) (fun v15 _ => n - (intOf v15).toNat)
    case atStart => exact ⟨0, by omega, by simp, Lib.hid ⟨HST.out, HROW.out, KeptT.refl _ _ _, KeepsOthers.refl _, HPB.out⟩⟩
    case round =>
      obtain ⟨a, ha, rfl, hI⟩ := hrel
      have HKB := Lib.hid (HKP.out.trans hI.out.k)
      obtain ⟨e6, e7⟩ := HKC.out wr HKB.out
      obtain ⟨es, es'⟩ := hI.out.s
      by_cases hlt : a < q
      · have has : Hid ((a + 1) * sd ≤ n) := Lib.hid (by rw [hnsd.out, Nat.mul_comm sd q]; exact Nat.mul_le_mul_right _ (by omega))
        obtain ⟨m0, hm0⟩ : ∃ m0, a * sd = m0 := ⟨_, rfl⟩
        have hm1 : m0 + sd ≤ n := by have := has.out; rw [Nat.succ_mul, hm0] at this; exact this
        have HM0 : Hid (a * (st * d) = m0) := Lib.hid (by rw [HSD.out]; exact hm0)
        have HM1 : Hid ((a + 1) * sd = m0 + sd) := Lib.hid (by rw [Nat.succ_mul, hm0])
        rw [hm0]
        have hmi : (m0 : Int) < n := by omega
        have hn16 : n ≤ 16384 := hn1.2
        have hstn := HN.out.2.2.2.1
        clear hm0 has
        gi_wp2
        gi_loopw [47] (fun v47 wx => ∃ k : Nat, k ≤ st ∧ v47 = .int .i64 k ∧ Hid (Lin T (bS + 2) W wx bS g gp n st (p i) (colsT F s d (a * (st * d)) st (dimT F s d st y0 a) k))) (fun v47 _ => st - (intOf v47).toNat)
        case atStart => exact ⟨0, by omega, rfl, hI⟩
        case round =>
          clear hI HKB e6 e7 es es'
          rename World => wx
          obtain ⟨k, hk, rfl, hI⟩ := hrel
          by_cases hkt : k < st
          · have hki : (k : Int) < st := by omega
            have HKB := Lib.hid (HKP.out.trans hI.out.k)
            obtain ⟨e6, e7⟩ := HKC.out wx HKB.out
            obtain ⟨es, es'⟩ := hI.out.s
            have HF := Lib.hid (HFITS.out a k hlt hkt)
            have hcol : Hid (colsT F s d (a * (st * d)) st (dimT F s d st y0 a) (k + 1) = lineT F s d (m0 + k) st (colsT F s d (a * (st * d)) st (dimT F s d st y0 a) k)) := Lib.hid (by rw [← HM0.out]; rfl)
            obtain ⟨y, hy⟩ : ∃ y, colsT F s d (a * (st * d)) st (dimT F s d st y0 a) k = y := ⟨_, rfl⟩
            rw [hy] at hI hcol
            rw [HM0.out] at HF
            have HNN := Lib.hid (⟨by omega, HN.out.1, by omega, by omega, by omega⟩ : n ≤ 4398046511104 ∧ 1 ≤ st ∧ st ≤ 4398046511104 ∧ d ≤ 4398046511104 ∧ m0 + k ≤ 4398046511104)
            have HKK : Hid (k + 1 ≤ st) := Lib.hid (by omega)
            have HNE : Hid (bS ≠ g ∧ gp ≠ g) := Lib.hid (by have := HSS.out; constructor <;> omega)
            have hb32 : m0 + k ≤ 32768 := Nat.le_trans (Nat.add_le_add (Nat.le_trans (Nat.le_trans (Nat.le_add_right m0 sd) hm1) hn16) (Nat.le_trans (Nat.le_of_lt hkt) (Nat.le_trans hstn hn16))) (by decide : 16384 + 16384 ≤ 32768)
            have hb63 : m0 + k < 9223372036854775808 := Nat.lt_of_le_of_lt hb32 (by decide)
            clear hb32
            have hoff : wrap64 ((m0 : Int) + k) = ((m0 + k : Nat) : Int) := by rw [← Int.natCast_add]; exact wrap64_nat _ hb63
            have hoff2 : IntKind.i64.wrap ((m0 : Int) + k) = ((m0 + k : Nat) : Int) := by rw [← Int.natCast_add]; exact wrapI_nat _ hb63
            clear hb63
            obtain ⟨off, hoffe⟩ : ∃ off, m0 + k = off := ⟨_, rfl⟩
            rw [hoffe] at hoff hoff2 HF HNN hcol
            clear hy hoffe
            gi_wp2_with fail
            refine ⟨trivial, (CallsIn.inRound l (callsIn_wide.2 (GatherC_any (some ⟨g, 0, none⟩) n cg off st d y wx hI.out.row.cs HNN.out.1 HNN.out.2.1 HNN.out.2.2.1 HNN.out.2.2.2.1 HNN.out.2.2.2.2 HF.out))).mono ?_⟩
            rintro e w1 ⟨rfl, hz1, hr1, hb1⟩
            have HI1 := Lib.hid (hI.out.below hb1 hwl.out)
            have HKB1 := Lib.hid (HKP.out.trans HI1.out.k)
            obtain ⟨e6', e7'⟩ := HKC.out w1 HKB1.out
            obtain ⟨p0, p1, p2, p3⟩ := HI1.out.p
            have HR1 := Lib.hid hr1
            clear hb1 hr1 hz1 e6 e7 es es'
            gi_wp2_with fail
            have hex := HEX.out w1 (HBWH.out w1 HKB1.out) (some ⟨wx.heap.size, 0, none⟩) d (gathT y off st) HR1.out.cs
            unfold PQ.v at hex
            refine ⟨trivial, (CallsIn.inRound l (callsIn_wide.2 hex)).mono ?_⟩
            rintro e w2 ⟨A2, c2, e2, c2', rfl, hcs2, hfr2, hb2⟩
            have HI2 := Lib.hid (HI1.out.below hb2 hwl.out)
            have HKB2 := Lib.hid (HKP.out.trans HI2.out.k)
            obtain ⟨e6, e7⟩ := HKC.out w2 HKB2.out
            obtain ⟨es, es'⟩ := HI2.out.s
            have HCS := Lib.hid hcs2
            have hgw : g < w1.heap.size := by obtain ⟨u, hc, -⟩ := HI1.out.row 0 hn1.1; exact World.block_lt_of_cell? _ _ hc
            have HFR := Lib.hid (fun b o (e : A2 = some ⟨b, o, none⟩) => (fun h => by have h1 := hfr2 b o e; rw [h] at h1; exact absurd hgw (Nat.not_lt.2 h1) : b ≠ g))
            have hlin : Hid (lineT F s d off st y = scatT y (F s (gathT y off st)) off st (if guardE (gathT y off st) d = 0 then d else 0)) := Lib.hid rfl
            obtain ⟨m, hm⟩ : ∃ m, (if guardE (gathT y off st) d = 0 then d else 0) = m := ⟨_, rfl⟩
            have hmd : m = 0 ∨ m = d := by rw [← hm]; split <;> simp
            rw [hm] at HCS hlin
            rw [hm]
            have HFM : Hid (Fits n off st m ∧ m ≤ 4398046511104) := Lib.hid (by
              rcases hmd with h | h
              · exact ⟨.inl h, by rw [h]; exact Nat.zero_le _⟩
              · rw [h]; exact ⟨HF.out, HNN.out.2.2.2.1⟩)
            clear hex hcs2 hfr2 hb2 hm hmd hgw p0 p1 p2 p3 e6' e7'
            gi_wp2_with fail
            refine ⟨trivial, (CallsIn.inRound l (callsIn_wide.2 (ScatterC_any g n cg A2 m c2' off st y (F s (gathT y off st)) w2 HI2.out.row HCS.out (fun _ b o e => HFR.out b o e) HNN.out.1 HFM.out.2 HNN.out.2.1 HNN.out.2.2.1 HNN.out.2.2.2.2 HFM.out.1))).mono ?_⟩
            rintro e w3 ⟨rfl, hr3, ho3⟩
            have HI3 : Hid (Lin T (bS + 2) W w3 bS g gp n st (p i) (colsT F s d (a * (st * d)) st (dimT F s d st y0 a) (k + 1))) := Lib.hid (by
              rw [hcol.out, hlin.out]
              exact HI2.out.put ho3 hr3 HT3.out.2 hwl.out HNE.out.1 HNE.out.2 hn1.1)
            clear hr3 ho3 e6 e7 es es' hoff hoff2
            gi_wp2
            exact ⟨⟨k + 1, HKK.out, by go_num, HI3⟩, by simp [intOf]; omega⟩
          · obtain rfl : k = st := by omega
            have HI4 : Hid (Lin T (bS + 2) W wx bS g gp n k (p i) (dimT F s d k y0 (a + 1))) := hI
            obtain ⟨es, es'⟩ := HI4.out.s
            have hw63 : wrap64 ((m0 : Int) + sd) = ((m0 + sd : Nat) : Int) := by rw [← Int.natCast_add]; exact wrap64_nat _ (Nat.lt_of_le_of_lt (Nat.le_trans hm1 hn16) (by decide))
            have hw632 : IntKind.i64.wrap ((m0 : Int) + sd) = ((m0 + sd : Nat) : Int) := by rw [← Int.natCast_add]; exact wrapI_nat _ (Nat.lt_of_le_of_lt (Nat.le_trans hm1 hn16) (by decide))
            have HMS := Lib.hid (show ((m0 + sd : Nat) : Int) = (((a + 1) * sd : Nat) : Int) by rw [HM1.out])
            have HAQ : Hid (a + 1 ≤ q) := Lib.hid (by omega)
            obtain ⟨hsdw, hsdw2⟩ := HSDW.out
            gi_wp2
            clear hsdw hsdw2 hw63 hw632
            exact ⟨⟨a + 1, HAQ.out, by rw [← HMS.out, Int.natCast_add], HI4⟩, by simp [intOf]; omega⟩
      · obtain rfl : a = q := by omega
        have hna : ((a * sd : Nat) : Int) = n := by rw [hnsd.out, Nat.mul_comm]
        rw [hna]
        have HLS := Lib.hid hI.out
        have hset : Hid (SBox (wr.setCell ⟨bS, 0, none⟩ (.int .i64 (sd : Nat))) bS (.int .i64 (sd : Nat))) := Lib.hid ⟨World.cell?_setCell_same _ _ _ es, by rw [World.frozen?_setCell]; exact es'⟩
        have hos : OnlyB bS wr (wr.setCell ⟨bS, 0, none⟩ (.int .i64 (sd : Nat))) := (OnlyB.refl bS wr).setCell _ _ _
        have HFIN : Hid (KeepsFrom WL.heap.size W (wr.setCell ⟨bS, 0, none⟩ (.int .i64 (sd : Nat))) ∧ KeptT T (bS + 2) W (wr.setCell ⟨bS, 0, none⟩ (.int .i64 (sd : Nat))) ∧ ((SBox (wr.setCell ⟨bS, 0, none⟩ (.int .i64 (sd : Nat))) bS (.int .i64 ((d ^ (pre ++ [xi]).length : Nat) : Int)) ∧ RowC (wr.setCell ⟨bS, 0, none⟩ (.int .i64 (sd : Nat))) g n (roundsC F s d n x (pre ++ [xi]).length)) ∧ KeptT T (bS + 2) WL (wr.setCell ⟨bS, 0, none⟩ (.int .i64 (sd : Nat))))) := Lib.hid (by
          have hk := hI.out.k.trans (KeptT.of_only hos HT3.out.1 (Nat.le_trans hwl.out hI.out.k.size))
          refine ⟨(hI.out.o.trans (others_only hos es)).from _, hk, ⟨?_, ?_⟩, HKP.out.trans hk⟩
          · rw [hnext.out.1, HSD.out]; exact hset.out
          · rw [hnext.out.2]; exact hI.out.row.only hos (by have := HSS.out; omega))
        have hlt0 : ¬ (n : Int) < n := by omega
        obtain ⟨hsdw, hsdw2⟩ := HSDW.out
        clear hI hset hos HLS HKB
        gi_wp2
        exact HFIN.out
  case done =>
    rintro D' ys W hD hu ⟨⟨hSt, hRow⟩, hKp⟩ hK
    have hlen : ys.length = D := hu.len
    rw [hlen] at hRow
    have HR := Lib.hid hRow
    have h6 : W.cell? ⟨w.heap.size + 1, 0, none⟩ = some (.slice (some ⟨g, 0, none⟩) n cg) := (hKp.cell (p := ⟨w.heap.size + 1, 0, none⟩) (by show w.heap.size + 1 < bS + 2; have := HSS.out; omega) (hTn (w.heap.size + 1) (by omega))).trans HL.out.2.1.1
    have hB : Below w.heap.size w W := HBL.out.trans (hKp.below (fun k hk => by rw [hT] at hk; have := HSS.out; rcases hk with h | h <;> omega) (by have := HSS.out; omega))
    have HB := Lib.hid hB
    have HK := Lib.hid hK
    clear hSt hRow hKp hK hu hT hTS hTg hTn hTB hPL hB
    gi_wp2
    refine ⟨by simp, .inl ⟨_, _, rfl, run_takeDeferred HK.out, ?_⟩⟩
    refine ⟨.tuple #[.slice (some ⟨g, 0, none⟩) n cg, .int .i64 0], ?_, g, cg, rfl, by have := HSS.out; omega, HR.out.kept (grownBy_putObj' _ D' (.deferred none)) (fun r e => by cases e; exact ⟨_, HK.out, rfl⟩), HB.out.trans (belowK_b (w := w) (Nat.le_refl _) W D' _ _ (by have := HBL.out.size; omega) HK.out rfl rfl)⟩
    simp [results, Try.f9, go_sem]
  case stop =>
    rintro D' c' pre W hD hpre h hK
    exact h.elim
end Go.Proofs.Ytbobmhobaaeohaa
