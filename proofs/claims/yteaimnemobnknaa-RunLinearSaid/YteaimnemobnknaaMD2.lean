/- The statement's elements, same. -/
import Derived.Test.YteaimnemobnknaaD2
import Derived.Test.YteaimnemobnknaaMC6
set_option linter.unusedSimpArgs false
set_option linter.unusedVariables false
namespace Go.Proofs.Yteaimnemobnknaa
open Go.RowKit Go.Lib

/-- Numbers that an int64 can be. -/
def Rng (f : Nat → Int) : Prop := ∀ i, -9223372036854775808 ≤ f i ∧ f i ≤ 9223372036854775807
/-- Remainders, noughts behind them. -/
def elF (q m : Nat) (f : Nat → Int) : Nat → Int := fun i => if i < m then f i % (q : Int) else 0
theorem Row.upto {w : World} {b n k : Nat} {G : Nat → Int} (h : Row w b n (updT (upTo k G) k (G k))) : Row w b n (upTo (k + 1) G) := h.congr fun i hi => by
  unfold updT upTo
  by_cases h1 : i = k
  · subst h1; rw [if_pos rfl, if_pos (by omega)]
  · rw [if_neg h1]
    by_cases h2 : i < k
    · rw [if_pos h2, if_pos (by omega)]
    · rw [if_neg h2, if_neg (by omega)]
/-- A row as it is filled with remainders. -/
def elU (q k : Nat) (f : Nat → Int) : Nat → Int := fun i => if i < k then f i % (q : Int) else 0
theorem keep_cell' {c : Nat} {W w1 : World} (hb : Below c W w1) {b o : Nat} {v : Value} (h : W.cell? ⟨b, o, none⟩ = some v) (hc : W.heap.size = c := by rfl) : w1.cell? ⟨b, o, none⟩ = some v := by subst hc; exact keep_cell hb h

set_option maxRecDepth 100000 in
set_option maxHeartbeats 2000000 in
theorem elements18 (q v N : Nat) (q1 : 1 ≤ q) (hq : q ≤ 4611686018427387904) (A : Option Addr) (m c n : Nat) (f : Nat → Int) (w : World) (hI : IntsAt w A m f) (hR : Rng f) (hm : m ≤ 1125899906842624) (hn : n ≤ 1048576) :
    Calls Try.prog 21 #[rgV q v N, .slice A m c, .int .i64 n] w fun z w' => z = .returned (.slice (some ⟨w.heap.size + 1, 0, none⟩) n n) ∧ Row w' (w.heap.size + 1) n (elF q m f) ∧ Below w.heap.size w w' := by
  have HI := Lib.hid hI
  have HR := Lib.hid hR
  have hmk := mk_int64 n (by omega)
  have hT := Tri.new w q v N 35
  obtain ⟨W0, hW0⟩ : ∃ W0, W0 = w.alloc (.cells #[.int .i64 q, .int .i64 v, .int .i64 N] 35) := ⟨_, rfl⟩
  have hb0 : Below w.heap.size w W0 := by rw [hW0]; exact (Below.refl _ w).alloc (Nat.le_refl _) _
  have hs0 : W0.heap.size = w.heap.size + 1 := by rw [hW0]; simp
  rw [← hW0] at hT
  have HT := Lib.hid hT
  have HB0 := Lib.hid hb0
  clear hI hR hT hb0
  go_enter Try.func21, Try.ntmps21
  go_wp2
  rw [← hW0]
  have hz := zs_row n W0 2
  rw [hs0] at hz
  have HZ : Hid (Row (W0.alloc (.cells (zs n) 2)) (w.heap.size + 1) n (elU q 0 f)) := Lib.hid (hz.congr fun i _ => by unfold elU; rw [if_neg (by omega)])
  have HB1 : Hid (Below w.heap.size w (W0.alloc (.cells (zs n) 2)) ∧ Tri (W0.alloc (.cells (zs n) 2)) w.heap.size q v N) := Lib.hid ⟨HB0.out.alloc (by omega) _, by
    have hb : Below W0.heap.size W0 (W0.alloc (.cells (zs n) 2)) := (Below.refl _ W0).alloc (Nat.le_refl _) _
    exact ⟨keep_cell hb HT.out.1, keep_cell hb HT.out.2.1, keep_cell hb HT.out.2.2⟩⟩
  generalize W0.alloc (.cells (zs n) 2) = W1 at *
  clear hz hW0 hs0 HB0 HT
  go_loopw [8] (fun vi wr => ∃ k : Nat, k ≤ n ∧ k ≤ m ∧ vi = .int .i64 k ∧ Hid (Row wr (w.heap.size + 1) n (elU q k f)) ∧ Hid (Below w.heap.size w wr) ∧ Hid (Tri wr w.heap.size q v N)) (fun vi _ => n - (intOf vi).toNat)
  case atStart => exact ⟨0, Nat.zero_le _, Nat.zero_le _, rfl, HZ, Lib.hid HB1.out.1, Lib.hid HB1.out.2⟩
  case round =>
    clear HZ HB1
    obtain ⟨k, hk, hkm, rfl, hr, hb, T⟩ := hrel
    by_cases hlt : k < n
    · have hki : (k : Int) < n := by omega
      by_cases hlm : k < m
      · have hkm2 : (k : Int) < m := by omega
        obtain ⟨bI, oI, rfl, hc0⟩ := HI.out k hlm
        have hc := keep_cell' hb.out hc0
        have HRE := Lib.hid (fun w => Rest_any (f k) q w (by omega) (by omega) (HR.out k).1 (HR.out k).2)
        go_upto_region 5 with fail
        refine wp_region_S (fun w' => w'.cell? ⟨bI, oI + k, none⟩ = some (.int .i64 (f k)) ∧ w'.cell? ⟨w.heap.size, 0, none⟩ = some (.int .i64 q) ∧ Hid (Row w' (w.heap.size + 1) n (elU q k f)) ∧ Hid (Below w.heap.size w w')) 10 (by kernel_rfl) ?_
        have hS0 := (⟨hc, T.out.1, Lib.hid hr.out.drew, Lib.hid (hb.out.trans (Below.refl _ wr).drew)⟩ : (fun w' => w'.cell? ⟨bI, oI + k, none⟩ = some (.int .i64 (f k)) ∧ w'.cell? ⟨w.heap.size, 0, none⟩ = some (.int .i64 q) ∧ Hid (Row w' (w.heap.size + 1) n (elU q k f)) ∧ Hid (Below w.heap.size w w')) wr.drew)
        refine wpAnyS_take (i := 0) (v := ?_) (by kernel_rfl) rfl (fun _ _ _ h => h) rfl hS0 (fun w hSw => by (try dsimp only at hSw); go_simp; try with_reducible rfl) ?_
        try simp only [List.getElem_toArray, List.getElem_cons_zero, List.getElem_cons_succ, Act.put, List.setIfInBounds_toArray, List.set_cons_zero, List.set_cons_succ]
        refine wpAnyS_take (i := 1) (v := ?_) (by kernel_rfl) rfl (fun _ _ _ h => h) rfl hS0 (fun w hSw => by (try dsimp only at hSw); go_simp; try with_reducible rfl) ?_
        try simp only [List.getElem_toArray, List.getElem_cons_zero, List.getElem_cons_succ, Act.put, List.setIfInBounds_toArray, List.set_cons_zero, List.set_cons_succ]
        refine wpAnyS_take (i := 2) (v := ?_) (by kernel_rfl) rfl (fun _ _ _ h => h) rfl hS0 (fun w hSw => by (try dsimp only at hSw); go_simp; try with_reducible rfl) ?_
        try simp only [List.getElem_toArray, List.getElem_cons_zero, List.getElem_cons_succ, Act.put, List.setIfInBounds_toArray, List.set_cons_zero, List.set_cons_succ]
        refine wpAnyS_take (i := 3) (v := ?_) (by kernel_rfl) rfl (fun _ _ _ h => h) rfl hS0 (fun w hSw => by (try dsimp only at hSw); go_simp; try with_reducible rfl) ?_
        try simp only [List.getElem_toArray, List.getElem_cons_zero, List.getElem_cons_succ, Act.put, List.setIfInBounds_toArray, List.set_cons_zero, List.set_cons_succ]
        refine wpAnyS_take (i := 4) (v := ?_) (by kernel_rfl) rfl (fun _ _ _ h => h) rfl hS0 (fun w hSw => by (try dsimp only at hSw); go_simp; try with_reducible rfl) ?_
        try simp only [List.getElem_toArray, List.getElem_cons_zero, List.getElem_cons_succ, Act.put, List.setIfInBounds_toArray, List.set_cons_zero, List.set_cons_succ]
        refine wpAnyS_take (i := 5) (v := ?_) (by kernel_rfl) rfl (fun _ _ _ h => h) rfl hS0 (fun w hSw => by (try dsimp only at hSw); go_simp; try with_reducible rfl) ?_
        try simp only [List.getElem_toArray, List.getElem_cons_zero, List.getElem_cons_succ, Act.put, List.setIfInBounds_toArray, List.set_cons_zero, List.set_cons_succ]
        refine wpAnyS_take (i := 6) (v := ?_) (by kernel_rfl) rfl (fun _ _ _ h => h) rfl hS0 (fun w hSw => by (try dsimp only at hSw); go_simp; try with_reducible rfl) ?_
        try simp only [List.getElem_toArray, List.getElem_cons_zero, List.getElem_cons_succ, Act.put, List.setIfInBounds_toArray, List.set_cons_zero, List.set_cons_succ]
        refine wpAnyS_take (i := 7) (v := ?_) (by kernel_rfl) rfl (fun _ _ _ h => h) rfl hS0 (fun w hSw => by (try dsimp only at hSw); go_simp; try with_reducible rfl) ?_
        try simp only [List.getElem_toArray, List.getElem_cons_zero, List.getElem_cons_succ, Act.put, List.setIfInBounds_toArray, List.set_cons_zero, List.set_cons_succ]
        refine wpAnyS_take (i := 8) (v := ?_) (by kernel_rfl) rfl (fun _ _ _ h => h) rfl hS0 (fun w hSw => by (try dsimp only at hSw); go_simp; try with_reducible rfl) ?_
        try simp only [List.getElem_toArray, List.getElem_cons_zero, List.getElem_cons_succ, Act.put, List.setIfInBounds_toArray, List.set_cons_zero, List.set_cons_succ]
        refine wpAnyS_one (i := 9) (by kernel_rfl) rfl rfl (fun K hK => ?_)
        go_simp
        refine (HRE.out _).mono ?_
        rintro z w' ⟨rfl, rfl⟩
        have hS1 := hS0
        refine hK.out _ _ (fun _ => hS1) ?_
        clear hK K
        try simp only [List.getElem_toArray, List.getElem_cons_zero, List.getElem_cons_succ, Act.put, List.setIfInBounds_toArray, List.set_cons_zero, List.set_cons_succ]
        refine wpAnyS_end 2 10 (by kernel_rfl) (by decide) rfl ?_
        simp only [List.toList_toArray, List.drop_succ_cons, List.drop_zero]
        obtain ⟨s1, s2, s3, s4⟩ := hS1
        obtain ⟨r1, r2⟩ := s3.out k hlt
        have HN := Lib.hid ((s3.out.set hlt (f k % (q : Int))).congr (g := elU q (k + 1) f) fun i hi => by
          unfold updT elU
          by_cases h1 : i = k
          · subst h1; rw [if_pos rfl, if_pos (by omega)]
          · rw [if_neg h1]
            by_cases h2 : i < k
            · rw [if_pos h2, if_pos (by omega)]
            · rw [if_neg h2, if_neg (by omega)])
        have HB2 : Hid (Below w.heap.size w (wr.drew.setCell ⟨w.heap.size + 1, k, none⟩ (.int .i64 (f k % (q : Int))))) := Lib.hid (s4.out.setCell (p := ⟨w.heap.size + 1, k, none⟩) (by show w.heap.size ≤ w.heap.size + 1; omega) _)
        have HT2 : Hid (Tri (wr.drew.setCell ⟨w.heap.size + 1, k, none⟩ (.int .i64 (f k % (q : Int)))) w.heap.size q v N) := Lib.hid (Tri.other (w := wr.drew) T.out _ (by omega))
        clear s1 s2 s3 s4 hS0 hc hc0
        go_wp2
        exact ⟨⟨k + 1, by omega, by omega, by go_num, HN, HB2, HT2⟩, by simp [intOf]; omega⟩
      · have hkm2 : ¬ (k : Int) < m := by omega
        have HF := Lib.hid (hr.out.congr (g := elF q m f) fun i hi => by
          unfold elU elF
          by_cases h2 : i < k
          · rw [if_pos h2, if_pos (by omega)]
          · rw [if_neg h2, if_neg (by omega)])
        go_wp2
        go_ret
        exact ⟨rfl, HF.out, hb.out⟩
    · obtain rfl : k = n := by omega
      have HF := Lib.hid (hr.out.congr (g := elF q m f) fun i hi => by
        unfold elU elF
        rw [if_pos hi, if_pos (by omega)])
      go_wp2
      go_ret
      exact ⟨rfl, HF.out, hb.out⟩

/-- Are rows the same? -/
def sameB2 (n m : Nat) (f g : Nat → Int) : Bool := decide (n = m ∧ ∀ i, i < n → f i = g i)
set_option maxRecDepth 100000 in
set_option maxHeartbeats 2000000 in
theorem same18 (A A' : Option Addr) (n c m c' : Nat) (f g : Nat → Int) (w : World) (hA : IntsAt w A n f) (hA' : IntsAt w A' m g) (hn : n ≤ 1125899906842624) (hm : m ≤ 1125899906842624) :
    Calls Try.prog 22 #[.slice A n c, .slice A' m c'] w fun z w' => z = .returned (.bool (sameB2 n m f g)) ∧ Qt w w' := by
  have HA := Lib.hid hA
  have HA' := Lib.hid hA'
  clear hA hA'
  by_cases hnm : n = m
  · subst hnm
    go_enter Try.func22, Try.ntmps22
    go_wp2
    go_loopw [5, 13] (fun _ vi wr => ∃ k : Nat, k ≤ n ∧ vi = .int .i64 k ∧ Hid (∀ i, i < k → f i = g i) ∧ Hid (Qt w wr)) (fun _ vi _ => n - (intOf vi).toNat)
    case atStart => exact ⟨0, Nat.zero_le _, rfl, Lib.hid (fun i hi => by omega), Lib.hid (Qt.refl w)⟩
    case round =>
      obtain ⟨k, hk, rfl, he, hq⟩ := hrel
      by_cases hlt : k < n
      · have hki : (k : Int) < n := by omega
        obtain ⟨b1, o1, rfl, c1⟩ := HA.out.keep hq.out.below k hlt
        obtain ⟨b2, o2, rfl, c2⟩ := HA'.out.keep hq.out.below k hlt
        go_upto_region 6 with fail
        refine wp_region_S (fun w' => w'.cell? ⟨b1, o1 + k, none⟩ = some (.int .i64 (f k)) ∧ w'.cell? ⟨b2, o2 + k, none⟩ = some (.int .i64 (g k))) 8 (by kernel_rfl) ?_
        have hS0 := (⟨c1, c2⟩ : (fun w' => w'.cell? ⟨b1, o1 + k, none⟩ = some (.int .i64 (f k)) ∧ w'.cell? ⟨b2, o2 + k, none⟩ = some (.int .i64 (g k))) wr.drew)
        refine wpAnyS_take (i := 0) (v := ?_) (by kernel_rfl) rfl (fun _ _ _ h => h) rfl hS0 (fun w hSw => by (try dsimp only at hSw); go_simp; try with_reducible rfl) ?_
        try simp only [List.getElem_toArray, List.getElem_cons_zero, List.getElem_cons_succ, Act.put, List.setIfInBounds_toArray, List.set_cons_zero, List.set_cons_succ]
        refine wpAnyS_take (i := 1) (v := ?_) (by kernel_rfl) rfl (fun _ _ _ h => h) rfl hS0 (fun w hSw => by (try dsimp only at hSw); go_simp; try with_reducible rfl) ?_
        try simp only [List.getElem_toArray, List.getElem_cons_zero, List.getElem_cons_succ, Act.put, List.setIfInBounds_toArray, List.set_cons_zero, List.set_cons_succ]
        refine wpAnyS_take (i := 2) (v := ?_) (by kernel_rfl) rfl (fun _ _ _ h => h) rfl hS0 (fun w hSw => by (try dsimp only at hSw); go_simp; try with_reducible rfl) ?_
        try simp only [List.getElem_toArray, List.getElem_cons_zero, List.getElem_cons_succ, Act.put, List.setIfInBounds_toArray, List.set_cons_zero, List.set_cons_succ]
        refine wpAnyS_take (i := 3) (v := ?_) (by kernel_rfl) rfl (fun _ _ _ h => h) rfl hS0 (fun w hSw => by (try dsimp only at hSw); go_simp; try with_reducible rfl) ?_
        try simp only [List.getElem_toArray, List.getElem_cons_zero, List.getElem_cons_succ, Act.put, List.setIfInBounds_toArray, List.set_cons_zero, List.set_cons_succ]
        refine wpAnyS_take (i := 4) (v := ?_) (by kernel_rfl) rfl (fun _ _ _ h => h) rfl hS0 (fun w hSw => by (try dsimp only at hSw); go_simp; try with_reducible rfl) ?_
        try simp only [List.getElem_toArray, List.getElem_cons_zero, List.getElem_cons_succ, Act.put, List.setIfInBounds_toArray, List.set_cons_zero, List.set_cons_succ]
        refine wpAnyS_take (i := 5) (v := ?_) (by kernel_rfl) rfl (fun _ _ _ h => h) rfl hS0 (fun w hSw => by (try dsimp only at hSw); go_simp; try with_reducible rfl) ?_
        try simp only [List.getElem_toArray, List.getElem_cons_zero, List.getElem_cons_succ, Act.put, List.setIfInBounds_toArray, List.set_cons_zero, List.set_cons_succ]
        refine wpAnyS_take (i := 6) (v := ?_) (by kernel_rfl) rfl (fun _ _ _ h => h) rfl hS0 (fun w hSw => by (try dsimp only at hSw); go_simp; try with_reducible rfl) ?_
        try simp only [List.getElem_toArray, List.getElem_cons_zero, List.getElem_cons_succ, Act.put, List.setIfInBounds_toArray, List.set_cons_zero, List.set_cons_succ]
        refine wpAnyS_take (i := 7) (v := ?_) (by kernel_rfl) rfl (fun _ _ _ h => h) rfl hS0 (fun w hSw => by (try dsimp only at hSw); go_simp; try with_reducible rfl) ?_
        try simp only [List.getElem_toArray, List.getElem_cons_zero, List.getElem_cons_succ, Act.put, List.setIfInBounds_toArray, List.set_cons_zero, List.set_cons_succ]
        refine wpAnyS_end 1 8 (by kernel_rfl) (by decide) rfl ?_
        simp only [List.toList_toArray, List.drop_succ_cons, List.drop_zero]
        clear hS0
        have HQ : Hid (Qt w wr.drew) := Lib.hid (hq.out.trans ⟨1, rfl⟩)
        by_cases hfg : f k = g k
        · have hb : (f k != g k) = false := by simp [hfg]
          have HE : Hid (∀ i, i < k + 1 → f i = g i) := Lib.hid (fun i hi => by
            by_cases h : i = k
            · rw [h]; exact hfg
            · exact he.out i (by omega))
          clear c1 c2 hfg
          go_wp2
          exact ⟨⟨k + 1, by omega, by go_num, HE, HQ⟩, by simp [intOf]; omega⟩
        · have hb : (f k != g k) = true := by simp [hfg]
          have hs : sameB2 n n f g = false := by
            unfold sameB2
            exact decide_eq_false (fun h => hfg (h.2 k hlt))
          clear c1 c2
          go_wp2
          go_ret
          exact ⟨by rw [hs]; rfl, HQ.out⟩
      · obtain rfl : k = n := by omega
        have hs : sameB2 k k f g = true := by
          unfold sameB2
          exact decide_eq_true ⟨rfl, he.out⟩
        go_wp2
        go_ret
        exact ⟨by rw [hs]; rfl, hq.out⟩
  · have hnb : ¬ (n : Int) = m := by omega
    have hs : sameB2 n m f g = false := by
      unfold sameB2
      exact decide_eq_false (fun h => hnm h.1)
    rw [hs]
    go_enter Try.func22, Try.ntmps22
    go_wp2
    go_ret
    exact ⟨rfl, Qt.refl w⟩
end Go.Proofs.Yteaimnemobnknaa
/- The document's transform over a field, and back. -/
set_option linter.unusedSimpArgs false
set_option linter.unusedVariables false
namespace Go.Proofs.Yteaimnemobnknaa
open Go.RowKit Go.Lib

/-- The sum and the root behind k rounds. -/
def rdL (q step r0 : Nat) (f : Nat → Int) : Nat → Nat × Nat
  | 0 => (0, r0)
  | k + 1 => (((rdL q step r0 f k).1 + (f k % (q : Int)).toNat * (rdL q step r0 f k).2 % q) % q, (rdL q step r0 f k).2 * step % q)
/-- One number of the document's transform. -/
def rdF (q v o n : Nat) (s : Int) (f : Nat → Int) (j : Nat) : Nat := (rdL q (rootR q v o (unitI s * (j : Int)) n) (if rootR q v o (unitI s * (j : Int)) n = 0 then 0 else 1) f n).1
theorem rdL_lt {q step r0 : Nat} (q1 : 2 ≤ q) (h0 : r0 ≤ 1) (f : Nat → Int) (k : Nat) : (rdL q step r0 f k).1 < q ∧ (rdL q step r0 f k).2 < q := by
  cases k with
  | zero => exact ⟨by show 0 < q; omega, by show r0 < q; omega⟩
  | succ k => exact ⟨Nat.mod_lt _ (by omega), Nat.mod_lt _ (by omega)⟩
theorem bs_int64 (v : Int) (w : World) : (Instr.buildSlice 38 1 #[(0, .int .i64 v)]).run Try.prog w = .ok (.slice (some ⟨w.heap.size, 0, none⟩) 1 1) (w.alloc (.cells #[.int .i64 v] 2)) := by
  obtain ⟨i0, hi, hz0, hz1, hz2⟩ := info_parts info_int64
  refine run_buildSlice w 38 2 1 _ #[.int .i64 v] i0 _ Try.underlying38 hi hz0 (by rw [hz1]; decide) (by rw [hz1]; decide) ?_
  rw [hz1]
  have hr : Array.range 1 = #[0] := by decide
  simp [Instr.fill, Value.cells, hr]
/-- Integers as cells. -/
def intsV (n : Nat) (F : Nat → Int) : List Value := (List.range n).map fun i => .int .i64 (F i)
theorem intsV_succ (n : Nat) (F : Nat → Int) : intsV (n + 1) F = intsV n F ++ [.int .i64 (F n)] := by unfold intsV; rw [List.range_succ, List.map_append]; rfl
theorem intsV_at (n : Nat) (F : Nat → Int) (i : Nat) (h : i < n) : (intsV n F)[i]? = some (.int .i64 (F i)) := by unfold intsV; rw [List.getElem?_map, List.getElem?_range h]; rfl
theorem intsV_len (n : Nat) (F : Nat → Int) : (intsV n F).length = n := by simp [intsV]
theorem owns_ints {w : World} {base n : Nat} {e : TypeId} {v : Value} {F : Nat → Int} (h : w.ownsRow base e 1 v n (intsV n F)) : ∃ A c, v = .slice A n c ∧ IntsAt w A n F ∧ ∀ b o, A = some ⟨b, o, none⟩ → base ≤ b := by
  obtain ⟨A, c, rfl, hc, -, -, hb⟩ := owns_cells h
  refine ⟨A, c, rfl, fun i hi => hc i _ (intsV_at n F i hi), hb⟩
theorem one_int (x : Int) (u : Value) (h : u ∈ [Value.int .i64 x]) : u.oneCell' = true := by
  simp only [List.mem_cons, List.not_mem_nil, or_false] at h
  subst h
  rfl
theorem cells_one (w : World) (a : Value) (t : TypeId) (n : Nat) (hn : n = w.heap.size) (j : Nat) (u : Value) (h : [a][j]? = some u) : (w.alloc (.cells #[a] t)).cell? ⟨n, j, none⟩ = some u := by
  subst hn
  match j, h with
  | 0, h => injection h with h; subst h; go_simp
  | _ + 1, h => simp at h
theorem Tri.below {w w' : World} {b : Nat} {x y z : Int} (h : Tri w b x y z) (hb : Below w.heap.size w w') : Tri w' b x y z := ⟨keep_cell hb h.1, keep_cell hb h.2.1, keep_cell hb h.2.2⟩
theorem Tri.qt {w w' : World} {b : Nat} {x y z : Int} (h : Tri w b x y z) (hq : Qt w w') : Tri w' b x y z := h.below hq.below
theorem Tri.grown {w w' : World} {b : Nat} {row : Option Nat} {x y z : Int} (h : Tri w b x y z) (hg : w.grownBy w' row) (hne : row ≠ some b) : Tri w' b x y z := ⟨grown_cell hg h.1 hne, grown_cell hg h.2.1 hne, grown_cell hg h.2.2 hne⟩

set_option maxRecDepth 100000 in
set_option maxHeartbeats 4000000 in
theorem RDirect_any (q v o : Nat) (q1 : 2 ≤ q) (hq : q ≤ 4503599627370496) (hv : v ≤ 4503599627370496) (ho : o ≤ 4503599627370496) (A : Option Addr) (n c : Nat) (s : Int) (f : Nat → Int) (w : World) (hI : IntsAt w A n f) (hR : Rng f) (hn : n ≤ 1048576) :
    Calls Try.prog 53 #[fdV q v o, .slice A n c, .int .i64 s] w fun z w' => ∃ A' c', z = .returned (.slice A' n c') ∧ IntsAt w' A' n (fun j => ((rdF q v o n s f j : Nat) : Int)) ∧ (∀ b o, A' = some ⟨b, o, none⟩ → w.heap.size ≤ b) ∧ Below w.heap.size w w' := by
  have HI := Lib.hid hI
  have HR := Lib.hid hR
  have hT := Tri.new w q v o 33
  obtain ⟨W0, hW0⟩ : ∃ W0, W0 = w.alloc (.cells #[.int .i64 q, .int .i64 v, .int .i64 o] 33) := ⟨_, rfl⟩
  have hb0 : Below w.heap.size w W0 := by rw [hW0]; exact (Below.refl _ w).alloc (Nat.le_refl _) _
  have hs0 : W0.heap.size = w.heap.size + 1 := by rw [hW0]; simp
  rw [← hW0] at hT
  have HT := Lib.hid hT
  have HB0 := Lib.hid hb0
  have HS0 := Lib.hid hs0
  have hu : unitI s = 1 ∨ unitI s = -1 := by unfold unitI; split <;> simp
  obtain ⟨F, hF⟩ : ∃ F : Nat → Int, F = fun j => ((rdF q v o n s f j : Nat) : Int) := ⟨_, rfl⟩
  rw [← hF]
  have HF := Lib.hid hF
  clear hI hR hT hb0 hs0 hF
  go_enter Try.func53, Try.ntmps53
  go_upto_region 3 with fail
  rw [← hW0]
  clear hW0
  go_cut [19] from 18 to 18 (fun s19 wx => s19 = .bool (decide (s < 0)) ∧ W0 = wx)
  case first =>
    go_wp2_with fail
    go_meet
    exact ⟨rfl, rfl⟩
  case rest =>
  obtain ⟨rfl, rfl⟩ := hcut
  apply_assumption
  go_cut [8] from 19 to 19 (fun s8 wx => s8 = .int .i64 (unitI s) ∧ W0 = wx)
  case first =>
    by_cases hs : s < 0
    · have e : unitI s = -1 := by unfold unitI; rw [if_pos hs]
      go_wp2
      go_meet
      exact ⟨by rw [e], rfl⟩
    · have e : unitI s = 1 := by unfold unitI; rw [if_neg hs]
      go_wp2
      go_meet
      exact ⟨by rw [e], rfl⟩
  case rest =>
  obtain ⟨rfl, rfl⟩ := hcut
  apply_assumption
  obtain ⟨u, hu0⟩ : ∃ u, unitI s = u := ⟨_, rfl⟩
  have HU := Lib.hid hu0
  rw [hu0] at hu ⊢
  have bs := bs_int64
  clear hu0
  go_wp2
  go_loopw [9, 10, 11, 12, 13, 14, 15] (fun v9 v10 v11 v12 v13 v14 v15 wr => ∃ j : Nat, j ≤ n ∧ v10 = .int .i64 j ∧ Hid (wr.ownsRow (w.heap.size + 1) 2 1 v9 j (intsV j F)) ∧ Hid (Below (w.heap.size + 1) W0 wr)) (fun _ v10 _ _ _ _ _ _ => n - (intOf v10).toNat)
  case atStart => exact ⟨0, Nat.zero_le _, rfl, Lib.hid ⟨rfl, .inl ⟨rfl, rfl⟩⟩, Lib.hid (Below.refl _ _)⟩
  case round =>
    obtain ⟨j, hj, rfl, hown, hbw⟩ := hrel
    obtain ⟨wo, hwo⟩ : ∃ wo, wo = wr := ⟨_, rfl⟩
    subst hwo
    have hbw1 : Hid (Below w.heap.size w wo) := Lib.hid (HB0.out.trans (hbw.out.mono (by omega)))
    by_cases hlt : j < n
    · have hji : (j : Int) < n := by omega
      have hsz : w.heap.size + 1 ≤ wo.heap.size := by have := hbw.out.size; rw [HS0.out] at this; exact this
      have HTO : Hid (Tri wo w.heap.size q v o) := Lib.hid (HT.out.below (by rw [HS0.out]; exact hbw.out))
      obtain ⟨t0, t1, t2⟩ := HTO.out
      have hwr : wrap64 (u * (j : Int)) = u * (j : Int) := by rcases hu with rfl | rfl <;> (unfold wrap64; omega)
      have hkb : -1048576 ≤ u * (j : Int) ∧ u * (j : Int) ≤ 1048576 := by rcases hu with rfl | rfl <;> omega
      have HRO := Lib.hid (fun w => RRoot_any q v o (u * (j : Int)) n (by omega) (by omega) (by omega) (by omega) (by omega) (by omega) (by omega) (by omega) w)
      have HFJ : Hid (F j = ((rdL q (rootR q v o (u * (j : Int)) n) (if rootR q v o (u * (j : Int)) n = 0 then 0 else 1) f n).1 : Nat)) := Lib.hid (by rw [HF.out, ← HU.out]; rfl)
      have hsl := rootR_lt q v o (by omega) (u * (j : Int)) n
      obtain ⟨kj, hkj⟩ : ∃ kj, u * (j : Int) = kj := ⟨_, rfl⟩
      rw [hkj] at hwr hkb HRO HFJ hsl
      obtain ⟨st, hst⟩ : ∃ st, rootR q v o kj n = st := ⟨_, rfl⟩
      rw [hst] at HRO HFJ hsl
      clear hst
      go_wp2_with fail
      refine (HRO.out _).mono ?_
      rintro z w' ⟨rfl, rfl⟩
      clear HRO t0 t1 t2 hkj hwr
      obtain ⟨r0, hr0⟩ : ∃ r0 : Nat, (if st = 0 then 0 else 1) = r0 := ⟨_, rfl⟩
      rw [hr0] at HFJ
      have hr1 : r0 ≤ 1 := by rw [← hr0]; split <;> omega
      go_upto_region 11 with fail
      go_cut [37] from 36 to 36 (fun s37 wx => s37 = .bool ((st : Int) == 0) ∧ wo = wx)
      case first =>
        go_wp2_with fail
        go_meet
        exact ⟨rfl, rfl⟩
      case rest =>
      obtain ⟨rfl, rfl⟩ := hcut
      apply_assumption
      go_cut [12] from 37 to 37 (fun s12 wx => s12 = .int .i64 r0 ∧ wo = wx)
      case first =>
        by_cases hz : st = 0
        · rw [if_pos hz] at hr0
          subst hr0 hz
          go_wp2
          go_meet
          exact ⟨rfl, rfl⟩
        · rw [if_neg hz] at hr0
          subst hr0
          have hzi : ¬ (st : Int) = 0 := by omega
          have hzb : ((st : Int) == 0) = false := by rw [beq_eq_false_iff_ne]; omega
          go_wp2
          go_meet
          exact ⟨rfl, rfl⟩
      case rest =>
      obtain ⟨rfl, rfl⟩ := hcut
      apply_assumption
      clear hr0
      go_wp2
      go_loopw [12, 13, 14, 15] (fun v12 v13 v14 v15 wr => ∃ k : Nat, k ≤ n ∧ v14 = .int .i64 k ∧ v13 = .int .i64 ((rdL q st r0 f k).1 : Nat) ∧ v12 = .int .i64 ((rdL q st r0 f k).2 : Nat) ∧ Hid (Qt wo wr)) (fun _ _ v14 _ _ => n - (intOf v14).toNat)
      case atStart => exact ⟨0, Nat.zero_le _, rfl, rfl, rfl, Lib.hid (Qt.refl _)⟩
      case round =>
        obtain ⟨k, hk, rfl, rfl, rfl, hqt⟩ := hrel
        by_cases hltk : k < n
        · have hkn : (k : Int) < n := by omega
          obtain ⟨bI, oI, rfl, hc⟩ := (HI.out.keep hbw1.out).keep hqt.out.below k hltk
          have HTQ0 := HTO.out.qt hqt.out
          have HTQ := Lib.hid HTQ0.1
          obtain ⟨hl1, hl2⟩ := rdL_lt (step := st) (r0 := r0) q1 hr1 f k
          have hnx : rdL q st r0 f (k + 1) = (((rdL q st r0 f k).1 + (f k % (q : Int)).toNat * (rdL q st r0 f k).2 % q) % q, (rdL q st r0 f k).2 * st % q) := rfl
          obtain ⟨S, hS⟩ : ∃ S, (rdL q st r0 f k).1 = S := ⟨_, rfl⟩
          obtain ⟨R, hRr⟩ : ∃ R, (rdL q st r0 f k).2 = R := ⟨_, rfl⟩
          rw [hS] at hl1 ⊢
          rw [hRr] at hl2 ⊢
          rw [hS, hRr] at hnx
          clear hS hRr
          have hx := emod_nat (f k) q (by omega)
          obtain ⟨x, hx0, hxl⟩ := hx
          have hxt : (f k % (q : Int)).toNat = x := by omega
          rw [hxt] at hnx
          have HM1 := Lib.hid (fun w => RMul_any (f k) R x R q hx0 (by rw [← Int.natCast_emod, Nat.mod_eq_of_lt hl2]) (by omega) (by omega) (HR.out k).1 (HR.out k).2 (by omega) (by omega) w)
          have HM2 := Lib.hid (fun w => RMul_any R st R st q (by rw [← Int.natCast_emod, Nat.mod_eq_of_lt hl2]) (by rw [← Int.natCast_emod, Nat.mod_eq_of_lt hsl]) (by omega) (by omega) (by omega) (by omega) (by omega) (by omega) w)
          have hpl : x * R % q < q := Nat.mod_lt _ (by omega)
          obtain ⟨p, hp⟩ : ∃ p, x * R % q = p := ⟨_, rfl⟩
          rw [hp] at hnx hpl HM1
          obtain ⟨R2, hR2⟩ : ∃ R2, R * st % q = R2 := ⟨_, rfl⟩
          rw [hR2] at hnx HM2
          have hsm : ((S : Int) + (p : Int)).tmod q = (((S + p) % q : Nat) : Int) := by rw [Int.tmod_eq_emod_of_nonneg (by omega), Int.natCast_emod, Int.natCast_add]
          obtain ⟨S2, hS2⟩ : ∃ S2, (S + p) % q = S2 := ⟨_, rfl⟩
          rw [hS2] at hnx hsm
          have hq0 : ¬ (q : Int) = 0 := by omega
          clear hx0 hxt hp hR2 hS2
          go_upto_region 17 with fail
          refine wp_region_S (fun w' => w'.cell? ⟨bI, oI + k, none⟩ = some (.int .i64 (f k)) ∧ w'.cell? ⟨w.heap.size, 0, none⟩ = some (.int .i64 q)) 7 (by kernel_rfl) ?_
          have hS0 := (⟨hc, HTQ.out⟩ : (fun w' => w'.cell? ⟨bI, oI + k, none⟩ = some (.int .i64 (f k)) ∧ w'.cell? ⟨w.heap.size, 0, none⟩ = some (.int .i64 q)) wr.drew)
          refine wpAnyS_take (i := 0) (v := ?_) (by kernel_rfl) rfl (fun _ _ _ h => h) rfl hS0 (fun w hSw => by (try dsimp only at hSw); go_simp; try with_reducible rfl) ?_
          try simp only [List.getElem_toArray, List.getElem_cons_zero, List.getElem_cons_succ, Act.put, List.setIfInBounds_toArray, List.set_cons_zero, List.set_cons_succ]
          refine wpAnyS_take (i := 1) (v := ?_) (by kernel_rfl) rfl (fun _ _ _ h => h) rfl hS0 (fun w hSw => by (try dsimp only at hSw); go_simp; try with_reducible rfl) ?_
          try simp only [List.getElem_toArray, List.getElem_cons_zero, List.getElem_cons_succ, Act.put, List.setIfInBounds_toArray, List.set_cons_zero, List.set_cons_succ]
          refine wpAnyS_take (i := 2) (v := ?_) (by kernel_rfl) rfl (fun _ _ _ h => h) rfl hS0 (fun w hSw => by (try dsimp only at hSw); go_simp; try with_reducible rfl) ?_
          try simp only [List.getElem_toArray, List.getElem_cons_zero, List.getElem_cons_succ, Act.put, List.setIfInBounds_toArray, List.set_cons_zero, List.set_cons_succ]
          refine wpAnyS_take (i := 3) (v := ?_) (by kernel_rfl) rfl (fun _ _ _ h => h) rfl hS0 (fun w hSw => by (try dsimp only at hSw); go_simp; try with_reducible rfl) ?_
          try simp only [List.getElem_toArray, List.getElem_cons_zero, List.getElem_cons_succ, Act.put, List.setIfInBounds_toArray, List.set_cons_zero, List.set_cons_succ]
          refine wpAnyS_take (i := 4) (v := ?_) (by kernel_rfl) rfl (fun _ _ _ h => h) rfl hS0 (fun w hSw => by (try dsimp only at hSw); go_simp; try with_reducible rfl) ?_
          try simp only [List.getElem_toArray, List.getElem_cons_zero, List.getElem_cons_succ, Act.put, List.setIfInBounds_toArray, List.set_cons_zero, List.set_cons_succ]
          refine wpAnyS_take (i := 5) (v := ?_) (by kernel_rfl) rfl (fun _ _ _ h => h) rfl hS0 (fun w hSw => by (try dsimp only at hSw); go_simp; try with_reducible rfl) ?_
          try simp only [List.getElem_toArray, List.getElem_cons_zero, List.getElem_cons_succ, Act.put, List.setIfInBounds_toArray, List.set_cons_zero, List.set_cons_succ]
          refine wpAnyS_take (i := 6) (v := ?_) (by kernel_rfl) rfl (fun _ _ _ h => h) rfl hS0 (fun w hSw => by (try dsimp only at hSw); go_simp; try with_reducible rfl) ?_
          try simp only [List.getElem_toArray, List.getElem_cons_zero, List.getElem_cons_succ, Act.put, List.setIfInBounds_toArray, List.set_cons_zero, List.set_cons_succ]
          refine wpAnyS_end 2 7 (by kernel_rfl) (by decide) rfl ?_
          simp only [List.toList_toArray, List.drop_succ_cons, List.drop_zero]
          clear hS0
          go_wp2_with fail
          refine (HM1.out _).mono ?_
          rintro z w' ⟨rfl, rfl⟩
          have ht0 : (wr.drew).cell? ⟨w.heap.size, 0, none⟩ = some (.int .i64 q) := HTQ.out
          go_wp2_with fail
          refine (HM2.out _).mono ?_
          rintro z w' ⟨rfl, rfl⟩
          go_wp2
          exact ⟨⟨k + 1, by omega, by go_num, by rw [hnx], by rw [hnx], Lib.hid (hqt.out.trans ⟨1, rfl⟩)⟩, by simp [intOf]; omega⟩
        · obtain rfl : k = n := by omega
          have hown2 := owns_below hown.out hqt.out.below
          have HFV : Hid (F j = ((rdL q st r0 f k).1 : Nat)) := HFJ
          obtain ⟨S, hS⟩ : ∃ S, (rdL q st r0 f k).1 = S := ⟨_, rfl⟩
          rw [hS] at HFV ⊢
          obtain ⟨W2, hW2⟩ : ∃ W2, W2 = wr.alloc (.cells #[.int .i64 S] 2) := ⟨_, rfl⟩
          have hbs : Below wr.heap.size wr W2 := by rw [hW2]; exact (Below.refl _ wr).alloc (Nat.le_refl _) _
          have HNEW : Hid (∀ t x, [Value.int .i64 S][t]? = some x → W2.cell? ⟨wr.heap.size, t, none⟩ = some x) := Lib.hid (by rw [hW2]; exact cells_one _ _ _ _ rfl)
          have HOW := Lib.hid (owns_below hown2 hbs)
          have hszr : w.heap.size + 1 ≤ W2.heap.size := by have := hbs.size; have := hqt.out.below.size; omega
          have HBR : Hid (Below (w.heap.size + 1) W0 W2) := Lib.hid (hbw.out.trans ((hqt.out.below.mono hsz).trans (hbs.mono (by have := hqt.out.below.size; omega))))
          have hjm : j + 1 ≤ 1099511627776 := by omega
          clear hown2 hown hbw hS
          go_wp2_with (at_builtin; rw [← hW2]; refine wpList_appL rfl _ _ 38 2 rfl 1 8 (.int .i64 0) Try.underlying38 info_int64 rfl (by omega) (by omega) (w.heap.size + 1) _ j (intsV j F) rfl HOW.out _ _ [.int .i64 S] rfl rfl HNEW.out (one_int _) hjm hszr ?_; intro g2 cap2 w5 hO2 hG2 hL2)
          have HON : Hid (w5.ownsRow (w.heap.size + 1) 2 1 (.slice (some ⟨g2, 0, none⟩) (j + 1) cap2) (j + 1) (intsV (j + 1) F)) := Lib.hid (by rw [intsV_succ, HFV.out]; exact hO2.out)
          have HBN : Hid (Below (w.heap.size + 1) W0 w5) := Lib.hid (HBR.out.grown hG2.out hszr (fun k e => (World.ownsRow.lt HOW.out k e).1))
          clear hO2 hG2 hL2
          exact ⟨⟨j + 1, by omega, by go_num, HON, HBN⟩, by simp [intOf]; omega⟩
    · obtain rfl : j = n := by omega
      obtain ⟨A', c', hv9, hi9, hb9⟩ := owns_ints hown.out
      subst hv9
      have HI9 := Lib.hid hi9
      go_wp2
      go_ret
      exact ⟨A', c', rfl, HI9.out, fun b o e => by have := hb9 b o e; omega, hbw1.out⟩
end Go.Proofs.Yteaimnemobnknaa
/- The document's Run and Back over a field; its Lcm; orders. -/
set_option linter.unusedSimpArgs false
set_option linter.unusedVariables false
namespace Go.Proofs.Yteaimnemobnknaa
open Go.RowKit Go.Lib

set_option maxRecDepth 100000 in
set_option maxHeartbeats 1000000 in
theorem RRun_any (q v o : Nat) (q1 : 2 ≤ q) (hq : q ≤ 4503599627370496) (hv : v ≤ 4503599627370496) (ho : o ≤ 4503599627370496) (A : Option Addr) (n c : Nat) (s : Int) (f : Nat → Int) (w : World) (hI : IntsAt w A n f) (hR : Rng f) (hn : n ≤ 1048576) :
    Calls Try.prog 23 #[fdV q v o, .slice A n c, .int .i64 s] w fun z w' => ∃ A' c', z = .returned (.slice A' n c') ∧ IntsAt w' A' n (fun j => ((rdF q v o n s f j : Nat) : Int)) ∧ (∀ b o, A' = some ⟨b, o, none⟩ → w.heap.size ≤ b) ∧ Below w.heap.size w w' := by
  obtain ⟨W0, hW0⟩ : ∃ W0, W0 = w.alloc (.cells #[.int .i64 q, .int .i64 v, .int .i64 o] 33) := ⟨_, rfl⟩
  have hb0 : Below w.heap.size w W0 := by rw [hW0]; exact (Below.refl _ w).alloc (Nat.le_refl _) _
  have HC := Lib.hid (RDirect_any q v o q1 hq hv ho A n c s f W0 (hI.keep hb0) hR hn)
  have HB := Lib.hid hb0
  clear hI hR hb0
  go_enter Try.func23, Try.ntmps23
  go_wp2_with fail
  rw [← hW0]
  refine HC.out.mono ?_
  rintro z w2 ⟨A', c', rfl, hi, hge, hb⟩
  have HI := Lib.hid hi
  have HG := Lib.hid hge
  have HB2 := Lib.hid (HB.out.trans (hb.mono HB.out.size))
  clear hW0 hi hge hb
  go_wp2
  go_ret
  exact ⟨A', c', rfl, HI.out, fun b o e => Nat.le_trans HB.out.size (HG.out b o e), HB2.out⟩

/-- The document's way back. -/
def rbF (q v o n : Nat) (s : Int) (f : Nat → Int) (j : Nat) : Nat := rdF q v o n (-s) f j * pmod (n % q) (q - 2) q % q
theorem rdF_lt {q v o n : Nat} (q1 : 2 ≤ q) (s : Int) (f : Nat → Int) (j : Nat) : rdF q v o n s f j < q := (rdL_lt q1 (by split <;> omega) f n).1

set_option maxRecDepth 100000 in
set_option maxHeartbeats 4000000 in
theorem RBack_any (q v o : Nat) (q1 : 2 ≤ q) (hq : q ≤ 4503599627370496) (hv : v ≤ 4503599627370496) (ho : o ≤ 4503599627370496) (A : Option Addr) (n c : Nat) (s : Int) (hs : s = 1 ∨ s = -1) (f : Nat → Int) (w : World) (hI : IntsAt w A n f) (hR : Rng f) (hn : n ≤ 1048576) :
    Calls Try.prog 27 #[fdV q v o, .slice A n c, .int .i64 s] w fun z w' => ∃ A' c', z = .returned (.slice A' n c') ∧ IntsAt w' A' n (fun j => ((rbF q v o n s f j : Nat) : Int)) ∧ Below w.heap.size w w' := by
  obtain ⟨W0, hW0⟩ : ∃ W0, W0 = w.alloc (.cells #[.int .i64 q, .int .i64 v, .int .i64 o] 33) := ⟨_, rfl⟩
  have hb0 : Below w.heap.size w W0 := by rw [hW0]; exact (Below.refl _ w).alloc (Nat.le_refl _) _
  have hs0 : W0.heap.size = w.heap.size + 1 := by rw [hW0]; simp
  have hT := Tri.new w q v o 33
  rw [← hW0] at hT
  have HC := Lib.hid (RDirect_any q v o q1 hq hv ho A n c (-s) f W0 (hI.keep hb0) hR hn)
  have HPW := Lib.hid (fun w => RPow_any n (n % q) (q - 2) q (by rw [← Int.natCast_emod]) (by omega) (by omega) (by omega) (by omega) (by omega) w)
  have hpl : pmod (n % q) (q - 2) q < q := pmod_lt _ _ _ (by omega)
  have HRB : Hid (∀ j, rbF q v o n s f j = rdF q v o n (-s) f j * pmod (n % q) (q - 2) q % q) := Lib.hid (fun j => rfl)
  have HGL := Lib.hid (fun j => rdF_lt (v := v) (o := o) (n := n) q1 (-s) f j)
  obtain ⟨F, hF⟩ : ∃ F : Nat → Nat, F = rbF q v o n s f := ⟨_, rfl⟩
  have hF2 : (fun j => ((rbF q v o n s f j : Nat) : Int)) = fun j => ((F j : Nat) : Int) := by rw [hF]
  rw [hF2]
  rw [← hF] at HRB
  obtain ⟨G, hG⟩ : ∃ G : Nat → Nat, G = rdF q v o n (-s) f := ⟨_, rfl⟩
  have hG2 : (fun j => ((rdF q v o n (-s) f j : Nat) : Int)) = fun j => ((G j : Nat) : Int) := by rw [hG]
  rw [hG2] at HC
  rw [← hG] at HRB HGL
  obtain ⟨i, hi⟩ : ∃ i, pmod (n % q) (q - 2) q = i := ⟨_, rfl⟩
  rw [hi] at hpl HPW HRB
  have hqs : (q : Int) - 2 = ((q - 2 : Nat) : Int) := by omega
  have hns : wrap64 (-s) = -s := by rcases hs with rfl | rfl <;> (unfold wrap64; omega)
  have HB0 := Lib.hid hb0
  have HS0 := Lib.hid hs0
  have HT := Lib.hid hT
  have bs := bs_int64
  obtain ⟨t0, t1, t2⟩ := hT
  clear hI hR hF hF2 hG hG2 hi hb0 hs0 hs
  go_enter Try.func27, Try.ntmps27
  go_wp2_with fail
  try rw [← hW0]
  refine (HPW.out _).mono ?_
  rintro z w' ⟨rfl, rfl⟩
  try rw [← hW0]
  try clear hW0
  go_wp2_with fail
  refine HC.out.mono ?_
  rintro z w2 ⟨A2, c2, rfl, hi2, hge2, hb2⟩
  have HI2 := Lib.hid hi2
  have hs2 : w.heap.size + 1 ≤ w2.heap.size := by have := hb2.size; rw [HS0.out] at this; exact this
  have HB2 : Hid (Below w.heap.size w w2) := Lib.hid (HB0.out.trans (hb2.mono (by rw [HS0.out]; omega)))
  have HT2 := Lib.hid (HT.out.below hb2)
  clear hi2 hge2 hb2 t0 t1 t2 HC HPW HT HS0 HB0 hqs hns
  go_wp2
  go_loopw [10, 11, 12] (fun v10 v11 v12 wr => ∃ k : Nat, k ≤ n ∧ v11 = .int .i64 k ∧ Hid (wr.ownsRow w2.heap.size 2 1 v10 k (intsV k (fun j => ((F j : Nat) : Int)))) ∧ Hid (Below w2.heap.size w2 wr)) (fun _ v11 _ _ => n - (intOf v11).toNat)
  case atStart => exact ⟨0, Nat.zero_le _, rfl, Lib.hid ⟨rfl, .inl ⟨rfl, rfl⟩⟩, Lib.hid (Below.refl _ _)⟩
  case round =>
    obtain ⟨k, hk, rfl, hown, hbw⟩ := hrel
    by_cases hlt : k < n
    · have hki : (k : Int) < n := by omega
      obtain ⟨bI, oI, rfl, hc0⟩ := HI2.out.keep hbw.out k hlt
      have hc : wr.cell? ⟨bI, oI + k, none⟩ = some (.int .i64 (G k : Nat)) := hc0
      have HTQ0 := HT2.out.below hbw.out
      have HTQ := Lib.hid HTQ0.1
      have hgl := HGL.out k
      have hfk : F k = G k * i % q := HRB.out k
      have HM := Lib.hid (fun w => RMul_any (G k : Nat) i (G k) i q (by rw [← Int.natCast_emod, Nat.mod_eq_of_lt hgl]) (by rw [← Int.natCast_emod, Nat.mod_eq_of_lt hpl]) (by omega) (by omega) (by omega) (by omega) (by omega) (by omega) w)
      rw [← hfk] at HM
      have HFK := Lib.hid hfk
      clear hc0 hfk HTQ0
      go_upto_region 8 with fail
      refine wp_region_S (fun w' => w'.cell? ⟨bI, oI + k, none⟩ = some (.int .i64 (G k : Nat)) ∧ w'.cell? ⟨w.heap.size, 0, none⟩ = some (.int .i64 q)) 7 (by kernel_rfl) ?_
      have hS0 := (⟨hc, HTQ.out⟩ : (fun w' => w'.cell? ⟨bI, oI + k, none⟩ = some (.int .i64 (G k : Nat)) ∧ w'.cell? ⟨w.heap.size, 0, none⟩ = some (.int .i64 q)) wr.drew)
      refine wpAnyS_take (i := 0) (v := ?_) (by kernel_rfl) rfl (fun _ _ _ h => h) rfl hS0 (fun w hSw => by (try dsimp only at hSw); go_simp; try with_reducible rfl) ?_
      try simp only [List.getElem_toArray, List.getElem_cons_zero, List.getElem_cons_succ, Act.put, List.setIfInBounds_toArray, List.set_cons_zero, List.set_cons_succ]
      refine wpAnyS_take (i := 1) (v := ?_) (by kernel_rfl) rfl (fun _ _ _ h => h) rfl hS0 (fun w hSw => by (try dsimp only at hSw); go_simp; try with_reducible rfl) ?_
      try simp only [List.getElem_toArray, List.getElem_cons_zero, List.getElem_cons_succ, Act.put, List.setIfInBounds_toArray, List.set_cons_zero, List.set_cons_succ]
      refine wpAnyS_take (i := 2) (v := ?_) (by kernel_rfl) rfl (fun _ _ _ h => h) rfl hS0 (fun w hSw => by (try dsimp only at hSw); go_simp; try with_reducible rfl) ?_
      try simp only [List.getElem_toArray, List.getElem_cons_zero, List.getElem_cons_succ, Act.put, List.setIfInBounds_toArray, List.set_cons_zero, List.set_cons_succ]
      refine wpAnyS_take (i := 3) (v := ?_) (by kernel_rfl) rfl (fun _ _ _ h => h) rfl hS0 (fun w hSw => by (try dsimp only at hSw); go_simp; try with_reducible rfl) ?_
      try simp only [List.getElem_toArray, List.getElem_cons_zero, List.getElem_cons_succ, Act.put, List.setIfInBounds_toArray, List.set_cons_zero, List.set_cons_succ]
      refine wpAnyS_take (i := 4) (v := ?_) (by kernel_rfl) rfl (fun _ _ _ h => h) rfl hS0 (fun w hSw => by (try dsimp only at hSw); go_simp; try with_reducible rfl) ?_
      try simp only [List.getElem_toArray, List.getElem_cons_zero, List.getElem_cons_succ, Act.put, List.setIfInBounds_toArray, List.set_cons_zero, List.set_cons_succ]
      refine wpAnyS_take (i := 5) (v := ?_) (by kernel_rfl) rfl (fun _ _ _ h => h) rfl hS0 (fun w hSw => by (try dsimp only at hSw); go_simp; try with_reducible rfl) ?_
      try simp only [List.getElem_toArray, List.getElem_cons_zero, List.getElem_cons_succ, Act.put, List.setIfInBounds_toArray, List.set_cons_zero, List.set_cons_succ]
      refine wpAnyS_take (i := 6) (v := ?_) (by kernel_rfl) rfl (fun _ _ _ h => h) rfl hS0 (fun w hSw => by (try dsimp only at hSw); go_simp; try with_reducible rfl) ?_
      try simp only [List.getElem_toArray, List.getElem_cons_zero, List.getElem_cons_succ, Act.put, List.setIfInBounds_toArray, List.set_cons_zero, List.set_cons_succ]
      refine wpAnyS_end 2 7 (by kernel_rfl) (by decide) rfl ?_
      simp only [List.toList_toArray, List.drop_succ_cons, List.drop_zero]
      clear hS0
      go_wp2_with fail
      refine (HM.out _).mono ?_
      rintro z w' ⟨rfl, rfl⟩
      obtain ⟨x, hx⟩ : ∃ x, F k = x := ⟨_, rfl⟩
      rw [hx]
      have hownd := owns_below hown.out (Below.refl _ wr).drew
      have hbwd : Below w2.heap.size w2 wr.drew := hbw.out.trans ((Below.refl _ wr).drew.mono hbw.out.size)
      clear hown hbw hc HTQ
      generalize wr.drew = w9 at *
      obtain ⟨W2, hW2⟩ : ∃ W2, W2 = w9.alloc (.cells #[.int .i64 x] 2) := ⟨_, rfl⟩
      have hbs : Below w9.heap.size w9 W2 := by rw [hW2]; exact (Below.refl _ w9).alloc (Nat.le_refl _) _
      have HNEW : Hid (∀ t y, [Value.int .i64 x][t]? = some y → W2.cell? ⟨w9.heap.size, t, none⟩ = some y) := Lib.hid (by rw [hW2]; exact cells_one _ _ _ _ rfl)
      have HOW := Lib.hid (owns_below hownd hbs)
      have hszr : w2.heap.size ≤ W2.heap.size := Nat.le_trans hbwd.size hbs.size
      have HBR : Hid (Below w2.heap.size w2 W2) := Lib.hid (hbwd.trans (hbs.mono hbwd.size))
      have hjm : k + 1 ≤ 1099511627776 := by omega
      have HX := Lib.hid hx
      clear hownd hbwd hx hbs
      go_wp2_with (at_builtin; try rw [← hW2]; go_loud (refine wpList_appL rfl _ _ 38 2 rfl 1 8 (.int .i64 0) Try.underlying38 info_int64 rfl (by omega) (by omega) w2.heap.size _ k (intsV k (fun j => ((F j : Nat) : Int))) rfl HOW.out _ _ [.int .i64 x] rfl rfl HNEW.out (one_int _) hjm hszr ?_); intro g2 cap2 w5 hO2 hG2 hL2)
      have HON : Hid (w5.ownsRow w2.heap.size 2 1 (.slice (some ⟨g2, 0, none⟩) (k + 1) cap2) (k + 1) (intsV (k + 1) (fun j => ((F j : Nat) : Int)))) := Lib.hid (by rw [intsV_succ, HX.out]; exact hO2.out)
      have HBN : Hid (Below w2.heap.size w2 w5) := Lib.hid (HBR.out.grown hG2.out hszr (fun e he => (World.ownsRow.lt HOW.out e he).1))
      clear hO2 hG2 hL2
      exact ⟨⟨k + 1, by omega, by go_num, HON, HBN⟩, by simp [intOf]; omega⟩
    · obtain rfl : k = n := by omega
      obtain ⟨A', c', hv9, hi9, hb9⟩ := owns_ints hown.out
      subst hv9
      have HI9 := Lib.hid hi9
      go_wp2
      go_ret
      exact ⟨A', c', rfl, HI9.out, HB2.out.trans (hbw.out.mono (by omega))⟩

/-- The least common multiple, if it isn't above most. -/
def lcmF (a b most : Nat) : Nat × Bool := if most / (b / Nat.gcd a b) < a then (0, false) else (a * (b / Nat.gcd a b), true)
set_option maxRecDepth 100000 in
set_option maxHeartbeats 1000000 in
theorem RLcm_any (a b most : Nat) (a1 : 1 ≤ a) (b1 : 1 ≤ b) (m1 : 1 ≤ most) (ha : a ≤ 1099511627776) (hb : b ≤ 1099511627776) (hm : most ≤ 1099511627776) (w : World) :
    Calls Try.prog 54 #[.int .i64 a, .int .i64 b, .int .i64 most] w fun z w' => z = .returned (.tuple #[.int .i64 ((lcmF a b most).1 : Nat), .bool (lcmF a b most).2]) ∧ w = w' := by
  have hg1 : 1 ≤ Nat.gcd a b := Nat.gcd_pos_of_pos_right _ (by omega)
  have hg2 : Nat.gcd a b ≤ b := Nat.gcd_le_right _ (by omega)
  have HG := Lib.hid (fun w => Gcd_any a b (by omega) (by omega) w)
  unfold lcmF
  obtain ⟨g, hg⟩ : ∃ g, Nat.gcd a b = g := ⟨_, rfl⟩
  rw [hg] at hg1 hg2 HG ⊢
  have hd1 : 1 ≤ b / g := Nat.div_pos hg2 hg1
  have hd2 : b / g ≤ b := Nat.div_le_self _ _
  have hdv : (b : Int).tdiv g = ((b / g : Nat) : Int) := by rw [Int.tdiv_eq_ediv_of_nonneg (by omega)]; omega
  obtain ⟨d, hd⟩ : ∃ d, b / g = d := ⟨_, rfl⟩
  rw [hd] at hd1 hd2 hdv ⊢
  have hmx : (most : Int).tdiv d = ((most / d : Nat) : Int) := by rw [Int.tdiv_eq_ediv_of_nonneg (by omega), Int.natCast_ediv]
  have hmd : most / d ≤ most := Nat.div_le_self _ _
  have HMU := Lib.hid (Nat.le_div_iff_mul_le (k := d) (x := a) (y := most) hd1)
  obtain ⟨Q, hQ⟩ : ∃ Q, most / d = Q := ⟨_, rfl⟩
  rw [hQ] at hmx hmd HMU ⊢
  have hg0 : ¬ (g : Int) = 0 := by omega
  have hg3 : ((g : Int) == 0) = false := by rw [beq_eq_false_iff_ne]; omega
  have hd0 : ¬ (d : Int) = 0 := by omega
  have hd3 : ((d : Int) == 0) = false := by rw [beq_eq_false_iff_ne]; omega
  have ha0 : ¬ (a : Int) < 1 := by omega
  have hb0 : ¬ (b : Int) < 1 := by omega
  have hm0 : ¬ (most : Int) < 1 := by omega
  clear hg hd hQ
  by_cases hQa : Q < a
  · rw [if_pos hQa]
    have hQi : (Q : Int) < (a : Int) := by omega
    go_enter Try.func54, Try.ntmps54
    go_wp2_with fail
    refine (HG.out _).mono ?_
    rintro z w' ⟨rfl, rfl⟩
    go_wp2
    go_ret2
    exact ⟨rfl, rfl⟩
  · rw [if_neg hQa]
    have hQi : ¬ (Q : Int) < (a : Int) := by omega
    have hpr : a * d ≤ most := HMU.out.1 (by omega)
    have hpi : (a : Int) * (d : Int) = ((a * d : Nat) : Int) := (Int.natCast_mul a d).symm
    obtain ⟨P, hP⟩ : ∃ P, a * d = P := ⟨_, rfl⟩
    rw [hP] at hpr hpi ⊢
    clear hP
    go_enter Try.func54, Try.ntmps54
    go_wp2_with fail
    refine (HG.out _).mono ?_
    rintro z w' ⟨rfl, rfl⟩
    go_wp2
    go_ret2
    exact ⟨rfl, rfl⟩
end Go.Proofs.Yteaimnemobnknaa
/- The field with all roots that two plans need. -/
set_option linter.unusedSimpArgs false
set_option linter.unusedVariables false
namespace Go.Proofs.Yteaimnemobnknaa
open Go.RowKit Go.Lib

theorem smallQ_le : ∀ (k o q0 : Nat), smallQ k o q0 ≤ q0 + k * o
  | 0, o, q0 => by unfold smallQ; omega
  | k + 1, o, q0 => by
    unfold smallQ
    split
    · omega
    · have := smallQ_le k o (q0 + o)
      have e : (k + 1) * o = k * o + o := Nat.succ_mul k o
      omega
/-- What a field that is found is. -/
theorem smallW_spec : ∀ (f a o q : Nat), 1 ≤ q → smallW f a o q = 0 ∨ (smallW f a o q < q ∧ justB (smallW f a o q) o q = true)
  | 0, _, _, _, _ => .inl rfl
  | f + 1, a, o, q, hq => by
    unfold smallW
    by_cases h : justB (pmod (a % q) ((q - 1) / o) q) o q = true
    · rw [if_pos h]
      exact .inr ⟨pmod_lt _ _ _ hq, h⟩
    · rw [if_neg h]
      exact smallW_spec f (a + 1) o q hq
theorem smallQ_mod : ∀ (k o q0 : Nat), ∃ c, smallQ k o q0 = q0 + c * o ∧ c ≤ k
  | 0, o, q0 => ⟨0, by unfold smallQ; omega, by omega⟩
  | k + 1, o, q0 => by
    unfold smallQ
    split
    · exact ⟨0, by omega, by omega⟩
    · obtain ⟨c, hc, hk⟩ := smallQ_mod k o (q0 + o)
      exact ⟨c + 1, by rw [hc, Nat.succ_mul]; omega, by omega⟩
/-- A field that is found. -/
structure FieldOk (Q V N : Nat) : Prop where
  pr : Prm Q
  od : Ord V N Q
  v : V < Q
  n1 : 1 ≤ N
  nq : N < Q
  q : Q ≤ 1099511627776
theorem smallF_ok {o : Nat} (o1 : 1 ≤ o) (o2 : o ≤ 268435456) (h : (smallF o).1 ≠ 0) : FieldOk (smallF o).1 (smallF o).2.1 (smallF o).2.2 ∧ (smallF o).2.2 = o := by
  unfold smallF at h ⊢
  by_cases hp : primeB (smallQ 3000 o (o + 1)) = true
  · rw [if_pos hp] at h ⊢
    by_cases hw : smallW 1999 1 o (smallQ 3000 o (o + 1)) = 0
    · rw [if_pos hw] at h
      exact absurd rfl h
    · rw [if_neg hw]
      obtain ⟨c, hc, hc2⟩ := smallQ_mod 3000 o (o + 1)
      have hco : c * o ≤ 3000 * 268435456 := Nat.mul_le_mul hc2 o2
      obtain ⟨Q, hQ⟩ : ∃ Q, smallQ 3000 o (o + 1) = Q := ⟨_, rfl⟩
      rw [hQ] at hp hw hc ⊢
      have hpr := prm_of hp
      rcases smallW_spec 1999 1 o Q (by have := hpr.1; omega) with h0 | ⟨h1, h2⟩
      · exact absurd h0 hw
      · obtain ⟨V, hV⟩ : ∃ V, smallW 1999 1 o Q = V := ⟨_, rfl⟩
        rw [hV] at h1 h2 ⊢
        unfold justB at h2
        by_cases h3 : pmod V o Q = 1
        · rw [if_pos h3] at h2
          refine ⟨⟨hpr, ord_of hpr.1 o1 (by show o < _; omega) h3 fun p hp => ?_, h1, o1, by show o < Q; omega, by show Q ≤ _; omega⟩, rfl⟩
          have := List.all_eq_true.1 h2 p hp
          exact of_decide_eq_true this
        · rw [if_neg h3] at h2
          cases h2
  · rw [if_neg hp] at h
    exact absurd rfl h
theorem smallF_le {o : Nat} (o1 : 1 ≤ o) (o2 : o ≤ 268435456) : (smallF o).1 ≤ 1099511627776 ∧ (smallF o).2.1 ≤ 1099511627776 ∧ (smallF o).2.2 ≤ 268435456 := by
  by_cases h : (smallF o).1 = 0
  · unfold smallF at h ⊢
    split at h
    · split at h
      · rename_i h1 h2
        rw [if_pos h1, if_pos h2]
        exact ⟨by decide, by decide, by decide⟩
      · rename_i h1 h2
        have := (prm_of h1).1
        omega
    · rename_i h1
      rw [if_neg h1]
      exact ⟨by decide, by decide, by decide⟩
  · obtain ⟨h1, h2⟩ := smallF_ok o1 o2 h
    exact ⟨h1.q, by have := h1.v; have := h1.q; omega, by omega⟩
/-- Both plans' orders. -/
def ordsF (F G : (Nat × Nat × Nat) × Bool) : (Nat × Nat × Nat) × Bool :=
  if F.2 = true ∧ G.2 = true then (if (lcmF F.1.2.2 G.1.2.2 268435456).2 = true then (smallF (lcmF F.1.2.2 G.1.2.2 268435456).1, decide ((smallF (lcmF F.1.2.2 G.1.2.2 268435456).1).1 ≠ 0)) else ((0, 0, 0), false)) else ((0, 0, 0), false)
theorem lcmF_le {a b m : Nat} (a1 : 1 ≤ a) (b1 : 1 ≤ b) (h : (lcmF a b m).2 = true) : 1 ≤ (lcmF a b m).1 ∧ (lcmF a b m).1 ≤ m ∧ a ∣ (lcmF a b m).1 ∧ b ∣ (lcmF a b m).1 := by
  unfold lcmF at h ⊢
  split at h
  · cases h
  · rename_i hle
    rw [if_neg hle]
    have hg1 : 1 ≤ Nat.gcd a b := Nat.gcd_pos_of_pos_right _ (by omega)
    have hd1 : 1 ≤ b / Nat.gcd a b := Nat.div_pos (Nat.gcd_le_right _ (by omega)) hg1
    refine ⟨Nat.mul_pos a1 hd1, (Nat.le_div_iff_mul_le hd1).1 (by omega), ⟨_, rfl⟩, ?_⟩
    obtain ⟨c, hc⟩ := Nat.gcd_dvd_left a b
    obtain ⟨d, hd⟩ := Nat.gcd_dvd_right a b
    have e : b / Nat.gcd a b = d := by
      have : b / Nat.gcd a b = Nat.gcd a b * d / Nat.gcd a b := by rw [← hd]
      rw [this]
      exact Nat.mul_div_cancel_left d hg1
    refine ⟨c, ?_⟩
    show a * (b / Nat.gcd a b) = b * c
    rw [e]
    generalize Nat.gcd a b = g at *
    rw [hc, hd]
    grind
theorem fieldF_ok {kind n r : Int} {q : Fo} (h : (fieldF kind n r q).2 = true) : ∃ o, ordR kind n r q = (o, 0) ∧ 1 ≤ o ∧ o ≤ 268435456 ∧ (fieldF kind n r q).1 = smallF o ∧ (smallF o).1 ≠ 0 := by
  have ho1 : (ordR kind n r q).2 = 0 → 1 ≤ (ordR kind n r q).1 := by
    unfold ordR
    by_cases h0 : checkE kind n r q n = 0
    · rw [if_neg (by simp [h0])]
      have hv := (check_valid h0).1
      rcases h : oroL ((kind, n, r) :: q.flat) 1 with _ | o
      · intro e; exact absurd e (by decide)
      · intro _; exact (oroL_le _ 1 o (by omega) (by omega) hv h).2
    · rw [if_pos h0]
      intro e; exact absurd e h0
  unfold fieldF at h ⊢
  split at h
  · cases h
  · rename_i hc
    rw [if_neg hc]
    have h2 : (ordR kind n r q).2 = 0 := by omega
    exact ⟨(ordR kind n r q).1, by rw [← h2], ho1 h2, by omega, rfl, of_decide_eq_true h⟩
theorem fieldF_n {kind n r : Int} {q : Fo} (h : (fieldF kind n r q).2 = true) : 1 ≤ (fieldF kind n r q).1.2.2 ∧ (fieldF kind n r q).1.2.2 ≤ 268435456 := by
  obtain ⟨o, -, o1, o2, e, hne⟩ := fieldF_ok h
  rw [e, (smallF_ok o1 o2 hne).2]
  exact ⟨o1, o2⟩
/-- A box of three numbers that may be written. -/
structure RB (w : World) (b : Nat) : Prop where
  t : Tri w b 0 0 0
  f : ∀ j, j < 3 → w.frozen? ⟨b, j, none⟩ = false
  l : b < w.heap.size
theorem RB.below {w w' : World} {b : Nat} (h : RB w b) (hb : Below w.heap.size w w') : RB w' b := ⟨h.t.below hb, fun j hj => keep_free hb h.l (h.f j hj), Nat.lt_of_lt_of_le h.l hb.size⟩
theorem RB.new (w : World) (t : TypeId) : RB (w.alloc (.cells #[.int .i64 0, .int .i64 0, .int .i64 0] t)) w.heap.size := ⟨Tri.new w 0 0 0 t, fun j _ => by simp [go_sem], by simp⟩

set_option maxRecDepth 100000 in
set_option maxHeartbeats 4000000 in
theorem orders_any (k1 n1 r1 : Int) (q1 : Fo) (k2 n2 r2 : Int) (q2 : Fo) (hN1 : q1.count ≤ 549755813888) (hN2 : q2.count ≤ 549755813888) (w : World) (A1 A2 : Option Addr) (c1 c2 : Nat) (hk1 : Kids w A1 0 q1) (hk2 : Kids w A2 0 q2) :
    Calls Try.prog 24 #[plV k1 n1 r1 A1 q1.len c1, plV k2 n2 r2 A2 q2.len c2] w (Ret w (.tuple #[fdV (ordsF (fieldF k1 n1 r1 q1) (fieldF k2 n2 r2 q2)).1.1 (ordsF (fieldF k1 n1 r1 q1) (fieldF k2 n2 r2 q2)).1.2.1 (ordsF (fieldF k1 n1 r1 q1) (fieldF k2 n2 r2 q2)).1.2.2, .bool (ordsF (fieldF k1 n1 r1 q1) (fieldF k2 n2 r2 q2)).2])) := by
  have HF1 := Lib.hid (fun w h => fieldOf_any k1 n1 r1 q1 hN1 w A1 c1 h)
  have HF2 := Lib.hid (fun w h => fieldOf_any k2 n2 r2 q2 hN2 w A2 c2 h)
  have HN1 := Lib.hid (fun h => fieldF_n (kind := k1) (n := n1) (r := r1) (q := q1) h)
  have HN2 := Lib.hid (fun h => fieldF_n (kind := k2) (n := n2) (r := r2) (q := q2) h)
  obtain ⟨F1, hF1⟩ : ∃ F, fieldF k1 n1 r1 q1 = F := ⟨_, rfl⟩
  obtain ⟨F2, hF2⟩ : ∃ F, fieldF k2 n2 r2 q2 = F := ⟨_, rfl⟩
  rw [hF1] at HF1 HN1 ⊢
  rw [hF2] at HF2 HN2 ⊢
  obtain ⟨⟨a1, b1, o1⟩, e1⟩ := F1
  obtain ⟨⟨a2, b2, o2⟩, e2⟩ := F2
  dsimp only at HF1 HF2 HN1 HN2 ⊢
  obtain ⟨R, hR⟩ : ∃ R, ordsF ((a1, b1, o1), e1) ((a2, b2, o2), e2) = R := ⟨_, rfl⟩
  rw [hR]
  have HRR := Lib.hid hR
  obtain ⟨W1, hW1⟩ : ∃ W1, W1 = ((w.alloc (.cells #[.int .i64 k1, .int .i64 n1, .int .i64 r1, .slice A1 q1.len c1] 29)).alloc (.cells #[.int .i64 k2, .int .i64 n2, .int .i64 r2, .slice A2 q2.len c2] 29)).alloc (.cells #[.int .i64 0, .int .i64 0, .int .i64 0] 35) := ⟨_, rfl⟩
  have hb1 : Below w.heap.size w W1 := by rw [hW1]; exact (((Below.refl _ w).alloc (Nat.le_refl _) _).alloc (by simp) _).alloc (by simp; omega) _
  have hs1 : W1.heap.size = w.heap.size + 3 := by rw [hW1]; simp
  have hp1 : PlBox W1 w.heap.size k1 n1 r1 A1 q1.len c1 := by
    rw [hW1]
    exact (PlBox.new w k1 n1 r1 A1 q1.len c1 _).below (((Below.refl _ _).alloc (Nat.le_refl _) _).alloc (by simp) _)
  have hp2 : PlBox W1 (w.heap.size + 1) k2 n2 r2 A2 q2.len c2 := by
    rw [hW1]
    have := (PlBox.new (w.alloc (.cells #[.int .i64 k1, .int .i64 n1, .int .i64 r1, .slice A1 q1.len c1] 29)) k2 n2 r2 A2 q2.len c2 29).below ((Below.refl _ _).alloc (Nat.le_refl _) (.cells #[.int .i64 0, .int .i64 0, .int .i64 0] 35))
    simp only [World.size_alloc] at this
    exact this
  have hr1 : RB W1 (w.heap.size + 2) := by
    rw [hW1]
    have := RB.new ((w.alloc (.cells #[.int .i64 k1, .int .i64 n1, .int .i64 r1, .slice A1 q1.len c1] 29)).alloc (.cells #[.int .i64 k2, .int .i64 n2, .int .i64 r2, .slice A2 q2.len c2] 29)) 35
    simp only [World.size_alloc] at this
    exact this
  have HK1 := Lib.hid (hk1.below hb1)
  have HK2 := Lib.hid (hk2.below hb1)
  have HB1 := Lib.hid hb1
  have HS1 := Lib.hid hs1
  have HP2 := Lib.hid hp2
  have HR1 := Lib.hid hr1
  obtain ⟨p0, p1, p2, p3⟩ := hp1
  clear hR hF1 hF2 hk1 hk2 hb1 hs1 hp2 hr1 hN1 hN2
  go_enter Try.func24, Try.ntmps24
  go_wp2_with fail
  try rw [← hW1]
  refine (HF1.out _ HK1.out).mono ?_
  rintro z w2 ⟨rfl, hb2⟩
  have HB2 : Hid (Below w.heap.size w w2 ∧ w.heap.size + 3 ≤ w2.heap.size) := Lib.hid ⟨HB1.out.trans (hb2.mono (by rw [HS1.out]; omega)), by have := hb2.size; rw [HS1.out] at this; exact this⟩
  have hp2 := HP2.out.below hb2
  have HR2 := Lib.hid (HR1.out.below hb2)
  have HKK2 := Lib.hid (HK2.out.below hb2)
  clear hW1 hb2 p0 p1 p2 p3 HR1 HK1 HK2 HP2 HB1 HS1 HF1
  go_upto_region 2 with (fail)
  obtain ⟨w3, hw3⟩ : ∃ w3, w3 = w2.alloc (.cells #[.int .i64 a1, .int .i64 b1, .int .i64 o1] 33) := ⟨_, rfl⟩
  have hb3 : Below w2.heap.size w2 w3 := by rw [hw3]; exact (Below.refl _ w2).alloc (Nat.le_refl _) _
  have hT3 := Tri.new w2 (a1 : Int) b1 o1 33
  rw [← hw3] at hT3 ⊢
  obtain ⟨bG, hbG⟩ : ∃ bG, w2.heap.size = bG := ⟨_, rfl⟩
  rw [hbG] at hT3 ⊢
  have hp3 := hp2.below hb3
  have HT3 := Lib.hid hT3
  have HR3 := Lib.hid (HR2.out.below hb3)
  have HK3 := Lib.hid (HKK2.out.below hb3)
  have HB3 : Hid (Below w.heap.size w w3 ∧ w.heap.size + 3 ≤ w3.heap.size) := Lib.hid ⟨HB2.out.1.trans (hb3.mono (by have := HB2.out.2; omega)), Nat.le_trans HB2.out.2 hb3.size⟩
  have HNG : Hid (w.heap.size + 2 ≠ bG) := Lib.hid (by have := HB2.out.2; omega)
  obtain ⟨p0, p1, p2, p3⟩ := hp3
  clear hw3 hb3 hT3 hbG hp2 HR2 HKK2 HB2
  go_wp2_with fail
  refine (HF2.out _ HK3.out).mono ?_
  rintro z w4 ⟨rfl, hb4⟩
  have HT4 := Lib.hid (HT3.out.below hb4)
  have HR4 := Lib.hid (HR3.out.below hb4)
  have HB4 : Hid (Below w.heap.size w w4 ∧ w.heap.size + 3 ≤ w4.heap.size) := Lib.hid ⟨HB3.out.1.trans (hb4.mono (by have := HB3.out.2; omega)), Nat.le_trans HB3.out.2 hb4.size⟩
  clear hb4 p0 p1 p2 p3 HT3 HR3 HK3 HB3 HF2
  go_upto_region 3 with (fail)
  obtain ⟨w5, hw5⟩ : ∃ w5, w5 = w4.alloc (.cells #[.int .i64 a2, .int .i64 b2, .int .i64 o2] 33) := ⟨_, rfl⟩
  have hb5 : Below w4.heap.size w4 w5 := by rw [hw5]; exact (Below.refl _ w4).alloc (Nat.le_refl _) _
  have hT5 := Tri.new w4 (a2 : Int) b2 o2 33
  rw [← hw5] at hT5 ⊢
  obtain ⟨bH, hbH⟩ : ∃ bH, w4.heap.size = bH := ⟨_, rfl⟩
  rw [hbH] at hT5 ⊢
  have HR5 := Lib.hid (HR4.out.below hb5)
  have HB5 : Hid (Below w.heap.size w w5) := Lib.hid (HB4.out.1.trans (hb5.mono (by have := HB4.out.2; omega)))
  have hsz5 : w.heap.size + 3 ≤ w5.heap.size := Nat.le_trans HB4.out.2 hb5.size
  obtain ⟨g0, g1, g2⟩ := HT4.out.below hb5
  obtain ⟨h0, h1, h2⟩ := hT5
  clear hw5 hb5 hbH HR4 HB4 HT4
  by_cases hee : e1 = true ∧ e2 = true
  · obtain ⟨rfl, rfl⟩ := hee
    obtain ⟨x1, x2⟩ := HN1.out rfl
    obtain ⟨y1, y2⟩ := HN2.out rfl
    have HL := Lib.hid (fun w => RLcm_any o1 o2 268435456 x1 y1 (by omega) (by omega) (by omega) (by omega) w)
    have hRR : R = (if (lcmF o1 o2 268435456).2 = true then (smallF (lcmF o1 o2 268435456).1, decide ((smallF (lcmF o1 o2 268435456).1).1 ≠ 0)) else ((0, 0, 0), false)) := by rw [← HRR.out]; unfold ordsF; rw [if_pos ⟨rfl, rfl⟩]
    have HLL := Lib.hid (fun h => lcmF_le (m := 268435456) x1 y1 h)
    obtain ⟨L, hL⟩ : ∃ L, lcmF o1 o2 268435456 = L := ⟨_, rfl⟩
    rw [hL] at HL hRR HLL
    obtain ⟨o, e⟩ := L
    dsimp only at HL hRR HLL
    clear hL HRR
    rcases e with _ | _
    · rw [if_neg (by decide)] at hRR
      subst hRR
      go_wp2_with fail
      refine (HL.out _).mono ?_
      rintro z w' ⟨rfl, rfl⟩
      obtain ⟨⟨t0, t1, t2⟩, hz, hlb⟩ := HR5.out
      have hz0 := hz 0 (by omega)
      have hz1 := hz 1 (by omega)
      have hz2 := hz 2 (by omega)
      have HBB := Lib.hid HB5.out
      clear hz hlb
      go_wp2
      obtain ⟨r0, r1, r2⟩ := tri_set HR5.out.t 0 0 0
      exact bodyPost_ret (v := .tuple #[fdV 0 0 0, .bool false]) (by simp [results, Try.results24, go_sem, r0, r1, r2]) rfl ⟨rfl, below_three HBB.out (by omega) _ _ _⟩
    · rw [if_pos rfl] at hRR
      obtain ⟨z1, z2, -⟩ := HLL.out rfl
      have HSM := Lib.hid (fun w => small_any o z1 z2 w)
      obtain ⟨S, hS⟩ : ∃ S, smallF o = S := ⟨_, rfl⟩
      rw [hS] at hRR HSM
      subst hRR
      obtain ⟨Q, V, O⟩ := S
      dsimp only at HSM ⊢
      clear hS
      go_wp2_with fail
      refine (HL.out _).mono ?_
      rintro z w' ⟨rfl, rfl⟩
      go_wp2_with fail
      refine (HSM.out _).mono ?_
      rintro z w6 ⟨rfl, hb6⟩
      have HR6 := Lib.hid (HR5.out.below hb6)
      have HB6 : Hid (Below w.heap.size w w6) := Lib.hid (HB5.out.trans (hb6.mono (by omega)))
      have hsz6 : w.heap.size + 3 ≤ w6.heap.size := Nat.le_trans hsz5 hb6.size
      clear hb6 g0 g1 g2 h0 h1 h2 HR5 HB5 HL HSM HLL hsz5
      go_upto_region 9 with (fail)
      obtain ⟨w7, hw7⟩ : ∃ w7, w7 = w6.alloc (.cells #[.int .i64 Q, .int .i64 V, .int .i64 O] 33) := ⟨_, rfl⟩
      have hb7 : Below w6.heap.size w6 w7 := by rw [hw7]; exact (Below.refl _ w6).alloc (Nat.le_refl _) _
      have hT7 := Tri.new w6 (Q : Int) V O 33
      rw [← hw7] at hT7 ⊢
      obtain ⟨bF, hbF⟩ : ∃ bF, w6.heap.size = bF := ⟨_, rfl⟩
      rw [hbF] at hT7 ⊢
      have HTN := Lib.hid hT7
      have HNE : Hid (w.heap.size + 2 ≠ bF) := Lib.hid (by omega)
      have HR7 := Lib.hid (HR6.out.below hb7)
      have HB7 : Hid (Below w.heap.size w w7) := Lib.hid (HB6.out.trans (hb7.mono (by omega)))
      clear hw7 hb7 hT7 hbF HR6 HB6
      refine wp_region_S (fun w' => w'.cell? ⟨bF, 0, none⟩ = some (.int .i64 Q) ∧ w'.cell? ⟨bF, 1, none⟩ = some (.int .i64 V) ∧ w'.cell? ⟨bF, 2, none⟩ = some (.int .i64 O)) 6 (by kernel_rfl) ?_
      have hS0 := (⟨HTN.out.1, HTN.out.2.1, HTN.out.2.2⟩ : (fun w' => w'.cell? ⟨bF, 0, none⟩ = some (.int .i64 Q) ∧ w'.cell? ⟨bF, 1, none⟩ = some (.int .i64 V) ∧ w'.cell? ⟨bF, 2, none⟩ = some (.int .i64 O)) w7.drew)
      refine wpAnyS_take (i := 0) (v := ?_) (by kernel_rfl) rfl (fun _ _ _ h => h) rfl hS0 (fun w hSw => by (try dsimp only at hSw); go_simp; try with_reducible rfl) ?_
      try simp only [List.getElem_toArray, List.getElem_cons_zero, List.getElem_cons_succ, Act.put, List.setIfInBounds_toArray, List.set_cons_zero, List.set_cons_succ]
      refine wpAnyS_take (i := 1) (v := ?_) (by kernel_rfl) rfl (fun _ _ _ h => h) rfl hS0 (fun w hSw => by (try dsimp only at hSw); go_simp; try with_reducible rfl) ?_
      try simp only [List.getElem_toArray, List.getElem_cons_zero, List.getElem_cons_succ, Act.put, List.setIfInBounds_toArray, List.set_cons_zero, List.set_cons_succ]
      refine wpAnyS_take (i := 2) (v := ?_) (by kernel_rfl) rfl (fun _ _ _ h => h) rfl hS0 (fun w hSw => by (try dsimp only at hSw); go_simp; try with_reducible rfl) ?_
      try simp only [List.getElem_toArray, List.getElem_cons_zero, List.getElem_cons_succ, Act.put, List.setIfInBounds_toArray, List.set_cons_zero, List.set_cons_succ]
      refine wpAnyS_take (i := 3) (v := ?_) (by kernel_rfl) rfl (fun _ _ _ h => h) rfl hS0 (fun w hSw => by (try dsimp only at hSw); go_simp; try with_reducible rfl) ?_
      try simp only [List.getElem_toArray, List.getElem_cons_zero, List.getElem_cons_succ, Act.put, List.setIfInBounds_toArray, List.set_cons_zero, List.set_cons_succ]
      refine wpAnyS_take (i := 4) (v := ?_) (by kernel_rfl) rfl (fun _ _ _ h => h) rfl hS0 (fun w hSw => by (try dsimp only at hSw); go_simp; try with_reducible rfl) ?_
      try simp only [List.getElem_toArray, List.getElem_cons_zero, List.getElem_cons_succ, Act.put, List.setIfInBounds_toArray, List.set_cons_zero, List.set_cons_succ]
      obtain ⟨⟨t0, t1, t2⟩, hz, hlb⟩ := HR7.out
      have hz0 := hz 0 (by omega)
      have hz1 := hz 1 (by omega)
      have hz2 := hz 2 (by omega)
      have HST : Hid (Tri (((w7.setCell ⟨w.heap.size + 1 + 1, 0, none⟩ (.int .i64 Q)).setCell ⟨w.heap.size + 1 + 1, 1, none⟩ (.int .i64 V)).setCell ⟨w.heap.size + 1 + 1, 2, none⟩ (.int .i64 O)).drew (w.heap.size + 1 + 1) Q V O) := Lib.hid (tri_set ⟨t0, t1, t2⟩ Q V O)
      refine wpAnyS_one (i := 5) (by kernel_rfl) rfl rfl (fun K hK => ?_)
      go_simp
      have hS1 := (⟨((((HTN.out.other _ HNE.out).other _ HNE.out).other _ HNE.out)).1, ((((HTN.out.other _ HNE.out).other _ HNE.out).other _ HNE.out)).2.1, ((((HTN.out.other _ HNE.out).other _ HNE.out).other _ HNE.out)).2.2⟩ : (fun w' => w'.cell? ⟨bF, 0, none⟩ = some (.int .i64 Q) ∧ w'.cell? ⟨bF, 1, none⟩ = some (.int .i64 V) ∧ w'.cell? ⟨bF, 2, none⟩ = some (.int .i64 O)) (((w7.setCell ⟨w.heap.size + 2, 0, none⟩ (.int .i64 Q)).setCell ⟨w.heap.size + 2, 1, none⟩ (.int .i64 V)).setCell ⟨w.heap.size + 2, 2, none⟩ (.int .i64 O)).drew)
      refine hK.out _ _ (fun _ => hS1) ?_
      clear hK K
      try simp only [List.getElem_toArray, List.getElem_cons_zero, List.getElem_cons_succ, Act.put, List.setIfInBounds_toArray, List.set_cons_zero, List.set_cons_succ]
      refine wpAnyS_end 1 6 (by kernel_rfl) (by decide) rfl ?_
      simp only [List.toList_toArray, List.drop_succ_cons, List.drop_zero]
      clear hS0 hS1
      have hdd : decide (Q ≠ 0) = ((Q : Int) != 0) := by
        by_cases h : Q = 0
        · subst h; rfl
        · have h1 : ((Q : Int) != 0) = true := by rw [bne_iff_ne]; omega
          rw [h1]; exact decide_eq_true h
      go_wp2
      obtain ⟨r0, r1, r2⟩ := HST.out
      exact bodyPost_ret (v := .tuple #[fdV Q V O, .bool ((Q : Int) != 0)]) (by simp [results, Try.results24, go_sem, r0, r1, r2]) rfl ⟨by rw [hdd], (below_three HB7.out (by omega) _ _ _).drew⟩
  · have hRR : R = ((0, 0, 0), false) := by rw [← HRR.out]; unfold ordsF; rw [if_neg hee]
    subst hRR
    rcases e1 with _ | _
    · skip
      obtain ⟨⟨t0, t1, t2⟩, hz, hlb⟩ := HR5.out
      have hz0 := hz 0 (by omega)
      have hz1 := hz 1 (by omega)
      have hz2 := hz 2 (by omega)
      have HBB := Lib.hid HB5.out
      clear hz hlb
      go_wp2
      obtain ⟨r0, r1, r2⟩ := tri_set HR5.out.t 0 0 0
      exact bodyPost_ret (v := .tuple #[fdV 0 0 0, .bool false]) (by simp [results, Try.results24, go_sem, r0, r1, r2]) rfl ⟨rfl, below_three HBB.out (by omega) _ _ _⟩
    · rcases e2 with _ | _
      · skip
        obtain ⟨⟨t0, t1, t2⟩, hz, hlb⟩ := HR5.out
        have hz0 := hz 0 (by omega)
        have hz1 := hz 1 (by omega)
        have hz2 := hz 2 (by omega)
        have HBB := Lib.hid HB5.out
        clear hz hlb
        go_wp2
        obtain ⟨r0, r1, r2⟩ := tri_set HR5.out.t 0 0 0
        exact bodyPost_ret (v := .tuple #[fdV 0 0 0, .bool false]) (by simp [results, Try.results24, go_sem, r0, r1, r2]) rfl ⟨rfl, below_three HBB.out (by omega) _ _ _⟩

      · exact absurd ⟨rfl, rfl⟩ hee
end Go.Proofs.Yteaimnemobnknaa
