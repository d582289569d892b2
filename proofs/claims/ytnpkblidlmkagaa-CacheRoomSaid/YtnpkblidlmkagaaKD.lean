import Derived.Test.YtnpkblidlmkagaaKC
import Derived.Test.YtnpkblidlmkagaaV10
import Derived.Deep.RegionHeldLaw
import Derived.BigQuiet
/- The walk of the law CacheTables. -/
set_option linter.unusedSimpArgs false
set_option linter.unusedVariables false
namespace Go.Proofs.Ytnpkblidlmkagaa
open Go Go.RowKit Fl

theorem info74 : (Try.prog.info? 74).map (fun i => (i.zero, i.size, i.bytes)) = some (some (.agg #[.int .i64 0, .int .i64 0]), 2, 16) := by kernel_rfl

theorem Own15.mono {base b' : Nat} {w : World} {p r : Nat} {M : Int} {σ : St} (h : Own15 base w p r M σ) (hb : b' ≤ base) : Own15 b' w p r M σ := by
  obtain ⟨h1, h2, kv, es, clock, h3, h4⟩ := h
  exact ⟨by omega, by omega, kv, es, clock, h3, fun b hb' => by have := h4 b hb'; omega⟩

theorem pairs_cells {w : World} {A : Option Addr} {n : Nat} {f : Nat → Int × Int} (h : PairsAt w A n f) {b o : Nat} (hA : A = some ⟨b, o, none⟩) : ∀ j v, (kL ((List.range n).map f))[j]? = some v → w.cell? ((⟨b, o, none⟩ : Addr).add j) = some v := by
  intro j v hj
  have hl : (kL ((List.range n).map f)).length = n * 2 := by rw [kL_length]; simp
  have hj' : j < n * 2 := by have := (List.getElem?_eq_some_iff.1 hj).1; omega
  obtain ⟨b', o', e, h1, h2⟩ := h (j / 2) (by omega)
  rw [hA] at e; cases e
  obtain ⟨g1, g2⟩ := kL_get ((List.range n).map f) (j / 2) (f (j / 2)) (by rw [List.getElem?_map, List.getElem?_range (by omega)]; rfl)
  rw [Addr.add_lit]
  rcases Nat.mod_two_eq_zero_or_one j with e | e
  · rw [show j = j / 2 * 2 by omega] at hj
    rw [g1] at hj; cases hj
    have := h1
    rwa [show o + j / 2 * 2 = o + j by omega] at this
  · rw [show j = j / 2 * 2 + 1 by omega] at hj
    rw [g2] at hj; cases hj
    have := h2
    rwa [show o + j / 2 * 2 + 1 = o + j by omega] at this

/-- append of two pairs to a list without room. -/
theorem run_app2 (W : World) (A : Option Addr) (m : Nat) (f : Nat → Int × Int) (x y : Int) (vb : Nat) (hA : PairsAt W A m f) (hm : m ≤ 1000000) (hv : W.heap[vb]? = some (.cells #[.int .i64 x, .int .i64 y, .int .i64 x, .int .i64 y] 74 (0, 0))) :
    ∃ (G : Nat) (cur : Array Value) (rest : List Value), (∀ ty, (Builtin.append_ #[73, 73] ty #[.slice A m m, .slice (some ⟨vb, 0, none⟩) 2 2]).run Try.prog W = .ok (.slice (some ⟨W.heap.size, 0, none⟩) (m + 2) G) (W.drew.alloc (.cells cur 74))) ∧ cur.toList = kL ((List.range m).map f ++ [(x, y), (x, y)]) ++ rest ∧ m + 2 ≤ G := by
  obtain ⟨i0, hi, hz0, hz1, hz2⟩ := info_parts info74
  have hsrcv : ∀ j u, (kL [(x, y), (x, y)])[j]? = some u → W.cell? ((⟨vb, 0, none⟩ : Addr).add j) = some u := by
    intro j u hj
    rw [Addr.add_lit, Nat.zero_add]
    simp only [World.cell?, hv]
    rw [← Array.getElem?_toList]
    have : (#[Value.int .i64 x, Value.int .i64 y, Value.int .i64 x, Value.int .i64 y] : Array Value).toList = kL [(x, y), (x, y)] := rfl
    rw [this, hj]; rfl
  have hsrc : Src Try.prog i0.size 73 (.slice (some ⟨vb, 0, none⟩) 2 2) 2 (kL [(x, y), (x, y)]) W := by
    rw [hz1]; exact Src.ofSlice W Try.underlying73 ⟨vb, 0, none⟩ 2 2 (kL [(x, y), (x, y)]) rfl hsrcv (kL_one _)
  have hold : (Builtin.firstCells i0.size m (.slice A m m)).run Try.prog W.drew = .ok (kL ((List.range m).map f)).toArray W.drew := by
    rw [hz1]
    by_cases h0 : m = 0
    · subst h0
      rcases A with _ | a
      · exact run_firstCells_none W.drew 2 0 0 0
      · exact run_firstCells_some W.drew 2 0 a 0 0 [] rfl (fun j v hj => by simp at hj)
    · obtain ⟨b, o, e, _⟩ := hA 0 (by omega)
      have hc := pairs_cells hA e
      subst e
      exact run_firstCells_some W.drew 2 m ⟨b, o, none⟩ m m _ (by rw [kL_length]; simp) hc
  have h := fun ty => run_append_grow_src W 73 73 ty 74 i0 _ Try.underlying73 hi hz0 A m m _ hold _ 2 _ hsrc (by omega) (by omega) (by rw [hz2]; exact growslice_fits (by omega) (by omega))
  exact ⟨_, _, (Builtin.zeroCells (Value.agg #[.int .i64 0, .int .i64 0]).cells (grownCap W (m + 2) m 74 - (m + 2))).toList, h, by rw [kL_append]; simp, grownCap_ge W _ _ _⟩

theorem pair_of_obj {w : World} {b : Nat} {cur : Array Value} {fs : List (Int × Int)} {rest : List Value} (h : w.heap[b]? = some (.cells cur 74 (0, 0))) (hc : cur.toList = kL fs ++ rest) (k : Nat) (q : Int × Int) (hk : fs[k]? = some q) : w.cell? ⟨b, k * 2, none⟩ = some (.int .i64 q.1) ∧ w.cell? ⟨b, k * 2 + 1, none⟩ = some (.int .i64 q.2) := by
  obtain ⟨g1, g2⟩ := kL_get fs k q hk
  have hl := kL_length fs
  have hi : k < fs.length := (List.getElem?_eq_some_iff.1 hk).1
  constructor
  · simp only [World.cell?, h]
    rw [← Array.getElem?_toList, hc, List.getElem?_append_left (by omega), g1]; rfl
  · simp only [World.cell?, h]
    rw [← Array.getElem?_toList, hc, List.getElem?_append_left (by omega), g2]; rfl

/-- The table from place j on. -/
def TabG (w : World) (b n : Nat) (s : Int) (j : Nat) : Prop := ∀ i, j ≤ i → i < n → (w.cell? ⟨b, i * 2, none⟩ = some (.float .f64 (tuC (s * i) n)) ∧ w.frozen? ⟨b, i * 2, none⟩ = false) ∧ (w.cell? ⟨b, i * 2 + 1, none⟩ = some (.float .f64 (tuS (s * i) n)) ∧ w.frozen? ⟨b, i * 2 + 1, none⟩ = false)
theorem Tab.g {w : World} {b n : Nat} {s : Int} (h : Tab w b n s) : TabG w b n s 0 := fun i _ hi => h i hi
theorem TabG.keep {W w1 : World} {b n : Nat} {s : Int} {j : Nat} (hb : Below W.heap.size W w1) (h : TabG W b n s j) : TabG w1 b n s j := fun i hj hi => by
  obtain ⟨⟨h1, h2⟩, h3, h4⟩ := h i hj hi
  exact ⟨⟨keep_cell hb h1, keep_free hb (World.block_lt_of_cell? _ _ h1) h2⟩, keep_cell hb h3, keep_free hb (World.block_lt_of_cell? _ _ h3) h4⟩
theorem TabG.set {w : World} {b n : Nat} {s : Int} {j : Nat} (h : TabG w b n s j) (u v : Value) : TabG ((w.setCell ⟨b, j * 2, none⟩ u).setCell ⟨b, j * 2 + 1, none⟩ v) b n s (j + 1) := by
  intro i hj hi
  obtain ⟨⟨h1, h2⟩, h3, h4⟩ := h i (by omega) hi
  simp only [World.frozen?_setCell]
  refine ⟨⟨?_, h2⟩, ?_, h4⟩
  · rw [World.cell?_setCell_other _ _ _ _ (fun e => by have := congrArg Addr.off e; simp at this; omega), World.cell?_setCell_other _ _ _ _ (fun e => by have := congrArg Addr.off e; simp at this; omega)]
    exact h1
  · rw [World.cell?_setCell_other _ _ _ _ (fun e => by have := congrArg Addr.off e; simp at this; omega), World.cell?_setCell_other _ _ _ _ (fun e => by have := congrArg Addr.off e; simp at this; omega)]
    exact h3

theorem OnlyB.belowB {b base : Nat} {w w' : World} (h : OnlyB b w w') (hb : base ≤ b) (hs : base ≤ w.heap.size) : Below base w w' := ⟨h.os, h.tape, h.output, h.size, fun k hk => h.block k (by omega) (by omega)⟩

theorem step_append_d {P : Program} {ops : Array Oper} {o : Oper} {a : Act} {w : World} {K : Act → World → Prop} {Q : Exit → Act → World → Prop} {E : Prop} (hgd : o.guard = none) (s x : Operand) (t t' : TypeId) (d : Nat) (hd : o.dst = some d)
    (ho : o.op = .call { callee := .builtin .append, args := #[s, x], argTypes := #[t, t'] }) (vs vx v : Value) (w' : World) (hs : a.eval s = vs) (hx : a.eval x = vx) (hr : (Builtin.append_ #[t, t'] o.type #[vs, vx]).run P w = .ok v w')
    (h : K (a.put (some d) v) w') : if Region.wanted o (yielded ops a.tmps) = true then Oper.wp P o a w K Q else E :=
  step_append hgd s x t t' ho vs vx v w' hs hx hr (by rw [hd]; exact h)

set_option maxRecDepth 100000 in
set_option maxHeartbeats 4000000 in
theorem tables15_any (most : Int) (A : Option Addr) (n c : Nat) (f : Nat → Int × Int) (x y : Int) (w : World) (hA : PairsAt w A n f) (hn : n ≤ 9223372036854775807) (hAc : A = none → c = 0) (hnc : n ≤ c) (hc : c ≤ 9223372036854775807) :
    Calls Try.prog 20 #[.int .i64 most, .slice A n c, .agg #[.int .i64 x, .int .i64 y]] w fun z w' => z = .returned (.bool true) ∧ Below w.heap.size w w' := by
  obtain ⟨W0, hW0⟩ : ∃ W0, w.alloc (.cells #[.int .i64 x, .int .i64 y] 74) = W0 := ⟨_, rfl⟩
  have hs0 : W0.heap.size = w.heap.size + 1 := by rw [← hW0]; simp
  have HX0 : Hid (W0.heap[w.heap.size]? = some (.cells #[.int .i64 x, .int .i64 y] 74 (0, 0))) := Lib.hid (by rw [← hW0]; exact (MapKept.heap_alloc w _).1)
  have HB0 : Hid (Below w.heap.size w W0) := Lib.hid (by rw [← hW0]; exact (Below.refl _ w).alloc (Nat.le_refl _) _)
  have H0 := Lib.hid (Own15.made most W0)
  have H2 := Lib.hid (fun w => wakes15_any w)
  have HA := Lib.hid hA
  clear hA
  go_enter Try.func20, Try.ntmps20
  go_upto_region 1 with fail
  try rw [hW0]
  clear hW0
  go_wp2_with fail
  refine H0.out.mono ?_
  rintro z w1 ⟨p, r, rfl, a1, a2⟩
  have B1 := Lib.hid (a1.mono (show w.heap.size ≤ W0.heap.size by omega))
  have BW1 := Lib.hid (HB0.out.trans (a2.mono (by omega)))
  have HX1 := Lib.hid ((a2.block _ (by omega)).trans HX0.out)
  have hs1 : W0.heap.size ≤ w1.heap.size := a2.size
  clear a1 a2 H0 HX0 HB0
  go_wp2_with fail
  refine (H2.out w1).mono ?_
  rintro z w3 ⟨rfl, hb⟩
  have B3 := Lib.hid (B1.out.keep hb)
  have BW3 := Lib.hid (BW1.out.trans (hb.mono (by omega)))
  have HX3 := Lib.hid ((hb.block _ (by omega)).trans HX1.out)
  have hs3 : w1.heap.size ≤ w3.heap.size := hb.size
  clear B1 BW1 HX1 hb H2
  go_upto_region 4 with fail
  obtain ⟨m, hm, hmn⟩ : ∃ m : Nat, min (n : Int) 12 = (m : Int) ∧ m ≤ n := ⟨min n 12, by omega, by omega⟩
  have hm12 : m ≤ 12 := by omega
  have hsm : m + 2 ≤ 14 := by omega
  have hmc : (m : Int) ≤ c := by omega
  have hm0 : (0 : Int) ≤ (m : Int) := by omega
  have hxc : w3.cell? ⟨w.heap.size, 0, none⟩ = some (.int .i64 x) := by simp [World.cell?, HX3.out]
  have hyc : w3.cell? ⟨w.heap.size, 1, none⟩ = some (.int .i64 y) := by simp [World.cell?, HX3.out]
  have hA3 : PairsAt (w3.alloc (.cells #[.int .i64 x, .int .i64 y, .int .i64 x, .int .i64 y] 74)).drew A m f := by
    have h1 : PairsAt w3 A m f := PairsAt.keep (W := w) (BW3.out) (HA.out.le hmn)
    exact PairsAt.keep (((Below.refl _ w3).alloc (Nat.le_refl _) _).drew) h1
  obtain ⟨G, cur, rest, hrun, hcur, hG⟩ := run_app2 _ A m f x y w3.heap.size hA3 (by omega) ((MapKept.heap_alloc w3 _).1)
  obtain ⟨HS, hHS⟩ : ∃ HS, (w3.alloc (.cells #[.int .i64 x, .int .i64 y, .int .i64 x, .int .i64 y] 74)).drew.heap.size = HS := ⟨_, rfl⟩
  obtain ⟨W4, hW4⟩ : ∃ W4, (w3.alloc (.cells #[.int .i64 x, .int .i64 y, .int .i64 x, .int .i64 y] 74)).drew.drew.alloc (.cells cur 74) = W4 := ⟨_, rfl⟩
  have hHS1 : HS = w3.heap.size + 1 := by rw [← hHS]; simp [World.drew]
  rw [hW4, hHS] at hrun
  have hb4 : Below w3.heap.size w3 W4 := by rw [← hW4]; exact ((((Below.refl _ w3).alloc (Nat.le_refl _) _).drew).drew).alloc (by simp [World.drew]) _
  have B4 := Lib.hid (B3.out.keep hb4)
  have BW4 := Lib.hid (BW3.out.trans (hb4.mono (by omega)))
  have HR4 : Hid (W4.heap[HS]? = some (.cells cur 74 (0, 0))) := Lib.hid (by rw [← hW4, ← hHS]; exact (MapKept.heap_alloc _ _).1)
  have HCU := Lib.hid hcur
  have HHS := Lib.hid hHS1
  obtain ⟨N, hN⟩ : ∃ N, m + 2 = N := ⟨_, rfl⟩
  rw [hN] at hrun hsm
  have HNm := Lib.hid hN
  clear hcur hA3 hHS hW4 hHS1 hN
  go_cut [32, 33, 34] from 21 to 34 (fun s32 s33 s34 wx => s32 = .slice (some ⟨HS, 0, none⟩) N G ∧ s33 = .int .i64 (N : Int) ∧ s34 = .int .i64 0 ∧ wx = W4)
  case first =>
    have s1 : w3.drew.cell? ⟨w.heap.size, 0, none⟩ = some (.int .i64 x) ∧ w3.drew.cell? ⟨w.heap.size, 1, none⟩ = some (.int .i64 y) := ⟨hxc, hyc⟩
    have s2 : (w3.alloc (.cells #[.int .i64 x, .int .i64 y, .int .i64 x, .int .i64 y] 74)).drew.cell? ⟨w.heap.size, 0, none⟩ = some (.int .i64 x) ∧ (w3.alloc (.cells #[.int .i64 x, .int .i64 y, .int .i64 x, .int .i64 y] 74)).drew.cell? ⟨w.heap.size, 1, none⟩ = some (.int .i64 y) := ⟨keep_cell (((Below.refl _ w3).alloc (Nat.le_refl _) _).drew) hxc, keep_cell (((Below.refl _ w3).alloc (Nat.le_refl _) _).drew) hyc⟩
    have s3 : W4.cell? ⟨w.heap.size, 0, none⟩ = some (.int .i64 x) ∧ W4.cell? ⟨w.heap.size, 1, none⟩ = some (.int .i64 y) := ⟨keep_cell hb4 hxc, keep_cell hb4 hyc⟩
    rcases A with _ | a
    · obtain rfl := hAc rfl
      obtain rfl : n = 0 := by omega
      obtain rfl : m = 0 := by omega
      have hmz : min (0 : Int) 12 = 0 := by decide
      have hrun0 : ∀ ty, (Builtin.append_ #[73, 73] ty #[.slice none 0 0, .slice (some ⟨w3.heap.size, 0, none⟩) 2 2]).run Try.prog (w3.alloc (.cells #[.int .i64 x, .int .i64 y, .int .i64 x, .int .i64 y] 74)).drew = .ok (.slice (some ⟨HS, 0, none⟩) N G) W4 := hrun
      clear hrun hm hmc hm0
      go_region_held_law (fun w' => w'.cell? ⟨w.heap.size, 0, none⟩ = some (.int .i64 x) ∧ w'.cell? ⟨w.heap.size, 1, none⟩ = some (.int .i64 y)) (first | with_reducible exact s1 | with_reducible exact s2 | with_reducible exact s3)
        (refine step_append_d rfl (.tmp 28) (.tmp 31) 73 73 32 rfl rfl _ _ _ _ rfl rfl (hrun0 _) ?_)
      all_goals
        go_wp2_with fail
        go_meet
        exact ⟨rfl, rfl, rfl, rfl⟩
    · go_region_held_law (fun w' => w'.cell? ⟨w.heap.size, 0, none⟩ = some (.int .i64 x) ∧ w'.cell? ⟨w.heap.size, 1, none⟩ = some (.int .i64 y)) (first | with_reducible exact s1 | with_reducible exact s2 | with_reducible exact s3)
        (refine step_append_d rfl (.tmp 28) (.tmp 31) 73 73 32 rfl rfl _ _ _ _ rfl rfl (hrun _) ?_)
      all_goals
        go_wp2_with fail
        go_meet
        exact ⟨rfl, rfl, rfl, rfl⟩
  case rest =>
    obtain ⟨rfl, rfl, rfl, rfl⟩ := hcut
    have hlen : ((List.range m).map f ++ [(x, y), (x, y)]).length = m + 2 := by simp
    have hHSl : HS < wc.heap.size := (Array.getElem?_eq_some_iff.1 HR4.out).1
    obtain ⟨fs, hfs⟩ : ∃ fs, (List.range m).map f ++ [(x, y), (x, y)] = fs := ⟨_, rfl⟩
    rw [hfs] at HCU hlen
    rw [HNm.out] at hlen
    have HFL := Lib.hid hlen
    clear hfs hlen hb4 B3 BW3 HX3 hm hmc hm0 hxc hyc hrun HA hn hAc hnc hc
    go_wp2_with fail
    go_loopw [9, 10, 11, 12, 13, 14, 15, 16, 34] (fun b9 n10 t11 e12 k13 z14 c15 s16 i wr => ∃ (k : Nat) (σ : St), k ≤ N ∧ i = .int .i64 k ∧ Hid (Own15 w.heap.size wr p r (mostM most) σ) ∧ Hid (0 ≤ σ.2.1 ∧ σ.2.1 ≤ k ∧ 0 ≤ σ.2.2 ∧ σ.2.2 ≤ k) ∧ Hid (wr.heap[HS]? = some (.cells cur 74 (0, 0))) ∧ Hid (Below w.heap.size w wr)) (fun _ _ _ _ _ _ _ _ i _ => N - (intOf i).toNat)
    case atStart => exact ⟨0, ([], 0, 0), by omega, rfl, B4, Lib.hid (by decide), HR4, BW4⟩
    case round =>
      obtain ⟨k, σ, hk, rfl, hb, hcnt, hrow, hbw⟩ := hrel
      clear B4 HR4 BW4
      obtain ⟨wo, hwo⟩ : ∃ wo, wo = wr := ⟨_, rfl⟩
      subst hwo
      have hwr := hbw.out.size
      by_cases hlt : k < N
      · have hki : (k : Int) < N := by omega
        obtain ⟨⟨x1, x2⟩, hx⟩ : ∃ q, fs[k]? = some q := ⟨_, List.getElem?_eq_getElem (by rw [HFL.out]; exact hlt)⟩
        obtain ⟨y0, y1⟩ := pair_of_obj hrow.out HCU.out k _ hx
        have HBb := Lib.hid (hb.out.keep ((Below.refl _ wo).alloc (Nat.le_refl _) (.cells #[.int .i64 x1, .int .i64 x2] 74)))
        have HWb := Lib.hid (hbw.out.alloc hwr (.cells #[.int .i64 x1, .int .i64 x2] 74))
        have HX := Lib.hid ((MapKept.heap_alloc wo (.cells #[.int .i64 x1, .int .i64 x2] 74)).1)
        have hrl := (Array.getElem?_eq_some_iff.1 hrow.out).1
        have HRw := Lib.hid (((MapKept.heap_alloc wo (.cells #[.int .i64 x1, .int .i64 x2] 74)).2 HS hrl).trans hrow.out)
        obtain ⟨W, hW⟩ : ∃ W, wo.alloc (.cells #[.int .i64 x1, .int .i64 x2] 74) = W := ⟨_, rfl⟩
        have hWs : W.heap.size = wo.heap.size + 1 := by rw [← hW]; simp
        have hcn := hcnt.out
        have HC := Lib.hid (fun w => cut_any x1 w)
        obtain ⟨C, hC⟩ : ∃ C, cutN x1 = C := ⟨_, rfl⟩
        rw [hC] at HC
        rw [hW] at HBb HWb HX HRw
        have HT := Lib.hid (HBb.out.table C x2 (by omega) (by omega) (by omega) (by omega) (by omega))
        have HN := Lib.hid (ask_counts (M := mostM most) (n := C) (s := x2) hcn)
        clear hx
        go_upto_region 7 with fail
        have z0 : W.cell? ⟨wo.heap.size, 0, none⟩ = some (.int .i64 x1) := by simp [World.cell?, HX.out]
        have z1 : W.cell? ⟨wo.heap.size, 1, none⟩ = some (.int .i64 x2) := by simp [World.cell?, HX.out]
        clear hW
        go_wp2_with fail
        refine (HC.out W).mono ?_
        rintro z w5 ⟨rfl, rfl⟩
        go_wp2_with fail
        refine HT.out.mono ?_
        rintro z w5 ⟨tv, rfl, g1, g2, g3, g4⟩
        have G1 := Lib.hid g1
        have G2 := Lib.hid (HWb.out.trans g2)
        have hX5 := (g3 _ _ _ _ HX.out (by decide) (by decide)).trans HX.out
        have HR5 := Lib.hid ((g3 _ _ _ _ HRw.out (by decide) (by decide)).trans HRw.out)
        have u1 : w5.cell? ⟨wo.heap.size, 1, none⟩ = some (.int .i64 x2) := by simp [World.cell?, hX5]
        have hw5 := G2.out.size
        have hul := (Array.getElem?_eq_some_iff.1 hX5).1
        clear g1 g2 g3 hX5 HT HC
        obtain ⟨E, hE⟩ : ∃ E, (askK (mostM most) σ C x2).1 = E := ⟨_, rfl⟩
        rw [hE] at g4
        rcases g4 with ⟨g4, rfl⟩ | ⟨rfl, tb, tc, tm, rfl, m1, m2, rfl, hbt, hT, hs, hkeep⟩
        · go_wp2_with fail
          exact ⟨⟨k + 1, _, by omega, by go_num, G1, Lib.hid (by have := HN.out; omega), HR5, G2⟩, by simp [intOf]; omega⟩
        · have HT0 := Lib.hid hT.g
          have HK := Lib.hid hkeep
          have HSg := Lib.hid hs
          have hbl := hT.lt m1
          have HTU := Lib.hid (fun (i : Nat) => turn_fn (x2 * i) tm (by omega) (by omega))
          clear hT hkeep hs
          go_wp2_with fail
          go_loopw [13, 14, 15, 16, 53] (fun k13 z14 c15 s16 i wr => ∃ (j : Nat), j ≤ tm ∧ i = .int .i64 j ∧ Hid (TabG wr tb tm x2 j) ∧ Hid (OnlyB tb w5 wr)) (fun _ _ _ _ i _ => tm - (intOf i).toNat)
          case atStart => exact ⟨0, by omega, rfl, HT0, Lib.hid (OnlyB.refl tb w5)⟩
          case round =>
            obtain ⟨j, hj, rfl, ht, ho⟩ := hrel
            clear HT0 G1
            have hwi := ho.out.size
            by_cases hjl : j < tm
            · have hji : (j : Int) < tm := by omega
              obtain ⟨⟨q0, q1⟩, q2, q3⟩ := ht.out j (Nat.le_refl _) hjl
              obtain ⟨Cw, Sw, hCS⟩ : ∃ Cw Sw, tuC (x2 * j) tm = Cw ∧ tuS (x2 * j) tm = Sw := ⟨_, _, rfl, rfl⟩
              obtain ⟨hC1, hS1⟩ := hCS
              rw [hC1] at q0
              rw [hS1] at q2
              have hw1 : wrap64 (x2 * (j : Int)) = x2 * j := by
                rcases HSg.out with h | h
                · rw [h]; unfold wrap64; omega
                · rw [h]; unfold wrap64; omega
              have hbi := World.block_lt_of_cell? _ _ q0
              have hub : w5.heap.size ≤ wr.heap.size := hwi
              have u1' : wr.cell? ⟨wo.heap.size, 1, none⟩ = some (.int .i64 x2) := by
                have e := ho.out.block wo.heap.size hul (by omega)
                rw [World.cell?_of_block (w := w5) (a := ⟨wo.heap.size, 1, none⟩) e]; exact u1
              obtain ⟨hturn, fC, fS, -, -⟩ := HTU.out j
              rw [hC1, hS1] at hturn
              rw [hC1] at fC
              rw [hS1] at fS
              have oC := neq_of_eq (order_eq fC fC rfl)
              have oS := neq_of_eq (order_eq fS fS rfl)
              have HTn := Lib.hid hturn
              have hAl := Lib.hid ((Below.refl wr.heap.size wr).alloc (Nat.le_refl _) (.cells #[.float .f64 Cw, .float .f64 Sw] 83))
              have HTA := Lib.hid (ht.out.keep hAl.out)
              have HOA := Lib.hid (ho.out.trans (OnlyB.of_below (b := tb) hAl.out))
              obtain ⟨V, hV⟩ : ∃ V, wr.alloc (.cells #[.float .f64 Cw, .float .f64 Sw] 83) = V := ⟨_, rfl⟩
              have hVz : V.heap[wr.heap.size]? = some (.cells #[.float .f64 Cw, .float .f64 Sw] 83 (0, 0)) := by rw [← hV]; exact (MapKept.heap_alloc wr _).1
              have hVs : V.heap.size = wr.heap.size + 1 := by rw [← hV]; simp
              have u2 : V.cell? ⟨wo.heap.size, 1, none⟩ = some (.int .i64 x2) := by rw [← hV]; exact keep_cell hAl.out u1'
              rw [hV] at HTA HOA
              have HVZ := Lib.hid hVz
              clear hturn fC fS hC1 hS1 u1 ht ho hVz
              go_upto_region 13 with fail
              clear hV
              clear hAl
              go_wp2_with (first | simp only [hw1] | fail)
              refine (HTn.out V).mono ?_
              rintro z w6 ⟨rfl, hb6⟩
              have v0 : w6.cell? ⟨wr.heap.size, 0, none⟩ = some (.float .f64 Cw) := keep_cell hb6 (by simp [World.cell?, HVZ.out])
              have v1 : w6.cell? ⟨wr.heap.size, 1, none⟩ = some (.float .f64 Sw) := keep_cell hb6 (by simp [World.cell?, HVZ.out])
              have HT6 := Lib.hid (HTA.out.keep hb6)
              have HO6 := Lib.hid (HOA.out.trans (OnlyB.of_below (b := tb) hb6))
              obtain ⟨⟨q0', q1'⟩, q2', q3'⟩ := HT6.out j (Nat.le_refl _) hjl
              have HT7 := Lib.hid (HT6.out.set (.float .f64 4621256167635550208) (.float .f64 0))
              have HO7 : Hid (OnlyB tb w5 ((w6.setCell ⟨tb, j * 2, none⟩ (.float .f64 4621256167635550208)).setCell ⟨tb, j * 2 + 1, none⟩ (.float .f64 0))) := Lib.hid ((HO6.out.setCell _ _ _).setCell _ _ _)
              clear hb6 q0 q1 q2 q3 u2
              go_wp2_with fail
              exact ⟨⟨j + 1, by omega, by go_num, HT7, HO7⟩, by simp [intOf]; omega⟩
            · obtain rfl : j = tm := by omega
              have hoB := ho.out.belowB (base := w.heap.size) (by omega) hw5
              have HR6 := Lib.hid ((ho.out.block HS (by omega) (by omega)).trans HR5.out)
              go_wp2_with fail
              exact ⟨⟨k + 1, _, by omega, by go_num, Lib.hid (HK.out _ ho.out), Lib.hid (by have := HN.out; omega), HR6, Lib.hid (G2.out.trans hoB)⟩, by simp [intOf]; omega⟩
      · obtain rfl : k = N := by omega
        go_wp2_with fail
        go_ret
        exact ⟨rfl, hbw.out⟩

end Go.Proofs.Ytnpkblidlmkagaa

/- The walk of the law CacheRoom. -/
set_option linter.unusedSimpArgs false
set_option linter.unusedVariables false
namespace Go.Proofs.Ytnpkblidlmkagaa
open Go Go.RowKit Fl

/-- What was asked for stands first, if there is room for it. -/
theorem ask_head {M : Int} {σ : St} {n s : Int} (h : (askK M σ n s).1 = 0) (hn : n ≤ M) : ∃ L, (askK M σ n s).2.1 = (n, s) :: L := by
  unfold askK at h ⊢
  split at h
  · simp at h
  · rename_i h1
    rw [if_neg h1]
    split at h
    · simp at h
    · rename_i h2
      rw [if_neg h2]
      by_cases h3 : (n, s) ∈ σ.1
      · rw [if_pos h3]; exact ⟨_, rfl⟩
      · rw [if_neg h3, if_neg (by omega)]; exact ⟨_, rfl⟩

/-- A law's own cache: what its list is. -/
theorem Own15.facts {base : Nat} {w : World} {p r : Nat} {M : Int} {σ : St} (h : Own15 base w p r M σ) : σ.1.Nodup ∧ (∀ k ∈ σ.1, 1 ≤ k.1) ∧ sumN σ.1 ≤ M ∧ M ≤ 65536 ∧ σ.1.length ≤ 65536 := by
  obtain ⟨h1, h2, kv, es, clock, h3, h4⟩ := h
  exact ⟨h3.kn, fun k hk => (h3.ks k hk).1, h3.sm, h3.m1, h3.len⟩

set_option maxRecDepth 100000 in
set_option maxHeartbeats 4000000 in
theorem room15_any (most : Int) (A : Option Addr) (n c : Nat) (f : Nat → Int × Int) (w : World) (hA : PairsAt w A n f) (hn : n ≤ 9223372036854775807) (hAc : A = none → c = 0) (hnc : n ≤ c) (hc : c ≤ 9223372036854775807) :
    Calls Try.prog 21 #[.int .i64 most, .slice A n c] w fun z w' => z = .returned (.bool true) ∧ Below w.heap.size w w' := by
  have hmm := @run_makeMap Try.prog
  have H0 := Lib.hid (Own15.made most w)
  have H2 := Lib.hid (fun w => wakes15_any w)
  have HA := Lib.hid hA
  clear hA
  go_enter Try.func21, Try.ntmps21
  go_wp2_with fail
  refine H0.out.mono ?_
  rintro z w1 ⟨p, r, rfl, a1, a2⟩
  have B1 := Lib.hid a1
  have BW1 := Lib.hid a2
  have hs1 := a2.size
  clear a1 a2 H0
  go_wp2_with fail
  refine (H2.out w1).mono ?_
  rintro z w3 ⟨rfl, hb⟩
  have B3 := Lib.hid (B1.out.keep hb)
  have BW3 := Lib.hid (BW1.out.trans (hb.mono hs1))
  clear B1 BW1 hb H2
  obtain ⟨m, hm, hmn⟩ : ∃ m : Nat, min (n : Int) 40 = (m : Int) ∧ m ≤ n := ⟨min n 40, by omega, by omega⟩
  have hm40 : m ≤ 40 := by omega
  have hmc : (m : Int) ≤ c := by omega
  have hm0 : (0 : Int) ≤ (m : Int) := by omega
  have HM := Lib.hid hmn
  obtain ⟨MM, hMM⟩ : ∃ MM, mostM most = MM := ⟨_, rfl⟩
  have hMM' : max 0 (min most 65536) = MM := hMM
  rw [hMM] at B3
  go_upto_region 5 with fail
  go_cut [28, 29, 30] from 24 to 30 (fun s28 s29 s30 wx => (∃ c', s28 = .slice A m c') ∧ s29 = .int .i64 m ∧ s30 = .int .i64 0 ∧ wx = w3)
  case first =>
    rcases A with _ | a
    · obtain rfl := hAc rfl
      obtain rfl : n = 0 := by omega
      obtain rfl : m = 0 := by omega
      go_wp2_with fail
      go_meet
      exact ⟨⟨0, rfl⟩, rfl, rfl, rfl⟩
    · go_wp2_with (first | rw [hm] | fail)
      go_meet
      exact ⟨⟨c, rfl⟩, rfl, rfl, rfl⟩
  case rest =>
    obtain ⟨⟨c', rfl⟩, rfl, rfl, rfl⟩ := hcut
    have hMMle : MM ≤ 65536 := by omega
    clear hm hmc hm0 hnc hAc hc hn hMM
    go_wp2_with fail
    go_loopw [8, 9, 10, 11, 12, 13, 14, 16, 30] (fun b8 n9 t10 e11 l12 a13 m14 b16 i wr => ∃ (k : Nat) (σ : St), k ≤ m ∧ i = .int .i64 k ∧ Hid (Own15 w.heap.size wr p r MM σ) ∧ Hid (0 ≤ σ.2.1 ∧ σ.2.1 ≤ k ∧ 0 ≤ σ.2.2 ∧ σ.2.2 ≤ k) ∧ Hid (Below w.heap.size w wr)) (fun _ _ _ _ _ _ _ _ i _ => m - (intOf i).toNat)
    case atStart => exact ⟨0, ([], 0, 0), by omega, rfl, B3, Lib.hid (by decide), BW3⟩
    case round =>
      obtain ⟨k, σ, hk, rfl, hb, hcnt, hbw⟩ := hrel
      clear B3 BW3
      obtain ⟨wo, hwo⟩ : ∃ wo, wo = wr := ⟨_, rfl⟩
      subst hwo
      have hwr := hbw.out.size
      by_cases hlt : k < m
      · have hki : (k : Int) < m := by omega
        obtain ⟨b, o, rfl, y0, y1⟩ := (HA.out.keep hbw.out) k (by have := HM.out; omega)
        obtain ⟨x1, hx1⟩ : ∃ x1, (f k).1 = x1 := ⟨_, rfl⟩
        obtain ⟨x2, hx2⟩ : ∃ x2, (f k).2 = x2 := ⟨_, rfl⟩
        rw [hx1] at y0
        rw [hx2] at y1
        have HBb := Lib.hid (hb.out.keep ((Below.refl _ wo).alloc (Nat.le_refl _) (.cells #[.int .i64 x1, .int .i64 x2] 74)))
        have HWb := Lib.hid (hbw.out.alloc hwr (.cells #[.int .i64 x1, .int .i64 x2] 74))
        have HX := Lib.hid ((MapKept.heap_alloc wo (.cells #[.int .i64 x1, .int .i64 x2] 74)).1)
        obtain ⟨W, hW⟩ : ∃ W, wo.alloc (.cells #[.int .i64 x1, .int .i64 x2] 74) = W := ⟨_, rfl⟩
        have hWs : W.heap.size = wo.heap.size + 1 := by rw [← hW]; simp
        have hcn := hcnt.out
        have HC := Lib.hid (fun w => cut_any x1 w)
        obtain ⟨N, hN⟩ : ∃ N, cutN x1 = N := ⟨_, rfl⟩
        rw [hN] at HC
        rw [hW] at HBb HWb HX
        have HT := Lib.hid (HBb.out.table N x2 (by omega) (by omega) (by omega) (by omega) (by omega))
        have HN := Lib.hid (ask_counts (M := MM) (n := N) (s := x2) hcn)
        have HH := Lib.hid (fun h1 h2 => ask_head (M := MM) (σ := σ) (n := N) (s := x2) h1 h2)
        clear hx1 hx2 hN
        go_upto_region 8 with fail
        have z0 : W.cell? ⟨wo.heap.size, 0, none⟩ = some (.int .i64 x1) := by simp [World.cell?, HX.out]
        have z1 : W.cell? ⟨wo.heap.size, 1, none⟩ = some (.int .i64 x2) := by simp [World.cell?, HX.out]
        clear hW
        go_wp2_with fail
        refine (HC.out W).mono ?_
        rintro z w5 ⟨rfl, rfl⟩
        go_wp2_with fail
        refine HT.out.mono ?_
        rintro z w5 ⟨tv, rfl, g1, g2, g3, -⟩
        have G1 := Lib.hid g1
        have G2 := Lib.hid (HWb.out.trans g2)
        have hX5 := (g3 _ _ _ _ HX.out (by decide) (by decide)).trans HX.out
        have u1 : w5.cell? ⟨wo.heap.size, 1, none⟩ = some (.int .i64 x2) := by simp [World.cell?, hX5]
        have hw5 := G2.out.size
        have hul := (Array.getElem?_eq_some_iff.1 hX5).1
        clear g1 g2 g3 hX5 HT HC
        obtain ⟨σ', hσ⟩ : ∃ σ', (askK MM σ N x2).2 = σ' := ⟨_, rfl⟩
        obtain ⟨E, hE⟩ : ∃ E, (askK MM σ N x2).1 = E := ⟨_, rfl⟩
        rw [hσ] at G1 HN HH
        rw [hE] at HH
        obtain ⟨f1, f2, f3, f4, f5⟩ := G1.out.facts
        have HF1 := Lib.hid f1
        have HF2 := Lib.hid f2
        have HKe := Lib.hid G1.out.kept
        clear hσ f1 f2
        go_wp2_with fail
        refine HKe.out.mono ?_
        rintro z w6 ⟨lv, rfl, g1, -, g3⟩
        obtain ⟨LA, lc, rfl, hlc1, hlc2⟩ := g1.shape
        have HKV := Lib.hid g1
        have HB6 := Lib.hid g3
        have hw6 : w5.heap.size ≤ w6.heap.size := g3.size
        have HM0 : Hid ((w6.alloc (.map #[] 0)).heap[w6.heap.size]? = some (.map ((metE σ'.1 0).map ent).toArray 0)) := Lib.hid ((MapKept.heap_alloc w6 _).1)
        have HKV0 := Lib.hid (g1.keep ((Below.refl _ w6).alloc (Nat.le_refl _) (.map #[] 0)))
        have HBm0 := Lib.hid ((Below.refl w6.heap.size w6).alloc (Nat.le_refl _) (.map #[] 0))
        have hwm0 : w6.heap.size < (w6.alloc (.map #[] 0)).heap.size := by simp
        clear g1 g3 HKe
        go_wp2_with fail
        go_loopw [13, 16, 50] (fun a b i wr => ∃ (j : Nat), j ≤ σ'.1.length ∧ i = .int .i64 j ∧ a = .int .i64 (sumN (σ'.1.take j)) ∧ Hid (wr.heap[w6.heap.size]? = some (.map ((metE σ'.1 j).map ent).toArray j)) ∧ Hid (KV wr (.slice LA σ'.1.length lc) σ'.1) ∧ Hid (Below w6.heap.size w6 wr)) (fun _ _ i _ => σ'.1.length - (intOf i).toNat)
        case atStart => exact ⟨0, by omega, rfl, rfl, HM0, HKV0, HBm0⟩
        case round =>
          obtain ⟨j, hj, rfl, rfl, hmp, hkv, hbm⟩ := hrel
          clear HM0 HKV0 HBm0
          have hwm := hbm.out.size
          have hrl := (Array.getElem?_eq_some_iff.1 hmp.out).1
          by_cases hjl : j < σ'.1.length
          · have hji : (j : Int) < σ'.1.length := by omega
            obtain ⟨⟨ka, kb⟩, hx⟩ : ∃ q, σ'.1[j]? = some q := ⟨_, List.getElem?_eq_getElem hjl⟩
            obtain ⟨lb, lc', e, hlb, hvals⟩ := hkv.out.vals (by omega)
            cases e
            obtain ⟨v0, v1⟩ := hvals j _ hx
            have hsum := sumN_take σ'.1 j _ hx
            have hle := sumN_le σ'.1 (j + 1) HF2.out
            have hle0 := sumN_le σ'.1 j HF2.out
            have hka := HF2.out _ (List.mem_of_getElem? hx)
            have ws : wrap64 (sumN (σ'.1.take j) + ka) = sumN (σ'.1.take (j + 1)) := by rw [hsum]; simp only at hsum hka; unfold wrap64; omega
            obtain ⟨V, hV⟩ : ∃ V, wr.alloc (.cells #[.int .i64 ka, .int .i64 kb] 89) = V := ⟨_, rfl⟩
            have hVb : Below w6.heap.size w6 V := by rw [← hV]; exact hbm.out.alloc hwm _
            have hVs : V.heap.size = wr.heap.size + 1 := by rw [← hV]; simp
            have hVm : V.drew.heap[w6.heap.size]? = some (.map ((metE σ'.1 j).map ent).toArray j) := by
              rw [← hV]; exact ((MapKept.heap_alloc wr _).2 _ hrl).trans hmp.out
            have hVz : V.heap[wr.heap.size]? = some (.cells #[.int .i64 ka, .int .i64 kb] 89 (0, 0)) := by rw [← hV]; exact (MapKept.heap_alloc wr _).1
            obtain ⟨W2, W3, l1, l2, l3, l4, l5, l6, l7, l8, l9, l10⟩ := met_step V.drew w6.heap.size j σ'.1 (ka, kb) hVm hx HF1.out
            simp only at l1 l2 l3 l5
            have l1' := l1 V.drew rfl
            have q0 : V.cell? ⟨wr.heap.size, 0, none⟩ = some (.int .i64 ka) := by simp [World.cell?, hVz]
            have q1 : V.cell? ⟨wr.heap.size, 1, none⟩ = some (.int .i64 kb) := by simp [World.cell?, hVz]
            have hV3 : W3.heap[wr.heap.size]? = some (.cells #[.int .i64 ka, .int .i64 kb] 89 (0, 0)) := (l7.block wr.heap.size (by show wr.heap.size < V.heap.size; omega) (by omega)).trans hVz
            have hV2 : W2.heap[wr.heap.size]? = some (.cells #[.int .i64 ka, .int .i64 kb] 89 (0, 0)) := (l9.block wr.heap.size (by show wr.heap.size < V.heap.size; omega) (by omega)).trans hVz
            have q2 : W3.cell? ⟨wr.heap.size, 0, none⟩ = some (.int .i64 ka) := by simp [World.cell?, hV3]
            have q3 : W3.cell? ⟨wr.heap.size, 1, none⟩ = some (.int .i64 kb) := by simp [World.cell?, hV3]
            have q4 : W2.cell? ⟨wr.heap.size, 0, none⟩ = some (.int .i64 ka) := by simp [World.cell?, hV2]
            have q5 : W2.cell? ⟨wr.heap.size, 1, none⟩ = some (.int .i64 kb) := by simp [World.cell?, hV2]
            have hB3 : Below w6.heap.size w6 W3 := hVb.trans (Below.trans (Below.drew (Below.refl _ V)) (l7.belowB (Nat.le_refl _) hVb.size))
            have HB3 := Lib.hid hB3
            have HL6 := Lib.hid l6
            have HKV3 := Lib.hid (HKV.out.keep hB3)
            clear l1 l6 l7 l8 l9 l10 hB3 hVb hVm hVz hV2 hV3 hsum hle hle0 hka hx hvals HKV hkv hmp hbm
            go_upto_region 16 with fail
            clear hV
            go_wp2_with (first | simp only [ws] | fail)
            go_region
            all_goals
              go_wp2_with fail
              exact ⟨⟨j + 1, by omega, by go_num, rfl, HL6, HKV3, HB3⟩, by simp [intOf]; omega⟩
          · obtain rfl : j = σ'.1.length := by omega
            have hT : σ'.1.take σ'.1.length = σ'.1 := List.take_length
            rw [hT]
            have hGE : Hid (Own15 w.heap.size wr p r MM σ') := Lib.hid ((G1.out.keep HB6.out).keep hbm.out)
            have hGB : Hid (Below w.heap.size w wr) := Lib.hid ((G2.out.trans (HB6.out.mono hw5)).trans (hbm.out.mono (by omega)))
            have u2 : wr.cell? ⟨wo.heap.size, 1, none⟩ = some (.int .i64 x2) := keep_cell hbm.out (keep_cell HB6.out u1)
            have hnot : ¬ MM < sumN σ'.1 := by omega
            have HCN : Hid (0 ≤ σ'.2.1 ∧ σ'.2.1 ≤ (k : Int) + 1 ∧ 0 ≤ σ'.2.2 ∧ σ'.2.2 ≤ (k : Int) + 1) := HN
            by_cases hE0 : E = 0
            · by_cases hNM : N ≤ MM
              · obtain ⟨L, hL⟩ := HH.out hE0 hNM
                obtain ⟨lb, lc', e, hlb, hvals⟩ := hkv.out.vals (by rw [hL]; simp)
                obtain ⟨v0, v1⟩ := hvals 0 (N, x2) (by rw [hL]; rfl)
                cases e
                have hlen0 : ¬ (σ'.1.length : Int) = 0 := by rw [hL]; simp; omega
                have hlenp : (0 : Int) < σ'.1.length := by omega
                have hlenn : ¬ σ'.1.length = 0 := by omega
                have d1 : decide ((σ'.1.length : Int) = 0) = false := decide_eq_false hlen0
                have d2 : decide (σ'.1.length = 0) = false := decide_eq_false hlenn
                have d4 : ¬ σ'.1 = [] := by rw [hL]; simp
                have d3 : decide (σ'.1 = []) = false := decide_eq_false d4
                have d5 : decide (MM < sumN σ'.1) = false := decide_eq_false hnot
                have d6 : decide (N ≤ MM) = true := decide_eq_true hNM
                subst hE0
                rw [Nat.zero_mul] at v0 v1
                rw [Nat.zero_add] at v1
                obtain ⟨len, hlen⟩ : ∃ len, σ'.1.length = len := ⟨_, rfl⟩
                rw [hlen] at hlen0 hlenp hlenn d1 d2
                have d8 : ((len : Int) == 0) = false := by simpa using hlenn
                clear hvals hkv hmp HH hL d3 d4
                go_upto_region 21 with fail
                simp only [hlen]
                clear hlen
                go_quiet (fail)
                go_wp2_with fail
                exact ⟨⟨k + 1, σ', by omega, by go_num, Lib.hid (hGE.out.keep (below_drewN (Below.refl _ _) _)), Lib.hid (by have := HCN.out; omega), Lib.hid (below_drewN hGB.out _)⟩, by simp [intOf]; omega⟩
              · clear hkv hmp HH
                subst hE0
                have d5 : decide (MM < sumN σ'.1) = false := decide_eq_false hnot
                have d6 : decide (N ≤ MM) = false := decide_eq_false hNM
                go_upto_region 21 with fail
                go_quiet (fail)
                go_wp2_with fail
                exact ⟨⟨k + 1, σ', by omega, by go_num, Lib.hid (hGE.out.keep (below_drewN (Below.refl _ _) _)), Lib.hid (by have := HCN.out; omega), Lib.hid (below_drewN hGB.out _)⟩, by simp [intOf]; omega⟩
            · clear hkv hmp HH
              have d5 : decide (MM < sumN σ'.1) = false := decide_eq_false hnot
              have d6 : decide (E = 0) = false := decide_eq_false hE0
              have d7 : (E == 0) = false := by simpa using hE0
              go_upto_region 21 with fail
              go_quiet (fail)
              go_wp2_with fail
              exact ⟨⟨k + 1, σ', by omega, by go_num, Lib.hid (hGE.out.keep (below_drewN (Below.refl _ _) _)), Lib.hid (by have := HCN.out; omega), Lib.hid (below_drewN hGB.out _)⟩, by simp [intOf]; omega⟩
      · obtain rfl : k = m := by omega
        go_wp2_with fail
        go_ret
        exact ⟨rfl, hbw.out⟩

end Go.Proofs.Ytnpkblidlmkagaa
