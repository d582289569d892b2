/- How the arguments of layers 18 and 19 look: lists of integers. -/
import Derived.Test.YtmgfaeineklccaaGreatMV1
import Derived.Test.YtmgfaeineklccaaGreatMV3
import Derived.ProofKit
import Derived.OpenShut
import Derived.SizedLaws
import Derived.Deep.Slices
set_option linter.unusedSimpArgs false
set_option linter.unusedVariables false
namespace Go.Proofs.YtmgfaeineklccaaGreat
open Go.ChangeShapes Go.WideShapes Go.ChangeAt Go.RowKit

/-- Numbers of 64 bits. -/
def Rng (f : Nat → Int) : Prop := ∀ i, -9223372036854775808 ≤ f i ∧ f i ≤ 9223372036854775807
theorem cells_int : Tryz.prog.cellsOf 3 = 1 := by kernel_rfl
theorem bytes_int : Tryz.prog.bytesOf 3 = 8 := by kernel_rfl
theorem cells_int64 : Tryz.prog.cellsOf 2 = 1 := by kernel_rfl
theorem bytes_int64 : Tryz.prog.bytesOf 2 = 8 := by kernel_rfl
/-- How long a slice's datum is. -/
def dlen {H : Type} : DataW H → Nat
  | .slice xs ys => xs.length + ys.length
  | _ => 0
theorem wf_rng {x : Int} (hx : (Lit.int .i64 x).wf = true) : -9223372036854775808 ≤ x ∧ x ≤ 9223372036854775807 := by
  have m1 : IntKind.i64.min = -9223372036854775808 := rfl
  have m2 : IntKind.i64.max = 9223372036854775807 := rfl
  simp only [Lit.wf, Bool.and_eq_true, decide_eq_true_eq] at hx
  omega
theorem zero_rng : (-9223372036854775808 : Int) ≤ 0 ∧ (0 : Int) ≤ 9223372036854775807 := ⟨by decide, by decide⟩
theorem rng_zs {zs : List Int} (h : ∀ n ∈ zs, (Lit.int .i64 n).wf = true) : Rng (fun i => zs.getD i 0) := fun i => by
  show _ ≤ zs.getD i 0 ∧ zs.getD i 0 ≤ _
  rw [List.getD_eq_getElem?_getD]
  rcases hz : zs[i]? with _ | x
  · exact ⟨by decide, by decide⟩
  · exact wf_rng (h x (List.mem_of_getElem? hz))
set_option maxRecDepth 100000 in
theorem shape_ints {H : Type} {enc : TypeId × Value → H} {W : World} {base : Nat} {v : Value} {d : DataW H} {p : List MemPlace} (hval : Value.okWide Tryz.prog W .any base 23 v)
    (h : DataW.Trod enc Tryz.prog W 0 (fun _ => true) true 23 v d p) : ∃ A n c f, v = .slice A n c ∧ IntsAt W A n f ∧ n ≤ dlen d ∧ Rng f := by
  obtain ⟨a0, len, cap, rfl⟩ := okWide_slice Tryz.underlying23 hval
  obtain ⟨fuel, hf⟩ := h
  rcases open_ints Tryz.underlying23 Tryz.underlying3 cells_int hf with ⟨hcs, hx⟩ | ⟨a, len', cap', zs, hcs, _, hl, hm, hz, hx, hcell, hwz⟩
  · simp [Value.cells] at hcs
    obtain ⟨rfl, rfl, rfl⟩ := hcs
    exact ⟨_, _, _, fun _ => 0, rfl, IntsAt.nil _ _ _, by omega, fun _ => zero_rng⟩
  · simp [Value.cells] at hcs
    obtain ⟨rfl, rfl, rfl⟩ := hcs
    simp only [Prod.mk.injEq] at hx
    obtain ⟨rfl, rfl⟩ := hx
    simp only [if_true] at hz
    refine ⟨_, _, _, fun i => zs.getD i 0, rfl, ?_, ?_, rng_zs hwz⟩
    · intro i hi
      obtain ⟨b, off, spot⟩ := a
      have hspot : spot = none := by simpa [Addr.add] using World.cell?_spot (hcell 0 (by omega))
      subst hspot
      refine ⟨b, off, rfl, ?_⟩
      have := hcell i (by omega)
      rwa [add_plain] at this
    · simp only [dlen, lits, List.length_map, List.length_take, List.length_drop]
      omega
/-- A slice that is read takes no more memory than the reach. -/
theorem sized_ints {H : Type} {enc : TypeId × Value → H} {W : World} {A : Option Addr} {n c : Nat} {d : DataW H} {p : List MemPlace} {ts : List TypeId} {ds : List (DataW H)} {j : Nat}
    (h : DataW.Trod enc Tryz.prog W 0 (fun _ => true) true 23 (.slice A n c) d p) (hsz : (DataW.weightsEach Tryz.prog ts ds).all (· ≤ reachBytes) = true) (ht : ts[j]? = some 23) (hd : ds[j]? = some d) (hn : n ≤ dlen d) : n ≤ 1125899906842624 := by
  obtain ⟨fuel, hf⟩ := h
  rcases open_ints Tryz.underlying23 Tryz.underlying3 cells_int hf with ⟨hcs, hx⟩ | ⟨a, len', cap', zs, hcs, _, hl, hm, hz, hx, hcell, hwz⟩
  · simp [Value.cells] at hcs
    omega
  · simp [Value.cells] at hcs
    obtain ⟨rfl, rfl, rfl⟩ := hcs
    simp only [Prod.mk.injEq] at hx
    obtain ⟨rfl, rfl⟩ := hx
    have := sized_slice hsz (j := j) (t := 23) (e := 3) ht hd Tryz.underlying23
    rw [bytes_int] at this
    simp only [dlen, lits, List.length_map, List.length_take, List.length_drop, reachBytes] at this hn
    omega
set_option maxRecDepth 100000 in
theorem shape_longs {H : Type} {enc : TypeId × Value → H} {W : World} {base : Nat} {v : Value} {d : DataW H} {p : List MemPlace} (hval : Value.okWide Tryz.prog W .any base 126 v)
    (h : DataW.Trod enc Tryz.prog W 0 (fun _ => true) true 126 v d p) : ∃ A n c f, v = .slice A n c ∧ IntsAt W A n f ∧ n ≤ dlen d ∧ Rng f := by
  obtain ⟨a0, len, cap, rfl⟩ := okWide_slice Tryz.underlying126 hval
  obtain ⟨fuel, hf⟩ := h
  rcases open_ints Tryz.underlying126 Tryz.underlying2 cells_int64 hf with ⟨hcs, hx⟩ | ⟨a, len', cap', zs, hcs, _, hl, hm, hz, hx, hcell, hwz⟩
  · simp [Value.cells] at hcs
    obtain ⟨rfl, rfl, rfl⟩ := hcs
    exact ⟨_, _, _, fun _ => 0, rfl, IntsAt.nil _ _ _, by omega, fun _ => zero_rng⟩
  · simp [Value.cells] at hcs
    obtain ⟨rfl, rfl, rfl⟩ := hcs
    simp only [Prod.mk.injEq] at hx
    obtain ⟨rfl, rfl⟩ := hx
    simp only [if_true] at hz
    refine ⟨_, _, _, fun i => zs.getD i 0, rfl, ?_, ?_, rng_zs hwz⟩
    · intro i hi
      obtain ⟨b, off, spot⟩ := a
      have hspot : spot = none := by simpa [Addr.add] using World.cell?_spot (hcell 0 (by omega))
      subst hspot
      refine ⟨b, off, rfl, ?_⟩
      have := hcell i (by omega)
      rwa [add_plain] at this
    · simp only [dlen, lits, List.length_map, List.length_take, List.length_drop]
      omega
theorem sized_longs {H : Type} {enc : TypeId × Value → H} {W : World} {A : Option Addr} {n c : Nat} {d : DataW H} {p : List MemPlace} {ts : List TypeId} {ds : List (DataW H)} {j : Nat}
    (h : DataW.Trod enc Tryz.prog W 0 (fun _ => true) true 126 (.slice A n c) d p) (hsz : (DataW.weightsEach Tryz.prog ts ds).all (· ≤ reachBytes) = true) (ht : ts[j]? = some 126) (hd : ds[j]? = some d) (hn : n ≤ dlen d) : n ≤ 1125899906842624 := by
  obtain ⟨fuel, hf⟩ := h
  rcases open_ints Tryz.underlying126 Tryz.underlying2 cells_int64 hf with ⟨hcs, hx⟩ | ⟨a, len', cap', zs, hcs, _, hl, hm, hz, hx, hcell, hwz⟩
  · simp [Value.cells] at hcs
    omega
  · simp [Value.cells] at hcs
    obtain ⟨rfl, rfl, rfl⟩ := hcs
    simp only [Prod.mk.injEq] at hx
    obtain ⟨rfl, rfl⟩ := hx
    have := sized_slice hsz (j := j) (t := 126) (e := 2) ht hd Tryz.underlying126
    rw [bytes_int64] at this
    simp only [dlen, lits, List.length_map, List.length_take, List.length_drop, reachBytes] at this hn
    omega
end Go.Proofs.YtmgfaeineklccaaGreat
/- How the arguments of layers 18 and 19 look: pairs of lists. -/
set_option linter.unusedSimpArgs false
set_option linter.unusedVariables false
namespace Go.Proofs.YtmgfaeineklccaaGreat
open Go.ChangeShapes Go.WideShapes Go.ChangeAt Go.RowKit

theorem weights_all {H : Type} {P : Program} {e : TypeId} : ∀ {l : List (DataW H)} {d : DataW H}, d ∈ l → ∀ n ∈ d.weights P e, n ∈ DataW.weightsAll P e l
  | d' :: r, d, hd, n, hn => by
    simp only [DataW.weightsAll, List.mem_append]
    rcases List.mem_cons.1 hd with rfl | h
    · exact Or.inl hn
    · exact Or.inr (weights_all h n hn)
theorem reach8 {k : Nat} (h : k * 8 ≤ reachBytes) : k ≤ 1125899906842624 := by
  unfold reachBytes at h; omega
theorem cells_ints : Tryz.prog.cellsOf 23 = 1 := by kernel_rfl
theorem cells_twoInts : Tryz.prog.cellsOf 61 = 2 := by kernel_rfl
set_option maxRecDepth 100000 in
theorem row_ints {H : Type} {enc : TypeId × Value → H} {W : World} {fuel : Nat} {cs : List Value} {x : DataW H × List MemPlace}
    (hf : DataW.trod enc Tryz.prog W 0 (fun _ => true) true fuel 23 cs = some x) : ∃ A n c f, cs = [.slice A n c] ∧ IntsAt W A n f ∧ Rng f ∧ (n = 0 ∨ ∃ k, n ≤ k ∧ k * 8 ∈ x.1.weights Tryz.prog 23) := by
  rcases open_ints Tryz.underlying23 Tryz.underlying3 cells_int hf with ⟨hcs, hx⟩ | ⟨a, len', cap', zs, hcs, _, hl, hm, hz, hx, hcell, hwz⟩
  · exact ⟨_, _, _, fun _ => 0, hcs, IntsAt.nil _ _ _, fun _ => zero_rng, .inl rfl⟩
  · subst hx
    simp only [if_true] at hz
    refine ⟨_, _, _, fun i => zs.getD i 0, hcs, ?_, rng_zs hwz, .inr ⟨zs.length, by omega, ?_⟩⟩
    · intro i hi
      obtain ⟨b, off, spot⟩ := a
      have hspot : spot = none := by simpa [Addr.add] using World.cell?_spot (hcell 0 (by omega))
      subst hspot
      refine ⟨b, off, rfl, ?_⟩
      have := hcell i (by omega)
      rwa [add_plain] at this
    · have e : (lits .i64 (zs.take len') : List (DataW H)).length + (lits .i64 (zs.drop len') : List (DataW H)).length = zs.length := by
        simp only [lits, List.length_map, List.length_take, List.length_drop]; omega
      simp only [DataW.weights, Tryz.underlying23, e, bytes_int, List.mem_cons, true_or]
set_option maxRecDepth 100000 in
theorem shape_pair {H : Type} {enc : TypeId × Value → H} {W : World} {base : Nat} {v : Value} {d : DataW H} {p : List MemPlace} {ts : List TypeId} {ds : List (DataW H)} {j : Nat} (hval : Value.okWide Tryz.prog W .any base 61 v)
    (h : DataW.Trod enc Tryz.prog W 0 (fun _ => true) true 61 v d p) (hsz : (DataW.weightsEach Tryz.prog ts ds).all (· ≤ reachBytes) = true) (ht : ts[j]? = some 61) (hd : ds[j]? = some d) :
    ∃ A n c f B m e g, v = .agg #[.slice A n c, .slice B m e] ∧ IntsAt W A n f ∧ n ≤ 1125899906842624 ∧ Rng f ∧ IntsAt W B m g ∧ m ≤ 1125899906842624 ∧ Rng g := by
  obtain ⟨cs, rfl, hsize, _⟩ : ∃ cs, v = .agg cs ∧ cs.size = Tryz.prog.cellsOf 61 ∧ Row.okWide Tryz.prog W .any base 61 cs := by
    simpa [Value.okWide, Tryz.underlying61] using hval
  rw [cells_twoInts] at hsize
  obtain ⟨l⟩ := cs
  obtain ⟨u0, u1, rfl⟩ : ∃ a b, l = [a, b] := by
    match l, hsize with
    | [a, b], _ => exact ⟨a, b, rfl⟩
  obtain ⟨fuel, hf⟩ := h
  obtain ⟨xs, m, rfl, hx, _, hn, hel⟩ := DataW.trod_array Tryz.underlying61 hf
  have h0 := hel 0 (by omega)
  have h1 := hel 1 (by omega)
  rw [cells_ints] at h0 h1
  simp only [Value.cells] at h0 h1
  obtain ⟨y0, y1, rfl⟩ : ∃ a b, xs = [a, b] := by
    match xs, hn with
    | [a, b], _ => exact ⟨a, b, rfl⟩
  obtain ⟨A, n, c, f, e0, hA, hR, hw⟩ := row_ints h0
  obtain ⟨B, m', e, g, e1, hB, hS, hw'⟩ := row_ints h1
  simp at e0 e1
  subst e0 e1
  simp only [Prod.mk.injEq] at hx
  obtain ⟨rfl, rfl⟩ := hx
  have far : ∀ y ∈ [y0, y1], ∀ k, k * 8 ∈ y.1.weights Tryz.prog 23 → k ≤ 1125899906842624 := by
    intro y hy k hk
    refine reach8 (of_decide_eq_true (List.all_eq_true.1 hsz _ (DataW.weights_mem_each ht hd _ ?_)))
    simp only [DataW.weights, Tryz.underlying61]
    exact weights_all (List.mem_map.2 ⟨y, hy, rfl⟩) _ hk
  refine ⟨A, n, c, f, B, m', e, g, rfl, hA, ?_, hR, hB, ?_, hS⟩
  · rcases hw with h | ⟨k, hk, hm⟩
    · omega
    · have := far y0 (by simp) k hm; omega
  · rcases hw' with h | ⟨k, hk, hm⟩
    · omega
    · have := far y1 (by simp) k hm; omega

end Go.Proofs.YtmgfaeineklccaaGreat
/- How the arguments of layers 18 and 19 look: lists of nodes. -/
set_option linter.unusedSimpArgs false
set_option linter.unusedVariables false
namespace Go.Proofs.YtmgfaeineklccaaGreat
open Go.ChangeShapes Go.WideShapes Go.ChangeAt Go.RowKit

theorem cells_node : Tryz.prog.cellsOf 114 = 4 := by kernel_rfl
theorem bytes_node : Tryz.prog.bytesOf 114 = 32 := by kernel_rfl
set_option maxRecDepth 100000 in
theorem trod_node {H : Type} {enc : TypeId × Value → H} {W : World} {base n : Nat} {sp : Nat → Bool} {hd : Bool} {cs : List Value} {x : DataW H × List MemPlace} (hl : cs.length = 4) (h : DataW.trod enc Tryz.prog W base sp hd n 114 cs = some x) : ∃ q : Nat → Int, cs = [.int .i64 (q 0), .int .i64 (q 1), .int .i64 (q 2), .int .i64 (q 3)] := by
  obtain ⟨c0, c1, c2, c3, rfl⟩ : ∃ a b c d, cs = [a, b, c, d] := by
    match cs, hl with
    | [a, b, c, d], _ => exact ⟨a, b, c, d, rfl⟩
  obtain ⟨xs, m, rfl, hx, _, hn, hel⟩ := DataW.trod_struct Tryz.underlying114 h
  have h0 : DataW.trod enc Tryz.prog W base sp hd m 3 ((List.drop 0 [c0, c1, c2, c3]).take (Tryz.prog.cellsOf 3)) = xs[0]? := hel 0 _ rfl
  have h1 : DataW.trod enc Tryz.prog W base sp hd m 3 ((List.drop 1 [c0, c1, c2, c3]).take (Tryz.prog.cellsOf 3)) = xs[1]? := hel 1 _ rfl
  have h2 : DataW.trod enc Tryz.prog W base sp hd m 3 ((List.drop 2 [c0, c1, c2, c3]).take (Tryz.prog.cellsOf 3)) = xs[2]? := hel 2 _ rfl
  have h3 : DataW.trod enc Tryz.prog W base sp hd m 3 ((List.drop 3 [c0, c1, c2, c3]).take (Tryz.prog.cellsOf 3)) = xs[3]? := hel 3 _ rfl
  rw [cells_int] at h0 h1 h2 h3
  obtain ⟨y0, y1, y2, y3, rfl⟩ : ∃ a b c d, xs = [a, b, c, d] := by
    match xs, hn with
    | [a, b, c, d], _ => exact ⟨a, b, c, d, rfl⟩
  obtain ⟨x0, e0, _, _⟩ := DataW.trod_int Tryz.underlying3 h0
  obtain ⟨x1, e1, _, _⟩ := DataW.trod_int Tryz.underlying3 h1
  obtain ⟨x2, e2, _, _⟩ := DataW.trod_int Tryz.underlying3 h2
  obtain ⟨x3, e3, _, _⟩ := DataW.trod_int Tryz.underlying3 h3
  simp at e0 e1 e2 e3
  subst e0 e1 e2 e3
  exact ⟨fun i => if i = 0 then x0 else if i = 1 then x1 else if i = 2 then x2 else x3, rfl⟩
set_option maxRecDepth 100000 in
theorem shape_nodes {H : Type} {enc : TypeId × Value → H} {W : World} {base : Nat} {v : Value} {d : DataW H} {p : List MemPlace} {ts : List TypeId} {ds : List (DataW H)} {j : Nat} (hval : Value.okWide Tryz.prog W .any base 22 v)
    (h : DataW.Trod enc Tryz.prog W 0 (fun _ => true) true 22 v d p) (hsz : (DataW.weightsEach Tryz.prog ts ds).all (· ≤ reachBytes) = true) (ht : ts[j]? = some 22) (hd : ds[j]? = some d) :
    ∃ A n c f, v = .slice A n c ∧ NodesAt W A n f ∧ n ≤ 1125899906842624 := by
  obtain ⟨a0, len, cap, rfl⟩ := okWide_slice Tryz.underlying22 hval
  obtain ⟨fuel, hf⟩ := h
  rcases Deep.open_slice Tryz.underlying22 hf with ⟨hcs, hx⟩ | ⟨a, len', cap', m, n, D, Pl, hcs, _, hl, hm, hmm, hx, hel⟩
  · simp [Value.cells] at hcs
    obtain ⟨rfl, rfl, rfl⟩ := hcs
    exact ⟨_, _, _, fun _ _ => 0, rfl, fun i hi => by omega, by omega⟩
  · simp [Value.cells] at hcs
    obtain ⟨rfl, rfl, rfl⟩ := hcs
    have hlm : len ≤ m := by rw [hmm]; split <;> omega
    have each : ∀ i, i < len → ∃ q : Nat → Int, W.cell? (a.add (i * 4)) = some (.int .i64 (q 0)) ∧ W.cell? (a.add (i * 4 + 1)) = some (.int .i64 (q 1)) ∧ W.cell? (a.add (i * 4 + 2)) = some (.int .i64 (q 2)) ∧ W.cell? (a.add (i * 4 + 3)) = some (.int .i64 (q 3)) := by
      intro i hi
      obtain ⟨cs', h1, h2⟩ := hel i (by omega)
      rw [cells_node] at h1
      obtain ⟨_, hlen, hcell⟩ := World.cells?_some h1
      obtain ⟨q, rfl⟩ := trod_node hlen h2
      have e0 := hcell 0 (by omega)
      have e1 := hcell 1 (by omega)
      have e2 := hcell 2 (by omega)
      have e3 := hcell 3 (by omega)
      rw [Deep.add_add] at e0 e1 e2 e3
      exact ⟨q, by simpa using e0, by simpa using e1, by simpa using e2, by simpa using e3⟩
    obtain ⟨q, hq⟩ := Deep.choose_lt each
    refine ⟨_, _, _, q, rfl, ?_, ?_⟩
    · intro i hi
      obtain ⟨b, off, spot⟩ := a
      have hspot : spot = none := by simpa [Addr.add] using World.cell?_spot (hq 0 (by omega)).1
      subst hspot
      refine ⟨b, off, rfl, ?_⟩
      have := hq i hi
      rw [add_plain, add_plain, add_plain, add_plain] at this
      exact this
    · simp only [Prod.mk.injEq] at hx
      obtain ⟨rfl, rfl⟩ := hx
      have := sized_slice hsz (j := j) (t := 22) (e := 114) ht hd Tryz.underlying22
      rw [bytes_node] at this
      simp only [List.length_map, List.length_range, reachBytes] at this
      omega
end Go.Proofs.YtmgfaeineklccaaGreat
