import Derived.Test.YtnpkblidlmkagaaKA
import Derived.BigQuiet
import Derived.Deep.LoopGhost
import Derived.Deep.RegionWith
import Derived.StillTailTactics
import Derived.Carry
/- The contract of Table: a table that is made and kept. -/
set_option linter.unusedSimpArgs false
set_option linter.unusedVariables false
namespace Go.Proofs.Ytnpkblidlmkagaa
open Go Go.RowKit

/-- The keys, cut from behind till there is room for n numbers more. -/
def cutK (M n : Int) (K : List (Int × Int)) : List (Int × Int) := if h : K ≠ [] ∧ M < sumN K + n then cutK M n K.dropLast else K
termination_by K.length
decreasing_by
  have := List.length_pos_iff.2 h.1
  simp; omega
theorem cutK_append (M n : Int) (K : List (Int × Int)) (k : Int × Int) (h : M < sumN (K ++ [k]) + n) : cutK M n (K ++ [k]) = cutK M n K := by
  rw [cutK, dif_pos ⟨by simp, h⟩]
  simp
theorem cutK_stop (M n : Int) (K : List (Int × Int)) (h : ¬ M < sumN K + n) : cutK M n K = K := by
  rw [cutK, dif_neg (fun e => h e.2)]

theorem RowF.of_block {W w1 : World} {b n : Nat} {f g : Nat → Nat} (e : w1.heap[b]? = W.heap[b]?) (h : RowF W b n f g) : RowF w1 b n f g := fun i hi => by
  obtain ⟨⟨g1, g2⟩, g3, g4⟩ := h i hi
  rw [World.cell?_of_block (w := W) (a := ⟨b, i * 2, none⟩) e, World.cell?_of_block (w := W) (a := ⟨b, i * 2 + 1, none⟩) e, World.frozen?_of_block (w := W) (a := ⟨b, i * 2, none⟩) e, World.frozen?_of_block (w := W) (a := ⟨b, i * 2 + 1, none⟩) e]
  exact ⟨⟨g1, g2⟩, g3, g4⟩
theorem Two.of_block {W w1 : World} {b : Nat} {u v : Value} (e : w1.heap[b]? = W.heap[b]?) (h : Two W b u v) : Two w1 b u v := by
  obtain ⟨g1, g2, g3, g4⟩ := h
  refine ⟨?_, ?_, ?_, ?_⟩
  · rw [World.cell?_of_block (w := W) (a := ⟨b, 0, none⟩) e]; exact g1
  · rw [World.cell?_of_block (w := W) (a := ⟨b, 1, none⟩) e]; exact g2
  · rw [World.frozen?_of_block (w := W) (a := ⟨b, 0, none⟩) e]; exact g3
  · rw [World.frozen?_of_block (w := W) (a := ⟨b, 1, none⟩) e]; exact g4

theorem snoc_of {M n : Int} {K : List (Int × Int)} (h : M < sumN K + n) (hM : n ≤ M) : ∃ K' k', K = K' ++ [k'] := by
  rcases List.eq_nil_or_concat K with e | ⟨L, x, e⟩
  · subst e; simp [sumN] at h; omega
  · exact ⟨L, x, by simpa using e⟩

/-- What holds in the loop that drops tables. -/
structure Cutting (w wr : World) (p r clock n b : Nat) (M F D s : Int) (K : List (Int × Int)) (kv : Value) (K1 : List (Int × Int)) (kv1 : Value) (es1 : List ((Int × Int) × Value × Nat)) : Prop where
  ca : CA wr p M K1 F D kv1 r es1 clock
  cut : cutK M n K1 = cutK M n K
  tab : Tab wr b n s
  key : Two wr w.heap.size (.int .i64 (n : Int)) (.int .i64 s)
  only : OnlyS (Core p r kv) w wr
  kb : ∀ q, KB kv1 q → KB kv q
  sub : ∀ k, k ∈ K1 → k ∈ K
  tl : ∀ k v, lk k es1 = some v → ∀ q, KB v q → q < w.heap.size

theorem cutting_step {w wr w2 : World} {p r clock n b : Nat} {M F D s : Int} {K K1 K' : List (Int × Int)} {k' : Int × Int} {kv kv1 kv2 : Value} {es1 es2 : List ((Int × Int) × Value × Nat)}
    (hb : w.heap.size + 1 ≤ b) (hp : p < w.heap.size) (hr : r < w.heap.size) (hkl : ∀ q, KB kv q → q < w.heap.size) (n1 : 1 ≤ n) (hc : Cutting w wr p r clock n b M F D s K kv K1 kv1 es1) (hK : K1 = K' ++ [k']) (hlt : M < sumN K1 + n)
    (h2 : CA w2 p M K' F D kv2 r es2 clock) (ho : OnlyS (Core p r kv1) wr.drew w2) (hkb : ∀ b, KB kv2 b → KB kv1 b) (hl : ∀ q u, lk q es2 = some u → lk q es1 = some u) :
    Cutting w w2 p r clock n b M F D s K kv K' kv2 es2 := by
  have hbl := hc.tab.lt (by omega)
  have hkl' := hc.key.lt
  have same : ∀ q, w.heap.size ≤ q → q < wr.heap.size → w2.heap[q]? = wr.heap[q]? := by
    intro q h1 h3
    refine (ho.block q h3 ?_).trans rfl
    rintro (e | e | e)
    · omega
    · omega
    · have := hkl q (hc.kb q e); omega
  refine ⟨h2, ?_, RowF.of_block (same b (by omega) hbl) hc.tab, Two.of_block (same _ (Nat.le_refl _) hkl') hc.key, ?_, fun q hq => hc.kb q (hkb q hq), fun k hk => hc.sub k (by rw [hK]; exact List.mem_append_left _ hk), fun k v hv q hq => hc.tl k v (hl k v hv) q hq⟩
  · rw [← hc.cut, hK]
    rw [hK] at hlt
    exact (cutK_append M n K' k' hlt).symm
  · refine hc.only.trans (OnlyS.mono (S := Core p r kv1) ⟨ho.os, ho.tape, ho.output, ho.size, ho.block⟩ ?_)
    rintro q hq (e | e | e)
    · exact .inl e
    · exact .inr (.inl e)
    · exact .inr (.inr (hc.kb q e))

/-- The world ahead of Insert: room is told, the key lies in a new block. -/
theorem W2.size (wr : World) (p : Nat) (v : Value) : (wr.setCell ⟨p, 1, none⟩ v).heap.size = wr.heap.size := by
  simp [World.setCell]
abbrev W3of (wr : World) (p : Nat) (u n s : Int) : World := ((wr.setCell ⟨p, 1, none⟩ (.int .i64 u)).alloc (.cells #[.int .i64 n, .int .i64 s] 89)).drew.drew

theorem W3.old (wr : World) (p : Nat) (u n s : Int) (q : Nat) (hq : q < wr.heap.size) (hp : q ≠ p) : (W3of wr p u n s).heap[q]? = wr.heap[q]? :=
  (Below.heap_alloc _ _ _ (by rw [W2.size]; exact hq)).trans (obj_other wr p 1 q _ hp)
theorem W3.new (wr : World) (p : Nat) (u n s : Int) : (W3of wr p u n s).heap[wr.heap.size]? = some (.cells #[.int .i64 n, .int .i64 s] 89 (0, 0)) := by
  have h := (MapKept.heap_alloc (wr.setCell ⟨p, 1, none⟩ (.int .i64 u)) (.cells #[.int .i64 n, .int .i64 s] 89)).1
  rw [W2.size] at h
  exact h
theorem W3.size (wr : World) (p : Nat) (u n s : Int) : (W3of wr p u n s).heap.size = wr.heap.size + 1 := by
  show ((wr.setCell ⟨p, 1, none⟩ (.int .i64 u)).alloc (.cells #[.int .i64 n, .int .i64 s] 89)).heap.size = _
  rw [World.size_alloc, W2.size]
theorem W3.obj {wr : World} {p : Nat} {M : Int} {K : List (Int × Int)} {F D : Int} {kv : Value} {r : Nat} {es : List ((Int × Int) × Value × Nat)} {clock : Nat} (h : CA wr p M K F D kv r es clock) (u n s : Int) :
    (W3of wr p u n s).heap[p]? = some (.cells #[.int .i64 M, .int .i64 u, kv, .map (some r), .int .i64 F, .int .i64 D] 120 (0, 0)) := by
  have hp : p < wr.heap.size := (Array.getElem?_eq_some_iff.1 h.obj).1
  refine (Below.heap_alloc _ _ _ (by rw [W2.size]; exact hp)).trans ?_
  exact obj_set h.obj 1 _

theorem KS.some {w : World} {v : Value} {k : Int × Int} {K : List (Int × Int)} (h : KS w v (k :: K)) : ∃ b c, v = .slice (some ⟨b, 0, none⟩) (K.length + 1) c := by
  rcases h with ⟨_, h⟩ | ⟨b, c, h1, _, _⟩
  · cases h
  · exact ⟨b, c, h1⟩

/-- What Insert leaves. -/
structure Put (w4 : World) (wr : World) (p : Nat) (u n s : Int) (kv1 kv2 : Value) (K : List (Int × Int)) : Prop where
  ks : KS w4 kv2 K
  only : OnlyS (KB kv1) (W3of wr p u n s) w4
  kb : ∀ b, KB kv2 b → KB kv1 b ∨ wr.heap.size + 1 ≤ b

theorem Put.obj {w4 wr : World} {p : Nat} {u n s : Int} {kv1 kv2 : Value} {K K1 : List (Int × Int)} {M F D : Int} {r : Nat} {es : List ((Int × Int) × Value × Nat)} {clock : Nat} (h : Put w4 wr p u n s kv1 kv2 K) (hc : CA wr p M K1 F D kv1 r es clock) :
    w4.heap[p]? = some (.cells #[.int .i64 M, .int .i64 u, kv1, .map (some r), .int .i64 F, .int .i64 D] 120 (0, 0)) := by
  have hp : p < wr.heap.size := (Array.getElem?_eq_some_iff.1 hc.obj).1
  rw [h.only.block p (by rw [W3.size]; omega) (fun hk => (hc.pb hk).1 rfl)]
  exact W3.obj hc u n s
theorem Put.old {w4 wr : World} {p : Nat} {u n s : Int} {kv1 kv2 : Value} {K : List (Int × Int)} (h : Put w4 wr p u n s kv1 kv2 K) (q : Nat) (hq : q < wr.heap.size) (hp : q ≠ p) (hk : ¬ KB kv1 q) : w4.heap[q]? = wr.heap[q]? := by
  rw [h.only.block q (by rw [W3.size]; omega) hk]
  exact W3.old wr p u n s q hq hp

/-- Behind Insert, and the store of the keys. -/
theorem kept_end {w wr w4 w6 : World} {p r clock n b b6 c6 : Nat} {M F D s : Int} {K K1 : List (Int × Int)} {kv kv1 kv2 : Value} {es1 : List ((Int × Int) × Value × Nat)} {cur : Array Value}
    (n1 : 1 ≤ n) (n2 : n ≤ 32768) (hs : s = 1 ∨ s = -1) (hk : ((n : Int), s) ∉ K) (hu : sumN K1 + n ≤ M) (hb : w.heap.size ≤ b) (hp : p < w.heap.size) (hr : r < w.heap.size) (hkl : ∀ q, KB kv q → q < w.heap.size)
    (hc : Cutting w wr p r clock n b M F D s K kv K1 kv1 es1) (h4 : Put w4 wr p (sumN K1 + n) n s kv1 kv2 (((n : Int), s) :: K1))
    (h6 : Below (w4.setCell ⟨p, 2, none⟩ kv2).heap.size (w4.setCell ⟨p, 2, none⟩ kv2).drew w6) (hb6 : (w4.setCell ⟨p, 2, none⟩ kv2).heap.size ≤ b6) (ho : w6.heap[b6]? = some (.cells cur 83 (0, 0))) (ht : Tab w6 b6 n s) :
    w6.heap[r]? = some (.map (es1.map ent).toArray clock) ∧ fidx ((n : Int), s) es1 0 = none ∧
    ∀ W7 : World, W7 = { w6 with heap := w6.heap.setIfInBounds r (.map ((es1 ++ [(((n : Int), s), Value.slice (some ⟨b6, 0, none⟩) n c6, clock)]).map ent).toArray (clock + 1)) } →
    ∃ kv' es' clock', Tab W7 b n s ∧ CA W7 p M (((n : Int), s) :: cutK M n K) F D kv' r es' clock' ∧ OnlyS (Core p r kv) w W7 ∧ (∀ q, KB kv' q → KB kv q ∨ w.heap.size ≤ q) ∧ ¬ KB kv' b ∧ NoTab es' b := by
  have hca := hc.ca
  have hsz : w.heap.size ≤ wr.heap.size := hc.only.size
  have hbl := hc.tab.lt (by omega)
  have hk1 : ((n : Int), s) ∉ K1 := fun hm => hk (hc.sub _ hm)
  have hfi : lk ((n : Int), s) es1 = none := (lk_none _ _).2 (fun hm => hk1 ((hca.keys _).1 hm))
  have hs4 : wr.heap.size + 1 ≤ w4.heap.size := by have := h4.only.size; rw [W3.size] at this; exact this
  have hs5 : (w4.setCell ⟨p, 2, none⟩ kv2).heap.size = w4.heap.size := by simp [World.setCell]
  rw [hs5] at h6 hb6
  have hs6 : w4.heap.size ≤ w6.heap.size := by have := h6.size; simp only [World.drew, World.setCell, Array.size_setIfInBounds] at this; simpa [World.setCell] using this
  have old6 : ∀ q, q < w4.heap.size → q ≠ p → w6.heap[q]? = w4.heap[q]? := fun q hq hqp => (h6.block q hq).trans (obj_other w4 p 2 q _ hqp)
  have obj6 : w6.heap[p]? = some (.cells #[.int .i64 M, .int .i64 (sumN K1 + n), kv2, .map (some r), .int .i64 F, .int .i64 D] 120 (0, 0)) :=
    (h6.block p (by omega)).trans (obj_set (h4.obj hca) 2 _)
  have hpr := hca.pr
  have map6 : w6.heap[r]? = some (.map (es1.map ent).toArray clock) := by
    rw [old6 r (by omega) (fun e => hpr e.symm), h4.old r (by omega) (fun e => hpr e.symm) (fun e => (hca.pb e).2 rfl)]
    exact hca.mp
  refine ⟨map6, fidx_none hfi, ?_⟩
  rintro W7 hW7
  have hset := MapKept.heap_set (o' := .map ((es1 ++ [(((n : Int), s), Value.slice (some ⟨b6, 0, none⟩) n c6, clock)]).map ent).toArray (clock + 1)) map6
  have old7 : ∀ q, q ≠ r → W7.heap[q]? = w6.heap[q]? := fun q hq => by rw [hW7]; exact hset.2 q hq
  have hkb1 : ∀ q, KB kv2 q → KB kv1 q ∨ wr.heap.size + 1 ≤ q := h4.kb
  have hkl1 : ∀ q, KB kv1 q → q < w.heap.size := fun q hq => hkl q (hc.kb q hq)
  have hkp : ∀ q, KB kv2 q → q ≠ p ∧ q ≠ r := by
    intro q hq
    rcases hkb1 q hq with h | h
    · exact hca.pb h
    · exact ⟨by omega, by omega⟩
  have hcut : cutK M n K = K1 := by rw [← hc.cut]; exact cutK_stop _ _ _ (by omega)
  have tb : ∀ q, q < wr.heap.size → q ≠ p → q ≠ r → ¬ KB kv1 q → W7.heap[q]? = wr.heap[q]? := by
    intro q h1 h2 h3 h4'
    rw [old7 q h3, old6 q (by omega) h2, h4.old q h1 h2 h4']
  have nk1 : ¬ KB kv1 b := fun e => by have := hkl1 b e; omega
  refine ⟨kv2, _, clock + 1, ?_, ⟨?_, ?_, by rw [hW7]; exact hset.1, ?_, ?_, ?_, ?_, ?_, hca.m0, hca.m1, ?_⟩, ?_, ?_, ?_, ?_⟩
  · exact RowF.of_block (W := wr) (tb b hbl (by omega) (by omega) nk1) hc.tab
  · rw [old7 p hpr, obj6, hcut]
    simp only [sumN]
    rw [Int.add_comm]
  · rw [hcut]
    exact h4.ks.of_block (fun q hq => (old7 q (hkp q hq).2).trans (old6 q (h4.ks.lt q hq) (hkp q hq).1))
  · rw [List.map_append, List.nodup_append]
    refine ⟨hca.nd, by simp, ?_⟩
    intro a ha c hc' e
    simp only [List.map_cons, List.map_nil, List.mem_singleton] at hc'
    rw [hc'] at e
    rw [e] at ha
    exact hk1 ((hca.keys _).1 ha)
  · intro k
    rw [hcut, List.map_append, List.mem_append, hca.keys k]
    simp only [List.map_cons, List.map_nil, List.mem_singleton, List.mem_cons]
    constructor
    · rintro (h | h | h)
      · exact .inr h
      · exact .inl h
      · cases h
    · rintro (h | h)
      · exact .inr (.inl h)
      · exact .inl h
  · intro k v hv
    rw [lk_append] at hv
    cases hq : lk k es1 with
    | some u =>
      rw [hq] at hv
      cases hv
      refine (hca.tabs k v hq).of_block (fun q cur' hcur => ?_)
      refine tb q (Array.getElem?_eq_some_iff.1 hcur).1 ?_ ?_ ?_
      · intro e; have h1 := hca.obj; rw [← e, hcur] at h1; cases h1
      · intro e; have h1 := hca.mp; rw [← e, hcur] at h1; cases h1
      · rintro ⟨n', c', e⟩
        rcases hca.kept with ⟨h1, _⟩ | ⟨b', c', h1, h0, h2⟩
        · rw [h1] at e; cases e
        · rw [h1] at e; cases e
          obtain ⟨cur2, rest, g1, _⟩ := h2.obj
          rw [g1] at hcur; cases hcur
    | none =>
      rw [hq, lk_cons, lk_nil] at hv
      simp only [Option.none_or] at hv
      split at hv
      · rename_i e
        cases hv
        subst e
        have hbr : b6 ≠ r := by omega
        exact ⟨b6, c6, n, cur, rfl, rfl, by rw [old7 b6 hbr]; exact ho, RowF.of_block (W := w6) (old7 b6 hbr) ht⟩
      · cases hv
  · rw [hcut, List.nodup_cons]; exact ⟨hk1, hca.kn⟩
  · intro k hk'
    rw [hcut] at hk'
    rcases List.mem_cons.1 hk' with e | e
    · rw [e]; exact ⟨by show (1 : Int) ≤ n; omega, by show (n : Int) ≤ 32768; omega, hs⟩
    · exact hca.ks k e
  · rw [hcut]; simp only [sumN]; omega
  · refine ⟨?_, ?_, ?_, ?_, fun q hq hn => ?_⟩
    · rw [hW7]; exact h6.os.trans (h4.only.os.trans hc.only.os)
    · rw [hW7]; exact h6.tape.trans (h4.only.tape.trans hc.only.tape)
    · rw [hW7]; exact h6.output.trans (h4.only.output.trans hc.only.output)
    · rw [hW7]; simp; omega
    · rw [tb q (by omega) (fun e => hn (.inl e)) (fun e => hn (.inr (.inl e))) (fun e => hn (.inr (.inr (hc.kb q e))))]
      exact hc.only.block q hq hn
  · intro q hq
    rcases hkb1 q hq with h | h
    · exact .inl (hc.kb q h)
    · exact .inr (by omega)
  · intro e
    rcases hkb1 b e with h | h
    · exact nk1 h
    · omega
  · intro k v hv hkv
    rw [lk_append] at hv
    cases hq : lk k es1 with
    | some u =>
      rw [hq] at hv
      cases hv
      have := hc.tl k v hq b hkv
      omega
    | none =>
      rw [hq, lk_cons, lk_nil] at hv
      simp only [Option.none_or] at hv
      split at hv
      · cases hv
        obtain ⟨n', c', e⟩ := hkv
        cases e
        omega
      · cases hv

/-- What Table leaves where it keeps what it made. -/
def Post7 (w W7 : World) (p r n b : Nat) (M F D s : Int) (K : List (Int × Int)) (kv : Value) : Prop :=
  ∃ kv' es' clock', Tab W7 b n s ∧ CA W7 p M (((n : Int), s) :: cutK M n K) F D kv' r es' clock' ∧ OnlyS (Core p r kv) w W7 ∧ (∀ q, KB kv' q → KB kv q ∨ w.heap.size ≤ q) ∧ ¬ KB kv' b ∧ NoTab es' b

/-- What the walk asks behind Clone. -/
theorem kept_end' {w wr w4 w6 : World} {p r clock n b b6 c6 : Nat} {M F D s : Int} {K K1 : List (Int × Int)} {kv kv1 kv2 : Value} {es1 : List ((Int × Int) × Value × Nat)} {cur : Array Value}
    (n1 : 1 ≤ n) (n2 : n ≤ 32768) (hs : s = 1 ∨ s = -1) (hk : ((n : Int), s) ∉ K) (hu : sumN K1 + n ≤ M) (hb : w.heap.size + 1 ≤ b) (hp : p < w.heap.size) (hr : r < w.heap.size) (hkl : ∀ q, KB kv q → q < w.heap.size)
    (hc : Cutting w wr p r clock n b M F D s K kv K1 kv1 es1) (h4 : Put w4 wr p (sumN K1 + n) n s kv1 kv2 (((n : Int), s) :: K1))
    (hb6 : (w4.setCell ⟨p, 2, none⟩ kv2).drew.heap.size ≤ b6) (ho : w6.heap[b6]? = some (.cells cur 83 (0, 0))) (ht : Tab w6 b6 n s) (h6 : Below (w4.setCell ⟨p, 2, none⟩ kv2).drew.heap.size (w4.setCell ⟨p, 2, none⟩ kv2).drew w6) :
    ∃ W7 : World, (Instr.mapUpdate 118 (.map (some r)) (.agg #[.int .i64 (n : Int), .int .i64 s]) (.slice (some ⟨b6, 0, none⟩) n c6)).run Try.prog w6 = .ok () W7 ∧ w6.cell? ⟨p, 3, none⟩ = some (.map (some r)) ∧ Two w6 w.heap.size (.int .i64 (n : Int)) (.int .i64 s) ∧ Post7 w W7 p r n b M F D s K kv := by
  obtain ⟨g1, g2, g3⟩ := kept_end (c6 := c6) n1 n2 hs hk hu (by omega) hp hr hkl hc h4 h6 hb6 ho ht
  refine ⟨_, run_store r clock ((n : Int), s) _ es1 w6 g1 g2, ?_, ?_, g3 _ rfl⟩
  · have e4 := h4.obj hc.ca
    have hp4 : p < w4.heap.size := (Array.getElem?_eq_some_iff.1 e4).1
    have e6 := (h6.block p (by show p < (w4.setCell ⟨p, 2, none⟩ kv2).heap.size; simp [World.setCell]; exact hp4)).trans (obj_set e4 2 kv2)
    exact (six e6).1.2.2.2.1
  · have hkw := hc.key.lt
    have hnk : ¬ KB kv1 w.heap.size := fun e => by have := hkl _ (hc.kb _ e); omega
    have e4 := h4.old w.heap.size hkw (by omega) hnk
    have hs4 : wr.heap.size + 1 ≤ w4.heap.size := by have := h4.only.size; rw [W3.size] at this; exact this
    have e6 := (h6.block w.heap.size (by show w.heap.size < (w4.setCell ⟨p, 2, none⟩ kv2).heap.size; simp [World.setCell]; omega)).trans (obj_other w4 p 2 w.heap.size kv2 (by omega))
    exact Two.of_block (e6.trans e4) hc.key

theorem put_tab {w wr w4 : World} {p r clock n b : Nat} {M F D s : Int} {K K1 : List (Int × Int)} {kv kv1 kv2 : Value} {es1 : List ((Int × Int) × Value × Nat)} (n1 : 1 ≤ n) (hb : w.heap.size + 1 ≤ b) (hp : p < w.heap.size) (hkl : ∀ q, KB kv q → q < w.heap.size)
    (hc : Cutting w wr p r clock n b M F D s K kv K1 kv1 es1) (h4 : Put w4 wr p (sumN K1 + n) n s kv1 kv2 (((n : Int), s) :: K1)) :
    Tab (w4.setCell ⟨p, 2, none⟩ kv2).drew b n s ∧ Two w4 w.heap.size (.int .i64 (n : Int)) (.int .i64 s) := by
  have hbl := hc.tab.lt (by omega)
  have hkw := hc.key.lt
  refine ⟨?_, ?_⟩
  · have e4 := h4.old b hbl (by omega) (fun e => by have := hkl _ (hc.kb _ e); omega)
    have e5 := obj_other w4 p 2 b kv2 (by omega)
    exact RowF.of_block (w1 := (w4.setCell ⟨p, 2, none⟩ kv2).drew) (W := wr) (e5.trans e4) hc.tab
  · exact Two.of_block (h4.old w.heap.size hkw (by omega) (fun e => by have := hkl _ (hc.kb _ e); omega)) hc.key

end Go.Proofs.Ytnpkblidlmkagaa

/- The contract of Table: a table that is made and kept; the sign 1. -/
set_option linter.unusedSimpArgs false
set_option linter.unusedVariables false
namespace Go.Proofs.Ytnpkblidlmkagaa
open Go Go.RowKit

set_option maxRecDepth 100000 in
set_option maxHeartbeats 4000000 in
/-- A table that is not there, and that is kept. -/
theorem table_kept12 (p r clock n : Nat) (M F D : Int) (K : List (Int × Int)) (kv : Value) (es : List ((Int × Int) × Value × Nat)) (w : World) (h : CA w p M K F D kv r es clock) (n1 : 1 ≤ n) (n2 : n ≤ 32768) (hk : ((n : Int), 1) ∉ K) (hM : (n : Int) ≤ M)
    (d0 : 0 ≤ D) (d1 : D < 9223372036854775807) :
    Calls Try.prog 67 #[.pointer (some ⟨p, 0, none⟩), .int .i64 n, .int .i64 1] w fun z w' => ∃ b kv' es' clock', z = .returned (.tuple #[.slice (some ⟨b, 0, none⟩) n n, .int .i64 0]) ∧ w.heap.size ≤ b ∧ Tab w' b n 1 ∧ CA w' p M (((n : Int), 1) :: cutK M n K) F (D + 1) kv' r es' clock' ∧ OnlyS (Core p r kv) w w' ∧
      (∀ q, KB kv' q → KB kv q ∨ w.heap.size ≤ q) ∧ ¬ KB kv' b ∧ NoTab es' b := by
  obtain ⟨⟨c0, c1, c2, c3, c4, c5⟩, f0, f1, f2, f3, f4, f5⟩ := six h.obj
  have hp : p < w.heap.size := (Array.getElem?_eq_some_iff.1 h.obj).1
  have e1 : ¬ (n : Int) < 1 := by omega
  have e2 : ¬ 32768 < (n : Int) := by omega
  have e3 : ¬ M < (n : Int) := by omega
  have hlk : fidx ((n : Int), 1) es 0 = none := fidx_none ((lk_none _ _).2 (fun hm => hk ((h.keys _).1 hm)))
  obtain ⟨W1, hW1⟩ : ∃ W1, W1 = w.alloc (.cells #[.int .i64 (n : Int), .int .i64 1] 89) := ⟨_, rfl⟩
  have hmap : W1.drew.heap[r]? = some (.map (es.map ent).toArray clock) := by
    rw [hW1]; exact (MapKept.heap_alloc w _).2 r (Array.getElem?_eq_some_iff.1 h.mp).1 |>.trans h.mp
  have hlook := run_look r clock ((n : Int), 1) es W1.drew hmap
  rw [hlk] at hlook
  simp only [keyV, Option.isSome_none] at hlook
  rw [hW1] at hlook
  have wd : wrap64 (D + 1) = D + 1 := by unfold wrap64; omega
  obtain ⟨W2, hW2⟩ : ∃ W2, W2 = ((w.setCell ⟨p, 5, none⟩ (.int .i64 (D + 1))).alloc (.cells #[.int .i64 (n : Int), .int .i64 1] 89)).drew := ⟨_, rfl⟩
  have old2 : ∀ q, q < w.heap.size → q ≠ p → W2.heap[q]? = w.heap[q]? := by
    intro q hq hqp
    rw [hW2]
    exact (Below.heap_alloc _ _ _ (by simp [World.setCell]; exact hq)).trans (obj_other _ _ _ _ _ hqp)
  have obj2 : W2.heap[p]? = some (.cells #[.int .i64 M, .int .i64 (sumN K), kv, .map (some r), .int .i64 F, .int .i64 (D + 1)] 120 (0, 0)) := by
    rw [hW2]
    exact (Below.heap_alloc _ _ _ (by simp [World.setCell]; exact hp)).trans (obj_set h.obj 5 _)
  have C2 := h.turned obj2 old2
  have hsz2 : W2.heap.size = w.heap.size + 1 := by rw [hW2]; simp [World.setCell, World.drew]
  have O2 : OnlyS (Core p r kv) w W2 := ⟨by rw [hW2]; rfl, by rw [hW2]; rfl, by rw [hW2]; rfl, by omega, fun q hq hn => old2 q hq (fun e => hn (.inl e))⟩
  have T2 : Two W2 w.heap.size (.int .i64 (n : Int)) (.int .i64 1) := by
    have := Two.new (w.setCell ⟨p, 5, none⟩ (.int .i64 (D + 1))) (.int .i64 (n : Int)) (.int .i64 1) 89
    rw [hW2]
    simpa [World.setCell] using this.drew
  have HC := Lib.hid C2
  have HO := Lib.hid O2
  have H2 := Lib.hid T2
  have HK := Lib.hid hk
  have HL := Lib.hid h.kept.lt
  have HTL := Lib.hid (fun (k : Int × Int) (v : Value) (hv : lk k es = some v) (q : Nat) (hq : KB v q) => h.tlt hv hq)
  have HR := Lib.hid (Array.getElem?_eq_some_iff.1 h.mp).1
  have BU := Lib.hid (fun w => build_any n 1 w n1 n2 (.inl rfl))
  clear h hk hlk hmap hW1 old2 obj2 C2 O2 T2
  go_enter Try.func67, Try.ntmps67
  go_upto_region 8 with fail
  go_region
  go_wp2_with fail
  rw [← hW2]
  refine (BU.out W2).mono ?_
  rintro z w1 ⟨b, rfl, hb, ht, hbw⟩
  have C3 := HC.out.keep hbw
  have HT := Lib.hid ht
  have HC3 := Lib.hid C3
  have H3 := Lib.hid (H2.out.keep hbw)
  have HO3 := Lib.hid (HO.out.trans (OnlyS.of_below hbw))
  have hlb := ht.lt (by omega)
  obtain ⟨⟨c0', c1', c2', c3', c4', c5'⟩, f0', f1', f2', f3', f4', f5'⟩ := six C3.obj
  clear ht C3 hbw hlook hW2
  go_wp2_with fail
  have hr : r < w.heap.size := HR.out
  have hb' : w.heap.size + 1 ≤ b := by omega
  go_loopg [] K.length (fun gk wr => ∃ K1 kv1 es1, gk = K1.length ∧ Hid (Cutting w wr p r clock n b M F (D + 1) 1 K kv K1 kv1 es1))
  case atStart => exact ⟨K, kv, es, rfl, Lib.hid ⟨HC3.out, rfl, HT.out, H3.out, HO3.out, fun q h => h, fun k h => h, HTL.out⟩⟩
  case round =>
    obtain ⟨K1, kv1, es1, rfl, hcut⟩ := hrel
    clear HC3 HT H3 HO3 HC HO H2 c0 c1 c2 c3 c4 c5 f0 f1 f2 f3 f4 f5 c0' c1' c2' c3' c4' c5' f0' f1' f2' f3' f4' f5'
    obtain ⟨⟨c0, c1, c2, c3, c4, c5⟩, f0, f1, f2, f3, f4, f5⟩ := six hcut.out.ca.obj
    have sm := hcut.out.ca.sm
    have m0 := hcut.out.ca.m0
    have m1 := hcut.out.ca.m1
    have s0 := hcut.out.ca.s0
    have ws : wrap64 (sumN K1 + n) = sumN K1 + n := by unfold wrap64; omega
    by_cases hlt : M < sumN K1 + n
    · obtain ⟨K', k', hK⟩ := snoc_of hlt hM
      have HK1 := Lib.hid hK
      clear hK
      go_upto_region 18 with fail
      go_region
      go_wp2_with fail
      have hca := hcut.out.ca
      rw [HK1.out] at hca
      refine (drop_any p r clock M F (D + 1) K' k' kv1 es1 wr.drew hca.drew).mono ?_
      rintro z w2 ⟨rfl, kv2, es2, hca2, ho2, hkb2, hlk2⟩
      have HN := Lib.hid (cutting_step (b := b) hb' hp hr HL.out n1 hcut.out HK1.out hlt hca2 ho2 hkb2 hlk2)
      have hlen : K'.length < K1.length := by rw [HK1.out]; simp
      clear hca2 ho2 hkb2 hlk2 hca
      go_wp2_with fail
      go_roundg K'.length
      case measure => exact hlen
      case rel => exact ⟨K', kv2, es2, rfl, HN⟩
    · go_upto_region 18 with fail
      go_region
      go_wp2_with fail
      have hca := hcut.out.ca
      have hlen := hca.len
      have hpw := Nat.lt_of_lt_of_le hp hcut.out.only.size
      have hwb := hcut.out.key.lt
      have hins := insert_any kv1 K1 ((n : Int), 1) wr.heap.size 1 (W3of wr p (sumN K1 + n) n 1) (hca.kept.of_block (fun q hq => W3.old wr p _ _ _ q (hca.kept.lt q hq) (hca.pb hq).1)) (by omega) (fun hq => by have := hca.kept.lt _ hq; omega) (W3.new wr p _ _ _)
      rw [W3.size] at hins
      have HI := Lib.hid hins
      obtain ⟨k0, k1, g0, g1⟩ := hcut.out.key
      clear hca hins
      have HF := Lib.hid (fun w4 kv2 (h : Put w4 wr p (sumN K1 + n) n 1 kv1 kv2 (((n : Int), 1) :: K1)) => six (h.obj hcut.out.ca))
      go_region_with (go_at_call 90; refine HI.out.mono ?_; rintro z w4 ⟨kv2, rfl, hks4, hos4, hkb4⟩; have HP := Lib.hid (Put.mk hks4 hos4 hkb4); obtain ⟨B, C, rfl⟩ := hks4.some; clear hks4 hos4 hkb4; obtain ⟨⟨c0', c1', c2', c3', c4', c5'⟩, f0', f1', f2', f3', f4', f5'⟩ := HF.out _ _ HP.out)
      all_goals
        have hu : sumN K1 + n ≤ M := by omega
        obtain ⟨hT5, hK4⟩ := put_tab n1 hb' hp HL.out hcut.out HP.out
        have HCl := Lib.hid (cloneC b n n 1 _ hT5 n1 n2)
        have HE := Lib.hid (fun w6 b6 c6 cur h1 h2 h3 h4 => kept_end' (w6 := w6) (b6 := b6) (c6 := c6) (cur := cur) n1 n2 (.inl rfl) HK.out hu hb' hp hr HL.out hcut.out HP.out h1 h2 h3 h4)
        clear hT5
        obtain ⟨k0', k1', g0', g1'⟩ := hK4
        go_wp2_with fail
        go_region_with (go_at_call 92; refine HCl.out.mono ?_; rintro z w6 ⟨b6, c6, cur, rfl, hb6, ho6, ht6, hw6⟩; obtain ⟨W7, hrun, q3, hK6, hpost⟩ := HE.out w6 b6 c6 cur hb6 ho6 ht6 hw6; have HZ := Lib.hid hpost; obtain ⟨k0'', k1'', g0'', g1''⟩ := hK6; clear hb6 ho6 ht6 hw6 hpost)
        all_goals
          go_wp2_with fail
          go_ret2
          obtain ⟨kv', es', clock', z1, z2, z3, z4, z5, z6⟩ := HZ.out
          exact ⟨b, kv', es', clock', rfl, by omega, z1, z2, z3, z4, z5, z6⟩

end Go.Proofs.Ytnpkblidlmkagaa

/- The contract of Table: a table that is made and kept; the sign -1. -/
set_option linter.unusedSimpArgs false
set_option linter.unusedVariables false
namespace Go.Proofs.Ytnpkblidlmkagaa
open Go Go.RowKit

set_option maxRecDepth 100000 in
set_option maxHeartbeats 4000000 in
/-- A table that is not there, and that is kept. -/
theorem table_kept13 (p r clock n : Nat) (M F D : Int) (K : List (Int × Int)) (kv : Value) (es : List ((Int × Int) × Value × Nat)) (w : World) (h : CA w p M K F D kv r es clock) (n1 : 1 ≤ n) (n2 : n ≤ 32768) (hk : ((n : Int), (-1)) ∉ K) (hM : (n : Int) ≤ M)
    (d0 : 0 ≤ D) (d1 : D < 9223372036854775807) :
    Calls Try.prog 67 #[.pointer (some ⟨p, 0, none⟩), .int .i64 n, .int .i64 (-1)] w fun z w' => ∃ b kv' es' clock', z = .returned (.tuple #[.slice (some ⟨b, 0, none⟩) n n, .int .i64 0]) ∧ w.heap.size ≤ b ∧ Tab w' b n (-1) ∧ CA w' p M (((n : Int), (-1)) :: cutK M n K) F (D + 1) kv' r es' clock' ∧ OnlyS (Core p r kv) w w' ∧
      (∀ q, KB kv' q → KB kv q ∨ w.heap.size ≤ q) ∧ ¬ KB kv' b ∧ NoTab es' b := by
  obtain ⟨⟨c0, c1, c2, c3, c4, c5⟩, f0, f1, f2, f3, f4, f5⟩ := six h.obj
  have hp : p < w.heap.size := (Array.getElem?_eq_some_iff.1 h.obj).1
  have e1 : ¬ (n : Int) < 1 := by omega
  have e2 : ¬ 32768 < (n : Int) := by omega
  have e3 : ¬ M < (n : Int) := by omega
  have hlk : fidx ((n : Int), (-1)) es 0 = none := fidx_none ((lk_none _ _).2 (fun hm => hk ((h.keys _).1 hm)))
  obtain ⟨W1, hW1⟩ : ∃ W1, W1 = w.alloc (.cells #[.int .i64 (n : Int), .int .i64 (-1)] 89) := ⟨_, rfl⟩
  have hmap : W1.drew.heap[r]? = some (.map (es.map ent).toArray clock) := by
    rw [hW1]; exact (MapKept.heap_alloc w _).2 r (Array.getElem?_eq_some_iff.1 h.mp).1 |>.trans h.mp
  have hlook := run_look r clock ((n : Int), (-1)) es W1.drew hmap
  rw [hlk] at hlook
  simp only [keyV, Option.isSome_none] at hlook
  rw [hW1] at hlook
  have wd : wrap64 (D + 1) = D + 1 := by unfold wrap64; omega
  obtain ⟨W2, hW2⟩ : ∃ W2, W2 = ((w.setCell ⟨p, 5, none⟩ (.int .i64 (D + 1))).alloc (.cells #[.int .i64 (n : Int), .int .i64 (-1)] 89)).drew := ⟨_, rfl⟩
  have old2 : ∀ q, q < w.heap.size → q ≠ p → W2.heap[q]? = w.heap[q]? := by
    intro q hq hqp
    rw [hW2]
    exact (Below.heap_alloc _ _ _ (by simp [World.setCell]; exact hq)).trans (obj_other _ _ _ _ _ hqp)
  have obj2 : W2.heap[p]? = some (.cells #[.int .i64 M, .int .i64 (sumN K), kv, .map (some r), .int .i64 F, .int .i64 (D + 1)] 120 (0, 0)) := by
    rw [hW2]
    exact (Below.heap_alloc _ _ _ (by simp [World.setCell]; exact hp)).trans (obj_set h.obj 5 _)
  have C2 := h.turned obj2 old2
  have hsz2 : W2.heap.size = w.heap.size + 1 := by rw [hW2]; simp [World.setCell, World.drew]
  have O2 : OnlyS (Core p r kv) w W2 := ⟨by rw [hW2]; rfl, by rw [hW2]; rfl, by rw [hW2]; rfl, by omega, fun q hq hn => old2 q hq (fun e => hn (.inl e))⟩
  have T2 : Two W2 w.heap.size (.int .i64 (n : Int)) (.int .i64 (-1)) := by
    have := Two.new (w.setCell ⟨p, 5, none⟩ (.int .i64 (D + 1))) (.int .i64 (n : Int)) (.int .i64 (-1)) 89
    rw [hW2]
    simpa [World.setCell] using this.drew
  have HC := Lib.hid C2
  have HO := Lib.hid O2
  have H2 := Lib.hid T2
  have HK := Lib.hid hk
  have HL := Lib.hid h.kept.lt
  have HTL := Lib.hid (fun (k : Int × Int) (v : Value) (hv : lk k es = some v) (q : Nat) (hq : KB v q) => h.tlt hv hq)
  have HR := Lib.hid (Array.getElem?_eq_some_iff.1 h.mp).1
  have BU := Lib.hid (fun w => build_any n (-1) w n1 n2 (.inr rfl))
  clear h hk hlk hmap hW1 old2 obj2 C2 O2 T2
  go_enter Try.func67, Try.ntmps67
  go_upto_region 8 with fail
  go_region
  go_wp2_with fail
  rw [← hW2]
  refine (BU.out W2).mono ?_
  rintro z w1 ⟨b, rfl, hb, ht, hbw⟩
  have C3 := HC.out.keep hbw
  have HT := Lib.hid ht
  have HC3 := Lib.hid C3
  have H3 := Lib.hid (H2.out.keep hbw)
  have HO3 := Lib.hid (HO.out.trans (OnlyS.of_below hbw))
  have hlb := ht.lt (by omega)
  obtain ⟨⟨c0', c1', c2', c3', c4', c5'⟩, f0', f1', f2', f3', f4', f5'⟩ := six C3.obj
  clear ht C3 hbw hlook hW2
  go_wp2_with fail
  have hr : r < w.heap.size := HR.out
  have hb' : w.heap.size + 1 ≤ b := by omega
  go_loopg [] K.length (fun gk wr => ∃ K1 kv1 es1, gk = K1.length ∧ Hid (Cutting w wr p r clock n b M F (D + 1) (-1) K kv K1 kv1 es1))
  case atStart => exact ⟨K, kv, es, rfl, Lib.hid ⟨HC3.out, rfl, HT.out, H3.out, HO3.out, fun q h => h, fun k h => h, HTL.out⟩⟩
  case round =>
    obtain ⟨K1, kv1, es1, rfl, hcut⟩ := hrel
    clear HC3 HT H3 HO3 HC HO H2 c0 c1 c2 c3 c4 c5 f0 f1 f2 f3 f4 f5 c0' c1' c2' c3' c4' c5' f0' f1' f2' f3' f4' f5'
    obtain ⟨⟨c0, c1, c2, c3, c4, c5⟩, f0, f1, f2, f3, f4, f5⟩ := six hcut.out.ca.obj
    have sm := hcut.out.ca.sm
    have m0 := hcut.out.ca.m0
    have m1 := hcut.out.ca.m1
    have s0 := hcut.out.ca.s0
    have ws : wrap64 (sumN K1 + n) = sumN K1 + n := by unfold wrap64; omega
    by_cases hlt : M < sumN K1 + n
    · obtain ⟨K', k', hK⟩ := snoc_of hlt hM
      have HK1 := Lib.hid hK
      clear hK
      go_upto_region 18 with fail
      go_region
      go_wp2_with fail
      have hca := hcut.out.ca
      rw [HK1.out] at hca
      refine (drop_any p r clock M F (D + 1) K' k' kv1 es1 wr.drew hca.drew).mono ?_
      rintro z w2 ⟨rfl, kv2, es2, hca2, ho2, hkb2, hlk2⟩
      have HN := Lib.hid (cutting_step (b := b) hb' hp hr HL.out n1 hcut.out HK1.out hlt hca2 ho2 hkb2 hlk2)
      have hlen : K'.length < K1.length := by rw [HK1.out]; simp
      clear hca2 ho2 hkb2 hlk2 hca
      go_wp2_with fail
      go_roundg K'.length
      case measure => exact hlen
      case rel => exact ⟨K', kv2, es2, rfl, HN⟩
    · go_upto_region 18 with fail
      go_region
      go_wp2_with fail
      have hca := hcut.out.ca
      have hlen := hca.len
      have hpw := Nat.lt_of_lt_of_le hp hcut.out.only.size
      have hwb := hcut.out.key.lt
      have hins := insert_any kv1 K1 ((n : Int), (-1)) wr.heap.size 1 (W3of wr p (sumN K1 + n) n (-1)) (hca.kept.of_block (fun q hq => W3.old wr p _ _ _ q (hca.kept.lt q hq) (hca.pb hq).1)) (by omega) (fun hq => by have := hca.kept.lt _ hq; omega) (W3.new wr p _ _ _)
      rw [W3.size] at hins
      have HI := Lib.hid hins
      obtain ⟨k0, k1, g0, g1⟩ := hcut.out.key
      clear hca hins
      have HF := Lib.hid (fun w4 kv2 (h : Put w4 wr p (sumN K1 + n) n (-1) kv1 kv2 (((n : Int), (-1)) :: K1)) => six (h.obj hcut.out.ca))
      go_region_with (go_at_call 90; refine HI.out.mono ?_; rintro z w4 ⟨kv2, rfl, hks4, hos4, hkb4⟩; have HP := Lib.hid (Put.mk hks4 hos4 hkb4); obtain ⟨B, C, rfl⟩ := hks4.some; clear hks4 hos4 hkb4; obtain ⟨⟨c0', c1', c2', c3', c4', c5'⟩, f0', f1', f2', f3', f4', f5'⟩ := HF.out _ _ HP.out)
      all_goals
        have hu : sumN K1 + n ≤ M := by omega
        obtain ⟨hT5, hK4⟩ := put_tab n1 hb' hp HL.out hcut.out HP.out
        have HCl := Lib.hid (cloneC b n n (-1) _ hT5 n1 n2)
        have HE := Lib.hid (fun w6 b6 c6 cur h1 h2 h3 h4 => kept_end' (w6 := w6) (b6 := b6) (c6 := c6) (cur := cur) n1 n2 (.inr rfl) HK.out hu hb' hp hr HL.out hcut.out HP.out h1 h2 h3 h4)
        clear hT5
        obtain ⟨k0', k1', g0', g1'⟩ := hK4
        go_wp2_with fail
        go_region_with (go_at_call 92; refine HCl.out.mono ?_; rintro z w6 ⟨b6, c6, cur, rfl, hb6, ho6, ht6, hw6⟩; obtain ⟨W7, hrun, q3, hK6, hpost⟩ := HE.out w6 b6 c6 cur hb6 ho6 ht6 hw6; have HZ := Lib.hid hpost; obtain ⟨k0'', k1'', g0'', g1''⟩ := hK6; clear hb6 ho6 ht6 hw6 hpost)
        all_goals
          go_wp2_with fail
          go_ret2
          obtain ⟨kv', es', clock', z1, z2, z3, z4, z5, z6⟩ := HZ.out
          exact ⟨b, kv', es', clock', rfl, by omega, z1, z2, z3, z4, z5, z6⟩

end Go.Proofs.Ytnpkblidlmkagaa

/- The contracts of New, Kept, Counts, of the statements' cut. -/
set_option linter.unusedSimpArgs false
set_option linter.unusedVariables false
namespace Go.Proofs.Ytnpkblidlmkagaa
open Go Go.RowKit

@[go_sem] theorem run_max_int {P : Program} (w : World) (ts : Array TypeId) (t : TypeId) (x y : Int) :
    (Builtin.max_ ts t #[.int .i64 x, .int .i64 y]).run P w = .ok (.int .i64 (max x y)) w := by
  show ([Value.int .i64 y].foldlM Builtin.max2 (.int .i64 x)).run P w = _
  simp [List.foldlM, Builtin.max2]
  omega
@[go_sem] theorem run_min_int {P : Program} (w : World) (ts : Array TypeId) (t : TypeId) (x y : Int) :
    (Builtin.min_ ts t #[.int .i64 x, .int .i64 y]).run P w = .ok (.int .i64 (min x y)) w := by
  show ([Value.int .i64 y].foldlM Builtin.min2 (.int .i64 x)).run P w = _
  simp [List.foldlM, Builtin.min2]
  omega

/-- How many numbers a cache keeps at most. -/
def mostM (m : Int) : Int := max 0 (min m 65536)

set_option maxRecDepth 100000 in
theorem newC (m : Int) (w : World) : Calls Try.prog 64 #[.int .i64 m] w fun z w' => ∃ p r, z = .returned (.pointer (some ⟨p, 0, none⟩)) ∧ w.heap.size ≤ p ∧ w.heap.size ≤ r ∧ CA w' p (mostM m) [] 0 0 (.slice none 0 0) r [] 0 ∧ Below w.heap.size w w' := by
  have hmm := @run_makeMap Try.prog
  go_enter Try.func64, Try.ntmps64
  go_wp2_with fail
  go_ret
  refine ⟨w.heap.size + 1, w.heap.size, rfl, by omega, by omega, ⟨?_, .inl ⟨rfl, rfl⟩, ?_, by simp, by simp, by simp [lk_nil], by simp, by simp, by unfold mostM; omega, by unfold mostM; omega, by simp [sumN]; unfold mostM; omega⟩, ?_⟩
  · have h := (MapKept.heap_alloc (w.alloc (.map #[] 0)) (.cells #[.int .i64 (max 0 (min m 65536)), .int .i64 0, .slice none 0 0, .map (some w.heap.size), .int .i64 0, .int .i64 0] 120)).1
    rw [show (w.alloc (.map #[] 0)).heap.size = w.heap.size + 1 by simp] at h
    exact h
  · have h := (MapKept.heap_alloc (w.alloc (.map #[] 0)) (.cells #[.int .i64 (max 0 (min m 65536)), .int .i64 0, .slice none 0 0, .map (some w.heap.size), .int .i64 0, .int .i64 0] 120)).2 w.heap.size (by simp)
    rw [(MapKept.heap_alloc w (.map #[] 0)).1] at h
    exact h
  · exact ((Below.refl _ w).alloc (Nat.le_refl _) _).alloc (by simp) _

/-- The statements' cut. -/
def cutN (n : Int) : Int := if 3000 < n ∧ n ≤ 32768 then 1 + n % 3000 else n
set_option maxRecDepth 100000 in
theorem cut_any (n : Int) (w : World) : Calls Try.prog 66 #[.int .i64 n] w fun z w' => z = .returned (.int .i64 (cutN n)) ∧ w = w' := by
  unfold cutN
  go_enter Try.func66, Try.ntmps66
  by_cases h1 : 3000 < n
  · by_cases h2 : n ≤ 32768
    · rw [if_pos ⟨h1, h2⟩]
      have e1 : n.tmod 3000 = n % 3000 := Int.tmod_eq_emod_of_nonneg (by omega)
      have e2 : wrap64 (1 + n % 3000) = 1 + n % 3000 := by unfold wrap64; omega
      go_wp2_with fail
      go_ret
      exact ⟨rfl, rfl⟩
    · rw [if_neg (fun e => h2 e.2)]
      go_wp2_with fail
      go_ret
      exact ⟨rfl, rfl⟩
  · rw [if_neg (fun e => h1 e.1)]
    go_wp2_with fail
    go_ret
    exact ⟨rfl, rfl⟩

set_option maxRecDepth 100000 in
theorem counts_any (p r clock : Nat) (M F D : Int) (K : List (Int × Int)) (kv : Value) (es : List ((Int × Int) × Value × Nat)) (w : World) (h : CA w p M K F D kv r es clock) :
    Calls Try.prog 74 #[.pointer (some ⟨p, 0, none⟩)] w fun z w' => z = .returned (.tuple #[.int .i64 F, .int .i64 D]) ∧ w' = w.drew := by
  obtain ⟨⟨c0, c1, c2, c3, c4, c5⟩, f0, f1, f2, f3, f4, f5⟩ := six h.obj
  clear h
  go_enter Try.func74, Try.ntmps74
  go_wp2_with fail
  go_region
  go_wp2_with fail
  go_ret2
  exact ⟨rfl, rfl⟩

set_option maxRecDepth 100000 in
theorem counts_nil (w : World) : Calls Try.prog 74 #[.pointer none] w fun z w' => z = .returned (.tuple #[.int .i64 0, .int .i64 0]) ∧ w' = w := by
  go_enter Try.func74, Try.ntmps74
  go_wp2_with fail
  go_ret2
  exact ⟨rfl, rfl⟩

set_option maxRecDepth 100000 in
theorem kept_nil (w : World) : Calls Try.prog 68 #[.pointer none] w fun z w' => z = .returned (.slice none 0 0) ∧ w' = w := by
  go_enter Try.func68, Try.ntmps68
  go_wp2_with fail
  go_ret
  exact ⟨rfl, rfl⟩

set_option maxRecDepth 100000 in
set_option maxHeartbeats 2000000 in
/-- slices.Clone of keys. -/
theorem cloneK (v : Value) (K : List (Int × Int)) (w : World) (h : KV w v K) (hl : K.length ≤ 1000000) :
    Calls Try.prog 95 #[v] w fun z w' => ∃ v', z = .returned v' ∧ KV w' v' K ∧ (∀ b, KB v' b → w.heap.size ≤ b) ∧ Below w.heap.size w w' := by
  have q85 : ∀ (w : World) (a : Option Addr) (n c n' c' : Nat), (binOp .eql 85 (.slice a n c) (.slice none n' c')).run Try.prog w = .ok (.bool a.isNone) w := fun w a n c n' c' => Lib.run_eql_slice_nil w _ _ a n c n' c' Try.underlying85
  rcases h with ⟨rfl, rfl⟩ | ⟨b, c, rfl, hr⟩
  · go_enter Try.func95, Try.ntmps95
    go_wp2_with fail
    go_ret
    refine ⟨_, rfl, .inl ⟨rfl, rfl⟩, ?_, Below.refl _ w⟩
    rintro b ⟨n, c, e⟩
    cases e
  obtain ⟨i0, hi0, hz0, hzs, hzb⟩ := info_parts info89
  obtain ⟨n, hn⟩ : ∃ n, n = K.length := ⟨_, rfl⟩
  rw [← hn] at hl ⊢
  obtain ⟨w0, hw0⟩ : ∃ w0, w0 = w.alloc (.cells #[] 89) := ⟨_, rfl⟩
  have h' : KRow w0 b c K := by rw [hw0]; exact KRow.keep ((Below.refl _ w).alloc (Nat.le_refl _) _) hr
  have hlK : (kL K).length = n * 2 := by rw [kL_length, hn]
  have hsrc : Src Try.prog i0.size 85 (.slice (some ⟨b, 0, none⟩) n c) n (kL K) w0 := by
    obtain ⟨cur, rest, h1, h2, h3⟩ := h'.obj
    rw [hzs]
    exact Src.ofSlice w0 Try.underlying85 ⟨b, 0, none⟩ n c _ hlK (cell_kL h1 h2) (kL_one _)
  have hold : (Builtin.firstCells i0.size 0 (.slice (some ⟨w.heap.size, 0, none⟩) 0 0)).run Try.prog w0.drew = .ok ([] : List Value).toArray w0.drew := by
    rw [hzs]; exact run_firstCells_some w0.drew 2 0 ⟨w.heap.size, 0, none⟩ 0 0 [] rfl (fun j v hj => by simp at hj)
  by_cases h0 : n = 0
  · have hK : K = [] := List.length_eq_zero_iff.1 (by omega)
    have hrun : ∀ ty, (Builtin.append_ #[85, 85] ty #[.slice (some ⟨w.heap.size, 0, none⟩) 0 0, .slice (some ⟨b, 0, none⟩) 0 c]).run Try.prog w0 = .ok (.slice (some ⟨w.heap.size, 0, none⟩) 0 0) (w0.setRow w.heap.size #[]) := fun ty => by
      have h := run_appendK w0 ty w.heap.size 0 0 0 ⟨b, 0, none⟩ 0 c #[] 89 [] (by rw [hw0]; exact (MapKept.heap_alloc w _).1) rfl (by omega) (fun j v hj => by simp at hj) (by simp) (fun v hv => by cases hv)
      rw [h]; simp
    have hend : KRow (w0.setRow w.heap.size #[]) w.heap.size 0 [] ∧ Below w.heap.size w (w0.setRow w.heap.size #[]) := by
      refine ⟨⟨by simp, by unfold maxLen; omega, #[], [], setRow_heap w0 w.heap.size #[] _ 89 (0, 0) (by rw [hw0]; exact (MapKept.heap_alloc w _).1), rfl, rfl⟩, ?_⟩
      rw [hw0]
      exact ((Below.refl _ w).alloc (Nat.le_refl _) _).trans ⟨rfl, rfl, rfl, by simp [World.setRow], fun j hj => setRow_other _ _ j _ (by omega)⟩
    rw [hw0] at hrun hend
    have HE := Lib.hid hend
    subst h0
    clear hend hold hsrc h' hw0 hr hlK hn
    go_enter Try.func95, Try.ntmps95
    go_wp2_with (at_builtin; refine Lib.wpList_append_run _ rfl _ _ _ _ rfl _ _ rfl rfl _ _ (hrun _) ?_)
    go_ret
    subst hK
    refine ⟨_, rfl, .inr ⟨w.heap.size, 0, rfl, HE.out.1⟩, ?_, HE.out.2⟩
    rintro b' ⟨n', c', e⟩
    cases e
    omega
  obtain ⟨G, hG⟩ : ∃ G, G = grownCap w0 n 0 89 := ⟨_, rfl⟩
  obtain ⟨cur, hcur⟩ : ∃ cur : Array Value, cur = ([] ++ kL K : List Value).toArray ++ Builtin.zeroCells (Value.agg #[.int .i64 0, .int .i64 0]).cells (G - n) := ⟨_, rfl⟩
  obtain ⟨W1, hW1⟩ : ∃ W1, W1 = w0.drew.alloc (.cells cur 89) := ⟨_, rfl⟩
  have hs0 : w0.heap.size = w.heap.size + 1 := by rw [hw0]; simp
  have hrun : ∀ ty, (Builtin.append_ #[85, 85] ty #[.slice (some ⟨w.heap.size, 0, none⟩) 0 0, .slice (some ⟨b, 0, none⟩) n c]).run Try.prog w0 = .ok (.slice (some ⟨w.heap.size + 1, 0, none⟩) n G) W1 := fun ty => by
    have h := run_append_grow_src w0 85 85 ty 89 i0 _ Try.underlying85 hi0 hz0 (some ⟨w.heap.size, 0, none⟩) 0 0 [] hold _ n (kL K) hsrc (by omega) (by omega) (by rw [hzb]; exact growslice_fits (by omega) (by omega))
    simp only [Nat.zero_add] at h
    rw [h, hW1, hcur, hG, hs0]
  have hobj : W1.heap[w.heap.size + 1]? = some (.cells cur 89 (0, 0)) := by
    rw [hW1, ← hs0]; exact (MapKept.heap_alloc w0.drew _).1
  have hGn : n ≤ G := by rw [hG]; exact grownCap_ge w0 _ _ _
  have hG63 : G ≤ maxLen := by rw [hG]; exact grownCap_le_maxLen w0 n 0 89 (by unfold maxLen; omega)
  have hend : KRow W1 (w.heap.size + 1) G K ∧ Below w.heap.size w W1 := by
    refine ⟨⟨by rw [← hn]; exact hGn, hG63, cur, (Builtin.zeroCells (Value.agg #[.int .i64 0, .int .i64 0]).cells (G - n)).toList, hobj, by rw [hcur]; simp, ?_⟩, ?_⟩
    · rw [hcur]
      simp [Builtin.zeroCells, Value.cells, hlK]
      omega
    · rw [hW1, hw0]
      exact ((((Below.refl _ w).alloc (Nat.le_refl _) _).drew).alloc (by simp [World.drew]) _)
  have HE := Lib.hid hend
  rw [hw0] at hrun
  clear hend hobj hW1 hcur hG hold hsrc h' hs0 hw0 hr hlK
  go_enter Try.func95, Try.ntmps95
  go_wp2_with (at_builtin; refine Lib.wpList_append_run _ rfl _ _ _ _ rfl _ _ rfl rfl _ _ (hrun _) ?_)
  go_ret
  refine ⟨_, rfl, .inr ⟨w.heap.size + 1, G, rfl, HE.out.1⟩, ?_, HE.out.2⟩
  rintro b' ⟨n', c', e⟩
  cases e
  omega

set_option maxRecDepth 100000 in
theorem kept_any (p r clock : Nat) (M F D : Int) (K : List (Int × Int)) (kv : Value) (es : List ((Int × Int) × Value × Nat)) (w : World) (h : CA w p M K F D kv r es clock) :
    Calls Try.prog 68 #[.pointer (some ⟨p, 0, none⟩)] w fun z w' => ∃ v', z = .returned v' ∧ KV w' v' K ∧ (∀ b, KB v' b → w.heap.size ≤ b) ∧ Below w.heap.size w w' := by
  obtain ⟨⟨c0, c1, c2, c3, c4, c5⟩, f0, f1, f2, f3, f4, f5⟩ := six h.obj
  have HK := Lib.hid h.kept.kv
  have hl := h.len
  clear h
  go_enter Try.func68, Try.ntmps68
  go_wp2_with fail
  refine (cloneK kv K w HK.out (by omega)).mono ?_
  rintro z w1 ⟨v', rfl, h1, h2, h3⟩
  have HE := Lib.hid (And.intro h1 (And.intro h2 h3))
  clear h1 h2 h3
  go_wp2_with fail
  go_ret
  exact ⟨v', rfl, HE.out⟩

end Go.Proofs.Ytnpkblidlmkagaa

/- The document's cache in memory: keys in a list of its own, that may begin behind its row's head; what append does to it. -/
set_option linter.unusedSimpArgs false
set_option linter.unusedVariables false
namespace Go.Proofs.Ytnpkblidlmkagaa
open Go Go.RowKit

theorem info131 : (Try.prog.info? 131).map (fun i => (i.zero, i.size, i.bytes)) = some (some (.agg #[.int .i64 0, .int .i64 0]), 2, 16) := by kernel_rfl

/-- The keys L as the slice v, in a row of their own. -/
def LS (w : World) (v : Value) (L : List (Int × Int)) : Prop := (∃ A, v = .slice A 0 0 ∧ L = []) ∨ ∃ (b o c : Nat) (cur : Array Value) (pre post : List Value), v = .slice (some ⟨b, o, none⟩) L.length c ∧ w.heap[b]? = some (.cells cur 131 (0, 0)) ∧ cur.toList = pre ++ kL L ++ post ∧ pre.length = o ∧ cur.size = o + c * 2 ∧ L.length ≤ c ∧ 1 ≤ c ∧ c ≤ maxLen
/-- The block of that row. -/
def LB (v : Value) (b : Nat) : Prop := ∃ o n c, v = .slice (some ⟨b, o, none⟩) n c ∧ c ≠ 0

theorem LS.nil (w : World) : LS w (.slice none 0 0) [] := .inl ⟨_, rfl, rfl⟩
theorem LS.of_block {W w1 : World} {v : Value} {L : List (Int × Int)} (h : LS W v L) (hb : ∀ b, LB v b → w1.heap[b]? = W.heap[b]?) : LS w1 v L := by
  rcases h with h | ⟨b, o, c, cur, pre, post, h1, h2, h3⟩
  · exact .inl h
  · refine .inr ⟨b, o, c, cur, pre, post, h1, ?_, h3⟩
    rw [hb b ⟨_, _, _, h1, by omega⟩]
    exact h2
theorem LS.lt {w : World} {v : Value} {L : List (Int × Int)} (h : LS w v L) : ∀ b, LB v b → b < w.heap.size := by
  rintro b ⟨o, n, c, e, hc⟩
  rcases h with ⟨A, h, _⟩ | ⟨b', o', c', cur, pre, post, h1, h2, h3⟩
  · rw [h] at e; cases e; exact absurd rfl hc
  · rw [h1] at e; cases e
    exact (Array.getElem?_eq_some_iff.1 h2).1
theorem LS.typ {w : World} {v : Value} {L : List (Int × Int)} (h : LS w v L) : ∀ b, LB v b → ∃ cur, w.heap[b]? = some (.cells cur 131 (0, 0)) := by
  rintro b ⟨o, n, c, e, hc⟩
  rcases h with ⟨A, h, _⟩ | ⟨b', o', c', cur, pre, post, h1, h2, h3⟩
  · rw [h] at e; cases e; exact absurd rfl hc
  · rw [h1] at e; cases e
    exact ⟨cur, h2⟩
theorem LS.shape {w : World} {v : Value} {L : List (Int × Int)} (h : LS w v L) : ∃ A c, v = .slice A L.length c ∧ L.length ≤ c ∧ c ≤ 9223372036854775807 := by
  rcases h with ⟨A, h, rfl⟩ | ⟨b', o', c', cur, pre, post, h1, h2, h3, h4, h5, h6, h7, h8⟩
  · exact ⟨A, 0, h, by simp, by omega⟩
  · exact ⟨_, c', h1, h6, by unfold maxLen at h8; omega⟩

/-- What the list reads as. -/
theorem LS.vals {w : World} {v : Value} {L : List (Int × Int)} (h : LS w v L) (hl : 0 < L.length) : ∃ (b o c : Nat), v = .slice (some ⟨b, o, none⟩) L.length c ∧ L.length ≤ c ∧ c ≤ 9223372036854775807 ∧ b < w.heap.size ∧ ∀ i k, L[i]? = some k → w.cell? ⟨b, o + i * 2, none⟩ = some (.int .i64 k.1) ∧ w.cell? ⟨b, o + i * 2 + 1, none⟩ = some (.int .i64 k.2) := by
  rcases h with ⟨A, h, rfl⟩ | ⟨b, o, c, cur, pre, post, h1, h2, h3, h4, h5, h6, h7, h8⟩
  · simp at hl
  · refine ⟨b, o, c, h1, h6, by unfold maxLen at h8; omega, (Array.getElem?_eq_some_iff.1 h2).1, fun i k hk => ?_⟩
    obtain ⟨g1, g2⟩ := kL_get L i k hk
    have hi : i < L.length := (List.getElem?_eq_some_iff.1 hk).1
    have hK := kL_length L
    have key : ∀ j x, (kL L)[j]? = some x → w.cell? ⟨b, o + j, none⟩ = some x := by
      intro j x hj
      have hj' := (List.getElem?_eq_some_iff.1 hj).1
      simp only [World.cell?, h2]
      rw [← Array.getElem?_toList, h3, List.append_assoc, List.getElem?_append_right (by omega), List.getElem?_append_left (by omega), show o + j - pre.length = j by omega, hj]
      rfl
    exact ⟨key _ _ g1, by rw [Nat.add_assoc]; exact key _ _ g2⟩

/-- append of a key. -/
theorem run_appL (w : World) (v : Value) (L : List (Int × Int)) (k : Int × Int) (vb vc : Nat) (h : LS w v L) (hl : L.length ≤ 1000000) (hv : w.heap[vb]? = some (.cells #[.int .i64 k.1, .int .i64 k.2] 131 (0, 0))) :
    ∃ v' w', (∀ ty, (Builtin.append_ #[128, 128] ty #[v, .slice (some ⟨vb, 0, none⟩) 1 vc]).run Try.prog w = .ok v' w') ∧ LS w' v' (L ++ [k]) ∧ OnlyS (LB v) w w' ∧ (∀ b, LB v' b → LB v b ∨ w.heap.size ≤ b) := by
  obtain ⟨i0, hi, hz0, hz1, hz2⟩ := info_parts info131
  have hsrcv : ∀ j x, (kL [k])[j]? = some x → w.cell? ((⟨vb, 0, none⟩ : Addr).add j) = some x := by
    intro j x hj
    rw [Addr.add_lit, Nat.zero_add]
    simp only [World.cell?, hv]
    rw [← Array.getElem?_toList]
    have : (#[Value.int .i64 k.1, Value.int .i64 k.2] : Array Value).toList = kL [k] := rfl
    rw [this, hj]; rfl
  have e2 : (kL [k]).length = 2 := rfl
  have grow : ∀ (A : Option Addr) (c : Nat) (olds : List Value), olds = kL L → c < L.length + 1 → v = .slice A L.length c → (Builtin.firstCells i0.size L.length (.slice A L.length c)).run Try.prog w.drew = .ok olds.toArray w.drew →
      ∃ v' w', (∀ ty, (Builtin.append_ #[128, 128] ty #[v, .slice (some ⟨vb, 0, none⟩) 1 vc]).run Try.prog w = .ok v' w') ∧ LS w' v' (L ++ [k]) ∧ OnlyS (LB v) w w' ∧ (∀ b, LB v' b → LB v b ∨ w.heap.size ≤ b) := by
    intro A c olds ho hc hA hold
    have hsrc : Src Try.prog i0.size 128 (.slice (some ⟨vb, 0, none⟩) 1 vc) 1 (kL [k]) w := by
      rw [hz1]; exact Src.ofSlice w Try.underlying128 ⟨vb, 0, none⟩ 1 vc (kL [k]) rfl hsrcv (kL_one _)
    obtain ⟨G, hG⟩ : ∃ G, G = grownCap w (L.length + 1) c 131 := ⟨_, rfl⟩
    obtain ⟨cur, hcur⟩ : ∃ cur : Array Value, cur = (olds ++ kL [k] : List Value).toArray ++ Builtin.zeroCells (Value.agg #[.int .i64 0, .int .i64 0]).cells (G - (L.length + 1)) := ⟨_, rfl⟩
    have hGn : L.length + 1 ≤ G := by rw [hG]; exact grownCap_ge w _ _ _
    have hG63 : G ≤ maxLen := by rw [hG]; exact grownCap_le_maxLen w (L.length + 1) c 131 (by unfold maxLen; omega)
    have hrun : ∀ ty, (Builtin.append_ #[128, 128] ty #[v, .slice (some ⟨vb, 0, none⟩) 1 vc]).run Try.prog w = .ok (.slice (some ⟨w.heap.size, 0, none⟩) (L.length + 1) G) (w.drew.alloc (.cells cur 131)) := fun ty => by
      have h := run_append_grow_src w 128 128 ty 131 i0 _ Try.underlying128 hi hz0 A L.length c olds hold _ 1 (kL [k]) hsrc (by omega) (by omega) (by rw [hz2]; exact growslice_fits (by omega) (by omega))
      rw [hA, h, ← hG, hcur]
    refine ⟨_, _, hrun, .inr ⟨w.heap.size, 0, G, cur, [], (Builtin.zeroCells (Value.agg #[.int .i64 0, .int .i64 0]).cells (G - (L.length + 1))).toList, by simp, (MapKept.heap_alloc w.drew _).1, by rw [hcur, ho, kL_append]; simp, rfl, ?_, by simp; omega, by omega, hG63⟩, OnlyS.of_below (((Below.refl _ w).drew).alloc (Nat.le_refl _) _), ?_⟩
    · rw [hcur, ho]
      have := kL_length L
      simp [Builtin.zeroCells, Value.cells, this, e2]
      omega
    · rintro b ⟨o, n, c, e, _⟩
      cases e; exact .inr (Nat.le_refl _)
  rcases h with ⟨A, rfl, rfl⟩ | ⟨b, o, c, cur, pre, post, rfl, h2, h3, h4, h5, h6, h7, h8⟩
  · refine grow A 0 [] rfl (by simp) rfl ?_
    rw [hz1]
    rcases A with _ | a
    · exact run_firstCells_none w.drew 2 0 0 0
    · exact run_firstCells_some w.drew 2 0 a 0 0 [] rfl (fun j v hj => by simp at hj)
  · have hK := kL_length L
    by_cases hroom : L.length + 1 ≤ c
    · have hlv := run_firstCells_some (P := Try.prog) w 2 1 ⟨vb, 0, none⟩ 1 vc (kL [k]) rfl hsrcv
      have hst := run_storeCells_at Try.prog b (o + L.length * 2) 131 (kL [k]) 0 cur w h2 (by rw [e2]; omega) (kL_one _)
      simp only [Nat.add_zero] at hst
      refine ⟨.slice (some ⟨b, o, none⟩) (L.length + 1) c, w.setRow b (cur.toList.take (o + L.length * 2) ++ kL [k] ++ cur.toList.drop (o + L.length * 2 + (kL [k]).length)).toArray, fun ty => ?_, .inr ⟨b, o, c, _, pre, post.drop 2, by simp, setRow_heap w b cur _ 131 (0, 0) h2, ?_, h4, ?_, by simp; omega, h7, h8⟩, ?_, ?_⟩
      · simp [Builtin.append_, run_underlying Try.underlying128, Builtin.lenOf, sizeOf, typeInfo, hi, hz1, hlv, hst, hroom, Addr.add_lit]
      · simp only [List.toList_toArray]
        rw [e2, h3, kL_append, List.take_append_of_le_length (by simp; omega), List.take_of_length_le (by simp; omega), List.append_assoc pre (kL L) post, List.drop_append, List.drop_append]
        rw [List.drop_of_length_le (by omega), List.drop_of_length_le (by omega), show o + L.length * 2 + 2 - pre.length - (kL L).length = 2 by omega]
        simp
      · simp only [List.size_toArray, List.length_append, List.length_take, List.length_drop, Array.length_toList, h5, e2]
        omega
      · exact ⟨rfl, rfl, rfl, by simp [World.setRow], fun q hq hn => setRow_other w b q _ (fun e => hn (by subst e; exact ⟨_, _, _, rfl, by omega⟩))⟩
      · rintro b' ⟨o', n', c', e, hc⟩
        cases e; exact .inl ⟨_, _, _, rfl, by omega⟩
    · refine grow (some ⟨b, o, none⟩) c (kL L) rfl (by omega) rfl ?_
      rw [hz1]
      refine run_firstCells_some w.drew 2 L.length ⟨b, o, none⟩ L.length c (kL L) (by omega) (fun j x hj => ?_)
      have hj' := (List.getElem?_eq_some_iff.1 hj).1
      rw [Addr.add_lit]
      show w.cell? _ = _
      simp only [World.cell?, h2]
      rw [← Array.getElem?_toList, h3, List.append_assoc, List.getElem?_append_right (by omega), List.getElem?_append_left (by omega), show o + j - pre.length = j by omega, hj]
      rfl

/-- The document's cache at q. -/
structure RA (w : World) (q : Nat) (M : Int) (L : List (Int × Int)) (F D : Int) (v : Value) : Prop where
  obj : w.heap[q]? = some (.cells #[.int .i64 M, v, .int .i64 F, .int .i64 D] 130 (0, 0))
  ls : LS w v L

theorem four {w : World} {p : Nat} {v0 v1 v2 v3 : Value} (h : w.heap[p]? = some (.cells #[v0, v1, v2, v3] 130 (0, 0))) :
    (w.cell? ⟨p, 0, none⟩ = some v0 ∧ w.cell? ⟨p, 1, none⟩ = some v1 ∧ w.cell? ⟨p, 2, none⟩ = some v2 ∧ w.cell? ⟨p, 3, none⟩ = some v3) ∧
    (w.frozen? ⟨p, 0, none⟩ = false ∧ w.frozen? ⟨p, 1, none⟩ = false ∧ w.frozen? ⟨p, 2, none⟩ = false ∧ w.frozen? ⟨p, 3, none⟩ = false) := by
  simp [World.cell?, World.frozen?, h]

theorem RA.of_blocks {w w1 : World} {q : Nat} {M : Int} {L : List (Int × Int)} {F D : Int} {v : Value} (h : RA w q M L F D v) (hq : w1.heap[q]? = w.heap[q]?) (hb : ∀ b, LB v b → w1.heap[b]? = w.heap[b]?) : RA w1 q M L F D v :=
  ⟨by rw [hq]; exact h.obj, h.ls.of_block hb⟩
theorem RA.keep {w w1 : World} {q : Nat} {M : Int} {L : List (Int × Int)} {F D : Int} {v : Value} (h : RA w q M L F D v) (hb : Below w.heap.size w w1) : RA w1 q M L F D v :=
  h.of_blocks (hb.block q (Array.getElem?_eq_some_iff.1 h.obj).1) (fun b hk => hb.block b (h.ls.lt b hk))
theorem RA.drew {w : World} {q : Nat} {M : Int} {L : List (Int × Int)} {F D : Int} {v : Value} (h : RA w q M L F D v) : RA w.drew q M L F D v := h.of_blocks rfl (fun _ _ => rfl)
theorem RA.ne {w : World} {q : Nat} {M : Int} {L : List (Int × Int)} {F D : Int} {v : Value} (h : RA w q M L F D v) {b : Nat} (hb : LB v b) : b ≠ q := by
  obtain ⟨cur, h1⟩ := h.ls.typ b hb
  intro e
  have h2 := h.obj
  rw [← e, h1] at h2
  cases h2

set_option maxRecDepth 100000 in
theorem refNew_any (m : Int) (w : World) : Calls Try.prog 71 #[.int .i64 m] w fun z w' => ∃ q, z = .returned (.pointer (some ⟨q, 0, none⟩)) ∧ w.heap.size ≤ q ∧ RA w' q (max 0 (min m 65536)) [] 0 0 (.slice none 0 0) ∧ Below w.heap.size w w' := by
  go_enter Try.func71, Try.ntmps71
  by_cases h1 : m < 0
  · have h2 : ¬ (65536 : Int) < 0 := by omega
    rw [show max 0 (min m 65536) = 0 by omega]
    go_wp2_with fail
    go_ret
    exact ⟨_, rfl, Nat.le_refl _, ⟨(MapKept.heap_alloc w _).1, .inl ⟨_, rfl, rfl⟩⟩, (Below.refl _ w).alloc (Nat.le_refl _) _⟩
  · by_cases h2 : 65536 < m
    · rw [show max 0 (min m 65536) = 65536 by omega]
      go_wp2_with fail
      go_ret
      exact ⟨_, rfl, Nat.le_refl _, ⟨(MapKept.heap_alloc w _).1, .inl ⟨_, rfl, rfl⟩⟩, (Below.refl _ w).alloc (Nat.le_refl _) _⟩
    · rw [show max 0 (min m 65536) = m by omega]
      go_wp2_with fail
      go_ret
      exact ⟨_, rfl, Nat.le_refl _, ⟨(MapKept.heap_alloc w _).1, .inl ⟨_, rfl, rfl⟩⟩, (Below.refl _ w).alloc (Nat.le_refl _) _⟩

end Go.Proofs.Ytnpkblidlmkagaa

/- The contract of the document's Ask. -/
set_option linter.unusedSimpArgs false
set_option linter.unusedVariables false
namespace Go.Proofs.Ytnpkblidlmkagaa
open Go Go.RowKit

@[go_sem] theorem run_eq_key131 (a b c d : Int) (w : World) : (Op.equalIn 10000 131 (.agg #[.int .i64 a, .int .i64 b]) (.agg #[.int .i64 c, .int .i64 d])).run Try.prog w = .ok (a == c && b == d) w := by
  have u3 := Try.underlying3
  have a3 := Try.isAgg3
  have z3 := Try.sizeOf3
  have hS : Try.prog.underlying 131 = some (.struct (Try.prog.fieldsOf 131)) := by kernel_rfl
  have hp : Try.prog.stoodInHeld 131 = false := by kernel_rfl
  rw [show (10000 : Nat) = 9999 + 1 from rfl, run_equalIn_agg w 9999 131 _ _ hS hp]
  simp only [Program.fieldsOf, Try.underlying131]
  go_simp
  by_cases h1 : a = c <;> by_cases h2 : b = d <;> simp [h1, h2]

/-- The keys but one. -/
def butK (k : Int × Int) (L : List (Int × Int)) : List (Int × Int) := L.filter (fun x => decide (x ≠ k))
theorem butK_snoc (k x : Int × Int) (L : List (Int × Int)) : butK k (L ++ [x]) = if x = k then butK k L else butK k L ++ [x] := by
  unfold butK
  rw [List.filter_append]
  by_cases h : x = k
  · rw [if_pos h]; simp [h]
  · rw [if_neg h]; simp [h]
theorem butK_le (k : Int × Int) (L : List (Int × Int)) : (butK k L).length ≤ L.length := List.length_filter_le _ _
theorem butK_mem (k : Int × Int) (L : List (Int × Int)) (h : k ∈ L) : (butK k L).length < L.length := by
  unfold butK
  refine Nat.lt_of_le_of_ne (List.length_filter_le _ _) (fun e => ?_)
  have := List.length_filter_eq_length_iff.1 e k h
  simp at this
theorem butK_not (k : Int × Int) (L : List (Int × Int)) (h : k ∉ L) : butK k L = L := by
  unfold butK
  rw [List.filter_eq_self]
  intro a ha
  simp
  intro e
  exact h (e ▸ ha)

/-- The keys, cut from the front till there is room for n numbers more. -/
def cutL (M n : Int) : List (Int × Int) → List (Int × Int)
  | [] => []
  | x :: L => if M < sumN (x :: L) + n then cutL M n L else x :: L

theorem ask_size (q : Nat) (n s : Int) (w : World) (h : n < 1 ∨ 32768 < n) : Calls Try.prog 73 #[.pointer (some ⟨q, 0, none⟩), .int .i64 n, .int .i64 s] w fun z w' => z = .returned (.int .i64 3) ∧ w' = w := by
  go_enter Try.func73, Try.ntmps73
  rcases h with h | h
  · go_wp2_with fail
    go_ret
    exact ⟨rfl, rfl⟩
  · have h1 : ¬ n < 1 := by omega
    go_wp2_with fail
    go_ret
    exact ⟨rfl, rfl⟩

theorem ask_sign (q : Nat) (n s : Int) (w : World) (h1 : 1 ≤ n) (h2 : n ≤ 32768) (h3 : s ≠ 1) (h4 : s ≠ -1) : Calls Try.prog 73 #[.pointer (some ⟨q, 0, none⟩), .int .i64 n, .int .i64 s] w fun z w' => z = .returned (.int .i64 6) ∧ w' = w := by
  go_enter Try.func73, Try.ntmps73
  have e1 : ¬ n < 1 := by omega
  have e2 : ¬ 32768 < n := by omega
  have e3 : (s != 1) = true := by simpa using h3
  have e4 : (s != -1) = true := by simpa using h4
  have e5 : ¬ s = 1 := h3
  have e6 : ¬ s = -1 := h4
  go_wp2_with fail
  go_ret
  exact ⟨rfl, rfl⟩

/-- What holds in the loop that looks for the key. -/
structure Looking (w wr : World) (q : Nat) (M F D : Int) (L : List (Int × Int)) (v : Value) (n s : Int) (r : Value) (i : Nat) : Prop where
  ra : RA wr q M L F D v
  rest : LS wr r (butK (n, s) (L.take i))
  new : ∀ b, LB r b → w.heap.size + 1 ≤ b
  key : Two wr w.heap.size (.int .i64 n) (.int .i64 s)
  low : Below w.heap.size w wr

theorem Looking.drew {w wr : World} {q : Nat} {M F D : Int} {L : List (Int × Int)} {v : Value} {n s : Int} {r : Value} {i : Nat} (h : Looking w wr q M F D L v n s r i) : Looking w wr.drew q M F D L v n s r i :=
  ⟨h.ra.drew, h.rest.of_block (fun _ _ => rfl), h.new, h.key.drew, h.low.drew⟩

theorem sumN_take (L : List (Int × Int)) (i : Nat) (x : Int × Int) (h : L[i]? = some x) : sumN (L.take (i + 1)) = sumN (L.take i) + x.1 := by
  rw [List.take_add_one, h, sumN_append]
  simp [sumN]
theorem sumN_le (L : List (Int × Int)) (i : Nat) (h : ∀ k ∈ L, 1 ≤ k.1) : 0 ≤ sumN (L.take i) ∧ sumN (L.take i) ≤ sumN L := by
  have e : sumN L = sumN (L.take i) + sumN (L.drop i) := by rw [← sumN_append, List.take_append_drop]
  have h1 := sumN_nonneg (L.take i) (fun k hk => h k (List.mem_of_mem_take hk))
  have h2 := sumN_nonneg (L.drop i) (fun k hk => h k (List.mem_of_mem_drop hk))
  omega

theorem Looking.skip {w wr : World} {q : Nat} {M F D : Int} {L : List (Int × Int)} {v : Value} {n s : Int} {r : Value} {i : Nat} (h : Looking w wr q M F D L v n s r i) (hi : L[i]? = some (n, s)) : Looking w wr.drew q M F D L v n s r (i + 1) := by
  refine ⟨h.ra.drew, ?_, h.new, h.key.drew, h.low.drew⟩
  rw [List.take_add_one, hi]
  simp only [Option.toList_some]
  rw [butK_snoc, if_pos rfl]
  exact h.rest.of_block (fun _ _ => rfl)

theorem Looking.put {w wr w' : World} {q : Nat} {M F D : Int} {L : List (Int × Int)} {v : Value} {n s : Int} {r v' : Value} {i : Nat} {x : Int × Int} {o : Obj} (h : Looking w wr q M F D L v n s r i) (hi : L[i]? = some x) (hx : x ≠ (n, s)) (hq : q < w.heap.size) (hv : ∀ b, LB v b → b < w.heap.size)
    (h1 : LS w' v' (butK (n, s) (L.take i) ++ [x])) (h2 : OnlyS (LB r) (wr.alloc o).drew w') (h3 : ∀ b, LB v' b → LB r b ∨ (wr.alloc o).heap.size ≤ b) : Looking w w' q M F D L v n s v' (i + 1) := by
  have hs := h.low.size
  have ha : (wr.alloc o).drew.heap.size = wr.heap.size + 1 := by simp [World.drew]
  have hsk := h.key.lt
  have old : ∀ b, b < wr.heap.size → ¬ LB r b → w'.heap[b]? = wr.heap[b]? := fun b hb hn => by
    rw [h2.block b (by omega) hn]
    exact (MapKept.heap_alloc wr o).2 b hb
  have nr : ∀ b, b ≤ w.heap.size → ¬ LB r b := fun b hb hn => by have := h.new b hn; omega
  refine ⟨h.ra.of_blocks (old q (by omega) (nr q (by omega))) (fun b hb => old b (by have := hv b hb; omega) (nr b (by have := hv b hb; omega))), ?_, ?_, Two.of_block (W := wr) (old _ hsk (nr _ (Nat.le_refl _))) h.key, ?_⟩
  · rw [List.take_add_one, hi]
    simp only [Option.toList_some]
    rw [butK_snoc, if_neg hx]
    exact h1
  · intro b hb
    rcases h3 b hb with h4 | h4
    · exact h.new b h4
    · simp at h4; omega
  · refine ⟨h2.os.trans h.low.os, h2.tape.trans h.low.tape, h2.output.trans h.low.output, ?_, fun b hb => ?_⟩
    · have := h2.size; omega
    · rw [old b (by omega) (nr b (by omega))]; exact h.low.block b hb

theorem OnlyS.set2 {w w1 : World} (h : OnlyS (fun _ => False) w w1) (T : Nat → Prop) (q i : Nat) (v : Value) (hq : T q) : OnlyS T w (w1.setCell ⟨q, i, none⟩ v) :=
  ⟨h.os, h.tape, h.output, by simp [World.setCell]; exact h.size, fun b hb hn => (obj_other _ _ _ _ _ (fun e => hn (by rw [e]; exact hq))).trans (h.block b hb id)⟩

/-- What holds in the loop that cuts keys away. -/
structure Cut2 (w wr : World) (q : Nat) (M F D : Int) (L : List (Int × Int)) (v : Value) (n s : Int) (L1 : List (Int × Int)) (v1 : Value) : Prop where
  ra : RA wr q M L1 F D v1
  cut : cutL M n L1 = cutL M n L
  blk : ∀ b, LB v1 b → LB v b
  only : OnlyS (fun b => b = q ∨ LB v b) w wr
  key : Two wr w.heap.size (.int .i64 n) (.int .i64 s)
  pos : ∀ k ∈ L1, 1 ≤ k.1

theorem LS.tail {w : World} {b o c : Nat} {x : Int × Int} {L : List (Int × Int)} (h : LS w (.slice (some ⟨b, o, none⟩) (L.length + 1) c) (x :: L)) (hc : 1 < c) : LS w (.slice (some ⟨b, o + 2, none⟩) L.length (c - 1)) L := by
  rcases h with ⟨A, h, h'⟩ | ⟨b', o', c', cur, pre, post, h1, h2, h3, h4, h5, h6, h7, h8⟩
  · cases h'
  · cases h1
    refine .inr ⟨b, o + 2, c - 1, cur, pre ++ [.int .i64 x.1, .int .i64 x.2], post, rfl, h2, ?_, by simp [h4], by omega, by simp at h6; omega, by omega, by omega⟩
    rw [h3]; simp [kL]

theorem cut_tail {w wr : World} {q : Nat} {M F D : Int} {L : List (Int × Int)} {v : Value} {n s : Int} {x : Int × Int} {L2 : List (Int × Int)} {v1 v2 : Value} (h : Cut2 w wr q M F D L v n s (x :: L2) v1) (hlt : M < sumN (x :: L2) + n) (hv2 : LS wr v2 L2) (hb : ∀ b, LB v2 b → LB v1 b) (hq0 : q < w.heap.size) :
    Cut2 w (wr.setCell ⟨q, 1, none⟩ v2) q M F D L v n s L2 v2 := by
  have hk := h.key.lt
  have hq := (Array.getElem?_eq_some_iff.1 h.ra.obj).1
  refine ⟨⟨obj_set h.ra.obj 1 v2, hv2.of_block (fun b hb' => obj_other _ _ _ _ _ (h.ra.ne (hb b hb')))⟩, ?_, fun b hb' => h.blk b (hb b hb'), ?_, ?_, fun k hk => h.pos k (List.mem_cons_of_mem _ hk)⟩
  · rw [← h.cut]
    conv => rhs; unfold cutL
    rw [if_pos hlt]
  · exact ⟨h.only.os, h.only.tape, h.only.output, by have := h.only.size; simp [World.setCell]; exact this, fun b hb' hn => (obj_other _ _ _ _ _ (fun e => hn (.inl e))).trans (h.only.block b hb' hn)⟩
  · refine Two.of_block (W := wr) (obj_other _ _ _ _ _ (by omega)) h.key

/-- What is left where a key was put behind the others. -/
theorem ask_end {w W w' : World} {q : Nat} {M F D : Int} {L' : List (Int × Int)} {v v0 r v' : Value} {o : Obj} (hW : OnlyS (fun b => b = q ∨ LB v b) w W) (hobj : W.heap[q]? = some (.cells #[.int .i64 M, v0, .int .i64 F, .int .i64 D] 130 (0, 0))) (hls : LS w' v' L') (h2 : OnlyS (LB r) (W.alloc o) w') (h3 : ∀ b, LB v' b → LB r b ∨ (W.alloc o).heap.size ≤ b) (hr : ∀ b, LB r b → LB v b ∨ w.heap.size ≤ b) (hqr : ¬ LB r q) (hq : q < w.heap.size) :
    w'.cell? ⟨q, 1, none⟩ = some v0 ∧ w'.frozen? ⟨q, 1, none⟩ = false ∧ RA (w'.setCell ⟨q, 1, none⟩ v') q M L' F D v' ∧ OnlyS (fun b => b = q ∨ LB v b) w (w'.setCell ⟨q, 1, none⟩ v') ∧ (∀ b, LB v' b → LB v b ∨ w.heap.size ≤ b) := by
  have hsz := hW.size
  have ha : (W.alloc o).heap.size = W.heap.size + 1 := by simp
  have old : ∀ b, b < W.heap.size → ¬ LB r b → w'.heap[b]? = W.heap[b]? := fun b hb hn => by
    rw [h2.block b (by omega) hn]
    exact (MapKept.heap_alloc W o).2 b hb
  have hobj' : w'.heap[q]? = some (.cells #[.int .i64 M, v0, .int .i64 F, .int .i64 D] 130 (0, 0)) := by rw [old q (by omega) hqr]; exact hobj
  have hl5 : ∀ b, LB v' b → LB v b ∨ w.heap.size ≤ b := by
    intro b hb
    rcases h3 b hb with h4 | h4
    · exact hr b h4
    · exact .inr (by omega)
  have hne : ∀ b, LB v' b → b ≠ q := by
    intro b hb e
    obtain ⟨cur, h5⟩ := hls.typ b hb
    rw [e, hobj'] at h5
    cases h5
  obtain ⟨⟨c0, c1, c2, c3⟩, g0, g1, g2, g3⟩ := four hobj'
  refine ⟨c1, g1, ⟨obj_set hobj' 1 v', hls.of_block (fun b hb => obj_other _ _ _ _ _ (hne b hb))⟩, ?_, hl5⟩
  refine ⟨h2.os.trans hW.os, h2.tape.trans hW.tape, h2.output.trans hW.output, ?_, fun b hb hn => ?_⟩
  · have := h2.size; simp [World.setCell]; omega
  · rw [obj_other _ _ _ _ _ (fun e => hn (.inl e)), old b (by omega) (fun e => by rcases hr b e with h | h; exact hn (.inr h); omega)]
    exact hW.block b hb hn

set_option maxRecDepth 100000 in
set_option maxHeartbeats 4000000 in
theorem ask_look (q : Nat) (M F D n s : Int) (L : List (Int × Int)) (v : Value) (w : World) (h : RA w q M L F D v) (hL : ∀ k ∈ L, 1 ≤ k.1) (hs0 : sumN L ≤ 65536) (hl : L.length ≤ 65536) (h1 : 1 ≤ n) (h2 : n ≤ 32768) (h3 : s = 1 ∨ s = -1) (f0 : 0 ≤ F) (f1 : F < 9223372036854775807) (d0 : 0 ≤ D) (d1 : D < 9223372036854775807) :
    Calls Try.prog 73 #[.pointer (some ⟨q, 0, none⟩), .int .i64 n, .int .i64 s] w fun z w' => ∃ v', z = .returned (.int .i64 0) ∧ RA w' q M (if (n, s) ∈ L then butK (n, s) L ++ [(n, s)] else if M < n then L else cutL M n L ++ [(n, s)]) (if (n, s) ∈ L then F + 1 else F) (if (n, s) ∈ L then D else D + 1) v' ∧ OnlyS (fun b => b = q ∨ LB v b) w w' ∧ (∀ b, LB v' b → LB v b ∨ w.heap.size ≤ b) := by
  have hp : q < w.heap.size := (Array.getElem?_eq_some_iff.1 h.obj).1
  have e1 : ¬ n < 1 := by omega
  have e2 : ¬ 32768 < n := by omega
  have HB0 := Lib.hid ((Below.refl w.heap.size w).alloc (Nat.le_refl _) (.cells #[.int .i64 n, .int .i64 s] 131))
  have HK := Lib.hid (Looking.mk (h.keep HB0.out) (r := .slice none 0 0) (i := 0) (by simp [butK]; exact LS.nil _) (by rintro b ⟨o, n, c, e, _⟩; cases e) (Two.new w (.int .i64 n) (.int .i64 s) 131) HB0.out)
  have HL := Lib.hid hL
  have HV := Lib.hid h.ls.lt
  have HS := Lib.hid h3
  obtain ⟨A, c, hv, hc1, hc2⟩ := h.ls.shape
  subst hv
  clear h hL h3
  go_enter Try.func73, Try.ntmps73
  go_upto_region 3 with fail
  go_cut [22] from 17 to 22 (fun s22 wx => s22 = .bool false ∧ wx = w)
  case first =>
    rcases HS.out with rfl | rfl
    all_goals
      go_wp2_with fail
      go_meet
      exact ⟨rfl, rfl⟩
  case rest =>
    obtain ⟨rfl, rfl⟩ := hcut
    go_wp2_with fail
    go_loopw [8, 9, 10] (fun r u i wr => ∃ (k : Nat), k ≤ L.length ∧ i = .int .i64 k ∧ u = .int .i64 (sumN (L.take k)) ∧ Hid (Looking wc wr q M F D L (.slice A L.length c) n s r k)) (fun _ _ i _ => L.length - (intOf i).toNat)
    case atStart => exact ⟨0, by omega, rfl, rfl, HK⟩
    case round =>
      obtain ⟨k, hk, rfl, rfl, hr⟩ := hrel
      clear HK
      obtain ⟨⟨c0, c1, c2, c3⟩, g0, g1, g2, g3⟩ := four hr.out.ra.obj
      by_cases hlt : k < L.length
      · have hki : (k : Int) < L.length := by omega
        obtain ⟨⟨x1, x2⟩, hx⟩ : ∃ x, L[k]? = some x := ⟨_, List.getElem?_eq_getElem hlt⟩
        obtain ⟨b, o, c', e, hb1, hb2, hb3, hvals⟩ := hr.out.ra.ls.vals (by omega)
        cases e
        obtain ⟨y0, y1⟩ := hvals k _ hx
        have hsum := sumN_take L k _ hx
        have hle := sumN_le L (k + 1) HL.out
        have hle0 := sumN_le L k HL.out
        have hx1 := HL.out _ (List.mem_of_getElem? hx)
        have ws : wrap64 (sumN (L.take k) + x1) = sumN (L.take (k + 1)) := by rw [hsum]; simp only at hsum hx1; unfold wrap64; omega
        obtain ⟨z0, z1, z2, z3⟩ := hr.out.key
        have HX := Lib.hid hx
        clear hvals hx hsum hle hle0 hx1
        by_cases hq : x1 = n ∧ x2 = s
        · obtain ⟨rfl, rfl⟩ := hq
          go_upto_region 12 with fail
          go_region
          go_wp2_with fail
          exact ⟨⟨k + 1, by omega, by go_num, by rw [ws], Lib.hid (hr.out.skip HX.out)⟩, by simp [intOf]; omega⟩
        · have hq' : ¬ x1 = n ∨ (x1 = n ∧ ¬ x2 = s) := by
            by_cases h : x1 = n
            · exact .inr ⟨h, fun h' => hq ⟨h, h'⟩⟩
            · exact .inl h
          go_upto_region 12 with fail
          simp only [ws]
          go_cut [53] from 45 to 53 (fun s53 wx => s53 = .bool true ∧ wx = wr.drew)
          case first =>
            rcases hq' with h | ⟨rfl, h⟩
            all_goals
              go_region
              go_wp2_with fail
              go_meet
              exact ⟨rfl, rfl⟩
          case rest =>
            obtain ⟨rfl, rfl⟩ := hcut
            obtain ⟨v', w', hrun, l1, l2, l3⟩ := run_appL (wr.alloc (.cells #[.int .i64 x1, .int .i64 x2] 131)).drew u8 (butK (n, s) (L.take k)) (x1, x2) wr.heap.size 1 (hr.out.rest.of_block (fun b hb => (MapKept.heap_alloc wr _).2 b (hr.out.rest.lt b hb))) (by have := butK_le (n, s) (L.take k); have := List.length_take_le k L; omega) (MapKept.heap_alloc wr _).1
            have HN := Lib.hid (hr.out.put HX.out (fun e => hq (by cases e; exact ⟨rfl, rfl⟩)) hp HV.out l1 l2 l3)
            clear l1 l2 l3
            go_wp2_with (at_builtin; refine Lib.wpList_append_run _ rfl _ _ _ _ rfl _ _ rfl rfl _ _ (hrun _) ?_)
            exact ⟨⟨k + 1, by omega, by go_num, rfl, HN⟩, by simp [intOf]; omega⟩
      · obtain rfl : k = L.length := by omega
        have hT : L.take L.length = L := List.take_length
        have hrest : LS wr u8 (butK (n, s) L) := by have := hr.out.rest; rwa [hT] at this
        rw [hT]
        obtain ⟨A', cr, hu8, hd1, hd2⟩ := hrest.shape
        subst hu8
        obtain ⟨z0, z1, z2, z3⟩ := hr.out.key
        have hlB := hr.out.low.size
        have hqr : ¬ LB (.slice A' (butK (n, s) L).length cr) q := fun e => by have := hr.out.new q e; omega
        have hlb := butK_le (n, s) L
        by_cases hm : (n, s) ∈ L
        · have hlt' : ((butK (n, s) L).length : Int) < L.length := by have := butK_mem (n, s) L hm; omega
          have wf : wrap64 (F + 1) = F + 1 := by unfold wrap64; omega
          obtain ⟨v', w', hrun, l1, l2, l3⟩ := run_appL ((wr.setCell ⟨q, 2, none⟩ (.int .i64 (F + 1))).alloc (.cells #[.int .i64 n, .int .i64 s] 131)) (.slice A' (butK (n, s) L).length cr) (butK (n, s) L) (n, s) wr.heap.size 1 (hrest.of_block (fun b hb => by
              rw [(MapKept.heap_alloc (wr.setCell ⟨q, 2, none⟩ (.int .i64 (F + 1))) _).2 b (by simp [World.setCell]; exact hrest.lt b hb)]
              exact obj_other _ _ _ _ _ (fun e => hqr (e ▸ hb)))) (by omega) (by
              have := (MapKept.heap_alloc (wr.setCell ⟨q, 2, none⟩ (.int .i64 (F + 1))) (.cells #[.int .i64 n, .int .i64 s] 131)).1
              simpa [World.setCell] using this)
          obtain ⟨m1, m2, m3, m4, m5⟩ := ask_end (w := wc) (W := wr.setCell ⟨q, 2, none⟩ (.int .i64 (F + 1))) (v := .slice A L.length c) ((OnlyS.of_below hr.out.low).set2 (fun b => b = q ∨ LB (.slice A L.length c) b) q 2 _ (.inl rfl)) (obj_set hr.out.ra.obj 2 _) l1 l2 l3 (fun b hb => .inr (by have := hr.out.new b hb; omega)) hqr hp
          obtain ⟨A5, c5, e5, -, -⟩ := l1.shape
          rw [List.length_append, List.length_singleton] at e5
          subst e5
          have HE := Lib.hid (And.intro m3 (And.intro m4 m5))
          clear m3 m4 m5 l1 l2 l3
          go_wp2_with (at_builtin; refine Lib.wpList_append_run _ rfl _ _ _ _ rfl _ _ rfl rfl _ _ (hrun _) ?_)
          go_ret
          exact ⟨rfl, _, HE.out⟩
        · have hge : ¬ ((butK (n, s) L).length : Int) < L.length := by rw [butK_not (n, s) L hm]; omega
          have hlB' := hr.out.low
          have wd : wrap64 (D + 1) = D + 1 := by unfold wrap64; omega
          obtain ⟨W2, hW2⟩ : ∃ W2, W2 = wr.setCell ⟨q, 3, none⟩ (.int .i64 (D + 1)) := ⟨_, rfl⟩
          have C0 : Cut2 wc W2 q M F (D + 1) L (.slice A L.length c) n s L (.slice A L.length c) := by
            have hob : W2.heap[q]? = some (.cells #[.int .i64 M, .slice A L.length c, .int .i64 F, .int .i64 (D + 1)] 130 (0, 0)) := by rw [hW2]; exact obj_set hr.out.ra.obj 3 _
            have hoth : ∀ b, b ≠ q → W2.heap[b]? = wr.heap[b]? := fun b hb => by rw [hW2]; exact obj_other _ _ _ _ _ hb
            refine ⟨⟨hob, hr.out.ra.ls.of_block (fun b hb => hoth b (hr.out.ra.ne hb))⟩, rfl, fun b hb => hb, ?_, Two.of_block (W := wr) (hoth _ (by omega)) hr.out.key, HL.out⟩
            rw [hW2]
            exact (OnlyS.of_below hlB').set2 (fun b => b = q ∨ LB (.slice A L.length c) b) q 3 _ (.inl rfl)
          have HC0 := Lib.hid C0
          obtain ⟨⟨b0, b1, b2, b3⟩, d0', d1', d2', d3'⟩ := four C0.ra.obj
          have hbl := sumN_le L L.length HL.out
          clear hrest hlB' C0
          by_cases hM : M < n
          · go_upto_region 19 with fail
            rw [← hW2]
            clear hW2
            go_wp2_with fail
            go_ret
            exact ⟨rfl, _, HC0.out.ra, HC0.out.only, fun b hb => .inl hb⟩
          · go_upto_region 19 with fail
            rw [← hW2]
            clear hW2
            go_wp2_with fail
            go_loopw [9] (fun u wx => ∃ L1 A1 c1, u = .int .i64 (sumN L1) ∧ Hid (L1.length ≤ 65536) ∧ Hid (sumN L1 ≤ 65536) ∧ Hid (Cut2 wc wx q M F (D + 1) L (.slice A L.length c) n s L1 (.slice A1 L1.length c1))) (fun u _ => (intOf u).toNat)
            case atStart => exact ⟨L, A, c, rfl, Lib.hid hl, Lib.hid hs0, HC0⟩
            case round =>
              clear HC0 b0 b1 b2 b3 d0' d1' d2' d3' hr c0 c1 c2 c3 g0 g1 g2 g3 z0 z1 z2 z3
              obtain ⟨L1, A1, cc, rfl, hl1, hs1, hq1⟩ := hrel
              obtain ⟨⟨b0, b1, b2, b3⟩, d0', d1', d2', d3'⟩ := four hq1.out.ra.obj
              have hn1 := sumN_nonneg L1 hq1.out.pos
              have hs1' := hs1.out
              have ws : wrap64 (sumN L1 + n) = sumN L1 + n := by unfold wrap64; omega
              by_cases hlt : M < sumN L1 + n
              · rcases L1 with _ | ⟨⟨x1, x2⟩, L2⟩
                · simp [sumN] at hlt; omega
                have HR1 := Lib.hid hq1.out.ra.ls
                obtain ⟨b, o, c', e, hb1, hb2, hb3, hvals⟩ := hq1.out.ra.ls.vals (by simp)
                cases e
                obtain ⟨y0, y1⟩ := hvals 0 (x1, x2) rfl
                have hx1 : 1 ≤ x1 := hq1.out.pos (x1, x2) (by simp)
                have hsn := sumN_nonneg L2 (fun k hk => hq1.out.pos k (List.mem_cons_of_mem _ hk))
                have hse : sumN ((x1, x2) :: L2) = x1 + sumN L2 := rfl
                have wm : wrap64 (sumN ((x1, x2) :: L2) - x1) = sumN L2 := by rw [hse]; rw [hse] at hs1'; unfold wrap64; omega
                rw [Nat.zero_mul, Nat.add_zero] at y0
                clear hvals y1
                have hce : 1 ≤ cc := by simp at hb1; omega
                have hc1' : (1 : Int) ≤ cc := by omega
                simp only [List.length_cons] at *
                have hl0 : (1 : Int) ≤ ((L2.length + 1 : Nat) : Int) := by omega
                have HLT := Lib.hid hlt
                have hml : (intOf (.int .i64 (sumN L2))).toNat < (intOf (.int .i64 (sumN ((x1, x2) :: L2)))).toNat := by rw [hse]; simp [intOf]; omega
                have hs2 : sumN L2 ≤ 65536 := by rw [hse] at hs1'; omega
                have HLL : Hid (L2.length ≤ 65536) := Lib.hid (by have := hl1.out; simp at this; omega)
                clear hse
                obtain ⟨Y, hY⟩ : ∃ Y, sumN ((x1, x2) :: L2) = Y := ⟨_, rfl⟩
                rw [hY] at hlt ws wm hml ⊢
                by_cases h1c : cc = 1
                · subst h1c
                  have h2e : L2 = [] := by
                    rcases L2 with _ | ⟨y, L2⟩
                    · rfl
                    · simp at hb1
                  subst h2e
                  have HN := Lib.hid (cut_tail hq1.out HLT.out (v2 := .slice (some ⟨b, o, none⟩) 0 0) (.inl ⟨_, rfl, rfl⟩) (by rintro b ⟨o, n, c, e, hc⟩; cases e; exact absurd rfl hc) hp)
                  go_wp2_with fail
                  rw [wm]
                  exact ⟨⟨[], _, 0, rfl, Lib.hid (by simp), Lib.hid hs2, HN⟩, hml⟩
                · have HN := Lib.hid (cut_tail hq1.out HLT.out (v2 := .slice (some ⟨b, o + 2, none⟩) L2.length (cc - 1)) (LS.tail HR1.out (by omega)) (by rintro b ⟨o, n, c, e, hc⟩; cases e; exact ⟨_, _, _, rfl, by omega⟩) hp)
                  have h1c' : ¬ (cc : Int) = 1 := by omega
                  have h1d : ¬ cc - 1 = 0 := by omega
                  go_wp2_with fail
                  rw [wm]
                  exact ⟨⟨L2, _, cc - 1, rfl, HLL, Lib.hid hs2, HN⟩, hml⟩
              · obtain ⟨v', w', hrun, l1, l2, l3⟩ := run_appL (wr.alloc (.cells #[.int .i64 n, .int .i64 s] 131)).drew (.slice A1 L1.length cc) L1 (n, s) wr.heap.size 1 (hq1.out.ra.ls.of_block (fun b hb => (MapKept.heap_alloc wr _).2 b (hq1.out.ra.ls.lt b hb))) (by have := hl1.out; omega) (MapKept.heap_alloc wr _).1
                obtain ⟨m1, m2, m3, m4, m5⟩ := ask_end (w := wc) (W := wr) (v := .slice A L.length c) hq1.out.only hq1.out.ra.obj l1 ⟨l2.os, l2.tape, l2.output, l2.size, l2.block⟩ l3 (fun b hb => .inl (hq1.out.blk b hb)) (fun e => hq1.out.ra.ne e rfl) hp
                obtain ⟨A5, c5, e5, -, -⟩ := l1.shape
                rw [List.length_append, List.length_singleton] at e5
                subst e5
                have hcl : cutL M n L = L1 := by
                  rw [← hq1.out.cut]
                  rcases L1 with _ | ⟨x, L2⟩
                  · rfl
                  · unfold cutL; rw [if_neg hlt]
                have HE := Lib.hid (And.intro m3 (And.intro m4 m5))
                obtain ⟨z0, z1, z2, z3⟩ := hq1.out.key
                have hqw : q < wr.heap.size := (Array.getElem?_eq_some_iff.1 hq1.out.ra.obj).1
                have hkw := hq1.out.key.lt
                clear m3 m4 m5 l1 l2 l3
                go_upto_region 24 with fail
                go_region_law (refine step_append rfl (.tmp 130) (.tmp 132) 128 128 rfl _ _ _ _ rfl rfl (hrun _) ?_)
                all_goals
                  go_wp2_with fail
                  go_ret
                  exact ⟨rfl, _, HE.out⟩

end Go.Proofs.Ytnpkblidlmkagaa

/- The contract of Table: a table that is there. -/
set_option linter.unusedSimpArgs false
set_option linter.unusedVariables false
namespace Go.Proofs.Ytnpkblidlmkagaa
open Go Go.RowKit

theorem OnlyS.heap {S : Nat → Prop} {x y : World} (h : OnlyS S x y) {q : Nat} (hq : q < x.heap.size) (hs : ¬ S q) : y.heap[q]? = x.heap[q]? := h.block q hq hs

/-- What the deletion leaves, for whatever new blocks there are besides. -/
theorem del_arm {w3 : World} {b c i : Nat} {K : List (Int × Int)} (hi : i < K.length) (hr : KRow w3 b c K) (X : World) (hX : Below w3.heap.size w3 X) :
    Calls Try.prog 91 #[.slice (some ⟨b, 0, none⟩) K.length c, .int .i64 i, .int .i64 ((i : Int) + 1)] X fun z w4 => z = .returned (.slice (some ⟨b, 0, none⟩) (K.length - 1) c) ∧ KRow w4 b c (K.eraseIdx i) ∧ OnlyS (· = b) w3 w4 ∧ OnlyB b X w4 := by
  refine (delete_any b c i K X hi (hr.keep hX)).mono ?_
  rintro z w4 ⟨rfl, h1, h2⟩
  exact ⟨rfl, h1, (OnlyS.of_below hX).trans (OnlyS.of_only h2 rfl), h2⟩

theorem ins_arm {w3 : World} {b c n vb : Nat} {K K' : List (Int × Int)} {k : Int × Int} (hn : n = K'.length) (hc : 1 ≤ c) (hlen : K'.length ≤ 1000000) (hb : b < w3.heap.size) (w4 Y : World) (hr : KRow w4 b c K') (ho : OnlyS (· = b) w3 w4) (hY : Below w4.heap.size w4 Y)
    (hv : Y.heap[vb]? = some (.cells #[.int .i64 k.1, .int .i64 k.2] 89 (0, 0))) (hvb : w3.heap.size ≤ vb) :
    Calls Try.prog 90 #[.slice (some ⟨b, 0, none⟩) n c, .int .i64 0, .slice (some ⟨vb, 0, none⟩) 1 1] Y fun z w5 => ∃ B C, z = .returned (.slice (some ⟨B, 0, none⟩) (n + 1) C) ∧ KS w5 (.slice (some ⟨B, 0, none⟩) (n + 1) C) (k :: K') ∧ OnlyS (· = b) w3 w5 ∧ (B = b ∨ w3.heap.size ≤ B) := by
  have hk : KS Y (.slice (some ⟨b, 0, none⟩) n c) K' := .inr ⟨b, c, by rw [hn], hc, hr.keep hY⟩
  refine (insert_any _ K' k vb 1 Y hk hlen ?_ hv).mono ?_
  · rintro ⟨n', c', e⟩
    cases e; omega
  · rintro z w5 ⟨kv', rfl, h1, h2, h3⟩
    obtain ⟨B, C, rfl⟩ := h1.some
    rw [← hn] at *
    refine ⟨B, C, rfl, h1, (ho.trans (OnlyS.of_below hY)).trans (h2.mono ?_), ?_⟩
    · rintro q hq ⟨n', c', e⟩
      cases e; rfl
    · rcases h3 B ⟨_, _, rfl⟩ with ⟨n', c', e⟩ | h
      · cases e; exact .inl rfl
      · have := hY.size; have := ho.size; exact .inr (by omega)

theorem sumN_erase : ∀ (K : List (Int × Int)) (i : Nat) (k : Int × Int), K[i]? = some k → sumN (k :: K.eraseIdx i) = sumN K
  | [], i, k, h => by simp at h
  | a :: K, 0, k, h => by
    simp at h; subst h; rfl
  | a :: K, i + 1, k, h => by
    have := sumN_erase K i k (by simpa using h)
    simp only [sumN, List.eraseIdx_cons_succ] at this ⊢
    omega
theorem mem_erase (K : List (Int × Int)) (i : Nat) (k : Int × Int) (h : K[i]? = some k) : ∀ x, x ∈ k :: K.eraseIdx i ↔ x ∈ K := by
  intro x
  have hi : i < K.length := (List.getElem?_eq_some_iff.1 h).1
  rw [List.mem_cons, List.mem_eraseIdx_iff_getElem?]
  constructor
  · rintro (e | ⟨j, _, hj⟩)
    · rw [e]; exact List.mem_of_getElem? h
    · exact List.mem_of_getElem? hj
  · intro hx
    obtain ⟨j, hj⟩ := List.getElem?_of_mem hx
    by_cases e : j = i
    · subst e; rw [h] at hj; cases hj; exact .inl rfl
    · exact .inr ⟨j, e, hj⟩
theorem nodup_erase (K : List (Int × Int)) (i : Nat) (k : Int × Int) (h : K[i]? = some k) (hn : K.Nodup) : (k :: K.eraseIdx i).Nodup := by
  have hi : i < K.length := (List.getElem?_eq_some_iff.1 h).1
  rw [List.nodup_cons]
  refine ⟨fun hm => ?_, hn.eraseIdx i⟩
  rw [List.mem_eraseIdx_iff_getElem?] at hm
  obtain ⟨j, hne, hj⟩ := hm
  have hjl := (List.getElem?_eq_some_iff.1 hj).1
  have e1 := (List.getElem?_eq_some_iff.1 h).2
  have e2 := (List.getElem?_eq_some_iff.1 hj).2
  exact hne ((List.getElem_inj hn).1 (e2.trans e1.symm))

theorem key_old {wc w4 : World} {b : Nat} {cs : Array Value} (h : OnlyB b (wc.alloc (.cells cs 89)).drew w4) (hb : b < wc.heap.size) : w4.heap[wc.heap.size]? = some (.cells cs 89 (0, 0)) := by
  rw [h.block wc.heap.size (by simp [World.drew]) (by omega)]
  exact (MapKept.heap_alloc wc _).1

/-- What is left behind the store. -/
theorem hit_end {w W2 w3 w5 : World} {p r clock b c B C i : Nat} {M F D : Int} {K : List (Int × Int)} {k : Int × Int} {es : List ((Int × Int) × Value × Nat)} (hC : CA W2 p M K F D (.slice (some ⟨b, 0, none⟩) K.length c) r es clock) (hO : OnlyS (Core p r (.slice (some ⟨b, 0, none⟩) K.length c)) w W2) (hp : p < w.heap.size) (hr : r < w.heap.size) (hbw : b < w.heap.size)
    (hb3 : Below W2.drew.heap.size W2.drew w3) (hi : K[i]? = some k) (hks : KS w5 (.slice (some ⟨B, 0, none⟩) (K.length - 1 + 1) C) (k :: K.eraseIdx i)) (hos : OnlyS (· = b) w3 w5) (hB : B = b ∨ w3.heap.size ≤ B) :
    CA (w5.setCell ⟨p, 2, none⟩ (.slice (some ⟨B, 0, none⟩) (K.length - 1 + 1) C)) p M (k :: K.eraseIdx i) F D (.slice (some ⟨B, 0, none⟩) (K.length - 1 + 1) C) r es clock ∧
    OnlyS (Core p r (.slice (some ⟨b, 0, none⟩) K.length c)) w (w5.setCell ⟨p, 2, none⟩ (.slice (some ⟨B, 0, none⟩) (K.length - 1 + 1) C)) := by
  have h2 : w.heap.size ≤ W2.heap.size := hO.size
  have h3 : W2.heap.size ≤ w3.heap.size := hb3.size
  have hpb : p ≠ b := fun e => (hC.pb (b := b) ⟨_, _, rfl⟩).1 e.symm
  have hrb : r ≠ b := fun e => (hC.pb (b := b) ⟨_, _, rfl⟩).2 e.symm
  have hBp : B ≠ p ∧ B ≠ r := by
    rcases hB with e | e
    · rw [e]; exact hC.pb ⟨_, _, rfl⟩
    · exact ⟨by omega, by omega⟩
  have old : ∀ q, q < W2.heap.size → q ≠ p → q ≠ b → (w5.setCell ⟨p, 2, none⟩ (.slice (some ⟨B, 0, none⟩) (K.length - 1 + 1) C)).heap[q]? = W2.heap[q]? := by
    intro q hq h1 h2
    rw [obj_other _ _ _ _ _ h1, hos.block q (by omega) h2]
    exact hb3.block q hq
  have hobj : w5.heap[p]? = some (.cells #[.int .i64 M, .int .i64 (sumN K), .slice (some ⟨b, 0, none⟩) K.length c, .map (some r), .int .i64 F, .int .i64 D] 120 (0, 0)) := by
    rw [hos.block p (by omega) hpb]
    exact (hb3.block p (by show p < W2.heap.size; omega)).trans hC.obj
  refine ⟨⟨?_, ?_, ?_, hC.nd, ?_, ?_, nodup_erase K i k hi hC.kn, ?_, hC.m0, hC.m1, ?_⟩, ?_⟩
  · rw [sumN_erase K i k hi]; exact obj_set hobj 2 _
  · refine hks.of_block (fun q hq => ?_)
    obtain ⟨n', c', e⟩ := hq
    cases e
    exact obj_other _ _ _ _ _ hBp.1
  · rw [old r (by omega) (fun e => hC.pr e.symm) hrb]; exact hC.mp
  · intro x; rw [hC.keys x, mem_erase K i k hi x]
  · intro x v hv
    refine (hC.tabs x v hv).of_block (fun q cur hq => ?_)
    refine old q (Array.getElem?_eq_some_iff.1 hq).1 ?_ ?_
    · intro e; have h1 := hC.obj; rw [← e, hq] at h1; cases h1
    · intro e
      rcases hC.kept with ⟨h1, _⟩ | ⟨b', c', h1, h0, h2⟩
      · cases h1
      · cases h1
        obtain ⟨cur2, rest, g1, _⟩ := h2.obj
        rw [e, g1] at hq; cases hq
  · intro x hx; exact hC.ks x ((mem_erase K i k hi x).1 hx)
  · rw [sumN_erase K i k hi]; exact hC.sm
  · refine ⟨hos.os.trans (hb3.os.trans hO.os), hos.tape.trans (hb3.tape.trans hO.tape), hos.output.trans (hb3.output.trans hO.output), ?_, fun q hq hn => ?_⟩
    · have := hos.size; simp [World.setCell]; omega
    · rw [old q (by omega) (fun e => hn (.inl e)) (fun e => hn (.inr (.inr ⟨_, _, by rw [e]⟩)))]
      exact hO.block q hq hn

set_option maxRecDepth 100000 in
set_option maxHeartbeats 4000000 in
/-- A table that is there. -/
theorem table_hit1 (p r clock n : Nat) (M F D : Int) (K : List (Int × Int)) (kv : Value) (es : List ((Int × Int) × Value × Nat)) (w : World) (h : CA w p M K F D kv r es clock) (n1 : 1 ≤ n) (n2 : n ≤ 32768) (hk : ((n : Int), 1) ∈ K)
    (d0 : 0 ≤ F) (d1 : F < 9223372036854775807) :
    Calls Try.prog 67 #[.pointer (some ⟨p, 0, none⟩), .int .i64 n, .int .i64 1] w fun z w' => ∃ b c kv', z = .returned (.tuple #[.slice (some ⟨b, 0, none⟩) n c, .int .i64 0]) ∧ w.heap.size ≤ b ∧ Tab w' b n 1 ∧ CA w' p M (((n : Int), 1) :: K.eraseIdx (K.idxOf ((n : Int), 1))) (F + 1) D kv' r es clock ∧ OnlyS (Core p r kv) w w' ∧
      (∀ q, KB kv' q → KB kv q ∨ w.heap.size ≤ q) ∧ ¬ KB kv' b ∧ NoTab es b := by
  obtain ⟨⟨c0, c1, c2, c3, c4, c5⟩, f0, f1, f2, f3, f4, f5⟩ := six h.obj
  have hp : p < w.heap.size := (Array.getElem?_eq_some_iff.1 h.obj).1
  have e1 : ¬ (n : Int) < 1 := by omega
  have e2 : ¬ 32768 < (n : Int) := by omega
  obtain ⟨j, v, hf, hv, -, -⟩ := fidx_some ((h.keys _).2 hk) h.nd
  obtain ⟨W1, hW1⟩ : ∃ W1, W1 = w.alloc (.cells #[.int .i64 (n : Int), .int .i64 1] 89) := ⟨_, rfl⟩
  have hmap : W1.drew.heap[r]? = some (.map (es.map ent).toArray clock) := by
    rw [hW1]; exact (MapKept.heap_alloc w _).2 r (Array.getElem?_eq_some_iff.1 h.mp).1 |>.trans h.mp
  have hlook := run_look r clock ((n : Int), 1) es W1.drew hmap
  obtain ⟨tb, tc, tn, tcur, rfl, htn, htb, htab⟩ := h.tabs _ v hv
  obtain rfl : tn = n := by have : (tn : Int) = n := htn; omega
  rw [hf] at hlook
  simp only [keyV, Option.isSome_some] at hlook
  rw [hW1] at hlook
  have wd : wrap64 (F + 1) = F + 1 := by unfold wrap64; omega
  obtain ⟨W2, hW2⟩ : ∃ W2, W2 = ((w.setCell ⟨p, 4, none⟩ (.int .i64 (F + 1))).alloc (.cells #[.int .i64 (tn : Int), .int .i64 1] 89)).drew := ⟨_, rfl⟩
  have old2 : ∀ q, q < w.heap.size → q ≠ p → W2.heap[q]? = w.heap[q]? := by
    intro q hq hqp
    rw [hW2]
    exact (Below.heap_alloc _ _ _ (by simp [World.setCell]; exact hq)).trans (obj_other _ _ _ _ _ hqp)
  have obj2 : W2.heap[p]? = some (.cells #[.int .i64 M, .int .i64 (sumN K), kv, .map (some r), .int .i64 (F + 1), .int .i64 D] 120 (0, 0)) := by
    rw [hW2]
    exact (Below.heap_alloc _ _ _ (by simp [World.setCell]; exact hp)).trans (obj_set h.obj 4 _)
  have C2 := h.turned obj2 old2
  have hsz2 : W2.heap.size = w.heap.size + 1 := by rw [hW2]; simp [World.setCell, World.drew]
  have O2 : OnlyS (Core p r kv) w W2 := ⟨by rw [hW2]; rfl, by rw [hW2]; rfl, by rw [hW2]; rfl, by omega, fun q hq hn => old2 q hq (fun e => hn (.inl e))⟩
  have T2 : Two W2 w.heap.size (.int .i64 (tn : Int)) (.int .i64 1) := by
    have := Two.new (w.setCell ⟨p, 4, none⟩ (.int .i64 (F + 1))) (.int .i64 (tn : Int)) (.int .i64 1) 89
    rw [hW2]
    simpa [World.setCell] using this.drew
  have hlen := h.len
  have hidx : K.idxOf ((tn : Int), 1) < K.length := List.idxOf_lt_length_of_mem hk
  have hget : K[K.idxOf ((tn : Int), 1)]? = some ((tn : Int), 1) := by
    rw [List.getElem?_eq_getElem hidx]; simp
  have hT2 : Tab W2 tb tn 1 := RowF.of_block (old2 tb (Array.getElem?_eq_some_iff.1 htb).1 (fun e => by have h1 := h.obj; rw [← e, htb] at h1; cases h1)) htab
  obtain ⟨b, c, hkv, hc, hrow⟩ : ∃ b c, kv = .slice (some ⟨b, 0, none⟩) K.length c ∧ 1 ≤ c ∧ KRow W2 b c K := by
    rcases C2.kept with ⟨_, h2⟩ | ⟨b, c, h1, h2, h3⟩
    · rw [h2] at hk; cases hk
    · exact ⟨b, c, h1, h2, h3⟩
  subst hkv
  have hcx : c ≤ 9223372036854775807 := by have := hrow.mx; unfold maxLen at this; omega
  have hKc : K.length ≤ c := hrow.le
  have hbw : b < w.heap.size := h.kept.lt b ⟨_, _, rfl⟩
  have hTb : tb ≠ b ∧ tb ≠ p := ⟨fun e => (h.pt hv (b := tb) ⟨_, _, rfl⟩).2.2 ⟨_, _, by rw [e]⟩, (h.pt hv (b := tb) ⟨_, _, rfl⟩).1⟩
  have HTB := Lib.hid htb
  obtain ⟨i, hi⟩ : ∃ i, i = K.idxOf ((tn : Int), 1) := ⟨_, rfl⟩
  have hX := index_any _ K ((tn : Int), 1) W2.drew C2.drew.kept.kv hk
  rw [← hi] at hX hidx hget ⊢
  have HX := Lib.hid hX
  have HC := Lib.hid C2
  have HO := Lib.hid O2
  have H2 := Lib.hid T2
  have HG := Lib.hid hget
  have HV := Lib.hid hv
  have HT := Lib.hid hT2
  have HROW := Lib.hid hrow
  have HL := Lib.hid (fun (k : Int × Int) (v : Value) (hv : lk k es = some v) (q : Nat) (hq : KB v q) => h.tlt hv hq)
  have HR := Lib.hid (Array.getElem?_eq_some_iff.1 h.mp).1
  have hpb : p ≠ b := fun e => (h.pb (b := b) ⟨_, _, rfl⟩).1 e.symm
  clear h hk hmap hW1 old2 obj2 C2 O2 T2 hf hv htb htab hget hX hT2 hrow hi htn
  have wj : IntKind.i64.wrap ((i : Int) + 1) = (i : Int) + 1 := by rw [IntKind.wrap_i64]; omega
  have WJ := Lib.hid wj
  have hKe : (K.eraseIdx i).length = K.length - 1 := by rw [List.length_eraseIdx, if_pos hidx]
  have hK6 : (K.eraseIdx i).length ≤ 1000000 := by omega
  have HK6 := Lib.hid hK6
  have HKE := Lib.hid hKe.symm
  clear wj hKe hK6 hlen
  obtain ⟨L, hL⟩ : ∃ L, L = K.length := ⟨_, rfl⟩
  go_enter Try.func67, Try.ntmps67
  go_upto_region 8 with fail
  go_region
  go_upto_region 11 with fail
  rw [← hW2]
  obtain ⟨⟨c0, c1, c2, c3, c4, c5⟩, f0, f1, f2, f3, f4, f5⟩ := six HC.out.obj
  obtain ⟨k0, k1, g0, g1⟩ := H2.out
  clear hlook hW2
  go_cut [11] from 50 to 55 (fun s11 wx => s11 = .int .i64 (i : Int) ∧ Hid (Below W2.drew.heap.size W2.drew wx))
  case first =>
    go_region_with (go_at_call 89; refine HX.out.mono ?_; rintro z w3 ⟨rfl, hbw3⟩)
    all_goals
      go_wp2_with fail
      go_meet
      exact ⟨rfl, Lib.hid hbw3⟩
  case rest =>
    obtain ⟨rfl, HB3⟩ := hcut
    obtain ⟨⟨c0', c1', c2', c3', c4', c5'⟩, f0', f1', f2', f3', f4', f5'⟩ := six (HC.out.drew.keep HB3.out).obj
    obtain ⟨k0', k1', g0', g1'⟩ := H2.out.drew.keep HB3.out
    have HROW3 := Lib.hid (HROW.out.drew.keep HB3.out)
    have hsz3 : W2.heap.size ≤ wc.heap.size := HB3.out.size
    have HTC : Hid (∀ w5, OnlyS (· = b) wc.drew w5 → (w5.cell? ⟨p, 2, none⟩ = some (.slice (some ⟨b, 0, none⟩) K.length c) ∧ w5.frozen? ⟨p, 2, none⟩ = false)) := Lib.hid (fun w5 h5 => by
      have e := h5.block p (by show p < wc.heap.size; omega) hpb
      exact ⟨by rw [World.cell?_of_block (w := wc) (a := ⟨p, 2, none⟩) e]; exact c2', by rw [World.frozen?_of_block (w := wc) (a := ⟨p, 2, none⟩) e]; exact f2'⟩)
    have HDel : Hid (∀ (X : World) (hX : Below wc.drew.heap.size wc.drew X), _) := Lib.hid (fun X hX => del_arm (c := c) hidx (HROW3.out.drew) X hX)
    have HW4 : Hid (∀ w4, OnlyS (· = b) wc.drew w4 → Two w4 w.heap.size (.int .i64 (tn : Int)) (.int .i64 1)) := Lib.hid (fun w4 h4 => by
      have e := h4.block w.heap.size (by show w.heap.size < wc.heap.size; omega) (by omega)
      exact Two.of_block (W := wc) e ⟨k0', k1', g0', g1'⟩)
    clear c0 c1 c2 c3 c4 c5 f0 f1 f2 f3 f4 f5 k0 k1 g0 g1
    clear c0' c1' c3' c4' c5' f0' f1' f3' f4' f5' HX
    have hpw : p < wc.heap.size := by omega
    have hkw : w.heap.size < wc.heap.size := by omega
    go_upto_region 12 with fail
    have HIns : Hid (∀ (w4 Y : World) (vb : Nat) (hr : KRow w4 b c (K.eraseIdx i)) (ho : OnlyS (· = b) wc.drew w4) (hY : Below w4.heap.size w4 Y) (hv : Y.heap[vb]? = some (.cells #[.int .i64 (tn : Int), .int .i64 1] 89 (0, 0))) (hvb : wc.drew.heap.size ≤ vb), _) := Lib.hid (fun w4 Y vb hr ho hY hv hvb => ins_arm (K := K) (w3 := wc.drew) (k := ((tn : Int), 1)) (n := K.length - 1) HKE.out hc HK6.out (HROW3.out.drew.lt) w4 Y hr ho hY hv hvb)
    go_region_with (first
      | (go_at_call 91; rw [WJ.out]; refine (HDel.out _ ?_).mono ?_; (first | exact Below.refl _ _ | exact (Below.refl _ _).alloc (Nat.le_refl _) _); rintro z w4 ⟨rfl, hr4, ho4, hob4⟩; obtain ⟨k0'', k1'', g0'', g1''⟩ := HW4.out w4 ho4; have HO4 := Lib.hid ho4; have HR4 := Lib.hid hr4; have HB4 := Lib.hid hob4; clear hr4 ho4 hob4)
      | (go_at_call 90; refine (HIns.out w4 _ _ HR4.out HO4.out ?_ ?_ ?_).mono ?_; (first | exact Below.refl _ _ | exact (Below.refl _ _).alloc (Nat.le_refl _) _); (first | exact (MapKept.heap_alloc _ _).1 | exact key_old HB4.out HROW3.out.lt); (first | exact Nat.le_refl _ | exact HO4.out.size); rintro z w5 ⟨B, C, rfl, hks5, hos5, hB5⟩; obtain ⟨q2, q2f⟩ := HTC.out w5 hos5; have HKS5 := Lib.hid hks5; have HOS5 := Lib.hid hos5; have HBB5 := Lib.hid hB5; clear hks5 hos5 hB5))
    all_goals
      obtain ⟨g1, g2⟩ := hit_end HC.out HO.out hp HR.out hbw HB3.out.drew HG.out HKS5.out HOS5.out HBB5.out
      have htt : Tab (w5.setCell ⟨p, 2, none⟩ (.slice (some ⟨B, 0, none⟩) (K.length - 1 + 1) C)) tb tn 1 := by
        have htl : tb < W2.heap.size := HT.out.lt n1
        refine RowF.of_block ?_ HT.out
        rw [obj_other _ _ _ _ _ hTb.2, HOS5.out.block tb (by show tb < wc.heap.size; omega) hTb.1]
        exact HB3.out.block tb htl
      have HCl := Lib.hid (cloneC tb tn tc 1 _ htt n1 n2)
      have G1 := Lib.hid g1
      have G2 := Lib.hid g2
      clear g1 g2 htt
      go_wp2_with fail
      refine HCl.out.mono ?_
      rintro z w7 ⟨b7, c7, cur7, rfl, hb7, -, ht7, hw7⟩
      have HE := Lib.hid (And.intro hb7 (And.intro ht7 hw7))
      clear hb7 ht7 hw7
      go_wp2_with fail
      go_ret2
      obtain ⟨hb7, ht7, hw7⟩ := HE.out
      have hz := G2.out.size
      refine ⟨b7, c7, _, rfl, by omega, ht7, G1.out.keep hw7, G2.out.trans (OnlyS.of_below hw7), ?_, ?_, ?_⟩
      · rintro q ⟨n', c', e⟩
        cases e
        rcases HBB5.out with e | e
        · exact .inl ⟨_, _, by rw [e]⟩
        · refine .inr ?_
          have : wc.heap.size ≤ B := e
          omega
      · rintro ⟨n', c', e⟩
        cases e
        have := G1.out.kept.lt B ⟨_, _, rfl⟩
        omega
      · intro k v hv hkb
        have := HL.out k v hv b7 hkb
        omega

end Go.Proofs.Ytnpkblidlmkagaa

/- The contract of Table: a table that is there; the sign -1. -/
set_option linter.unusedSimpArgs false
set_option linter.unusedVariables false
namespace Go.Proofs.Ytnpkblidlmkagaa
open Go Go.RowKit

set_option maxRecDepth 100000 in
set_option maxHeartbeats 4000000 in
/-- A table that is there. -/
theorem table_hitM (p r clock n : Nat) (M F D : Int) (K : List (Int × Int)) (kv : Value) (es : List ((Int × Int) × Value × Nat)) (w : World) (h : CA w p M K F D kv r es clock) (n1 : 1 ≤ n) (n2 : n ≤ 32768) (hk : ((n : Int), (-1)) ∈ K)
    (d0 : 0 ≤ F) (d1 : F < 9223372036854775807) :
    Calls Try.prog 67 #[.pointer (some ⟨p, 0, none⟩), .int .i64 n, .int .i64 (-1)] w fun z w' => ∃ b c kv', z = .returned (.tuple #[.slice (some ⟨b, 0, none⟩) n c, .int .i64 0]) ∧ w.heap.size ≤ b ∧ Tab w' b n (-1) ∧ CA w' p M (((n : Int), (-1)) :: K.eraseIdx (K.idxOf ((n : Int), (-1)))) (F + 1) D kv' r es clock ∧ OnlyS (Core p r kv) w w' ∧
      (∀ q, KB kv' q → KB kv q ∨ w.heap.size ≤ q) ∧ ¬ KB kv' b ∧ NoTab es b := by
  obtain ⟨⟨c0, c1, c2, c3, c4, c5⟩, f0, f1, f2, f3, f4, f5⟩ := six h.obj
  have hp : p < w.heap.size := (Array.getElem?_eq_some_iff.1 h.obj).1
  have e1 : ¬ (n : Int) < 1 := by omega
  have e2 : ¬ 32768 < (n : Int) := by omega
  obtain ⟨j, v, hf, hv, -, -⟩ := fidx_some ((h.keys _).2 hk) h.nd
  obtain ⟨W1, hW1⟩ : ∃ W1, W1 = w.alloc (.cells #[.int .i64 (n : Int), .int .i64 (-1)] 89) := ⟨_, rfl⟩
  have hmap : W1.drew.heap[r]? = some (.map (es.map ent).toArray clock) := by
    rw [hW1]; exact (MapKept.heap_alloc w _).2 r (Array.getElem?_eq_some_iff.1 h.mp).1 |>.trans h.mp
  have hlook := run_look r clock ((n : Int), (-1)) es W1.drew hmap
  obtain ⟨tb, tc, tn, tcur, rfl, htn, htb, htab⟩ := h.tabs _ v hv
  obtain rfl : tn = n := by have : (tn : Int) = n := htn; omega
  rw [hf] at hlook
  simp only [keyV, Option.isSome_some] at hlook
  rw [hW1] at hlook
  have wd : wrap64 (F + 1) = F + 1 := by unfold wrap64; omega
  obtain ⟨W2, hW2⟩ : ∃ W2, W2 = ((w.setCell ⟨p, 4, none⟩ (.int .i64 (F + 1))).alloc (.cells #[.int .i64 (tn : Int), .int .i64 (-1)] 89)).drew := ⟨_, rfl⟩
  have old2 : ∀ q, q < w.heap.size → q ≠ p → W2.heap[q]? = w.heap[q]? := by
    intro q hq hqp
    rw [hW2]
    exact (Below.heap_alloc _ _ _ (by simp [World.setCell]; exact hq)).trans (obj_other _ _ _ _ _ hqp)
  have obj2 : W2.heap[p]? = some (.cells #[.int .i64 M, .int .i64 (sumN K), kv, .map (some r), .int .i64 (F + 1), .int .i64 D] 120 (0, 0)) := by
    rw [hW2]
    exact (Below.heap_alloc _ _ _ (by simp [World.setCell]; exact hp)).trans (obj_set h.obj 4 _)
  have C2 := h.turned obj2 old2
  have hsz2 : W2.heap.size = w.heap.size + 1 := by rw [hW2]; simp [World.setCell, World.drew]
  have O2 : OnlyS (Core p r kv) w W2 := ⟨by rw [hW2]; rfl, by rw [hW2]; rfl, by rw [hW2]; rfl, by omega, fun q hq hn => old2 q hq (fun e => hn (.inl e))⟩
  have T2 : Two W2 w.heap.size (.int .i64 (tn : Int)) (.int .i64 (-1)) := by
    have := Two.new (w.setCell ⟨p, 4, none⟩ (.int .i64 (F + 1))) (.int .i64 (tn : Int)) (.int .i64 (-1)) 89
    rw [hW2]
    simpa [World.setCell] using this.drew
  have hlen := h.len
  have hidx : K.idxOf ((tn : Int), (-1)) < K.length := List.idxOf_lt_length_of_mem hk
  have hget : K[K.idxOf ((tn : Int), (-1))]? = some ((tn : Int), (-1)) := by
    rw [List.getElem?_eq_getElem hidx]; simp
  have hT2 : Tab W2 tb tn (-1) := RowF.of_block (old2 tb (Array.getElem?_eq_some_iff.1 htb).1 (fun e => by have h1 := h.obj; rw [← e, htb] at h1; cases h1)) htab
  obtain ⟨b, c, hkv, hc, hrow⟩ : ∃ b c, kv = .slice (some ⟨b, 0, none⟩) K.length c ∧ 1 ≤ c ∧ KRow W2 b c K := by
    rcases C2.kept with ⟨_, h2⟩ | ⟨b, c, h1, h2, h3⟩
    · rw [h2] at hk; cases hk
    · exact ⟨b, c, h1, h2, h3⟩
  subst hkv
  have hcx : c ≤ 9223372036854775807 := by have := hrow.mx; unfold maxLen at this; omega
  have hKc : K.length ≤ c := hrow.le
  have hbw : b < w.heap.size := h.kept.lt b ⟨_, _, rfl⟩
  have hTb : tb ≠ b ∧ tb ≠ p := ⟨fun e => (h.pt hv (b := tb) ⟨_, _, rfl⟩).2.2 ⟨_, _, by rw [e]⟩, (h.pt hv (b := tb) ⟨_, _, rfl⟩).1⟩
  have HTB := Lib.hid htb
  obtain ⟨i, hi⟩ : ∃ i, i = K.idxOf ((tn : Int), (-1)) := ⟨_, rfl⟩
  have hX := index_any _ K ((tn : Int), (-1)) W2.drew C2.drew.kept.kv hk
  rw [← hi] at hX hidx hget ⊢
  have HX := Lib.hid hX
  have HC := Lib.hid C2
  have HO := Lib.hid O2
  have H2 := Lib.hid T2
  have HG := Lib.hid hget
  have HV := Lib.hid hv
  have HT := Lib.hid hT2
  have HROW := Lib.hid hrow
  have HL := Lib.hid (fun (k : Int × Int) (v : Value) (hv : lk k es = some v) (q : Nat) (hq : KB v q) => h.tlt hv hq)
  have HR := Lib.hid (Array.getElem?_eq_some_iff.1 h.mp).1
  have hpb : p ≠ b := fun e => (h.pb (b := b) ⟨_, _, rfl⟩).1 e.symm
  clear h hk hmap hW1 old2 obj2 C2 O2 T2 hf hv htb htab hget hX hT2 hrow hi htn
  have wj : IntKind.i64.wrap ((i : Int) + 1) = (i : Int) + 1 := by rw [IntKind.wrap_i64]; omega
  have WJ := Lib.hid wj
  have hKe : (K.eraseIdx i).length = K.length - 1 := by rw [List.length_eraseIdx, if_pos hidx]
  have hK6 : (K.eraseIdx i).length ≤ 1000000 := by omega
  have HK6 := Lib.hid hK6
  have HKE := Lib.hid hKe.symm
  clear wj hKe hK6 hlen
  obtain ⟨L, hL⟩ : ∃ L, L = K.length := ⟨_, rfl⟩
  go_enter Try.func67, Try.ntmps67
  go_upto_region 8 with fail
  go_region
  go_upto_region 11 with fail
  rw [← hW2]
  obtain ⟨⟨c0, c1, c2, c3, c4, c5⟩, f0, f1, f2, f3, f4, f5⟩ := six HC.out.obj
  obtain ⟨k0, k1, g0, g1⟩ := H2.out
  clear hlook hW2
  go_cut [11] from 50 to 55 (fun s11 wx => s11 = .int .i64 (i : Int) ∧ Hid (Below W2.drew.heap.size W2.drew wx))
  case first =>
    go_region_with (go_at_call 89; refine HX.out.mono ?_; rintro z w3 ⟨rfl, hbw3⟩)
    all_goals
      go_wp2_with fail
      go_meet
      exact ⟨rfl, Lib.hid hbw3⟩
  case rest =>
    obtain ⟨rfl, HB3⟩ := hcut
    obtain ⟨⟨c0', c1', c2', c3', c4', c5'⟩, f0', f1', f2', f3', f4', f5'⟩ := six (HC.out.drew.keep HB3.out).obj
    obtain ⟨k0', k1', g0', g1'⟩ := H2.out.drew.keep HB3.out
    have HROW3 := Lib.hid (HROW.out.drew.keep HB3.out)
    have hsz3 : W2.heap.size ≤ wc.heap.size := HB3.out.size
    have HTC : Hid (∀ w5, OnlyS (· = b) wc.drew w5 → (w5.cell? ⟨p, 2, none⟩ = some (.slice (some ⟨b, 0, none⟩) K.length c) ∧ w5.frozen? ⟨p, 2, none⟩ = false)) := Lib.hid (fun w5 h5 => by
      have e := h5.block p (by show p < wc.heap.size; omega) hpb
      exact ⟨by rw [World.cell?_of_block (w := wc) (a := ⟨p, 2, none⟩) e]; exact c2', by rw [World.frozen?_of_block (w := wc) (a := ⟨p, 2, none⟩) e]; exact f2'⟩)
    have HDel : Hid (∀ (X : World) (hX : Below wc.drew.heap.size wc.drew X), _) := Lib.hid (fun X hX => del_arm (c := c) hidx (HROW3.out.drew) X hX)
    have HW4 : Hid (∀ w4, OnlyS (· = b) wc.drew w4 → Two w4 w.heap.size (.int .i64 (tn : Int)) (.int .i64 (-1))) := Lib.hid (fun w4 h4 => by
      have e := h4.block w.heap.size (by show w.heap.size < wc.heap.size; omega) (by omega)
      exact Two.of_block (W := wc) e ⟨k0', k1', g0', g1'⟩)
    clear c0 c1 c2 c3 c4 c5 f0 f1 f2 f3 f4 f5 k0 k1 g0 g1
    clear c0' c1' c3' c4' c5' f0' f1' f3' f4' f5' HX
    have hpw : p < wc.heap.size := by omega
    have hkw : w.heap.size < wc.heap.size := by omega
    go_upto_region 12 with fail
    have HIns : Hid (∀ (w4 Y : World) (vb : Nat) (hr : KRow w4 b c (K.eraseIdx i)) (ho : OnlyS (· = b) wc.drew w4) (hY : Below w4.heap.size w4 Y) (hv : Y.heap[vb]? = some (.cells #[.int .i64 (tn : Int), .int .i64 (-1)] 89 (0, 0))) (hvb : wc.drew.heap.size ≤ vb), _) := Lib.hid (fun w4 Y vb hr ho hY hv hvb => ins_arm (K := K) (w3 := wc.drew) (k := ((tn : Int), (-1))) (n := K.length - 1) HKE.out hc HK6.out (HROW3.out.drew.lt) w4 Y hr ho hY hv hvb)
    go_region_with (first
      | (go_at_call 91; rw [WJ.out]; refine (HDel.out _ ?_).mono ?_; (first | exact Below.refl _ _ | exact (Below.refl _ _).alloc (Nat.le_refl _) _); rintro z w4 ⟨rfl, hr4, ho4, hob4⟩; obtain ⟨k0'', k1'', g0'', g1''⟩ := HW4.out w4 ho4; have HO4 := Lib.hid ho4; have HR4 := Lib.hid hr4; have HB4 := Lib.hid hob4; clear hr4 ho4 hob4)
      | (go_at_call 90; refine (HIns.out w4 _ _ HR4.out HO4.out ?_ ?_ ?_).mono ?_; (first | exact Below.refl _ _ | exact (Below.refl _ _).alloc (Nat.le_refl _) _); (first | exact (MapKept.heap_alloc _ _).1 | exact key_old HB4.out HROW3.out.lt); (first | exact Nat.le_refl _ | exact HO4.out.size); rintro z w5 ⟨B, C, rfl, hks5, hos5, hB5⟩; obtain ⟨q2, q2f⟩ := HTC.out w5 hos5; have HKS5 := Lib.hid hks5; have HOS5 := Lib.hid hos5; have HBB5 := Lib.hid hB5; clear hks5 hos5 hB5))
    all_goals
      obtain ⟨g1, g2⟩ := hit_end HC.out HO.out hp HR.out hbw HB3.out.drew HG.out HKS5.out HOS5.out HBB5.out
      have htt : Tab (w5.setCell ⟨p, 2, none⟩ (.slice (some ⟨B, 0, none⟩) (K.length - 1 + 1) C)) tb tn (-1) := by
        have htl : tb < W2.heap.size := HT.out.lt n1
        refine RowF.of_block ?_ HT.out
        rw [obj_other _ _ _ _ _ hTb.2, HOS5.out.block tb (by show tb < wc.heap.size; omega) hTb.1]
        exact HB3.out.block tb htl
      have HCl := Lib.hid (cloneC tb tn tc (-1) _ htt n1 n2)
      have G1 := Lib.hid g1
      have G2 := Lib.hid g2
      clear g1 g2 htt
      go_wp2_with fail
      refine HCl.out.mono ?_
      rintro z w7 ⟨b7, c7, cur7, rfl, hb7, -, ht7, hw7⟩
      have HE := Lib.hid (And.intro hb7 (And.intro ht7 hw7))
      clear hb7 ht7 hw7
      go_wp2_with fail
      go_ret2
      obtain ⟨hb7, ht7, hw7⟩ := HE.out
      have hz := G2.out.size
      refine ⟨b7, c7, _, rfl, by omega, ht7, G1.out.keep hw7, G2.out.trans (OnlyS.of_below hw7), ?_, ?_, ?_⟩
      · rintro q ⟨n', c', e⟩
        cases e
        rcases HBB5.out with e | e
        · exact .inl ⟨_, _, by rw [e]⟩
        · refine .inr ?_
          have : wc.heap.size ≤ B := e
          omega
      · rintro ⟨n', c', e⟩
        cases e
        have := G1.out.kept.lt B ⟨_, _, rfl⟩
        omega
      · intro k v hv hkb
        have := HL.out k v hv b7 hkb
        omega

end Go.Proofs.Ytnpkblidlmkagaa

/- Table and Ask by one contract each: what is asked of a cache. -/
set_option linter.unusedSimpArgs false
set_option linter.unusedVariables false
namespace Go.Proofs.Ytnpkblidlmkagaa
open Go Go.RowKit

/-- What is kept, found, made. -/
abbrev St := List (Int × Int) × Int × Int
/-- What is asked: the error, and what is kept, found and made. -/
def askK (M : Int) (σ : St) (n s : Int) : Int × St :=
  if n < 1 ∨ 32768 < n then (3, σ)
  else if s ≠ 1 ∧ s ≠ -1 then (6, σ)
  else if (n, s) ∈ σ.1 then (0, (n, s) :: σ.1.eraseIdx (σ.1.idxOf (n, s)), σ.2.1 + 1, σ.2.2)
  else if M < n then (0, σ.1, σ.2.1, σ.2.2 + 1)
  else (0, (n, s) :: cutK M n σ.1, σ.2.1, σ.2.2 + 1)

theorem cutK_sub (M n : Int) : ∀ (m : Nat) (K : List (Int × Int)), K.length = m → ∃ L, K = cutK M n K ++ L
  | 0, K, h => by
    have : K = [] := List.length_eq_zero_iff.1 h
    subst this
    exact ⟨[], by rw [cutK]; simp⟩
  | m + 1, K, h => by
    rcases List.eq_nil_or_concat K with e | ⟨K', x, e⟩
    · subst e; simp at h
    · rw [List.concat_eq_append] at e
      subst e
      by_cases hc : M < sumN (K' ++ [x]) + n
      · obtain ⟨L, hL⟩ := cutK_sub M n m K' (by simpa using h)
        rw [cutK_append M n K' x hc]
        exact ⟨L ++ [x], by rw [← List.append_assoc, ← hL]⟩
      · rw [cutK_stop M n _ hc]
        exact ⟨[], by simp⟩

/-- A table that was answered. -/
def TabAns (w0 w : World) (kv : Value) (es : List ((Int × Int) × Value × Nat)) (tv : Value) (e n s : Int) : Prop :=
  (e ≠ 0 ∧ tv = .slice none 0 0) ∨ (e = 0 ∧ ∃ b c m : Nat, n = m ∧ 1 ≤ m ∧ m ≤ 32768 ∧ tv = .slice (some ⟨b, 0, none⟩) m c ∧ w0.heap.size ≤ b ∧ Tab w b m s ∧ ¬ KB kv b ∧ NoTab es b ∧ (s = 1 ∨ s = -1))

theorem table_any (p r clock : Nat) (M F D : Int) (K : List (Int × Int)) (kv : Value) (es : List ((Int × Int) × Value × Nat)) (w : World) (h : CA w p M K F D kv r es clock) (n s : Int)
    (f0 : 0 ≤ F) (f1 : F < 9223372036854775807) (d0 : 0 ≤ D) (d1 : D < 9223372036854775807) :
    Calls Try.prog 67 #[.pointer (some ⟨p, 0, none⟩), .int .i64 n, .int .i64 s] w fun z w' => ∃ (σ : St) (e : Int) (kv' : Value) (es' : List ((Int × Int) × Value × Nat)) (clock' : Nat) (tv : Value), askK M (K, F, D) n s = (e, σ) ∧ z = .returned (.tuple #[tv, .int .i64 e]) ∧ CA w' p M σ.1 σ.2.1 σ.2.2 kv' r es' clock' ∧ OnlyS (Core p r kv) w w' ∧ (∀ q, KB kv' q → KB kv q ∨ w.heap.size ≤ q) ∧ TabAns w w' kv' es' tv e n s := by
  by_cases h1 : n < 1 ∨ 32768 < n
  · refine (table_size p n s w h1).mono ?_
    rintro z w' ⟨rfl, rfl⟩
    exact ⟨(K, F, D), 3, kv, es, clock, _, by unfold askK; rw [if_pos h1], rfl, h, OnlyS.refl _ _, fun q hq => .inl hq, .inl ⟨by omega, rfl⟩⟩
  by_cases h2 : s ≠ 1 ∧ s ≠ -1
  · refine (table_sign p n s w (by omega) (by omega) h2.1 h2.2).mono ?_
    rintro z w' ⟨rfl, rfl⟩
    exact ⟨(K, F, D), 6, kv, es, clock, _, by unfold askK; rw [if_neg h1, if_pos h2], rfl, h, OnlyS.refl _ _, fun q hq => .inl hq, .inl ⟨by omega, rfl⟩⟩
  have hs : s = 1 ∨ s = -1 := by omega
  obtain ⟨m, rfl⟩ : ∃ m : Nat, n = m := ⟨n.toNat, by omega⟩
  have m1 : 1 ≤ m := by omega
  have m2 : m ≤ 32768 := by omega
  by_cases h3 : ((m : Int), s) ∈ K
  · have key : Calls Try.prog 67 #[.pointer (some ⟨p, 0, none⟩), .int .i64 m, .int .i64 s] w fun z w' => ∃ b c kv', z = .returned (.tuple #[.slice (some ⟨b, 0, none⟩) m c, .int .i64 0]) ∧ w.heap.size ≤ b ∧ Tab w' b m s ∧ CA w' p M (((m : Int), s) :: K.eraseIdx (K.idxOf ((m : Int), s))) (F + 1) D kv' r es clock ∧ OnlyS (Core p r kv) w w' ∧
        (∀ q, KB kv' q → KB kv q ∨ w.heap.size ≤ q) ∧ ¬ KB kv' b ∧ NoTab es b := by
      rcases hs with rfl | rfl
      · exact table_hit1 p r clock m M F D K kv es w h m1 m2 h3 f0 f1
      · exact table_hitM p r clock m M F D K kv es w h m1 m2 h3 f0 f1
    refine key.mono ?_
    rintro z w' ⟨b, c, kv', rfl, g1, g2, g3, g4, g5, g6, g7⟩
    exact ⟨(_, F + 1, D), 0, kv', es, clock, _, by unfold askK; rw [if_neg h1, if_neg h2, if_pos h3], rfl, g3, g4, g5, .inr ⟨rfl, b, c, m, rfl, m1, m2, rfl, g1, g2, g6, g7, hs⟩⟩
  by_cases h4 : M < m
  · refine (table_made p r clock m M F D s K kv es w h m1 m2 hs h3 h4 d0 d1).mono ?_
    rintro z w' ⟨b, rfl, g1, g2, g3, g4⟩
    exact ⟨(K, F, D + 1), 0, kv, es, clock, _, by unfold askK; rw [if_neg h1, if_neg h2, if_neg h3, if_pos h4], rfl, g3, g4, fun q hq => .inl hq, .inr ⟨rfl, b, m, m, rfl, m1, m2, rfl, g1, g2, fun e => by have := h.kept.lt b e; omega, fun k v hv hb => by have := h.tlt hv hb; omega, hs⟩⟩
  have key : Calls Try.prog 67 #[.pointer (some ⟨p, 0, none⟩), .int .i64 m, .int .i64 s] w fun z w' => ∃ b kv' es' clock', z = .returned (.tuple #[.slice (some ⟨b, 0, none⟩) m m, .int .i64 0]) ∧ w.heap.size ≤ b ∧ Tab w' b m s ∧ CA w' p M (((m : Int), s) :: cutK M m K) F (D + 1) kv' r es' clock' ∧ OnlyS (Core p r kv) w w' ∧
      (∀ q, KB kv' q → KB kv q ∨ w.heap.size ≤ q) ∧ ¬ KB kv' b ∧ NoTab es' b := by
    rcases hs with rfl | rfl
    · exact table_kept12 p r clock m M F D K kv es w h m1 m2 h3 (by omega) d0 d1
    · exact table_kept13 p r clock m M F D K kv es w h m1 m2 h3 (by omega) d0 d1
  refine key.mono ?_
  rintro z w' ⟨b, kv', es', clock', rfl, g1, g2, g3, g4, g5, g6, g7⟩
  exact ⟨(_, F, D + 1), 0, kv', es', clock', _, by unfold askK; rw [if_neg h1, if_neg h2, if_neg h3, if_neg h4], rfl, g3, g4, g5, .inr ⟨rfl, b, m, m, rfl, m1, m2, rfl, g1, g2, g6, g7, hs⟩⟩

theorem sumN_rev : ∀ K, sumN K.reverse = sumN K
  | [] => rfl
  | k :: K => by rw [List.reverse_cons, sumN_append, sumN_rev K]; simp only [sumN]; omega
theorem cut_rev (M n : Int) : ∀ (m : Nat) (K : List (Int × Int)), K.length = m → cutL M n K.reverse = (cutK M n K).reverse
  | 0, K, h => by
    have : K = [] := List.length_eq_zero_iff.1 h
    subst this
    rw [cutK]; simp [cutL]
  | m + 1, K, h => by
    rcases List.eq_nil_or_concat K with e | ⟨K', x, e⟩
    · subst e; simp at h
    · rw [List.concat_eq_append] at e
      subst e
      have hr : sumN (x :: K'.reverse) = sumN (K' ++ [x]) := by rw [← sumN_rev]; simp
      rw [List.reverse_append]
      show cutL M n (x :: K'.reverse) = _
      unfold cutL
      rw [hr]
      by_cases hc : M < sumN (K' ++ [x]) + n
      · rw [if_pos hc, cutK_append M n K' x hc]
        exact cut_rev M n m K' (by simpa using h)
      · rw [if_neg hc, cutK_stop M n _ hc, List.reverse_append]
        rfl
theorem but_erase (k : Int × Int) : ∀ (K : List (Int × Int)), K.Nodup → butK k K = K.eraseIdx (K.idxOf k)
  | [], _ => rfl
  | a :: K, h => by
    rw [List.nodup_cons] at h
    rw [List.idxOf_cons]
    by_cases e : a = k
    · subst e
      have : (a == a) = true := by simp
      rw [this]
      show (a :: K).filter _ = _
      rw [List.filter_cons_of_neg (by simp)]
      exact butK_not a K h.1
    · have : (a == k) = false := by simpa using e
      rw [this]
      show (a :: K).filter _ = _
      rw [List.filter_cons_of_pos (by simpa using e)]
      simp only [cond_false, List.eraseIdx_cons_succ]
      rw [← but_erase k K h.2]
      rfl
theorem but_rev (k : Int × Int) (K : List (Int × Int)) (h : K.Nodup) : butK k K.reverse = (K.eraseIdx (K.idxOf k)).reverse := by
  rw [← but_erase k K h]
  unfold butK
  rw [List.filter_reverse]

/-- Ask, beside the program's cache. -/
theorem ask_any (q : Nat) (M F D : Int) (K : List (Int × Int)) (v : Value) (w : World) (h : RA w q M K.reverse F D v) (hk : K.Nodup) (hL : ∀ k ∈ K, 1 ≤ k.1) (hs0 : sumN K ≤ 65536) (hl : K.length ≤ 65536) (n s : Int)
    (f0 : 0 ≤ F) (f1 : F < 9223372036854775807) (d0 : 0 ≤ D) (d1 : D < 9223372036854775807) :
    Calls Try.prog 73 #[.pointer (some ⟨q, 0, none⟩), .int .i64 n, .int .i64 s] w fun z w' => ∃ (σ : St) (e : Int) (v' : Value), askK M (K, F, D) n s = (e, σ) ∧ z = .returned (.int .i64 e) ∧ RA w' q M σ.1.reverse σ.2.1 σ.2.2 v' ∧ OnlyS (fun b => b = q ∨ LB v b) w w' ∧ (∀ b, LB v' b → LB v b ∨ w.heap.size ≤ b) := by
  by_cases h1 : n < 1 ∨ 32768 < n
  · refine (ask_size q n s w h1).mono ?_
    rintro z w' ⟨rfl, rfl⟩
    exact ⟨(K, F, D), 3, v, by unfold askK; rw [if_pos h1], rfl, h, OnlyS.refl _ _, fun b hb => .inl hb⟩
  by_cases h2 : s ≠ 1 ∧ s ≠ -1
  · refine (ask_sign q n s w (by omega) (by omega) h2.1 h2.2).mono ?_
    rintro z w' ⟨rfl, rfl⟩
    exact ⟨(K, F, D), 6, v, by unfold askK; rw [if_neg h1, if_pos h2], rfl, h, OnlyS.refl _ _, fun b hb => .inl hb⟩
  refine (ask_look q M F D n s K.reverse v w h (fun k hk => hL k (List.mem_reverse.1 hk)) (by rw [sumN_rev]; exact hs0) (by simpa using hl) (by omega) (by omega) (by omega) f0 f1 d0 d1).mono ?_
  rintro z w' ⟨v', rfl, g1, g2, g3⟩
  by_cases h3 : (n, s) ∈ K
  · have h3' : (n, s) ∈ K.reverse := List.mem_reverse.2 h3
    rw [if_pos h3', if_pos h3', if_pos h3', but_rev _ _ hk] at g1
    exact ⟨(_, F + 1, D), 0, v', by unfold askK; rw [if_neg h1, if_neg h2, if_pos h3], rfl, by rw [List.reverse_cons]; exact g1, g2, g3⟩
  · have h3' : ¬ (n, s) ∈ K.reverse := fun e => h3 (List.mem_reverse.1 e)
    rw [if_neg h3', if_neg h3', if_neg h3'] at g1
    by_cases h4 : M < n
    · rw [if_pos h4] at g1
      exact ⟨(K, F, D + 1), 0, v', by unfold askK; rw [if_neg h1, if_neg h2, if_neg h3, if_pos h4], rfl, g1, g2, g3⟩
    · rw [if_neg h4, cut_rev M n _ K rfl] at g1
      exact ⟨(_, F, D + 1), 0, v', by unfold askK; rw [if_neg h1, if_neg h2, if_neg h3, if_neg h4], rfl, by rw [List.reverse_cons]; exact g1, g2, g3⟩

/-- The counters grow by one at most. -/
theorem askK_grows (M : Int) (K : List (Int × Int)) (F D n s : Int) : F ≤ (askK M (K, F, D) n s).2.2.1 ∧ (askK M (K, F, D) n s).2.2.1 ≤ F + 1 ∧ D ≤ (askK M (K, F, D) n s).2.2.2 ∧ (askK M (K, F, D) n s).2.2.2 ≤ D + 1 := by
  unfold askK
  split <;> (try split) <;> (try split) <;> (try split) <;> simp <;> omega

/-- Blocks of other kinds are no cache's. -/
theorem CA.other {w : World} {p : Nat} {M : Int} {K : List (Int × Int)} {F D : Int} {kv : Value} {r : Nat} {es : List ((Int × Int) × Value × Nat)} {clock : Nat} (h : CA w p M K F D kv r es clock) {b : Nat} {cur : Array Value} {t : TypeId} {sp : Nat × Nat} (hb : w.heap[b]? = some (.cells cur t sp)) (h1 : t ≠ 120) (h2 : t ≠ 89) : ¬ Core p r kv b := by
  rintro (e | e | e)
  · have h3 := h.obj; rw [← e, hb] at h3; cases h3; exact h1 rfl
  · have h3 := h.mp; rw [← e, hb] at h3; cases h3
  · obtain ⟨n', c', e⟩ := e
    rcases h.kept with ⟨h3, _⟩ | ⟨b', c', h3, h0, h4⟩
    · rw [h3] at e; cases e
    · rw [h3] at e; cases e
      obtain ⟨cur2, rest, g1, _⟩ := h4.obj
      rw [hb] at g1; cases g1; exact h2 rfl
theorem RA.other {w : World} {q : Nat} {M : Int} {L : List (Int × Int)} {F D : Int} {v : Value} (h : RA w q M L F D v) {b : Nat} {cur : Array Value} {t : TypeId} {sp : Nat × Nat} (hb : w.heap[b]? = some (.cells cur t sp)) (h1 : t ≠ 130) (h2 : t ≠ 131) : ¬ (b = q ∨ LB v b) := by
  rintro (e | e)
  · have h3 := h.obj; rw [← e, hb] at h3; cases h3; exact h1 rfl
  · obtain ⟨cur2, h3⟩ := h.ls.typ b e
    rw [hb] at h3; cases h3; exact h2 rfl
/-- The program's cache stands where blocks of the document's cache alone turn. -/
theorem CA.past {w w' : World} {p : Nat} {M : Int} {K : List (Int × Int)} {F D : Int} {kv : Value} {r : Nat} {es : List ((Int × Int) × Value × Nat)} {clock : Nat} (h : CA w p M K F D kv r es clock) {S : Nat → Prop} (ho : OnlyS S w w') (hS : ∀ b cur t sp, w.heap[b]? = some (.cells cur t sp) → t = 120 ∨ t = 89 ∨ t = 83 → ¬ S b) (hr : ∀ es clock, w.heap[r]? = some (.map es clock) → ¬ S r) : CA w' p M K F D kv r es clock := by
  refine h.of_blocks (ho.block p (Array.getElem?_eq_some_iff.1 h.obj).1 (hS p _ _ _ h.obj (.inl rfl))) (ho.block r (Array.getElem?_eq_some_iff.1 h.mp).1 (hr _ _ h.mp)) (fun b hb => ?_) (fun k v hv b hb => ?_)
  · rcases h.kept with ⟨h1, _⟩ | ⟨b', c', h1, h0, h2⟩
    · obtain ⟨n', c', e⟩ := hb; rw [h1] at e; cases e
    · obtain ⟨n', c', e⟩ := hb; rw [h1] at e; cases e
      obtain ⟨cur, rest, g1, _⟩ := h2.obj
      exact ho.block b (Array.getElem?_eq_some_iff.1 g1).1 (hS b _ _ _ g1 (.inr (.inl rfl)))
  · obtain ⟨b', c', n', cur, h1, h2, h3, h4⟩ := h.tabs k v hv
    obtain ⟨n'', c'', e⟩ := hb; rw [h1] at e; cases e
    exact ho.block b (Array.getElem?_eq_some_iff.1 h3).1 (hS b _ _ _ h3 (.inr (.inr rfl)))
/-- The document's cache stands where other blocks turn. -/
theorem RA.past {w w' : World} {q : Nat} {M : Int} {L : List (Int × Int)} {F D : Int} {v : Value} (h : RA w q M L F D v) {S : Nat → Prop} (ho : OnlyS S w w') (hS : ∀ b cur t sp, w.heap[b]? = some (.cells cur t sp) → t = 130 ∨ t = 131 → ¬ S b) : RA w' q M L F D v := by
  refine h.of_blocks (ho.block q (Array.getElem?_eq_some_iff.1 h.obj).1 (hS q _ _ _ h.obj (.inl rfl))) (fun b hb => ?_)
  obtain ⟨cur, h1⟩ := h.ls.typ b hb
  exact ho.block b (Array.getElem?_eq_some_iff.1 h1).1 (hS b _ _ _ h1 (.inr rfl))

end Go.Proofs.Ytnpkblidlmkagaa
