/- Words for search.find: the searcher in memory, the best plan's box, what a round keeps. -/
import Derived.Test.YtmgfaeineklccaaGreatMP3
import Derived.Test.YtmgfaeineklccaaGreatMP1
import Derived.Test.YtmgfaeineklccaaGreatMH1
import Derived.Test.YtmgfaeineklccaaGreatMZ6
set_option linter.unusedSimpArgs false
set_option linter.unusedVariables false
namespace Go.Proofs.YtmgfaeineklccaaGreat
open Go.RowKit Go.Lib

/-- A best plan as a value. -/
abbrev bstV (x : Bst) (B : Option Addr) (c : Nat) : Value := .agg #[.int .i64 x.k, .int .i64 x.n, .int .i64 x.r, .slice B x.q.len c, .int .i64 x.c]
/-- A best plan in a block. -/
def BsBox (w : World) (b : Nat) (x : Bst) (B : Option Addr) (c : Nat) : Prop :=
  w.cell? ⟨b, 0, none⟩ = some (.int .i64 x.k) ∧ w.cell? ⟨b, 1, none⟩ = some (.int .i64 x.n) ∧ w.cell? ⟨b, 2, none⟩ = some (.int .i64 x.r) ∧ w.cell? ⟨b, 3, none⟩ = some (.slice B x.q.len c) ∧ w.cell? ⟨b, 4, none⟩ = some (.int .i64 x.c)
def BsFree (w : World) (b : Nat) : Prop := ∀ j, j < 5 → w.frozen? ⟨b, j, none⟩ = false
theorem BsBox.same {w w' : World} {b : Nat} {x : Bst} {B : Option Addr} {c : Nat} (h : BsBox w b x B c) (e : w'.heap[b]? = w.heap[b]?) : BsBox w' b x B c :=
  ⟨cell_same h.1 e, cell_same h.2.1 e, cell_same h.2.2.1 e, cell_same h.2.2.2.1 e, cell_same h.2.2.2.2 e⟩
theorem BsFree.same {w w' : World} {b : Nat} (h : BsFree w b) (e : w'.heap[b]? = w.heap[b]?) : BsFree w' b := fun j hj => (World.frozen?_of_block (w := w) (a := ⟨b, j, none⟩) e).trans (h j hj)
theorem BsBox.lt {w : World} {b : Nat} {x : Bst} {B : Option Addr} {c : Nat} (h : BsBox w b x B c) : b < w.heap.size := cell_lt h.1
theorem BsBox.new (w : World) (x : Bst) (B : Option Addr) (c : Nat) (t : TypeId) : BsBox (w.alloc (.cells #[.int .i64 x.k, .int .i64 x.n, .int .i64 x.r, .slice B x.q.len c, .int .i64 x.c] t)) w.heap.size x B c :=
  ⟨by rw [World.cell?_alloc_new]; rfl, by rw [World.cell?_alloc_new]; rfl, by rw [World.cell?_alloc_new]; rfl, by rw [World.cell?_alloc_new]; rfl, by rw [World.cell?_alloc_new]; rfl⟩
theorem BsFree.new (w : World) (cs : Array Value) (t : TypeId) : BsFree (w.alloc (.cells cs t)) w.heap.size := fun j hj => World.frozen?_alloc_new _ _ _ _
/-- The world with a best plan written. -/
def putBs (w : World) (b : Nat) (x : Bst) (B : Option Addr) (c : Nat) : World :=
  ((((w.setCell ⟨b, 0, none⟩ (.int .i64 x.k)).setCell ⟨b, 1, none⟩ (.int .i64 x.n)).setCell ⟨b, 2, none⟩ (.int .i64 x.r)).setCell ⟨b, 3, none⟩ (.slice B x.q.len c)).setCell ⟨b, 4, none⟩ (.int .i64 x.c)
theorem only_putBs (w : World) (b : Nat) (x : Bst) (B : Option Addr) (c : Nat) : OnlyB b w (putBs w b x B c) := (((((OnlyB.refl b w).setCell _ _ _).setCell _ _ _).setCell _ _ _).setCell _ _ _).setCell _ _ _
theorem BsFree.put {w : World} {b : Nat} (h : BsFree w b) (x : Bst) (B : Option Addr) (c : Nat) : BsFree (putBs w b x B c) b := fun j hj => by unfold putBs; simp only [World.frozen?_setCell]; exact h j hj
theorem BsBox.put {w : World} {b : Nat} {y : Bst} {D : Option Addr} {d : Nat} (h : BsBox w b y D d) (x : Bst) (B : Option Addr) (c : Nat) : BsBox (putBs w b x B c) b x B c := by
  have ne : ∀ {i j : Nat}, i ≠ j → (⟨b, i, none⟩ : Addr) ≠ ⟨b, j, none⟩ := fun h e => h (congrArg Addr.off e)
  obtain ⟨h0, h1, h2, h3, h4⟩ := h
  unfold putBs
  refine ⟨?_, ?_, ?_, ?_, ?_⟩
  · rw [World.cell?_setCell_other _ _ _ _ (ne (by decide)), World.cell?_setCell_other _ _ _ _ (ne (by decide)), World.cell?_setCell_other _ _ _ _ (ne (by decide)), World.cell?_setCell_other _ _ _ _ (ne (by decide))]
    exact World.cell?_setCell_same _ _ _ h0
  · rw [World.cell?_setCell_other _ _ _ _ (ne (by decide)), World.cell?_setCell_other _ _ _ _ (ne (by decide)), World.cell?_setCell_other _ _ _ _ (ne (by decide))]
    refine World.cell?_setCell_same _ _ _ (u := .int .i64 y.n) ?_
    rw [World.cell?_setCell_other _ _ _ _ (ne (by decide))]
    exact h1
  · rw [World.cell?_setCell_other _ _ _ _ (ne (by decide)), World.cell?_setCell_other _ _ _ _ (ne (by decide))]
    refine World.cell?_setCell_same _ _ _ (u := .int .i64 y.r) ?_
    rw [World.cell?_setCell_other _ _ _ _ (ne (by decide)), World.cell?_setCell_other _ _ _ _ (ne (by decide))]
    exact h2
  · rw [World.cell?_setCell_other _ _ _ _ (ne (by decide))]
    refine World.cell?_setCell_same _ _ _ (u := .slice D y.q.len d) ?_
    rw [World.cell?_setCell_other _ _ _ _ (ne (by decide)), World.cell?_setCell_other _ _ _ _ (ne (by decide)), World.cell?_setCell_other _ _ _ _ (ne (by decide))]
    exact h3
  · refine World.cell?_setCell_same _ _ _ (u := .int .i64 y.c) ?_
    rw [World.cell?_setCell_other _ _ _ _ (ne (by decide)), World.cell?_setCell_other _ _ _ _ (ne (by decide)), World.cell?_setCell_other _ _ _ _ (ne (by decide)), World.cell?_setCell_other _ _ _ _ (ne (by decide))]
    exact h4

/-- What the searcher's map holds: best plans, whose kids lie apart from a set of blocks. -/
structure SE (S : Nat → Prop) (w : World) (p r : Nat) (es : List ((Int × Bool) × Value × Nat)) (clock : Nat) : Prop where
  c0 : w.cell? ⟨p, 0, none⟩ = some (.map (some r))
  hr : w.heap[r]? = some (.map (es.map entB).toArray clock)
  ent : ∀ e ∈ es, ∃ (n : Nat) (B : Option Addr) (c : Nat), e.1.1 = n ∧ 1 ≤ n ∧ n ≤ 32768 ∧ e.2.1 = bstV (bestV n e.1.2) B c ∧ KZ S w B (bestV n e.1.2).q
theorem SE.pr {S : Nat → Prop} {w : World} {p r : Nat} {es : List ((Int × Bool) × Value × Nat)} {clock : Nat} (h : SE S w p r es clock) : p ≠ r := fun e => by
  have h1 := h.c0
  rw [e, World.cell?, h.hr] at h1
  simp at h1
theorem SE.rl {S : Nat → Prop} {w : World} {p r : Nat} {es : List ((Int × Bool) × Value × Nat)} {clock : Nat} (h : SE S w p r es clock) : r < w.heap.size := (Array.getElem?_eq_some_iff.1 h.hr).1
theorem SE.pl {S : Nat → Prop} {w : World} {p r : Nat} {es : List ((Int × Bool) × Value × Nat)} {clock : Nat} (h : SE S w p r es clock) : p < w.heap.size := cell_lt h.c0
theorem SE.only {S T U : Nat → Prop} {w w1 : World} {p r : Nat} {es : List ((Int × Bool) × Value × Nat)} {clock : Nat} (h : SE S w p r es clock) (ho : OnlyZ U w w1) (hU : ∀ k, k < w.heap.size → U k → S k ∧ k ≠ p ∧ k ≠ r) (hT : ∀ k, k < w.heap.size → T k → S k) : SE T w1 p r es clock :=
  ⟨cell_same h.c0 (ho.block p h.pl fun u => (hU p h.pl u).2.1 rfl), (ho.block r h.rl fun u => (hU r h.rl u).2.2 rfl).trans h.hr, fun e he => by
    obtain ⟨n, B, c, h1, h2, h3, h4, h5⟩ := h.ent e he
    exact ⟨n, B, c, h1, h2, h3, h4, h5.move ho.size (fun k hk hn => ho.block k hk fun u => hn (hU k hk u).1) hT⟩⟩
/-- A new entry. -/
theorem SE.store {S : Nat → Prop} {w : World} {p r : Nat} {es : List ((Int × Bool) × Value × Nat)} {clock : Nat} (h : SE S w p r es clock) (hr : S r) {n : Nat} (blue : Bool) {B : Option Addr} (c : Nat) (h1 : 1 ≤ n) (hn : n ≤ 32768) (hk : KZ S w B (bestV n blue).q) :
    SE S { w with heap := w.heap.setIfInBounds r (.map ((es ++ [(((n : Int), blue), bstV (bestV n blue) B c, clock)]).map entB).toArray (clock + 1)) } p r (es ++ [(((n : Int), blue), bstV (bestV n blue) B c, clock)]) (clock + 1) ∧
      OnlyB r w { w with heap := w.heap.setIfInBounds r (.map ((es ++ [(((n : Int), blue), bstV (bestV n blue) B c, clock)]).map entB).toArray (clock + 1)) } := by
  have ho : OnlyB r w { w with heap := w.heap.setIfInBounds r (.map ((es ++ [(((n : Int), blue), bstV (bestV n blue) B c, clock)]).map entB).toArray (clock + 1)) } :=
    ⟨rfl, rfl, rfl, by simp, fun k _ hne => by show (w.heap.setIfInBounds r _)[k]? = _; rw [Array.getElem?_setIfInBounds_ne (Ne.symm hne)]⟩
  have hz := OnlyZ.of_only (S := S) ho hr
  refine ⟨⟨cell_same h.c0 (ho.block p h.pl h.pr), ?_, fun e he => ?_⟩, ho⟩
  · show (w.heap.setIfInBounds r _)[r]? = _
    rw [Array.getElem?_setIfInBounds_self_of_lt h.rl]
  · rcases List.mem_append.1 he with he | he
    · obtain ⟨m, D, d, a1, a2, a3, a4, a5⟩ := h.ent e he
      exact ⟨m, D, d, a1, a2, a3, a4, a5.only hz⟩
    · simp only [List.mem_cons, List.not_mem_nil, or_false] at he
      subst he
      exact ⟨n, B, c, rfl, h1, hn, rfl, hk.only hz⟩

/-- What find hands back. -/
def FindP (S : Nat → Prop) (w : World) (p r n : Nat) (blue : Bool) (es : List ((Int × Bool) × Value × Nat)) (z : Ending) (w' : World) : Prop := ∃ (B : Option Addr) (c : Nat) (es' : List ((Int × Bool) × Value × Nat)) (clock' : Nat), z = .returned (bstV (bestV n blue) B c) ∧
    KZ S w' B (bestV n blue).q ∧ SE S w' p r es' clock' ∧ (∀ e ∈ es', e ∈ es ∨ deepB e.1.1.toNat e.1.2 ≤ deepB n blue) ∧ OnlyB r w w'
/-- What find says. -/
def FindC (n : Nat) (blue : Bool) : Prop := ∀ (S : Nat → Prop) (w : World) (p r : Nat) (es : List ((Int × Bool) × Value × Nat)) (clock : Nat), SE S w p r es clock → S r → ¬ S p → (∀ k, S k → k < w.heap.size) →
  Calls Tryz.prog 137 #[.pointer (some ⟨p, 0, none⟩), keyB ((n : Int), blue)] w (FindP S w p r n blue es)

/-- What stands fast through all rounds. -/
structure FndA (w W : World) (r n : Nat) (blue : Bool) (g m : Nat) : Prop where
  o : OnlyB r w W
  rl : r < w.heap.size
  kb : KBox W w.heap.size n blue
  rb : BsBox W (w.heap.size + 1) ⟨0, 0, 0, .nil, 0⟩ none 0 ∧ BsFree W (w.heap.size + 1)
  gr : GRow W g m n (fun i => (candL n blue).getD i (0, 0))
  gl : w.heap.size + 4 ≤ g ∧ g < W.heap.size
theorem FndA.move {w W W' : World} {r n : Nat} {blue : Bool} {g m : Nat} (h : FndA w W r n blue g m) {U : Nat → Prop} (ho : OnlyZ U W W') (hU : ∀ k, U k → k = r ∨ (w.heap.size + 2 ≤ k ∧ k ≠ g)) : FndA w W' r n blue g m := by
  have hgl := h.gl
  have hrl := h.rl
  have hb : ∀ k, k < w.heap.size + 2 → k ≠ r → W'.heap[k]? = W.heap[k]? := fun k hk hne => ho.block k (by omega) fun u => by rcases hU k u with h1 | h1 <;> omega
  refine ⟨⟨ho.os.trans h.o.os, ho.tape.trans h.o.tape, ho.output.trans h.o.output, Nat.le_trans h.o.size ho.size, fun k hk hne => (hb k (by omega) hne).trans (h.o.block k hk hne)⟩, h.rl, h.kb.same (hb _ (by omega) (by omega)), ⟨h.rb.1.same (hb _ (by omega) (by omega)), h.rb.2.same (hb _ (by omega) (by omega))⟩, h.gr.same (ho.block g hgl.2 fun u => by rcases hU g u with h1 | h1 <;> omega), hgl.1, Nat.lt_of_lt_of_le hgl.2 ho.size⟩

/-- The blocks that a round writes. -/
def locS (S : Nat → Prop) (bp : Nat) (v vc : Value) : Nat → Prop := fun k => S k ∨ k = bp ∨ vc.ownBlock = some k ∨ v.ownBlock = some k
/-- What the loop over the kids keeps. -/
structure FndB (S : Nat → Prop) (w W : World) (p r n : Nat) (blue : Bool) (g m : Nat) (x : Bst) (B : Option Addr) (c T bp : Nat) (k r' : Int) (Bk : Option Addr) (j cb : Nat) (vc : Value) (ws : List Int) (A' : Option Addr) (b : Bool) (es : List ((Int × Bool) × Value × Nat)) (clock : Nat) : Prop where
  A : FndA w W r n blue g m
  out : BsBox W (w.heap.size + 3) x B c ∧ BsFree W (w.heap.size + 3)
  ok : KZ (locS S bp (.slice Bk j cb) vc) W B x.q
  pb : PlBox W bp k n r' Bk j cb ∧ PlFree W bp
  row : RowQ (fun i => S i ∨ i = bp ∨ vc.ownBlock = some i) T 27 W (.slice Bk j cb) (kidsB bestV b (ws.take j))
  cost : OwnI W T vc (costsB bestV b (ws.take j))
  ap : ∀ g, (Value.slice Bk j cb).ownBlock = some g → vc.ownBlock ≠ some g
  se : SE (locS S bp (.slice Bk j cb) vc) W p r es clock
  wt : IntsAt W A' ws.length (fun i => ws.getD i 0)
  sz : T ≤ W.heap.size
/-- How the blocks lie. -/
structure FndT (S : Nat → Prop) (w : World) (p r g T bp : Nat) (ws : List Int) (A' : Option Addr) : Prop where
  sr : S r
  sp : ¬ S p
  pl : p < w.heap.size
  rl : r < w.heap.size
  ss : ∀ k, S k → k < w.heap.size + 4
  lo : w.heap.size + 4 ≤ bp
  hi : bp < T
  gb : g < T ∧ g ≠ bp
  wt : 0 < ws.length → ∀ b o, A' = some ⟨b, o, none⟩ → w.heap.size + 4 ≤ b ∧ b < T ∧ b ≠ bp
theorem OwnI.lt {w : World} {base : Nat} {v : Value} {L : List Int} (h : OwnI w base v L) : ∀ k, v.ownBlock = some k → base ≤ k ∧ k < w.heap.size := World.ownsRow.lt h
theorem OwnI.same {w w' : World} {base : Nat} {v : Value} {L : List Int} (h : OwnI w base v L) (k : ∀ g, v.ownBlock = some g → w'.heap[g]? = w.heap[g]?) : OwnI w' base v L := owns_same h k
/-- A nested find. -/
theorem FndB.find {S : Nat → Prop} {w W W' : World} {p r n : Nat} {blue : Bool} {g m : Nat} {x : Bst} {B : Option Addr} {c T bp : Nat} {k r' : Int} {Bk : Option Addr} {j cb : Nat} {vc : Value} {ws : List Int} {A' : Option Addr} {b : Bool} {es es' : List ((Int × Bool) × Value × Nat)} {clock clock' : Nat}
    (HT : FndT S w p r g T bp ws A') (h : FndB S w W p r n blue g m x B c T bp k r' Bk j cb vc ws A' b es clock) (ho : OnlyB r W W') (hs : SE (locS S bp (.slice Bk j cb) vc) W' p r es' clock') : FndB S w W' p r n blue g m x B c T bp k r' Bk j cb vc ws A' b es' clock' := by
  have h1 := HT.rl
  have h2 := HT.lo
  have h3 := HT.hi
  have h4 := h.A.gl
  have h5 := h.out.1.lt
  have h6 := h.sz
  have hz : OnlyZ (fun i => i = r) W W' := OnlyZ.of_only ho rfl
  have hb : ∀ i, i < W.heap.size → i ≠ r → W'.heap[i]? = W.heap[i]? := fun i hi hne => ho.block i hi hne
  have hrl := h.row.lt
  have hcl := h.cost.lt
  refine ⟨h.A.move hz (fun i e => .inl e), ⟨h.out.1.same (hb _ h5 (by omega)), h.out.2.same (hb _ h5 (by omega))⟩, h.ok.only (hz.mono fun i _ e => .inl (by rw [e]; exact HT.sr)), ⟨h.pb.1.same (hb _ (by omega) (by omega)), h.pb.2.same (hb _ (by omega) (by omega))⟩, ?_, h.cost.same fun i e => hb i (hcl i e).2 (by have := (hcl i e).1; omega), h.ap, hs, h.wt.same fun h0 b' o e => by
    have := HT.wt h0 b' o e
    exact hb b' (by omega) (by omega), by have := ho.size; omega⟩
  obtain ⟨xs, o1, o2⟩ := h.row
  exact ⟨xs, owns_same o1 fun i e => hb i (hrl i e).2 (by have := (hrl i e).1; omega), o2.map fun _ _ hk => hk.only (hz.mono fun i _ e => .inl (.inl (by rw [e]; exact HT.sr)))⟩
/-- Something new is made. -/
theorem FndB.below {S : Nat → Prop} {w W W' : World} {p r n : Nat} {blue : Bool} {g m : Nat} {x : Bst} {B : Option Addr} {c T bp : Nat} {k r' : Int} {Bk : Option Addr} {j cb : Nat} {vc : Value} {ws : List Int} {A' : Option Addr} {b : Bool} {es : List ((Int × Bool) × Value × Nat)} {clock : Nat}
    (HT : FndT S w p r g T bp ws A') (h : FndB S w W p r n blue g m x B c T bp k r' Bk j cb vc ws A' b es clock) (hb : Below W.heap.size W W') : FndB S w W' p r n blue g m x B c T bp k r' Bk j cb vc ws A' b es clock := by
  have hz : OnlyZ (fun i => W.heap.size ≤ i) W W' := OnlyZ.of_below hb fun i hi _ => hi
  refine h.find HT (OnlyB.of_below hb) (h.se.only hz (fun i hi u => by omega) fun _ _ t => t)

/-- A kid more. -/
theorem FndB.more {S : Nat → Prop} {w W W' : World} {p r n : Nat} {blue : Bool} {g m : Nat} {x : Bst} {B : Option Addr} {c T bp : Nat} {k r' : Int} {Bk : Option Addr} {j cb : Nat} {vc : Value} {ws : List Int} {A' : Option Addr} {b : Bool} {es : List ((Int × Bool) × Value × Nat)} {clock : Nat}
    (HT : FndT S w p r g T bp ws A') (h : FndB S w W p r n blue g m x B c T bp k r' Bk j cb vc ws A' b es clock) (hj : j < ws.length) {xs : List Value} {B3 : Option Addr} {c3 g2 cap2 g3 cap3 : Nat} {y : Bst} (hy : bestV (ws.getD j 0).toNat b = y)
    (hxr : RowZ (fun i => (S i ∨ i = bp ∨ vc.ownBlock = some i) ∨ (Value.slice Bk j cb).ownBlock = some i) W (kidsB bestV b (ws.take j)) xs) (hlen : (kidsB bestV b (ws.take j)).len = j) (hkz : KZ (locS S bp (.slice Bk j cb) vc) W B3 y.q)
    (ho : OnlyZ (fun i => (Value.slice Bk j cb).ownBlock = some i ∨ vc.ownBlock = some i) W W')
    (h2 : W'.ownsRow T 27 4 (.slice (some ⟨g2, 0, none⟩) (j + 1) cap2) (j + 1) (xs ++ [.int .i64 y.k, .int .i64 y.n, .int .i64 y.r, .slice B3 y.q.len c3]))
    (h3 : OwnI W' T (.slice (some ⟨g3, 0, none⟩) (j + 1) cap3) (costsB bestV b (ws.take j) ++ [y.c])) (hne : g2 ≠ g3)
    (f2 : (Value.slice Bk j cb).ownBlock = some g2 ∨ W.heap.size ≤ g2) (f3 : vc.ownBlock = some g3 ∨ W.heap.size ≤ g3) :
    FndB S w (W'.setCell ⟨bp, 3, none⟩ (.slice (some ⟨g2, 0, none⟩) (j + 1) cap2)) p r n blue g m x B c T bp k r' (some ⟨g2, 0, none⟩) (j + 1) cap2 (.slice (some ⟨g3, 0, none⟩) (j + 1) cap3) ws A' b es clock := by
  have a1 := HT.rl
  have a2 := HT.lo
  have a3 := HT.hi
  have a4 := h.A.gl
  have a5 := h.out.1.lt
  have a6 := h.sz
  have a7 := HT.gb
  have hrl := h.row.lt
  have hcl := h.cost.lt
  have hg2 : T ≤ g2 := (World.ownsRow.lt h2 g2 rfl).1
  have hg3 : T ≤ g3 := (World.ownsRow.lt h3 g3 rfl).1
  have hset : ∀ i u, i ≠ bp → (W'.setCell ⟨bp, 3, none⟩ u).heap[i]? = W'.heap[i]? := fun i u hi => heap_set _ hi
  have hsz : ∀ u, (W'.setCell ⟨bp, 3, none⟩ u).heap.size = W'.heap.size := fun u => by simp [World.setCell]
  have hoS : OnlyZ (fun i => i = bp ∨ (Value.slice Bk j cb).ownBlock = some i ∨ vc.ownBlock = some i) W (W'.setCell ⟨bp, 3, none⟩ (.slice (some ⟨g2, 0, none⟩) (j + 1) cap2)) :=
    (ho.mono fun i _ e => .inr e).trans' (T := fun i => i = bp) (OnlyZ.of_only ((OnlyB.refl bp W').setCell 3 none _) rfl) (fun i _ e => .inl e)
  have hbl : ∀ i, i < T → i ≠ bp → (W'.setCell ⟨bp, 3, none⟩ (.slice (some ⟨g2, 0, none⟩) (j + 1) cap2)).heap[i]? = W.heap[i]? := fun i hi hne => hoS.block i (by omega) (by
    rintro (e | e | e)
    · exact hne e
    · have := (hrl i e).1; omega
    · have := (hcl i e).1; omega)
  have hbp : W'.heap[bp]? = W.heap[bp]? := ho.block bp (by omega) (by
    rintro (e | e)
    · have := (hrl bp e).1; omega
    · have := (hcl bp e).1; omega)
  have e1 : ws.take (j + 1) = ws.take j ++ [ws.getD j 0] := by
    rw [List.take_add_one, List.getD_eq_getElem?_getD, List.getElem?_eq_getElem hj]; rfl
  have e2 : kidsB bestV b (ws.take (j + 1)) = (kidsB bestV b (ws.take j)).snoc y.k y.n y.r y.q := by
    rw [e1, ← hy]
    generalize ws.take j = l
    induction l with
    | nil => rfl
    | cons z l ih =>
      show Fo.cons _ _ _ _ (kidsB bestV b (l ++ [ws.getD j 0])) = Fo.cons _ _ _ _ ((kidsB bestV b l).snoc _ _ _ _)
      rw [ih]
  have e3 : costsB bestV b (ws.take (j + 1)) = costsB bestV b (ws.take j) ++ [y.c] := by
    rw [e1, ← hy]
    unfold costsB
    rw [List.map_append]
    rfl
  have new2 : ∀ i, i < W.heap.size → (Value.slice (some ⟨g2, 0, none⟩) (j + 1) cap2).ownBlock = some i → (Value.slice Bk j cb).ownBlock = some i := fun i hi e => by
    have e : some g2 = some i := e
    injection e with e
    rcases f2 with f | f
    · rw [← e]; exact f
    · omega
  have new3 : ∀ i, i < W.heap.size → (Value.slice (some ⟨g3, 0, none⟩) (j + 1) cap3).ownBlock = some i → vc.ownBlock = some i := fun i hi e => by
    have e : some g3 = some i := e
    injection e with e
    rcases f3 with f | f
    · rw [← e]; exact f
    · omega
  have locT : ∀ i, i < W.heap.size → locS S bp (.slice (some ⟨g2, 0, none⟩) (j + 1) cap2) (.slice (some ⟨g3, 0, none⟩) (j + 1) cap3) i → locS S bp (.slice Bk j cb) vc i := fun i hi e => by
    rcases e with e | e | e | e
    · exact .inl e
    · exact .inr (.inl e)
    · exact .inr (.inr (.inl (new3 i hi e)))
    · exact .inr (.inr (.inr (new2 i hi e)))
  have locU : ∀ i, (i = bp ∨ (Value.slice Bk j cb).ownBlock = some i ∨ vc.ownBlock = some i) → locS S bp (.slice Bk j cb) vc i := fun i e => by
    rcases e with e | e | e
    · exact .inr (.inl e)
    · exact .inr (.inr (.inr e))
    · exact .inr (.inr (.inl e))
  have key : ∀ D q, KZ (locS S bp (.slice Bk j cb) vc) W D q → KZ (locS S bp (.slice (some ⟨g2, 0, none⟩) (j + 1) cap2) (.slice (some ⟨g3, 0, none⟩) (j + 1) cap3)) (W'.setCell ⟨bp, 3, none⟩ (.slice (some ⟨g2, 0, none⟩) (j + 1) cap2)) D q :=
    fun D q hk => hk.move hoS.size (fun i hi hn => hoS.block i hi fun e => hn (locU i e)) locT
  have key' : ∀ D q, KZ (fun i => (S i ∨ i = bp ∨ vc.ownBlock = some i) ∨ (Value.slice Bk j cb).ownBlock = some i) W D q → KZ (fun i => (S i ∨ i = bp ∨ (Value.slice (some ⟨g3, 0, none⟩) (j + 1) cap3).ownBlock = some i) ∨ (Value.slice (some ⟨g2, 0, none⟩) (j + 1) cap2).ownBlock = some i) (W'.setCell ⟨bp, 3, none⟩ (.slice (some ⟨g2, 0, none⟩) (j + 1) cap2)) D q :=
    fun D q hk => (key D q (hk.mono fun i _ e => by
      rcases e with e | e | e | e
      · exact .inl (.inl e)
      · exact .inl (.inr (.inl e))
      · exact .inl (.inr (.inr e))
      · exact .inr e)).mono fun i _ e => by
      rcases e with (e | e | e) | e
      · exact .inl e
      · exact .inr (.inl e)
      · exact .inr (.inr (.inl e))
      · exact .inr (.inr (.inr e))
  have hkz' := hkz
  refine ⟨h.A.move hoS (fun i e => .inr ?_), ⟨h.out.1.same (hbl _ (by omega) (by omega)), h.out.2.same (hbl _ (by omega) (by omega))⟩, key _ _ h.ok, ⟨PlBox.kid (h.pb.1.same hbp) _ _ _, (h.pb.2.same hbp).set _ _⟩, ?_, ?_, ?_, h.se.only hoS (fun i hi u => ⟨locU i u, ?_, ?_⟩) locT, h.wt.same fun h0 b' o e => ?_, by rw [hsz]; have := ho.size; omega⟩
  · rcases e with e | e | e
    · omega
    · have := (hrl i e).1; omega
    · have := (hcl i e).1; omega
  · rw [e2]
    refine ⟨xs ++ [.int .i64 y.k, .int .i64 y.n, .int .i64 y.r, .slice B3 y.q.len c3], ?_, ?_⟩
    · rw [snoc_len, hlen]
      exact owns_same h2 fun i e => hset i _ (by
        have e : some g2 = some i := e
        injection e with e
        omega)
    · exact RowZ.snoc c3 (key' _ _ (hkz.mono fun i _ e => by
        rcases e with (e | e | e) | e
        · exact .inl e
        · exact .inr (.inl e)
        · exact .inr (.inr (.inl e))
        · exact .inr (.inr (.inr e)))) (hxr.map key')
  · rw [e3]
    exact h3.same fun i e => hset i _ (by
        have e : some g3 = some i := e
        injection e with e
        omega)
  · intro i e1' e2'
    have q1 : some g2 = some i := e1'
    have q2 : some g3 = some i := e2'
    injection q1 with q1
    injection q2 with q2
    omega
  · rcases u with e | e | e
    · have := HT.pl; omega
    · have := HT.pl; have := (hrl i e).1; omega
    · have := HT.pl; have := (hcl i e).1; omega
  · rcases u with e | e | e
    · omega
    · have := (hrl i e).1; omega
    · have := (hcl i e).1; omega
  · have := HT.wt h0 b' o e
    exact hbl b' this.2.1 this.2.2
end Go.Proofs.YtmgfaeineklccaaGreat
/- Contract: search.find. -/
set_option linter.unusedSimpArgs false
set_option linter.unusedVariables false
namespace Go.Proofs.YtmgfaeineklccaaGreat
open Go.RowKit Go.Lib

/-- What a look-up finds. -/
theorem find_look {S : Nat → Prop} {w : World} {p r : Nat} {es : List ((Int × Bool) × Value × Nat)} {clock : Nat} (h : SE S w p r es clock) (n : Nat) (blue : Bool) :
    ∃ (y : Bst) (B : Option Addr) (c : Nat) (ok : Bool), (∀ W : World, W.heap[r]? = w.heap[r]? → (Instr.lookup 200 (.map (some r)) (.agg #[.int .i64 n, .bool blue]) true).run Tryz.prog W = .ok (.tuple #[.agg #[.int .i64 y.k, .int .i64 y.n, .int .i64 y.r, .slice B y.q.len c, .int .i64 y.c], .bool ok]) W) ∧
      ((ok = true ∧ y = bestV n blue ∧ KZ S w B y.q) ∨ (ok = false ∧ ∀ e ∈ es, e.1 ≠ ((n : Int), blue))) := by
  cases hq : fidB ((n : Int), blue) es 0 with
  | none =>
    refine ⟨⟨0, 0, 0, .nil, 0⟩, none, 0, false, fun W hW => ?_, .inr ⟨rfl, fidB_no hq⟩⟩
    have := run_lookB r clock ((n : Int), blue) es W (hW.trans h.hr)
    rw [hq] at this
    exact this
  | some q =>
    obtain ⟨e, he, h1, h2⟩ := fidB_some hq
    obtain ⟨m, B, c, a1, a2, a3, a4, a5⟩ := h.ent e he
    have b1 : e.1.1 = (n : Int) := by rw [h1]
    have b2 : e.1.2 = blue := by rw [h1]
    have b3 : m = n := by omega
    subst b3
    rw [b2] at a4 a5
    refine ⟨bestV m blue, B, c, true, fun W hW => ?_, .inl ⟨rfl, rfl, a5⟩⟩
    have := run_lookB r clock ((m : Int), blue) es W (hW.trans h.hr)
    rw [hq] at this
    obtain ⟨i, v⟩ := q
    have hv : v = bstV (bestV m blue) B c := h2.symm.trans a4
    rw [hv] at this
    exact this

/-- The best of the first ones. -/
def upB (n : Nat) (blue : Bool) (L : List (Int × Int)) (i : Nat) : Bst := pickB (tryB bestV n blue) (L.take i)
theorem upB_succ (n : Nat) (blue : Bool) (L : List (Int × Int)) (i : Nat) (hi : i < L.length) : upB n blue L (i + 1) = (upB n blue L i).or (tryB bestV n blue (L.getD i (0, 0))) := by
  unfold upB
  rw [List.take_add_one, List.getD_eq_getElem?_getD, List.getElem?_eq_getElem hi]
  exact pickB_append _ _ _
theorem upB_all (n : Nat) (blue : Bool) (L : List (Int × Int)) (i : Nat) (hi : L.length ≤ i) : upB n blue L i = pickB (tryB bestV n blue) L := by
  unfold upB
  rw [List.take_of_length_le hi]

theorem exec_fa {a : Act} {bp : Nat} {w : World} {o : Oper} (ho : o.op = Op.fieldAddr 27 (.tmp 9) 3) (h : a.eval (.tmp 9) = .pointer (some ⟨bp, 0, none⟩)) : (execOp a.eval o).run Tryz.prog w = .ok (.value (.pointer (some ⟨bp, 3, none⟩))) w := by
  unfold execOp
  simp only [ho, h]
  go_simp
/-- The two lists that a round lets grow. -/
def thsF (v vc : Value) (j : Nat) (xs ys : List Value) (y : Bst) (B3 : Option Addr) (c3 : Nat) : Nat → Thr
  | 0 => ⟨27, 25, 4, 48, .agg #[.int .i64 0, .int .i64 0, .int .i64 0, .slice none 0 0], v, j, xs, [.int .i64 y.k, .int .i64 y.n, .int .i64 y.r, .slice B3 y.q.len c3], .agg #[.int .i64 y.k, .int .i64 y.n, .int .i64 y.r, .slice B3 y.q.len c3]⟩
  | _ => ⟨2, 126, 1, 8, .int .i64 0, vc, j, ys, [.int .i64 y.c], .int .i64 y.c⟩
theorem thsF_ok (v vc : Value) (j : Nat) (xs ys : List Value) (y : Bst) (B3 : Option Addr) (c3 : Nat) (hj : j + 1 ≤ 1099511627776) : ∀ t, t < 2 → (thsF v vc j xs ys y B3 c3 t).Ok := by
  intro t ht
  rcases t with _ | _ | t
  · exact ⟨Tryz.underlying25, info_plan, rfl, (by decide : 0 < 4), (by decide : 48 ≤ 64), rfl, one_four _ _ _ _ _ _, hj, fun w => bs_plan _ _ _ _ w⟩
  · refine ⟨Tryz.underlying126, info_int64, rfl, (by decide : 0 < 1), (by decide : 8 ≤ 64), rfl, fun x hx => ?_, hj, fun w => bs_i64' _ w⟩
    have hx : x = .int .i64 y.c := by simpa [thsF] using hx
    subst hx; rfl
  · omega
theorem FndB.loc_lt {S : Nat → Prop} {w W : World} {p r n : Nat} {blue : Bool} {g m : Nat} {x : Bst} {B : Option Addr} {c T bp : Nat} {k r' : Int} {Bk : Option Addr} {j cb : Nat} {vc : Value} {ws : List Int} {A' : Option Addr} {b : Bool} {es : List ((Int × Bool) × Value × Nat)} {clock : Nat}
    (HT : FndT S w p r g T bp ws A') (h : FndB S w W p r n blue g m x B c T bp k r' Bk j cb vc ws A' b es clock) : (∀ i, locS S bp (.slice Bk j cb) vc i → i < W.heap.size) ∧ ¬ locS S bp (.slice Bk j cb) vc p := by
  have h1 := HT.lo
  have h2 := HT.hi
  have h3 := h.sz
  have h4 := HT.pl
  constructor
  · rintro i (e | e | e | e)
    · have := HT.ss i e; omega
    · omega
    · exact (h.cost.lt i e).2
    · exact (h.row.lt i e).2
  · rintro (e | e | e | e)
    · exact HT.sp e
    · omega
    · have := (h.cost.lt p e).1; omega
    · have := (h.row.lt p e).1; omega

set_option maxRecDepth 100000 in
set_option maxHeartbeats 16000000 in
theorem find_step (n : Nat) (blue : Bool) (h1 : 1 ≤ n) (hn : n ≤ 32768) (ih : ∀ k r, Cand n blue k r → ∀ x ∈ wantsF k n r, ∃ m : Nat, x = m ∧ 1 ≤ m ∧ m ≤ 32768 ∧ deepB m (blue || k == 4) < deepB n blue ∧ FindC m (blue || k == 4)) : FindC n blue := by
  intro S w p r es clock hse hsr hsp hss
  have HIH := Lib.hid ih
  have HSE := Lib.hid hse
  have HSS : Hid (S r ∧ ¬ S p ∧ ∀ k, S k → k < w.heap.size) := Lib.hid ⟨hsr, hsp, hss⟩
  have HN : Hid (1 ≤ n ∧ n ≤ 32768) := Lib.hid ⟨h1, hn⟩
  obtain ⟨y, B, c, ok, hlk, hans⟩ := find_look hse n blue
  have HANS := Lib.hid hans
  obtain ⟨W1, hW1⟩ : ∃ W1, W1 = (w.alloc (.cells #[.int .i64 n, .bool blue] 207)).alloc (.cells #[.int .i64 0, .int .i64 0, .int .i64 0, .slice none 0 0, .int .i64 0] 204) := ⟨_, rfl⟩
  have hb1 : Below w.heap.size w W1 := by rw [hW1]; exact ((Below.refl _ w).alloc (Nat.le_refl _) _).alloc (by simp) _
  have hs1 : W1.heap.size = w.heap.size + 2 := by rw [hW1]; simp
  have hkb : KBox W1 w.heap.size n blue := by rw [hW1]; exact ⟨by go_simp, by go_simp⟩
  have hrb : BsBox W1 (w.heap.size + 1) ⟨0, 0, 0, .nil, 0⟩ none 0 ∧ BsFree W1 (w.heap.size + 1) := by
    rw [hW1]
    have e1 := BsBox.new (w.alloc (.cells #[.int .i64 n, .bool blue] 207)) ⟨0, 0, 0, .nil, 0⟩ none 0 204
    have e2 := BsFree.new (w.alloc (.cells #[.int .i64 n, .bool blue] 207)) #[.int .i64 0, .int .i64 0, .int .i64 0, .slice none 0 0, .int .i64 0] 204
    simp only [World.size_alloc] at e1 e2
    exact ⟨e1, e2⟩
  have HKB := Lib.hid hkb
  have HRB := Lib.hid hrb
  have HB1 := Lib.hid hb1
  have HS1 := Lib.hid hs1
  have hp1 : W1.cell? ⟨p, 0, none⟩ = some (.map (some r)) := keep_cell hb1 hse.c0
  have hl1 := hlk W1.drew (hb1.block r hse.rl)
  have HP1 := Lib.hid (And.intro hp1 hl1)
  have HRL := Lib.hid (And.intro hse.rl hse.pl)
  have HLK := Lib.hid hlk
  have HW1 := Lib.hid hW1
  clear ih hse hsr hsp hss h1 hn hlk hans hW1 hb1 hs1 hkb hrb hp1 hl1
  go_enter Tryz.func137, Tryz.ntmps137
  go_upto_region 1 with fail
  rw [← HW1.out]
  clear HW1
  refine wp_region_S (fun w' => w'.cell? ⟨p, 0, none⟩ = some (.map (some r)) ∧ w'.cell? ⟨w.heap.size, 0, none⟩ = some (.int .i64 n) ∧ w'.cell? ⟨w.heap.size, 1, none⟩ = some (.bool blue) ∧ (Instr.lookup 200 (.map (some r)) (.agg #[.int .i64 n, .bool blue]) true).run Tryz.prog w' = .ok (.tuple #[.agg #[.int .i64 y.k, .int .i64 y.n, .int .i64 y.r, .slice B y.q.len c, .int .i64 y.c], .bool ok]) w') 11 (by kernel_rfl) ?_
  have hS0 : W1.drew.cell? ⟨p, 0, none⟩ = some (.map (some r)) ∧ W1.drew.cell? ⟨w.heap.size, 0, none⟩ = some (.int .i64 n) ∧ W1.drew.cell? ⟨w.heap.size, 1, none⟩ = some (.bool blue) ∧ (Instr.lookup 200 (.map (some r)) (.agg #[.int .i64 n, .bool blue]) true).run Tryz.prog W1.drew = .ok (.tuple #[.agg #[.int .i64 y.k, .int .i64 y.n, .int .i64 y.r, .slice B y.q.len c, .int .i64 y.c], .bool ok]) W1.drew := ⟨HP1.out.1, HKB.out.1, HKB.out.2, HP1.out.2⟩
  refine Takes.intro [0,1,2,3,4,5,6,7,8] ?_
  repeat (refine Takes.step (v := ?_) (by kernel_rfl) rfl (fun _ _ _ h => h) rfl hS0 (fun w hSw => by (try dsimp only at hSw); go_simp; try with_reducible rfl) ?_; try simp only [List.getElem_toArray, List.getElem_cons_zero, List.getElem_cons_succ, Act.put, List.setIfInBounds_toArray, List.set_cons_zero, List.set_cons_succ])
  refine Takes.nil ?_
  refine wpAnyS_one (i := 9) (by kernel_rfl) rfl rfl (fun K hK => ?_)
  go_simp
  have hs1 := HS1.out
  obtain ⟨W2, hW2⟩ : ∃ W2, W2 = (W1.alloc (.cells #[.int .i64 0, .int .i64 0, .int .i64 0, .slice none 0 0, .int .i64 0] 204)).drew := ⟨_, rfl⟩
  have hb2 : Below W1.heap.size W1 W2 := by rw [hW2]; exact ((Below.refl _ W1).alloc (Nat.le_refl _) _).drew
  have hs2 : W2.heap.size = w.heap.size + 3 := by
    rw [hW2]
    show (W1.alloc _).heap.size = _
    rw [World.size_alloc]
    omega
  have hx2 : BsBox W2 (w.heap.size + 2) ⟨0, 0, 0, .nil, 0⟩ none 0 ∧ BsFree W2 (w.heap.size + 2) := by
    rw [hW2, ← hs1]
    exact ⟨BsBox.new W1 ⟨0, 0, 0, .nil, 0⟩ none 0 204, BsFree.new W1 #[.int .i64 0, .int .i64 0, .int .i64 0, .slice none 0 0, .int .i64 0] 204⟩
  rw [← hW2, hs1]
  have HB2 := Lib.hid hb2
  have HX2 := Lib.hid hx2
  have HS2 := Lib.hid hs2
  have hS1 : W2.cell? ⟨p, 0, none⟩ = some (.map (some r)) ∧ W2.cell? ⟨w.heap.size, 0, none⟩ = some (.int .i64 n) ∧ W2.cell? ⟨w.heap.size, 1, none⟩ = some (.bool blue) ∧ (Instr.lookup 200 (.map (some r)) (.agg #[.int .i64 n, .bool blue]) true).run Tryz.prog W2 = .ok (.tuple #[.agg #[.int .i64 y.k, .int .i64 y.n, .int .i64 y.r, .slice B y.q.len c, .int .i64 y.c], .bool ok]) W2 := ⟨keep_cell hb2 HP1.out.1, keep_cell hb2 HKB.out.1, keep_cell hb2 HKB.out.2, HLK.out W2 ((hb2.block r (by have := HRL.out.1; omega)).trans (HB1.out.block r HRL.out.1))⟩
  obtain ⟨x0, x1, x2, x3, x4⟩ := hx2.1
  have g0 := hx2.2 0 (by omega)
  have g1 := hx2.2 1 (by omega)
  have g2 := hx2.2 2 (by omega)
  have g3 := hx2.2 3 (by omega)
  have g4 := hx2.2 4 (by omega)
  clear hW2 hb2 hs2 hx2 hs1
  refine hK.out _ _ (fun _ => hS1) ?_
  clear hK K
  try simp only [List.getElem_toArray, List.getElem_cons_zero, List.getElem_cons_succ, Act.put, List.setIfInBounds_toArray, List.set_cons_zero, List.set_cons_succ]
  refine wpAnyS_one (i := 10) (by kernel_rfl) rfl rfl (fun K hK => ?_)
  go_simp
  have hx3 : BsBox (putBs W2 (w.heap.size + 2) y B c) (w.heap.size + 2) y B c := HX2.out.1.put y B c
  have ho3 : OnlyB (w.heap.size + 2) W2 (putBs W2 (w.heap.size + 2) y B c) := only_putBs _ _ _ _ _
  obtain ⟨W3, hW3⟩ : ∃ W3, putBs W2 (w.heap.size + 2) y B c = W3 := ⟨_, rfl⟩
  rw [hW3] at hx3 ho3
  unfold putBs at hW3
  rw [hW3]
  have hs2 := HS2.out
  have hb12 : Below (w.heap.size + 2) W1 W3 := (HB2.out.mono (by have := HS1.out; omega)).trans ⟨ho3.os, ho3.tape, ho3.output, ho3.size, fun k hk => ho3.block k (by omega) (by omega)⟩
  have hs3 : W3.heap.size = w.heap.size + 3 := by rw [← hW3, ← hs2]; simp [World.setCell]
  have HB3 : Hid (Below w.heap.size w W3 ∧ W3.heap.size = w.heap.size + 3) := Lib.hid ⟨HB1.out.trans (hb12.mono (by omega)), hs3⟩
  have HKB3 := Lib.hid (HKB.out.same (hb12.block _ (by omega)))
  have HRB3 := Lib.hid (And.intro (HRB.out.1.same (hb12.block _ (by omega))) (HRB.out.2.same (hb12.block _ (by omega))))
  have hS2 : W3.cell? ⟨p, 0, none⟩ = some (.map (some r)) ∧ W3.cell? ⟨w.heap.size, 0, none⟩ = some (.int .i64 n) ∧ W3.cell? ⟨w.heap.size, 1, none⟩ = some (.bool blue) ∧ (Instr.lookup 200 (.map (some r)) (.agg #[.int .i64 n, .bool blue]) true).run Tryz.prog W3 = .ok (.tuple #[.agg #[.int .i64 y.k, .int .i64 y.n, .int .i64 y.r, .slice B y.q.len c, .int .i64 y.c], .bool ok]) W3 := ⟨cell_same HP1.out.1 (hb12.block p (by have := HRL.out.2; omega)), HKB3.out.1, HKB3.out.2, HLK.out W3 (HB3.out.1.block r HRL.out.1)⟩
  have HX3 := Lib.hid hx3
  clear x0 x1 x2 x3 x4 g0 g1 g2 g3 g4 hx3 ho3 hW3 hb12 hs3 hs2 hS1 HX2 HKB HRB HS1 HB1 HS2 HP1
  refine hK.out _ _ (fun _ => hS2) ?_
  clear hK K
  try simp only [List.getElem_toArray, List.getElem_cons_zero, List.getElem_cons_succ, Act.put, List.setIfInBounds_toArray, List.set_cons_zero, List.set_cons_succ]
  refine wpAnyS_end 1 11 (by kernel_rfl) (by decide) rfl ?_
  simp only [List.toList_toArray, List.drop_succ_cons, List.drop_zero]
  clear hS0 hS2 HLK
  rcases HANS.out with ⟨rfl, hyb, hkz⟩ | ⟨rfl, hno⟩
  · obtain ⟨x0, x1, x2, x3, x4⟩ := HX3.out
    obtain ⟨⟨r0, r1, r2, r3, r4⟩, hfr⟩ := HRB3.out
    have g0 := hfr 0 (by omega)
    have g1 := hfr 1 (by omega)
    have g2 := hfr 2 (by omega)
    have g3 := hfr 3 (by omega)
    have g4 := hfr 4 (by omega)
    have HF := Lib.hid (And.intro (HRB3.out.1.put y B c) (only_putBs W3 (w.heap.size + 1) y B c))
    unfold putBs at HF
    have HY := Lib.hid (And.intro hyb hkz)
    clear hyb hkz hfr HANS HKB3 HIH
    go_wp2
    obtain ⟨⟨s0, s1, s2, s3, s4⟩, hof⟩ := HF.out
    have hbf : Below w.heap.size w ((((((W3.setCell ⟨w.heap.size + 1, 0, none⟩ (.int .i64 y.k)).setCell ⟨w.heap.size + 1, 1, none⟩ (.int .i64 y.n)).setCell ⟨w.heap.size + 1, 2, none⟩ (.int .i64 y.r)).setCell ⟨w.heap.size + 1, 3, none⟩ (.slice B y.q.len c)).setCell ⟨w.heap.size + 1, 4, none⟩ (.int .i64 y.c))) :=
      HB3.out.1.trans ⟨hof.os, hof.tape, hof.output, hof.size, fun k hk => hof.block k (by have := HB3.out.1.size; omega) (by omega)⟩
    obtain ⟨rfl, hkz⟩ := HY.out
    refine bodyPost_ret (v := bstV (bestV n blue) B c) (by simp [results, Tryz.results137, go_sem, s0, s1, s2, s3, s4]) rfl (⟨B, c, es, clock, rfl, hkz.below hbf, HSE.out.only (OnlyZ.of_below (S := fun _ => False) hbf fun k a b => by omega) (fun k _ f => f.elim) fun k _ t => t, fun e he => .inl he, OnlyB.of_below hbf⟩ : FindP S w p r n blue es _ _)
  · have HNO := Lib.hid hno
    clear hno HANS HX3
    obtain ⟨W4, hW4⟩ : ∃ W4, W4 = W3.alloc (.cells #[.int .i64 0, .int .i64 0, .int .i64 0, .slice none 0 0, .int .i64 (-1)] 204) := ⟨_, rfl⟩
    have hb4 : Below W3.heap.size W3 W4 := by rw [hW4]; exact (Below.refl _ W3).alloc (Nat.le_refl _) _
    have hs3 := HB3.out.2
    have hs4 : W4.heap.size = w.heap.size + 4 := by rw [hW4]; simp; omega
    have hx4 : BsBox W4 (w.heap.size + 3) noB none 0 ∧ BsFree W4 (w.heap.size + 3) := by
      rw [hW4, ← hs3]
      exact ⟨BsBox.new W3 noB none 0 204, BsFree.new W3 #[.int .i64 0, .int .i64 0, .int .i64 0, .slice none 0 0, .int .i64 (-1)] 204⟩
    go_upto_region 5 with fail
    rw [← hW4]
    have HX4 := Lib.hid hx4
    have HB4 : Hid (Below w.heap.size w W4 ∧ W4.heap.size = w.heap.size + 4) := Lib.hid ⟨HB3.out.1.trans (hb4.mono (by omega)), hs4⟩
    have HKB4 := Lib.hid (HKB3.out.same (hb4.block _ (by omega)))
    have HRB4 := Lib.hid (And.intro (HRB3.out.1.same (hb4.block _ (by omega))) (HRB3.out.2.same (hb4.block _ (by omega))))
    have HSH := Lib.hid (shapes_any n blue HN.out.1 HN.out.2 W4)
    obtain ⟨k0, k1⟩ := HKB4.out
    clear hW4 hb4 hs3 hs4 hx4 HB3 HKB3 HRB3
    go_wp2_with fail
    refine HSH.out.mono ?_
    rintro z W5 ⟨g, capg, rfl, hgr, hg1, hg2, hb5⟩
    obtain ⟨L, hL⟩ : ∃ L, candL n blue = L := ⟨_, rfl⟩
    have HFA : Hid (FndA w W5 r n blue g L.length) := Lib.hid ⟨OnlyB.of_below (HB4.out.1.trans (hb5.mono (by have := HB4.out.2; omega))), HRL.out.1, HKB4.out.same (hb5.block _ (by have := HB4.out.2; omega)), ⟨HRB4.out.1.same (hb5.block _ (by have := HB4.out.2; omega)), HRB4.out.2.same (hb5.block _ (by have := HB4.out.2; omega))⟩, by rw [← hL]; exact hgr, by have := HB4.out.2; omega, hg2⟩
    have HX5 := Lib.hid (And.intro (HX4.out.1.same (hb5.block _ (by have := HB4.out.2; omega))) (HX4.out.2.same (hb5.block _ (by have := HB4.out.2; omega))))
    obtain ⟨S1, hS1⟩ : ∃ S1 : Nat → Prop, S1 = fun k => S k ∨ (w.heap.size ≤ k ∧ k < w.heap.size + 4) := ⟨_, rfl⟩
    have HS1 : Hid (S1 r ∧ ¬ S1 p ∧ (∀ k, S1 k → k < w.heap.size + 4) ∧ (∀ k, S k → S1 k) ∧ (∀ k, k < w.heap.size → S1 k → S k) ∧ ∀ k, w.heap.size ≤ k → k < w.heap.size + 4 → S1 k) := Lib.hid (by
      rw [hS1]
      refine ⟨.inl HSS.out.1, ?_, ?_, fun k h => .inl h, ?_, fun k h1 h2 => .inr ⟨h1, h2⟩⟩
      · rintro (h | h)
        · exact HSS.out.2.1 h
        · have := HRL.out.2; omega
      · rintro k (h | h)
        · have := HSS.out.2.2 k h; omega
        · omega
      · rintro k hk (h | h)
        · exact h
        · omega)
    have HSE5 : Hid (SE S1 W5 p r es clock) := Lib.hid (HSE.out.only (OnlyZ.of_below (S := fun _ => False) (HB4.out.1.trans (hb5.mono (by have := HB4.out.2; omega))) fun k a b => by omega) (fun k _ f => f.elim) fun k hk t => HS1.out.2.2.2.2.1 k hk t)
    have HLL : Hid (candL n blue = L ∧ ∀ c ∈ L, Cand n blue c.1 c.2 ∧ (c.1 = 2 → 4 ≤ n)) := Lib.hid ⟨hL, fun c hc => by
      rw [← hL] at hc
      exact ⟨candL_cand HN.out.1 hc, cand_pow hc⟩⟩
    have hLlen : L.length ≤ 32772 := by
      rw [← hL, ← cand_all]
      exact Nat.le_trans (List.length_filter_le _ _) (Nat.le_trans (allU_len n blue) (by have := HN.out; omega))
    have HES0 : Hid (∀ e ∈ es, e ∈ es ∨ deepB e.1.1.toNat e.1.2 < deepB n blue) := Lib.hid fun e he => .inl he
    rw [hL]
    clear hgr hg1 hg2 hb5 hS1 hL k0 k1 HSH HX4 HB4 HKB4 HRB4
    go_wp2_with fail
    go_loopw [30] (fun v30 wr => ∃ (i : Nat) (es' : List ((Int × Bool) × Value × Nat)) (clock' : Nat) (B' : Option Addr) (c' : Nat), i ≤ L.length ∧ v30 = .int .i64 i ∧ Hid (FndA w wr r n blue g L.length) ∧ Hid (BsBox wr (w.heap.size + 3) (upB n blue L i) B' c' ∧ BsFree wr (w.heap.size + 3)) ∧ Hid (KZ S1 wr B' (upB n blue L i).q) ∧ Hid (SE S1 wr p r es' clock') ∧ Hid (∀ e ∈ es', e ∈ es ∨ deepB e.1.1.toNat e.1.2 < deepB n blue)) (fun v30 _ => L.length - (intOf v30).toNat)
    case atStart => exact ⟨0, es, clock, none, 0, Nat.zero_le _, rfl, HFA, HX5, Lib.hid (KZ.nil _ _ _), HSE5, HES0⟩
    case round =>
      clear HFA HX5 HSE5 HES0
      obtain ⟨i, es1, clock1, B1, c1, hi, rfl, hA, hX, hK, hE, hD⟩ := hrel
      by_cases hlt : i < L.length
      · have hlti : (i : Int) < (L.length : Int) := by omega
        obtain ⟨kk, hkk⟩ : ∃ kk, (L.getD i (0, 0)).1 = kk := ⟨_, rfl⟩
        obtain ⟨rr, hrr⟩ : ∃ rr, (L.getD i (0, 0)).2 = rr := ⟨_, rfl⟩
        have hmem : L.getD i (0, 0) ∈ L := by
          rw [List.getD_eq_getElem?_getD, List.getElem?_eq_getElem hlt]
          exact List.getElem_mem _
        have HCD : Hid (Cand n blue kk rr ∧ (kk = 2 → 4 ≤ n)) := Lib.hid (by rw [← hkk, ← hrr]; exact HLL.out.2 _ hmem)
        have HNX : Hid (upB n blue L (i + 1) = (upB n blue L i).or ⟨kk, n, rr, kidsB bestV (blue || kk == 4) (wantsF kk n rr), costF kk n rr (costsB bestV (blue || kk == 4) (wantsF kk n rr))⟩) := Lib.hid (by
          rw [upB_succ n blue L i hlt, ← hkk, ← hrr]; rfl)
        have hcl := hA.out.gr.at' hlt
        rw [HLL.out.1, hkk, hrr] at hcl
        obtain ⟨d0, d1, d2, d3⟩ := hcl
        obtain ⟨W6, hW6⟩ : ∃ W6, W6 = wr.alloc (.cells #[.int .i64 kk, .int .i64 n, .int .i64 rr, .slice none 0 0] 27) := ⟨_, rfl⟩
        have hb6 : Below wr.heap.size wr W6 := by rw [hW6]; exact (Below.refl _ wr).alloc (Nat.le_refl _) _
        have hs6 : W6.heap.size = wr.heap.size + 1 := by rw [hW6]; simp
        have hpb6 := PlBox.new wr kk n rr none 0 0 27
        have hpf6 := PlFree.new wr (.int .i64 kk) (.int .i64 n) (.int .i64 rr) (.slice none 0 0) 27
        rw [← hW6] at hpb6 hpf6
        have HB6 : Hid (Below wr.heap.size wr W6 ∧ W6.heap.size = wr.heap.size + 1) := Lib.hid ⟨hb6, hs6⟩
        have HP6 := Lib.hid (And.intro hpb6 hpf6)
        have HWN := Lib.hid (fun w => Wants_any kk n rr none 0 0 w (by have := HN.out; omega) (by have := HN.out; omega) (fun h4 => by
          rcases HCD.out.1 with ⟨h, _⟩ | ⟨h, _⟩ | ⟨h, _⟩ | ⟨h, _⟩ | ⟨_, _, _, _, h⟩ <;> omega))
        have HW6 := Lib.hid hW6
        obtain ⟨bp, hbp⟩ : ∃ bp, wr.heap.size = bp := ⟨_, rfl⟩
        have HBP := Lib.hid hbp
        clear hkk hrr hmem hW6 hb6 hs6 hpf6 hbp hpb6
        go_upto_region 9 with fail
        rw [← HW6.out, HBP.out]
        have hp6b : PlBox W6 bp kk n rr none 0 0 := by rw [← HBP.out]; exact HP6.out.1
        obtain ⟨p0, p1, p2, p3⟩ := hp6b
        clear d0 d1 d2 d3 HW6
        go_wp2_with fail
        refine (HWN.out W6).mono ?_
        rintro z W7 ⟨⟨A', rfl, hwi, hwg⟩, hb7⟩
        obtain ⟨ws, hws⟩ : ∃ ws, wantsF kk n rr = ws := ⟨_, rfl⟩
        obtain ⟨b, hbb⟩ : ∃ b, (blue || kk == 4) = b := ⟨_, rfl⟩
        obtain ⟨T, hT⟩ : ∃ T, W7.heap.size = T := ⟨_, rfl⟩
        have HWS : Hid (∀ x ∈ ws, ∃ m : Nat, x = m ∧ 1 ≤ m ∧ m ≤ 32768 ∧ deepB m b < deepB n blue ∧ FindC m b) := Lib.hid (by rw [← hws, ← hbb]; exact HIH.out kk rr HCD.out.1)
        have HWF := Lib.hid hws
        have HBB := Lib.hid hbb
        have hwl : ws.length ≤ 2 := by rw [← hws]; unfold wantsF; (repeat' split) <;> simp
        have HCO : Hid (∀ b, CkOk (costsB bestV b ws)) := Lib.hid (fun b => by rw [← hws]; exact costsB_ok HCD.out.1 HN.out.1 HN.out.2 b)
        rw [hws] at hwi HNX ⊢
        rw [hbb] at HNX
        have hs6 := HB6.out.2
        have hbpv := HBP.out
        have hb77 := hb7.size
        have hwra := hA.out.o.size
        have hgl := hA.out.gl
        have hxl := hX.out.1.lt
        have hb67 : Below wr.heap.size wr W7 := HB6.out.1.trans (hb7.mono (by omega))
        have HT : Hid (FndT S1 w p r g T bp ws A') := Lib.hid ⟨HS1.out.1, HS1.out.2.1, HRL.out.2, HRL.out.1, HS1.out.2.2.1, by omega, by omega, by omega, fun h0 b' o e => by
          have q1 := hwg b' o e
          have q2 := hwi.block h0 b' o e
          omega⟩
        have hzn : OnlyZ (fun _ => False) wr W7 := OnlyZ.of_below hb67 fun k a b => by omega
        have hlt' : ∀ k, k < wr.heap.size → locS S1 bp (.slice none 0 0) (.slice none 0 0) k → S1 k := fun k hk e => by
          rcases e with e | e | e | e
          · exact e
          · omega
          · cases e
          · cases e
        have hpb7 : PlBox W7 bp kk n rr none 0 0 ∧ PlFree W7 bp := by rw [← hbpv]; exact ⟨HP6.out.1.below hb7, HP6.out.2.keep hb7 (by omega)⟩
        have HB0 : Hid (FndB S1 w W7 p r n blue g L.length (upB n blue L i) B1 c1 T bp kk rr none 0 0 (.slice none 0 0) ws A' b es1 clock1) := Lib.hid
          ⟨hA.out.move hzn (fun k f => f.elim), ⟨hX.out.1.same (hb67.block _ (by omega)), hX.out.2.same (hb67.block _ (by omega))⟩, hK.out.move hb67.size (fun k hk _ => hb67.block k hk) hlt',
            hpb7, RowQ.nil _ _ _ _, OwnI.nil _ _, fun g e => (by cases e), hE.out.only hzn (fun k _ f => f.elim) hlt', hwi, by omega⟩
        have HD1 := hD
        clear hpb7 hwi hwg hb7 HB6 HP6 HBP hs6 hbpv hb77 hwra hgl hxl hb67 hzn hlt' hws hbb hT p0 p1 p2 p3 HWN hA hX hK hE hD
        go_wp2_with fail
        go_loopw [10, 37] (fun v10 v37 wr2 => ∃ (j : Nat) (es2 : List ((Int × Bool) × Value × Nat)) (clock2 : Nat) (Bk : Option Addr) (cb : Nat), j ≤ ws.length ∧ v37 = .int .i64 j ∧ Hid (FndB S1 w wr2 p r n blue g L.length (upB n blue L i) B1 c1 T bp kk rr Bk j cb v10 ws A' b es2 clock2) ∧ Hid (∀ e ∈ es2, e ∈ es ∨ deepB e.1.1.toNat e.1.2 < deepB n blue)) (fun _ v37 _ => ws.length - (intOf v37).toNat)
        case atStart => exact ⟨0, es1, clock1, none, 0, Nat.zero_le _, rfl, HB0, HD1⟩
        case round =>
          clear HB0 HD1
          obtain ⟨wo, hwo⟩ : ∃ wo, wo = wr := ⟨_, rfl⟩
          obtain ⟨j, es2, clock2, Bk, cb, hj, rfl, hF, hD⟩ := hrel
          by_cases hjl : j < ws.length
          · have hjli : (j : Int) < (ws.length : Int) := by omega
            obtain ⟨x, hx, hx1, hx2, hxd, hxf⟩ := HWS.out (ws.getD j 0) (by rw [List.getD_eq_getElem?_getD, List.getElem?_eq_getElem hjl]; exact List.getElem_mem hjl)
            obtain ⟨bW, oW, rfl, hcw0⟩ := hF.out.wt j hjl
            have hcw : wr.cell? ⟨bW, oW + j, none⟩ = some (.int .i64 (ws.getD j 0)) := hcw0
            rw [hx] at hcw
            have HX := Lib.hid (And.intro hx (And.intro hx1 hx2))
            have HXD := Lib.hid hxd
            have hll := hF.out.loc_lt HT.out
            have HFC := Lib.hid (hxf (locS S1 bp (.slice Bk j cb) u10) wr p r es2 clock2 hF.out.se (.inl HS1.out.1) hll.2 hll.1)
            obtain ⟨kb0, kb1⟩ := hF.out.A.kb
            have kc0 := hF.out.pb.1.1
            clear hx hx1 hx2 hxd hxf hcw0 hll
            obtain ⟨yy, hyy⟩ : ∃ yy, bestV x b = yy := ⟨_, rfl⟩
            have HYX := Lib.hid hyy
            have HYY : Hid (bestV (ws.getD j 0).toNat b = yy) := Lib.hid (by rw [HX.out.1, ← hyy]; rfl)
            clear hyy
            obtain ⟨blueQ, hbq⟩ : ∃ q, q = blue := ⟨_, rfl⟩
            have HBQ := Lib.hid hbq
            rw [← hbq] at HXD
            clear hbq
            rcases blue with _ | _
            all_goals
              first
              | (have hbb : (kk == 4) = b := HBB.out; go_wp2_with fail; try rw [hbb]
                 clear hbb)
              | (have hbb : true = b := HBB.out; rw [← hbb] at HFC HYX HXD; clear hbb; go_wp2_with fail)
              refine HFC.out.mono ?_
              rintro z W8 ⟨B3, c3, es3, clock3, rfl, hkz, hse3, hd3, ho3⟩
              rw [HYX.out] at hkz ⊢
              have hf8 := hF.out.find HT.out ho3 hse3
              have HF8R : Hid (∀ i, ((Value.slice Bk j cb).ownBlock = some i ∨ u10.ownBlock = some i) → i < W8.heap.size) := Lib.hid (fun i e => e.elim (fun e => (hf8.row.lt i e).2) (fun e => (hf8.cost.lt i e).2))
              have HF8 := Lib.hid hf8
              clear hf8
              obtain ⟨W9, hW9⟩ : ∃ W9, W9 = W8.alloc (.cells #[.int .i64 yy.k, .int .i64 yy.n, .int .i64 yy.r, .slice B3 yy.q.len c3, .int .i64 yy.c] 204) := ⟨_, rfl⟩
              have hb9 : Below W8.heap.size W8 W9 := by rw [hW9]; exact (Below.refl _ W8).alloc (Nat.le_refl _) _
              have hbx9 := BsBox.new W8 yy B3 c3 204
              rw [← hW9] at hbx9
              have HF9 := Lib.hid (HF8.out.below HT.out hb9)
              have HKZ9 := Lib.hid (hkz.below hb9)
              have HD9 : Hid (∀ e ∈ es3, e ∈ es ∨ deepB e.1.1.toNat e.1.2 < deepB n blueQ) := Lib.hid (fun e he => by
                rcases hd3 e he with h | h
                · rw [HBQ.out]; exact hD.out e h
                · exact .inr (Nat.lt_of_le_of_lt h HXD.out))
              obtain ⟨q9, hq9⟩ : ∃ q9, W8.heap.size = q9 := ⟨_, rfl⟩
              have HW9 := Lib.hid hW9
              have HQ9 : Hid (T ≤ q9 ∧ q9 < W9.heap.size) := Lib.hid ⟨by rw [← hq9]; exact HF8.out.sz, by rw [← hq9, hW9]; simp⟩
              rw [hq9] at hbx9 HF8R
              have HBX9 := Lib.hid hbx9
              clear hkz hse3 hd3 ho3 hW9 hb9 hbx9 hcw kb0 kb1 kc0 HF8 hF hD HXD HFC
              go_upto_region 13 with fail
              rw [← HW9.out]
              clear HW9 hq9
              obtain ⟨xs, ho1, hxr⟩ := HF9.out.row
              have hkl : (kidsB bestV b (ws.take j)).len = j := by rw [kidsB_len, List.length_take]; omega
              rw [hkl] at ho1
              have HKL := Lib.hid hkl
              have HXR := Lib.hid hxr
              have HO1 := Lib.hid ho1
              have ho2 := HF9.out.cost
              have hcl : (costsB bestV b (ws.take j)).length = j := by unfold costsB; rw [List.length_map, List.length_take]; omega
              unfold OwnI at ho2
              rw [hcl] at ho2
              have HO2 := Lib.hid ho2
              have HCL := Lib.hid hcl
              obtain ⟨ys, hys⟩ : ∃ ys, ys = (costsB bestV b (ws.take j)).map (fun x => Value.int .i64 x) := ⟨_, rfl⟩
              rw [← hys] at HO2
              have HYS := Lib.hid hys
              have hTR : ∀ t, t < 2 → W9.ownsRow T (thsF (.slice Bk j cb) u10 j xs ys yy B3 c3 t).e (thsF (.slice Bk j cb) u10 j xs ys yy B3 c3 t).sz (thsF (.slice Bk j cb) u10 j xs ys yy B3 c3 t).v (thsF (.slice Bk j cb) u10 j xs ys yy B3 c3 t).k (thsF (.slice Bk j cb) u10 j xs ys yy B3 c3 t).xs := fun t ht => by
                rcases t with _ | _ | t
                · exact HO1.out
                · exact HO2.out
                · omega
              have HTR := Lib.hid hTR
              have HAP : Hid (∀ s t, s < 2 → t < 2 → s ≠ t → ∀ g, (thsF (.slice Bk j cb) u10 j xs ys yy B3 c3 s).v.ownBlock = some g → (thsF (.slice Bk j cb) u10 j xs ys yy B3 c3 t).v.ownBlock ≠ some g) := Lib.hid (fun s t hs ht hne g e => by
                rcases s with _ | _ | s <;> rcases t with _ | _ | t
                all_goals first | omega | exact absurd rfl hne | exact HF9.out.ap g e | exact fun e2 => HF9.out.ap g e2 e)
              have HOWN : Hid (∀ t, t < 2 → ∀ i, (thsF (.slice Bk j cb) u10 j xs ys yy B3 c3 t).v.ownBlock = some i → ((Value.slice Bk j cb).ownBlock = some i ∨ u10.ownBlock = some i) ∧ i ≠ bp ∧ i ≠ q9) := Lib.hid (fun t ht i e => by
                have a1 := HT.out.hi
                have a2 : T ≤ i ∧ i < W9.heap.size := World.ownsRow.lt (HTR.out t ht) i e
                have a3 : i < q9 := by
                  rcases t with _ | _ | t
                  · have := (HF8R.out i (.inl e)); omega
                  · have := (HF8R.out i (.inr e)); omega
                  · omega
                refine ⟨?_, by omega, by omega⟩
                rcases t with _ | _ | t
                · exact .inl e
                · exact .inr e
                · omega)
              clear hkl ho1 hxr ho2 hcl hys hTR
              refine wp_region_S (fun w' => (w'.cell? ⟨bp, 3, none⟩ = some (.slice Bk j cb) ∧ w'.cell? ⟨q9, 0, none⟩ = some (.int .i64 yy.k) ∧ w'.cell? ⟨q9, 1, none⟩ = some (.int .i64 yy.n) ∧ w'.cell? ⟨q9, 2, none⟩ = some (.int .i64 yy.r) ∧ w'.cell? ⟨q9, 3, none⟩ = some (.slice B3 yy.q.len c3) ∧ w'.cell? ⟨q9, 4, none⟩ = some (.int .i64 yy.c)) ∧ Hid (OnlyZ (fun i => (Value.slice Bk j cb).ownBlock = some i ∨ u10.ownBlock = some i) W9 w')) 12 (by kernel_rfl) ?_
              have hS0 : (W9.drew.cell? ⟨bp, 3, none⟩ = some (.slice Bk j cb) ∧ W9.drew.cell? ⟨q9, 0, none⟩ = some (.int .i64 yy.k) ∧ W9.drew.cell? ⟨q9, 1, none⟩ = some (.int .i64 yy.n) ∧ W9.drew.cell? ⟨q9, 2, none⟩ = some (.int .i64 yy.r) ∧ W9.drew.cell? ⟨q9, 3, none⟩ = some (.slice B3 yy.q.len c3) ∧ W9.drew.cell? ⟨q9, 4, none⟩ = some (.int .i64 yy.c)) ∧ Hid (OnlyZ (fun i => (Value.slice Bk j cb).ownBlock = some i ∨ u10.ownBlock = some i) W9 W9.drew) := ⟨⟨HF9.out.pb.1.2.2.2, HBX9.out.1, HBX9.out.2.1, HBX9.out.2.2.1, HBX9.out.2.2.2.1, HBX9.out.2.2.2.2⟩, Lib.hid ⟨rfl, rfl, rfl, Nat.le_refl _, fun _ _ _ => rfl⟩⟩
              refine Takes.intro [0,1,2,3,6,7,8] ?_
              repeat (refine Takes.step (v := ?_) (by kernel_rfl) rfl (fun _ _ _ h => h) rfl hS0 (fun w hSw => by (try dsimp only at hSw); go_simp; try with_reducible rfl) ?_; try simp only [List.getElem_toArray, List.getElem_cons_zero, List.getElem_cons_succ, Act.put, List.setIfInBounds_toArray, List.set_cons_zero, List.set_cons_succ])
              refine Takes.nil ?_
              refine wpAppendsX 2 T W9.heap.size (thsF (.slice Bk j cb) u10 j xs ys yy B3 c3) [4, 5, 9, 10, 11] [[], [0], [], [2, 1], [1]] [56, 57, 61, 62, 63] 2 12 (fun _ => .pointer (some ⟨bp, 3, none⟩)) (thsF_ok _ _ _ _ _ _ _ _ (by omega)) (by decide) rfl (by decide) (fun q hq => (by rcases q with _ | _ | q <;> first | decide | omega)) (by kernel_rfl) (by decide) rfl (by kernel_rfl) hS0 ?_ ?_ HF9.out.sz (Nat.le_refl _) ?_ ?_ ?_ ?_ ?_ ?_
              · intro w' o ⟨⟨e0, e1, e2, e3, e4, e5⟩, e6⟩ hsz
                have hb := (Below.refl _ w').alloc (Nat.le_refl _) o
                exact ⟨⟨keep_cell hb e0, keep_cell hb e1, keep_cell hb e2, keep_cell hb e3, keep_cell hb e4, keep_cell hb e5⟩, Lib.hid (e6.out.trans' (T := fun _ => False) (OnlyZ.of_below hb fun k a b => by omega) fun _ _ f => f.elim)⟩
              · intro w' w'' t ht ⟨⟨e0, e1, e2, e3, e4, e5⟩, e6⟩ hsz hg
                have hne : (thsF (.slice Bk j cb) u10 j xs ys yy B3 c3 t).v.ownBlock ≠ some bp := fun e => (HOWN.out t ht bp e).2.1 rfl
                have hne2 : (thsF (.slice Bk j cb) u10 j xs ys yy B3 c3 t).v.ownBlock ≠ some q9 := fun e => (HOWN.out t ht q9 e).2.2 rfl
                exact ⟨⟨grown_cell hg e0 hne, grown_cell hg e1 hne2, grown_cell hg e2 hne2, grown_cell hg e3 hne2, grown_cell hg e4 hne2, grown_cell hg e5 hne2⟩, Lib.hid (e6.out.trans' (OnlyZ.of_grown hg fun k e => (HOWN.out t ht k e).1) fun _ _ h => h)⟩
              · exact HTR.out
              · exact HAP.out
              · intro t ht
                rcases t with _ | _ | t
                · exact ⟨_, _, _, rfl, rfl, rfl, rfl, rfl, fun x => (eval_putG_no x _ _ _ _ (by decide)).trans (by kernel_rfl)⟩
                · exact ⟨_, _, _, rfl, rfl, rfl, rfl, rfl, fun x => (eval_putG_no x _ _ _ _ (by decide)).trans (by kernel_rfl)⟩
                · omega
              · intro t ht
                rcases t with _ | _ | t
                · exact ⟨_, _, _, _, rfl, rfl, rfl, rfl, rfl, fun x => (eval_putG_no x _ _ _ _ (by decide)).trans (by kernel_rfl), fun x => eval_putG_at x 56 _ 0 _ 0 (by decide) rfl (of_decide_eq_true (by kernel_rfl))⟩
                · exact ⟨_, _, _, _, rfl, rfl, rfl, rfl, rfl, fun x => (eval_putG_no x _ _ _ _ (by decide)).trans (by kernel_rfl), fun x => eval_putG_at x 61 _ 0 _ 2 (by decide) rfl (of_decide_eq_true (by kernel_rfl))⟩
                · omega
              · intro q hq1 hq2
                have hq3 : q = 4 := by
                  have : q < 5 := hq2
                  omega
                subst hq3
                refine ⟨_, _, rfl, rfl, rfl, rfl, fun x w hSw => ?_⟩
                exact exec_fa rfl ((eval_putG_no x _ _ _ _ (by decide)).trans (by kernel_rfl))
              intro x wE hSE hGr hx4
              obtain ⟨g2, cap2, e2, r2⟩ := hGr.row 0 (by decide)
              obtain ⟨g3, cap3, e3, r3⟩ := hGr.row 1 (by decide)
              have a1 := hGr.ap 0 1 (by decide) (by decide) (by decide)
              have f2 := hGr.fr 0 (by decide)
              have f3 := hGr.fr 1 (by decide)
              rw [show 2 * 0 + 1 = 1 from rfl] at e2 a1 f2
              rw [show 2 * 1 + 1 = 3 from rfl] at e3 a1 f3
              rw [e2] at a1 f2
              rw [e3] at a1 f3
              have hne : g2 ≠ g3 := fun e => a1 g2 rfl (by rw [e]; rfl)
              have hx4' := hx4 4 (by decide) (by decide)
              have e2 : x 1 = .slice (some ⟨g2, 0, none⟩) (j + 1 : Nat) cap2 := e2
              have e3 : x 3 = .slice (some ⟨g3, 0, none⟩) (j + 1 : Nat) cap3 := e3
              have r3' : OwnI wE T (.slice (some ⟨g3, 0, none⟩) (j + 1) cap3) (costsB bestV b (ws.take j) ++ [yy.c]) := by
                unfold OwnI
                rw [List.length_append, HCL.out, List.map_append, ← HYS.out]
                exact r3
              have HMORE := Lib.hid (HF9.out.more HT.out hjl HYY.out HXR.out HKL.out HKZ9.out hSE.2.out r2 r3' hne (f2 g2 rfl) (f3 g3 rfl))
              have hbpl := hSE.1.1
              have hbpf : wE.frozen? ⟨bp, 3, none⟩ = false := by
                have hf := HF9.out.pb.2 3 (by omega)
                have hbw : bp < W9.heap.size := by have := HT.out.hi; have := HF9.out.sz; omega
                exact (World.frozen?_of_block (w := W9) (a := ⟨bp, 3, none⟩) (hSE.2.out.block bp hbw (fun e => by
                  have := HT.out.hi
                  rcases e with e | e
                  · have := (HF9.out.row.lt bp e).1; omega
                  · have := (HF9.out.cost.lt bp e).1; omega))).trans hf
              clear hGr hSE r2 r3 r3' a1 f2 f3 hne HTR HAP HOWN hS0 hx4 HXR HO1 HO2 HYS HCL HKL HF9 HKZ9 HBX9
              simp only [putG, Nat.zero_add, Nat.reduceAdd, List.setIfInBounds_toArray, List.set_cons_zero, List.set_cons_succ, Act.put, e2, e3, hx4', List.toList_toArray, List.drop_succ_cons, List.drop_zero]
              go_wp2
              exact ⟨⟨j + 1, es3, clock3, some ⟨g2, 0, none⟩, cap2, by omega, by go_num, HMORE, Lib.hid (by have h := HD9.out; rw [HBQ.out] at h; exact h)⟩, by simp [intOf]; omega⟩
          · obtain rfl : j = ws.length := by omega
            have htk : ws.take ws.length = ws := List.take_length
            obtain ⟨Ak, ck, hu, hik, -⟩ := hF.out.cost.form
            rw [htk] at hu hik
            subst hu
            have HCST := Lib.hid (Own_any n blue kk rr HCD.out.1 HCD.out.2 HN.out.1 HN.out.2 Bk ws.length cb (costsB bestV b ws) Ak ck wr (by rw [HWF.out]; unfold costsB; rw [List.length_map]) hik (HCO.out b))
            obtain ⟨V, hV⟩ : ∃ V, costF kk n rr (costsB bestV b ws) = V := ⟨_, rfl⟩
            rw [hV] at HCST HNX
            have hrf := hF.out.row.form
            rw [htk] at hrf
            obtain ⟨A2, c2, ha, hkz0⟩ := hrf
            injection ha with ha1 ha2 ha3
            subst ha1 ha3
            have HKL : Hid ((kidsB bestV b ws).len = ws.length) := Lib.hid (kidsB_len _ _ _)
            have hloc : ∀ k, S1 k → locS S1 bp (.slice Bk ws.length cb) (.slice Ak (costsB bestV b ws).length ck) k := fun k h => .inl h
            have hkz := hkz0 (fun k e => by
              have h1 := (hF.out.row.lt k e).1
              rintro (h | h | h)
              · have := HS1.out.2.2.1 k h; have := HT.out.lo; have := HT.out.hi; omega
              · have := HT.out.hi; omega
              · exact hF.out.ap k e h)
            have HKZ : Hid (KZ S1 wr Bk (kidsB bestV b ws)) := Lib.hid (hkz.mono fun k _ h => .inl h)
            have HOK : Hid (KZ S1 wr B1 (upB n blue L i).q) := Lib.hid (hF.out.ok.mono fun k _ h => hloc k h)
            have HSE2 : Hid (SE S1 wr p r es2 clock2) := Lib.hid (hF.out.se.only (U := fun _ => False) (OnlyZ.refl _ _) (fun k _ f => f.elim) fun k _ h => hloc k h)
            have HFA2 := Lib.hid hF.out.A
            have HOUT := Lib.hid hF.out.out
            obtain ⟨p0, p1, p2, p3⟩ := hF.out.pb.1
            clear hik htk hV ha2 hkz0 hkz hloc hF
            go_wp2_with fail
            refine HCST.out.mono ?_
            rintro z W10 ⟨rfl, hb10⟩
            have hzz : OnlyZ (fun _ => False) wr W10 := OnlyZ.of_below hb10 fun k a b => by omega
            have HFA3 := Lib.hid (HFA2.out.move hzz fun k f => f.elim)
            have hol := HOUT.out.1.lt
            have HOUT3 := Lib.hid (And.intro (HOUT.out.1.same (hb10.block _ hol)) (HOUT.out.2.same (hb10.block _ hol)))
            have HKZ3 := Lib.hid (HKZ.out.below hb10)
            have HOK3 := Lib.hid (HOK.out.below hb10)
            have HSE3 := Lib.hid (HSE2.out.only (T := S1) hzz (fun k _ f => f.elim) fun k _ h => h)
            have hpb3 : PlBox W10 bp kk n rr Bk ws.length cb := PlBox.below ⟨p0, p1, p2, p3⟩ hb10
            clear p0 p1 p2 p3 hb10 hzz hol HFA2 HOUT HKZ HOK HSE2 HCST
            obtain ⟨p0, p1, p2, p3⟩ := hpb3
            obtain ⟨x0, x1, x2, x3, x4⟩ := HOUT3.out.1
            obtain ⟨cu, hcu⟩ : ∃ cu, (upB n blue L i).c = cu := ⟨_, rfl⟩
            rw [hcu] at x4
            have HCU := Lib.hid hcu
            clear hcu
            have fin : (cu < 0 ∨ V < cu) ∨ ¬ (cu < 0 ∨ V < cu) := Classical.em _
            rcases fin with hyes | hno
            · have hor : upB n blue L (i + 1) = ⟨kk, n, rr, kidsB bestV b ws, V⟩ := by
                rw [HNX.out]; unfold Bst.or; rw [if_pos (by rw [HCU.out]; exact hyes)]
              have HOR := Lib.hid hor
              have hbn := HOUT3.out.1.put ⟨kk, n, rr, kidsB bestV b ws, V⟩ Bk cb
              have hfn := HOUT3.out.2.put ⟨kk, n, rr, kidsB bestV b ws, V⟩ Bk cb
              have hon := only_putBs W10 (w.heap.size + 3) ⟨kk, n, rr, kidsB bestV b ws, V⟩ Bk cb
              have hputE : putBs W10 (w.heap.size + 3) ⟨kk, n, rr, kidsB bestV b ws, V⟩ Bk cb = ((((W10.setCell ⟨w.heap.size + 3, 0, none⟩ (.int .i64 kk)).setCell ⟨w.heap.size + 3, 1, none⟩ (.int .i64 n)).setCell ⟨w.heap.size + 3, 2, none⟩ (.int .i64 rr)).setCell ⟨w.heap.size + 3, 3, none⟩ (.slice Bk ws.length cb)).setCell ⟨w.heap.size + 3, 4, none⟩ (.int .i64 V) := by
                unfold putBs
                show ((((W10.setCell _ (.int .i64 kk)).setCell _ (.int .i64 n)).setCell _ (.int .i64 rr)).setCell _ (.slice Bk (kidsB bestV b ws).len cb)).setCell _ (.int .i64 V) = _
                rw [HKL.out]
              have hzu : OnlyZ (fun k => k = w.heap.size + 3) W10 (putBs W10 (w.heap.size + 3) ⟨kk, n, rr, kidsB bestV b ws, V⟩ Bk cb) := OnlyZ.of_only hon rfl
              have hS13 : S1 (w.heap.size + 3) := HS1.out.2.2.2.2.2 _ (by omega) (by omega)
              have HALL : Hid (FndA w (putBs W10 (w.heap.size + 3) ⟨kk, n, rr, kidsB bestV b ws, V⟩ Bk cb) r n blue g L.length ∧ (BsBox (putBs W10 (w.heap.size + 3) ⟨kk, n, rr, kidsB bestV b ws, V⟩ Bk cb) (w.heap.size + 3) (upB n blue L (i + 1)) Bk cb ∧ BsFree (putBs W10 (w.heap.size + 3) ⟨kk, n, rr, kidsB bestV b ws, V⟩ Bk cb) (w.heap.size + 3)) ∧ KZ S1 (putBs W10 (w.heap.size + 3) ⟨kk, n, rr, kidsB bestV b ws, V⟩ Bk cb) Bk (upB n blue L (i + 1)).q ∧ SE S1 (putBs W10 (w.heap.size + 3) ⟨kk, n, rr, kidsB bestV b ws, V⟩ Bk cb) p r es2 clock2) := Lib.hid (by
                rw [hor]
                exact ⟨HFA3.out.move hzu (fun k e => .inr (by have := HFA3.out.gl; omega)), ⟨hbn, hfn⟩, HKZ3.out.only (hzu.mono fun k _ e => by rw [e]; exact hS13), HSE3.out.only hzu (fun k _ e => by
                  refine ⟨by rw [e]; exact hS13, ?_, ?_⟩
                  · have := HRL.out.2; omega
                  · have := HRL.out.1; omega) fun k _ h => h⟩)
              rw [hputE] at HALL
              have f0 := HOUT3.out.2 0 (by omega)
              have f1 := HOUT3.out.2 1 (by omega)
              have f2 := HOUT3.out.2 2 (by omega)
              have f3 := HOUT3.out.2 3 (by omega)
              have f4 := HOUT3.out.2 4 (by omega)
              clear hor hbn hfn hon hputE hzu hS13
              by_cases hc0 : cu < 0
              · clear hyes
                go_wp2
                exact ⟨⟨i + 1, es2, clock2, Bk, cb, by omega, by go_num, Lib.hid HALL.out.1, Lib.hid HALL.out.2.1, Lib.hid HALL.out.2.2.1, Lib.hid HALL.out.2.2.2, hD⟩, by simp [intOf]; omega⟩
              · have hc1 : V < cu := hyes.resolve_left hc0
                clear hyes
                go_wp2
                exact ⟨⟨i + 1, es2, clock2, Bk, cb, by omega, by go_num, Lib.hid HALL.out.1, Lib.hid HALL.out.2.1, Lib.hid HALL.out.2.2.1, Lib.hid HALL.out.2.2.2, hD⟩, by simp [intOf]; omega⟩
            · have hor : upB n blue L (i + 1) = upB n blue L i := by
                rw [HNX.out]; unfold Bst.or; rw [if_neg (by rw [HCU.out]; exact hno)]
              have HOR : Hid ((BsBox W10 (w.heap.size + 3) (upB n blue L (i + 1)) B1 c1 ∧ BsFree W10 (w.heap.size + 3)) ∧ KZ S1 W10 B1 (upB n blue L (i + 1)).q) := Lib.hid (by rw [hor]; exact ⟨HOUT3.out, HOK3.out⟩)
              have hc0 : ¬ cu < 0 := fun h => hno (.inl h)
              have hc1 : ¬ V < cu := fun h => hno (.inr h)
              clear hor hno
              go_wp2
              exact ⟨⟨i + 1, es2, clock2, B1, c1, by omega, by go_num, HFA3, Lib.hid HOR.out.1, Lib.hid HOR.out.2, HSE3, hD⟩, by simp [intOf]; omega⟩
      · obtain rfl : i = L.length := by omega
        have hub : upB n blue L L.length = bestV n blue := by
          rw [upB_all n blue L _ (Nat.le_refl _), bestV_eq n blue HN.out.1 HN.out.2, HLL.out.1]
        rw [hub] at hX hK
        obtain ⟨yb, hyb⟩ : ∃ yb, bestV n blue = yb := ⟨_, rfl⟩
        have HYB := Lib.hid hyb
        rw [hyb] at hX hK
        have HKE : Hid (∀ e ∈ es1, e.1 ≠ ((n : Int), blue)) := Lib.hid (fun e he h => by
          rcases hD.out e he with h' | h'
          · exact HNO.out e h' h
          · rw [h] at h'
            simp at h')
        have hst := run_storeB r clock1 ((n : Int), blue) (bstV yb B1 c1) es1 wr.drew hE.out.hr (fidB_none HKE.out)
        have hEd : SE S1 wr.drew p r es1 clock1 := ⟨hE.out.c0, hE.out.hr, hE.out.ent⟩
        have HSS2 := Lib.hid (hEd.store HS1.out.1 blue c1 HN.out.1 HN.out.2 (by rw [hyb]; exact (hK.out : KZ S1 wr B1 yb.q)))
        rw [hyb] at HSS2
        obtain ⟨W12, hW12⟩ : ∃ W12, W12 = { wr.drew with heap := wr.drew.heap.setIfInBounds r (.map ((es1 ++ [(((n : Int), blue), bstV yb B1 c1, clock1)]).map entB).toArray (clock1 + 1)) } := ⟨_, rfl⟩
        rw [← hW12] at hst
        have HST2 : Hid (SE S1 W12 p r (es1 ++ [(((n : Int), blue), bstV yb B1 c1, clock1)]) (clock1 + 1) ∧ OnlyB r wr W12) := Lib.hid (by rw [hW12]; exact ⟨HSS2.out.1, (OnlyB.of_below ((Below.refl _ wr).drew)).trans HSS2.out.2⟩)
        have hxl := hX.out.1.lt
        have hgl := hA.out.rl
        have HX12 := Lib.hid (hX.out.1.same (HST2.out.2.block _ hxl (by omega)))
        have hrl2 := hA.out.rb.1.lt
        have HR12 := Lib.hid (And.intro (hA.out.rb.1.same (HST2.out.2.block _ hrl2 (by omega))) (hA.out.rb.2.same (HST2.out.2.block _ hrl2 (by omega))))
        obtain ⟨k0, k1⟩ := hA.out.kb
        have hp0 := hE.out.c0
        clear hub hyb hW12 HSS2 hxl hgl hrl2 hEd
        go_upto_region 19 with fail
        obtain ⟨x0, x1, x2, x3, x4⟩ := hX.out.1
        refine wp_region_S (fun w' => w'.cell? ⟨p, 0, none⟩ = some (.map (some r)) ∧ w'.cell? ⟨w.heap.size, 0, none⟩ = some (.int .i64 n) ∧ w'.cell? ⟨w.heap.size, 1, none⟩ = some (.bool blue) ∧ w'.cell? ⟨w.heap.size + 3, 0, none⟩ = some (.int .i64 yb.k) ∧ w'.cell? ⟨w.heap.size + 3, 1, none⟩ = some (.int .i64 yb.n) ∧ w'.cell? ⟨w.heap.size + 3, 2, none⟩ = some (.int .i64 yb.r) ∧ w'.cell? ⟨w.heap.size + 3, 3, none⟩ = some (.slice B1 yb.q.len c1) ∧ w'.cell? ⟨w.heap.size + 3, 4, none⟩ = some (.int .i64 yb.c)) 6 (by kernel_rfl) ?_
        have hS0 : wr.drew.cell? ⟨p, 0, none⟩ = some (.map (some r)) ∧ wr.drew.cell? ⟨w.heap.size, 0, none⟩ = some (.int .i64 n) ∧ wr.drew.cell? ⟨w.heap.size, 1, none⟩ = some (.bool blue) ∧ wr.drew.cell? ⟨w.heap.size + 3, 0, none⟩ = some (.int .i64 yb.k) ∧ wr.drew.cell? ⟨w.heap.size + 3, 1, none⟩ = some (.int .i64 yb.n) ∧ wr.drew.cell? ⟨w.heap.size + 3, 2, none⟩ = some (.int .i64 yb.r) ∧ wr.drew.cell? ⟨w.heap.size + 3, 3, none⟩ = some (.slice B1 yb.q.len c1) ∧ wr.drew.cell? ⟨w.heap.size + 3, 4, none⟩ = some (.int .i64 yb.c) := ⟨hp0, k0, k1, x0, x1, x2, x3, x4⟩
        refine Takes.intro [0,1,2,3,4,5] ?_
        repeat (refine Takes.step (v := ?_) (by kernel_rfl) rfl (fun _ _ _ h => h) rfl hS0 (fun w hSw => by (try dsimp only at hSw); go_simp; try with_reducible rfl) ?_; try simp only [List.getElem_toArray, List.getElem_cons_zero, List.getElem_cons_succ, Act.put, List.setIfInBounds_toArray, List.set_cons_zero, List.set_cons_succ])
        refine Takes.nil ?_
        refine wpAnyS_end 1 6 (by kernel_rfl) (by decide) rfl ?_
        simp only [List.toList_toArray, List.drop_succ_cons, List.drop_zero]
        clear hS0 k0 k1 x0 x1 x2 x3 x4 hp0
        obtain ⟨x0, x1, x2, x3, x4⟩ := HX12.out
        have f0 := HR12.out.2 0 (by omega)
        have f1 := HR12.out.2 1 (by omega)
        have f2 := HR12.out.2 2 (by omega)
        have f3 := HR12.out.2 3 (by omega)
        have f4 := HR12.out.2 4 (by omega)
        obtain ⟨r0, r1, r2, r3, r4⟩ := HR12.out.1
        have HF := Lib.hid (And.intro (HR12.out.1.put yb B1 c1) (only_putBs W12 (w.heap.size + 1) yb B1 c1))
        unfold putBs at HF
        have HKZE : Hid (KZ S1 wr B1 yb.q) := Lib.hid hK.out
        have HRW : Hid (w.heap.size + 4 ≤ wr.heap.size) := Lib.hid (by have := hA.out.gl; omega)
        have HOR := Lib.hid hA.out.o
        clear hA hX hK hE
        go_wp2
        obtain ⟨⟨s0, s1, s2, s3, s4⟩, hof⟩ := HF.out
        have hyb := HYB.out
        have hzz : OnlyZ (fun k => k = r) wr W12 := OnlyZ.of_only HST2.out.2 rfl
        have hfin : FindP S w p r n blue es (.returned (bstV yb B1 c1)) ((((((W12.setCell ⟨w.heap.size + 1, 0, none⟩ (.int .i64 yb.k)).setCell ⟨w.heap.size + 1, 1, none⟩ (.int .i64 yb.n)).setCell ⟨w.heap.size + 1, 2, none⟩ (.int .i64 yb.r)).setCell ⟨w.heap.size + 1, 3, none⟩ (.slice B1 yb.q.len c1)).setCell ⟨w.heap.size + 1, 4, none⟩ (.int .i64 yb.c))) := by
          have hS11 : S1 (w.heap.size + 1) := HS1.out.2.2.2.2.2 _ (by omega) (by omega)
          have hz2 := OnlyZ.of_only (S := S1) hof hS11
          have hkz : KZ S1 W12 B1 yb.q := HKZE.out.only (hzz.mono fun k _ e => by rw [e]; exact HS1.out.1)
          refine ⟨B1, c1, es1 ++ [(((n : Int), blue), bstV yb B1 c1, clock1)], clock1 + 1, by rw [hyb], ?_, ?_, ?_, ?_⟩
          · rw [hyb]
            exact (hkz.only hz2).mono fun k _ h => HS1.out.2.2.2.1 k h
          · exact HST2.out.1.only (OnlyZ.of_only (S := fun k => k = w.heap.size + 1) hof rfl) (fun k _ e => by
              refine ⟨by rw [e]; exact hS11, ?_, ?_⟩
              · have := HRL.out.2; omega
              · have := HRL.out.1; omega) fun k _ h => HS1.out.2.2.2.1 k h
          · intro e he
            rcases List.mem_append.1 he with he | he
            · rcases hD.out e he with h | h
              · exact .inl h
              · exact .inr (Nat.le_of_lt h)
            · simp only [List.mem_cons, List.not_mem_nil, or_false] at he
              subst he
              exact .inr (by simp)
          · have h1 := HOR.out.trans HST2.out.2
            exact ⟨hof.os.trans h1.os, hof.tape.trans h1.tape, hof.output.trans h1.output, Nat.le_trans h1.size hof.size, fun k hk hne => (hof.block k (by have := h1.size; omega) (by omega)).trans (h1.block k hk hne)⟩
        refine bodyPost_ret (v := bstV yb B1 c1) (by simp [results, Tryz.results137, go_sem, s0, s1, s2, s3, s4]) rfl hfin
end Go.Proofs.YtmgfaeineklccaaGreat
