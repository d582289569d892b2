import Derived.Test.YtnpkblidlmkagaaKB
import Derived.Test.YtnpkblidlmkagaaV8
import Derived.BigQuiet
import Derived.Deep.Slices
import Derived.ProofKit
import Derived.OpenShut
/- Both caches are the same; what the document fixes of layer 15. -/
set_option linter.unusedSimpArgs false
set_option linter.unusedVariables false
namespace Go.Proofs.Ytnpkblidlmkagaa
open Go Go.RowKit Fl

theorem KV.shape {w : World} {v : Value} {K : List (Int × Int)} (h : KV w v K) : ∃ A c, v = .slice A K.length c ∧ K.length ≤ c ∧ c ≤ 9223372036854775807 := by
  rcases h with ⟨rfl, rfl⟩ | ⟨b, c, rfl, hr⟩
  · exact ⟨none, 0, rfl, by simp, by omega⟩
  · exact ⟨_, c, rfl, hr.le, by have := hr.mx; unfold maxLen at this; omega⟩
theorem KV.vals {w : World} {v : Value} {K : List (Int × Int)} (h : KV w v K) (hl : 0 < K.length) : ∃ b c, v = .slice (some ⟨b, 0, none⟩) K.length c ∧ b < w.heap.size ∧ ∀ i k, K[i]? = some k → w.cell? ⟨b, i * 2, none⟩ = some (.int .i64 k.1) ∧ w.cell? ⟨b, i * 2 + 1, none⟩ = some (.int .i64 k.2) := by
  rcases h with ⟨rfl, rfl⟩ | ⟨b, c, rfl, hr⟩
  · simp at hl
  · exact ⟨b, c, rfl, hr.lt, hr.vals⟩
theorem KV.keep {W w1 : World} {v : Value} {K : List (Int × Int)} (h : KV W v K) (hb : Below W.heap.size W w1) : KV w1 v K := by
  rcases h with h | ⟨b, c, e, hr⟩
  · exact .inl h
  · exact .inr ⟨b, c, e, hr.keep hb⟩
theorem KV.lt {w : World} {v : Value} {K : List (Int × Int)} (h : KV w v K) : ∀ b, KB v b → b < w.heap.size := by
  rintro b ⟨n, c, e⟩
  rcases h with ⟨h, _⟩ | ⟨b', c', h1, h2⟩
  · rw [h] at e; cases e
  · rw [h1] at e; cases e; exact h2.lt
theorem KV.of_block {W w1 : World} {v : Value} {K : List (Int × Int)} (h : KV W v K) (hb : ∀ b, KB v b → w1.heap[b]? = W.heap[b]?) : KV w1 v K := by
  rcases h with h | ⟨b, c, h1, h2⟩
  · exact .inl h
  · exact .inr ⟨b, c, h1, KRow.of_block (W := W) (hb b ⟨_, _, h1⟩) h2⟩

set_option maxRecDepth 100000 in
set_option maxHeartbeats 2000000 in
theorem same_any (p r clock q : Nat) (M M' F D : Int) (K : List (Int × Int)) (kv v : Value) (es : List ((Int × Int) × Value × Nat)) (w : World) (h : CA w p M K F D kv r es clock) (hr : RA w q M' K.reverse F D v) :
    Calls Try.prog 72 #[.pointer (some ⟨p, 0, none⟩), .pointer (some ⟨q, 0, none⟩)] w fun z w' => z = .returned (.bool true) ∧ Below w.heap.size w w' := by
  have hlen := h.len
  obtain ⟨LA, lc, hv, hl1, hl2⟩ := hr.ls.shape
  subst hv
  rw [List.length_reverse] at hl1
  have hq : q < w.heap.size := (Array.getElem?_eq_some_iff.1 hr.obj).1
  have HC := Lib.hid h
  have HR := Lib.hid hr
  have HK := Lib.hid (kept_any p r clock M F D K kv es w h)
  clear h hr
  go_enter Try.func72, Try.ntmps72
  go_wp2_with fail
  refine HK.out.mono ?_
  rintro z w1 ⟨v', rfl, hkv, hkb, hb1⟩
  obtain ⟨A', c', rfl, hc1, hc2⟩ := hkv.shape
  have HKV := Lib.hid hkv
  have HR1 := Lib.hid (HR.out.keep hb1)
  have HC1 := Lib.hid (HC.out.keep hb1)
  have HB1 := Lib.hid hb1
  obtain ⟨⟨c0, c1, c2, c3⟩, g0, g1, g2, g3⟩ := four HR1.out.obj
  clear hkv hb1 hkb HK
  rw [List.length_reverse] at c1
  go_wp2_with fail
  go_loopw [6, 7, 22] (fun a b i wr => ∃ k : Nat, k ≤ K.length ∧ i = .int .i64 k ∧ Hid (KV wr (.slice A' K.length c') K) ∧ Hid (Below w1.heap.size w1 wr)) (fun _ _ i _ => K.length - (intOf i).toNat)
  case atStart => exact ⟨0, by omega, rfl, HKV, Lib.hid (Below.refl _ w1)⟩
  case round =>
    obtain ⟨k, hk, rfl, hkv, hb⟩ := hrel
    clear HKV c0 c1 c2 c3 g0 g1 g2 g3
    have hra := HR1.out.keep hb.out
    obtain ⟨⟨c0, c1, c2, c3⟩, g0, g1, g2, g3⟩ := four hra.obj
    rw [List.length_reverse] at c1
    by_cases hlt : k < K.length
    · have hki : (k : Int) < K.length := by omega
      obtain ⟨⟨x1, x2⟩, hx⟩ : ∃ x, K[k]? = some x := ⟨_, List.getElem?_eq_getElem hlt⟩
      obtain ⟨b, c'', e, hbl, hvals⟩ := hkv.out.vals (by omega)
      cases e
      obtain ⟨y0, y1⟩ := hvals k _ hx
      obtain ⟨b', o', c3', e, hb1', hb2', hbl', hvals'⟩ := hra.ls.vals (by rw [List.length_reverse]; omega)
      rw [List.length_reverse] at e
      cases e
      have hx' : K.reverse[K.length - 1 - k]? = some (x1, x2) := by
        rw [List.getElem?_reverse (by omega), show K.length - 1 - (K.length - 1 - k) = k by omega]; exact hx
      obtain ⟨z0, z1⟩ := hvals' _ _ hx'
      have hsz := hb.out.size
      have hN : Hid (KV (wr.alloc (.cells #[.int .i64 x1, .int .i64 x2] 89)).drew (.slice (some ⟨b, 0, none⟩) K.length c') K) := Lib.hid (hkv.out.keep (((Below.refl _ wr).alloc (Nat.le_refl _) _).drew))
      have hNB : Hid (Below w1.heap.size w1 (wr.alloc (.cells #[.int .i64 x1, .int .i64 x2] 89)).drew) := Lib.hid ((hb.out.alloc hsz _).drew)
      obtain ⟨m, hm⟩ : ∃ m, m = K.length - 1 - k := ⟨_, rfl⟩
      rw [← hm] at z0 z1
      have hmi : (K.length : Int) - 1 - k = m := by omega
      have hm1 : (m : Int) < K.length := by omega
      have w1' : wrap64 ((K.length : Int) - 1) = (K.length : Int) - 1 := by unfold wrap64; omega
      have w2' : wrap64 ((K.length : Int) - 1 - k) = m := by rw [hmi]; unfold wrap64; omega
      have w1'' : IntKind.i64.wrap ((K.length : Int) - 1) = (K.length : Int) - 1 := by rw [IntKind.wrap_i64]; omega
      have w2'' : IntKind.i64.wrap ((K.length : Int) - 1 - k) = m := by rw [hmi, IntKind.wrap_i64]; omega
      have hqw : q < wr.heap.size := (Array.getElem?_eq_some_iff.1 hra.obj).1
      clear hra hvals hvals' hx hx' hm
      go_upto_region 7 with fail
      go_region
      go_wp2_with fail
      exact ⟨⟨k + 1, by omega, by go_num, hN, hNB⟩, by simp [intOf]; omega⟩
    · obtain rfl : k = K.length := by omega
      have HCr := Lib.hid (HC1.out.keep hb.out)
      have HT := Lib.hid (counts_any p r clock M F D K kv es wr HCr.out)
      clear hra
      go_wp2_with fail
      refine HT.out.mono ?_
      rintro z w2 ⟨rfl, rfl⟩
      go_wp2_with fail
      go_ret
      exact ⟨rfl, (HB1.out.trans (hb.out.mono HB1.out.size)).drew⟩

theorem nC_nought (n : Int) : nC n 0 = (oneW, 0) ∧ nS n 0 = (0, 0) := by
  have h : nearF 0 n = some ((oneW, 0), (0, 0)) := by unfold nearF; rw [if_pos rfl]
  exact ⟨by unfold nC; rw [h]; rfl, by unfold nS; rw [h]; rfl⟩
theorem tu14 : tuC 1 4 = 0 ∧ tuS 1 4 = oneW := by
  have h1 : exC 1 4 = (0, 0) := by unfold exC; rw [oct14.1, oct14.2, (nC_nought 4).1, (nC_nought 4).2]; kernel_rfl
  have h2 : exS 1 4 = (oneW, 0) := by unfold exS; rw [oct14.1, oct14.2, (nC_nought 4).1, (nC_nought 4).2]; kernel_rfl
  have e1 : fadd 0 0 = some 0 := by kernel_rfl
  have e2 : fadd oneW 0 = some oneW := by kernel_rfl
  exact ⟨by unfold tuC; rw [h1]; show (fadd 0 0).getD 0 = _; rw [e1]; rfl, by unfold tuS; rw [h2]; show (fadd oneW 0).getD 0 = _; rw [e2]; rfl⟩

end Go.Proofs.Ytnpkblidlmkagaa

/- What the document fixes of layer 15. -/
set_option linter.unusedSimpArgs false
set_option linter.unusedVariables false
namespace Go.Proofs.Ytnpkblidlmkagaa
open Go Go.RowKit Fl

def wk : Nat → St
  | 0 => ([], 0, 0)
  | 1 => ([(4, 1)], 0, 1)
  | 2 => ([(6, 1), (4, 1)], 0, 2)
  | 3 => ([(4, 1), (6, 1)], 1, 2)
  | _ => ([(3, -1), (4, 1)], 1, 3)
def wkA : Nat → Int × Int
  | 0 => (4, 1)
  | 1 => (6, 1)
  | 2 => (4, 1)
  | _ => (3, -1)
theorem wk_step : ∀ k : Nat, k < 4 → askK 10 (wk k) (wkA k).1 (wkA k).2 = (0, wk (k + 1))
  | 0, _ => by
    have h := cutK_stop 10 4 [] (by simp [sumN])
    unfold askK
    rw [if_neg (by decide), if_neg (by decide), if_neg (by decide), if_neg (by decide)]
    show ((0 : Int), ((4 : Int), (1 : Int)) :: cutK 10 4 [], _) = _
    rw [h]; rfl
  | 1, _ => by
    have h := cutK_stop 10 6 [(4, 1)] (by simp [sumN])
    unfold askK
    rw [if_neg (by decide), if_neg (by decide), if_neg (by decide), if_neg (by decide)]
    show ((0 : Int), ((6 : Int), (1 : Int)) :: cutK 10 6 [(4, 1)], _) = _
    rw [h]; rfl
  | 2, _ => by decide
  | 3, _ => by
    have h1 := cutK_append 10 3 [(4, 1)] (6, 1) (by simp [sumN])
    have h2 := cutK_stop 10 3 [(4, 1)] (by simp [sumN])
    unfold askK
    rw [if_neg (by decide), if_neg (by decide), if_neg (by decide), if_neg (by decide)]
    show ((0 : Int), ((3 : Int), (-1 : Int)) :: cutK 10 3 ([(4, 1)] ++ [(6, 1)]), _) = _
    rw [h1, h2]; rfl
theorem wk_last : (askK 10 (wk 4) 4 1).1 = 0 := by decide
theorem wk_c (k : Nat) : 0 ≤ (wk k).2.1 ∧ (wk k).2.1 ≤ 3 ∧ 0 ≤ (wk k).2.2 ∧ (wk k).2.2 ≤ 3 := by
  rcases k with _ | _ | _ | _ | k <;> simp [wk]

/-- A cache of a law's own, of blocks from base on. -/
def Own15 (base : Nat) (w : World) (p r : Nat) (M : Int) (σ : St) : Prop := base ≤ p ∧ base ≤ r ∧ ∃ kv es clock, CA w p M σ.1 σ.2.1 σ.2.2 kv r es clock ∧ ∀ b, KB kv b → base ≤ b

theorem Own15.keep {base : Nat} {w w1 : World} {p r : Nat} {M : Int} {σ : St} (h : Own15 base w p r M σ) (hb : Below w.heap.size w w1) : Own15 base w1 p r M σ := by
  obtain ⟨h1, h2, kv, es, clock, h3, h4⟩ := h
  exact ⟨h1, h2, kv, es, clock, h3.keep hb, h4⟩
theorem Own15.drew {base : Nat} {w : World} {p r : Nat} {M : Int} {σ : St} (h : Own15 base w p r M σ) : Own15 base w.drew p r M σ := by
  obtain ⟨h1, h2, kv, es, clock, h3, h4⟩ := h
  exact ⟨h1, h2, kv, es, clock, h3.drew, h4⟩

/-- What Table of a law's own cache leaves: blocks of other kinds stand; a table is a new block that is not the cache's. -/
theorem Own15.table {base : Nat} {w : World} {p r : Nat} {M : Int} {σ : St} (h : Own15 base w p r M σ) (n s : Int) (f0 : 0 ≤ σ.2.1) (f1 : σ.2.1 < 9223372036854775807) (d0 : 0 ≤ σ.2.2) (d1 : σ.2.2 < 9223372036854775807) (hbs : base ≤ w.heap.size) :
    Calls Try.prog 67 #[.pointer (some ⟨p, 0, none⟩), .int .i64 n, .int .i64 s] w fun z w' => ∃ (tv : Value), z = .returned (.tuple #[tv, .int .i64 (askK M σ n s).1]) ∧ Own15 base w' p r M (askK M σ n s).2 ∧ Below base w w' ∧ (∀ (b : Nat) (cur : Array Value) (t : TypeId) (sp : Nat × Nat), w.heap[b]? = some (Obj.cells cur t sp) → t ≠ 120 → t ≠ 89 → w'.heap[b]? = w.heap[b]?) ∧
      (((askK M σ n s).1 ≠ 0 ∧ tv = .slice none 0 0) ∨ ((askK M σ n s).1 = 0 ∧ ∃ b c m : Nat, n = m ∧ 1 ≤ m ∧ m ≤ 32768 ∧ tv = .slice (some ⟨b, 0, none⟩) m c ∧ w.heap.size ≤ b ∧ Tab w' b m s ∧ (s = 1 ∨ s = -1) ∧ ∀ w2, OnlyB b w' w2 → Own15 base w2 p r M (askK M σ n s).2)) := by
  obtain ⟨h1, h2, kv, es, clock, h3, h4⟩ := h
  refine (table_any p r clock M σ.2.1 σ.2.2 σ.1 kv es w h3 n s f0 f1 d0 d1).mono ?_
  rintro z w' ⟨σ', e, kv', es', clock', tv, ha, rfl, g1, g2, g3, g4⟩
  have ha' : askK M σ n s = (e, σ') := ha
  rw [ha']
  have hk' : ∀ b, KB kv' b → base ≤ b := fun b hb => by
    rcases g3 b hb with h | h
    · exact h4 b h
    · omega
  refine ⟨tv, rfl, ⟨h1, h2, kv', es', clock', g1, hk'⟩, ⟨g2.os, g2.tape, g2.output, g2.size, fun b hb => g2.block b (by omega) ?_⟩, fun b cur t sp hb t1 t2 => g2.block b (Array.getElem?_eq_some_iff.1 hb).1 (h3.other hb t1 t2), ?_⟩
  · rintro (e | e | e)
    · omega
    · omega
    · have := h4 b e; omega
  · rcases g4 with ⟨he, ht⟩ | ⟨he, b, c, m, hn, m1, m2, ht, hb, hT, hkb, hnt, hs⟩
    · exact .inl ⟨he, ht⟩
    · refine .inr ⟨he, b, c, m, hn, m1, m2, ht, hb, hT, hs, fun w2 ho => ⟨h1, h2, kv', es', clock', ?_, hk'⟩⟩
      have hbp : b ≠ p := by
        have := (Array.getElem?_eq_some_iff.1 h3.obj).1; omega
      have hbr : b ≠ r := by
        have := (Array.getElem?_eq_some_iff.1 h3.mp).1; omega
      refine g1.of_blocks (ho.block p (Array.getElem?_eq_some_iff.1 g1.obj).1 (fun e => hbp e.symm)) (ho.block r (Array.getElem?_eq_some_iff.1 g1.mp).1 (fun e => hbr e.symm)) (fun b' hb' => ho.block b' (g1.kept.lt b' hb') (fun e => hkb (e ▸ hb'))) (fun k v hv b' hb' => ho.block b' (g1.tlt hv hb') (fun e => hnt k v hv (e ▸ hb')))

/-- A new cache. -/
theorem Own15.made (m : Int) (w : World) : Calls Try.prog 64 #[.int .i64 m] w fun z w' => ∃ p r, z = .returned (.pointer (some ⟨p, 0, none⟩)) ∧ Own15 w.heap.size w' p r (mostM m) ([], 0, 0) ∧ Below w.heap.size w w' := by
  refine (newC m w).mono ?_
  rintro z w' ⟨p, r, rfl, h1, h2, h3, h4⟩
  exact ⟨p, r, rfl, ⟨h1, h2, _, _, _, h3, by rintro b ⟨n, c, e⟩; cases e⟩, h4⟩

abbrev row15 : Obj := .cells #[.int .i64 4, .int .i64 1, .int .i64 6, .int .i64 1, .int .i64 4, .int .i64 1, .int .i64 3, .int .i64 (-1)] 74
theorem row15_cells {w : World} {b : Nat} (h : w.heap[b]? = some row15) : ∀ k : Nat, k < 4 → w.cell? ⟨b, k * 2, none⟩ = some (.int .i64 (wkA k).1) ∧ w.cell? ⟨b, k * 2 + 1, none⟩ = some (.int .i64 (wkA k).2)
  | 0, _ => by simp [World.cell?, h, wkA]
  | 1, _ => by simp [World.cell?, h, wkA]
  | 2, _ => by simp [World.cell?, h, wkA]
  | 3, _ => by simp [World.cell?, h, wkA]

theorem Own15.kept {base : Nat} {w : World} {p r : Nat} {M : Int} {σ : St} (h : Own15 base w p r M σ) : Calls Try.prog 68 #[.pointer (some ⟨p, 0, none⟩)] w fun z w' => ∃ v', z = .returned v' ∧ KV w' v' σ.1 ∧ (∀ b, KB v' b → w.heap.size ≤ b) ∧ Below w.heap.size w w' := by
  obtain ⟨h1, h2, kv, es, clock, h3, h4⟩ := h
  exact kept_any p r clock M σ.2.1 σ.2.2 σ.1 kv es w h3

set_option maxRecDepth 100000 in
set_option maxHeartbeats 4000000 in
theorem wakes15_any (w : World) : Calls Try.prog 65 #[] w fun z w' => z = .returned (.bool true) ∧ Below w.heap.size w w' := by
  have H0 := Lib.hid (Own15.made 10 w)
  go_enter Try.func65, Try.ntmps65
  go_wp2_with fail
  refine H0.out.mono ?_
  rintro z w1 ⟨p, r, rfl, ho, hb⟩
  have HO := Lib.hid (ho.keep ((Below.refl _ w1).alloc (Nat.le_refl _) row15))
  have hs1 := hb.size
  have HB := Lib.hid (hb.alloc hs1 row15)
  have HR := Lib.hid ((MapKept.heap_alloc w1 row15).1)
  rw [show mostM 10 = 10 by decide] at HO
  clear ho hb H0
  go_wp2_with fail
  go_loopw [3, 14] (fun b i wr => ∃ k : Nat, k ≤ 4 ∧ i = .int .i64 k ∧ Hid (Own15 w.heap.size wr p r 10 (wk k)) ∧ Hid (wr.heap[w1.heap.size]? = some row15) ∧ Hid (Below w.heap.size w wr)) (fun _ i _ => 4 - (intOf i).toNat)
  case atStart => exact ⟨0, by omega, rfl, HO, HR, HB⟩
  case round =>
    obtain ⟨k, hk, rfl, ho, hr, hb⟩ := hrel
    clear HO HR HB
    have hwr := hb.out.size
    by_cases hlt : k < 4
    · obtain ⟨x0, x1⟩ := row15_cells hr.out k hlt
      have hki : (k : Int) < 4 := by omega
      have hrl := (Array.getElem?_eq_some_iff.1 hr.out).1
      obtain ⟨a, s, hA⟩ : ∃ a s, wkA k = (a, s) := ⟨_, _, rfl⟩
      rw [hA] at x0 x1
      have HO2 := Lib.hid (ho.out.keep ((Below.refl _ wr).alloc (Nat.le_refl _) (.cells #[.int .i64 a, .int .i64 s] 74)))
      have hc := wk_c k
      have HT := Lib.hid (HO2.out.table a s (by omega) (by omega) (by omega) (by omega) (by simp; omega))
      have hst := wk_step k hlt
      rw [hA] at hst
      rw [hst] at HT
      have HW : Hid ((wr.alloc (.cells #[.int .i64 a, .int .i64 s] 74)).heap[w1.heap.size]? = some row15) := Lib.hid (((MapKept.heap_alloc wr _).2 _ hrl).trans hr.out)
      have HB2 := Lib.hid (hb.out.alloc hwr (.cells #[.int .i64 a, .int .i64 s] 74))
      clear hst hA
      go_wp2_with fail
      refine HT.out.mono ?_
      rintro z w2 ⟨tv, rfl, g1, g2, g3, -⟩
      have G1 := Lib.hid g1
      have G2 := Lib.hid (HB2.out.trans g2)
      have G3 := Lib.hid ((g3 _ _ _ _ HW.out (by decide) (by decide)).trans HW.out)
      clear g1 g2 g3
      go_wp2_with fail
      exact ⟨⟨k + 1, by omega, by go_num, G1, G3, G2⟩, by simp [intOf]; omega⟩
    · obtain rfl : k = 4 := by omega
      obtain ⟨h1, h2, kv, es, clock, ca, hkb⟩ := ho.out
      have ca' : CA wr p 10 [(3, -1), (4, 1)] 1 3 kv r es clock := ca
      have HK := Lib.hid (kept_any p r clock 10 1 3 _ kv es wr ca')
      have HCA := Lib.hid ca'
      clear ca ca' ho
      go_wp2_with fail
      refine HK.out.mono ?_
      rintro z w2 ⟨v', rfl, g1, g2, g3⟩
      have hv2 := g1.vals (by decide)
      obtain ⟨lb, lc, rfl, hlb, -⟩ := hv2
      have hs2 := g3.size
      have hln := g2 lb ⟨_, _, rfl⟩
      have hT := table_any p r clock 10 1 3 [(3, -1), (4, 1)] kv es w2 (HCA.out.keep g3) 4 1 (by decide) (by decide) (by decide) (by decide)
      have HT := Lib.hid hT
      have GB := Lib.hid (hb.out.trans (g3.mono hwr))
      have GK := Lib.hid g1
      clear g1 g2 g3 HK hT
      go_wp2_with fail
      refine HT.out.mono ?_
      rintro z w3 ⟨σ, e, kv', es', clock', tv, ha, rfl, k1, k2, k3, k4⟩
      have he : e = 0 := by
        have : (askK 10 ([(3, -1), (4, 1)], 1, 3) 4 1).1 = 0 := by decide
        rw [ha] at this; exact this
      subst he
      rcases k4 with ⟨k4, -⟩ | ⟨-, b, c, m, hm, m1, m2, rfl, hb3, hT, -, -, -⟩
      · exact absurd rfl k4
      obtain rfl : m = 4 := by omega
      have hpl := (Array.getElem?_eq_some_iff.1 HCA.out.obj).1
      have hrl := (Array.getElem?_eq_some_iff.1 HCA.out.mp).1
      have nc : ∀ q, wr.heap.size ≤ q → ¬ Core p r kv q := by
        rintro q hq (e | e | e)
        · omega
        · omega
        · have := HCA.out.kept.lt q e; omega
      have hkv3 : KV w3 (.slice (some ⟨lb, 0, none⟩) [((3 : Int), (-1 : Int)), (4, 1)].length lc) [(3, -1), (4, 1)] := GK.out.of_block (fun q hq => by
        obtain ⟨n', c', e⟩ := hq
        cases e
        exact k2.block lb hlb (nc lb hln))
      obtain ⟨lb', lc', e, -, hvals⟩ := hkv3.vals (by decide)
      cases e
      obtain ⟨x0, x1⟩ := hvals 0 _ rfl
      obtain ⟨x2, x3⟩ := hvals 1 _ rfl
      obtain ⟨⟨y0, -⟩, y1, -⟩ := hT 1 (by decide)
      have e1 : tuC (1 * ((1 : Nat) : Int)) ((4 : Nat) : Int) = 0 := tu14.1
      have e2 : tuS (1 * ((1 : Nat) : Int)) ((4 : Nat) : Int) = oneW := tu14.2
      have y0' : w3.cell? ⟨b, 2, none⟩ = some (.float .f64 0) := by rw [← e1]; exact y0
      have y1' : w3.cell? ⟨b, 3, none⟩ = some (.float .f64 oneW) := by rw [← e2]; exact y1
      have x0' : w3.cell? ⟨lb, 0, none⟩ = some (.int .i64 3) := x0
      have x1' : w3.cell? ⟨lb, 1, none⟩ = some (.int .i64 (-1)) := x1
      have x2' : w3.cell? ⟨lb, 2, none⟩ = some (.int .i64 4) := x2
      have x3' : w3.cell? ⟨lb, 3, none⟩ = some (.int .i64 1) := x3
      clear y0 y1 x0 x1 x2 x3 hm m1 m2
      have hEnd : Below w.heap.size w w3 := by
        refine GB.out.trans ⟨k2.os, k2.tape, k2.output, k2.size, fun q hq => k2.block q (by omega) ?_⟩
        rintro (e | e | e)
        · omega
        · omega
        · have := hkb q e; omega
      have HE := Lib.hid hEnd
      have o1 : (FloatKind.f64.format.order 0 0 == some Ordering.eq) = true := by kernel_rfl
      have o2 : (FloatKind.f64.format.order oneW oneW == some Ordering.eq) = true := by kernel_rfl
      clear hvals hkv3 hT k1 k2 k3 ha nc hEnd e1 e2 HT GK GB HCA
      simp only [List.length_cons, List.length_nil, Nat.zero_mul, Nat.zero_add, Nat.one_mul] at *
      go_wp2_with fail
      go_ret
      exact ⟨rfl, HE.out⟩

end Go.Proofs.Ytnpkblidlmkagaa

/- Arguments of pairs; the walk of the law CacheKeeps. -/
set_option linter.unusedSimpArgs false
set_option linter.unusedVariables false
namespace Go.Proofs.Ytnpkblidlmkagaa
open Go Go.ChangeShapes Go.WideShapes Go.ChangeAt Go.RowKit Fl

/-- The slice at A reads as the pairs f 0, .., f (n - 1). -/
def PairsAt (w : World) (A : Option Addr) (n : Nat) (f : Nat → Int × Int) : Prop := ∀ i, i < n → ∃ b o, A = some ⟨b, o, none⟩ ∧ w.cell? ⟨b, o + i * 2, none⟩ = some (.int .i64 (f i).1) ∧ w.cell? ⟨b, o + i * 2 + 1, none⟩ = some (.int .i64 (f i).2)
theorem PairsAt.keep {W w1 : World} {A : Option Addr} {n : Nat} {f : Nat → Int × Int} (hb : Below W.heap.size W w1) (h : PairsAt W A n f) : PairsAt w1 A n f := fun i hi => by
  obtain ⟨b, o, e, h1, h2⟩ := h i hi
  exact ⟨b, o, e, keep_cell hb h1, keep_cell hb h2⟩
theorem PairsAt.le {w : World} {A : Option Addr} {n m : Nat} {f : Nat → Int × Int} (h : PairsAt w A n f) (hm : m ≤ n) : PairsAt w A m f := fun i hi => h i (by omega)

theorem cells74 : Try.prog.cellsOf 74 = 2 := by kernel_rfl
theorem cells3 : Try.prog.cellsOf 3 = 1 := by kernel_rfl

set_option maxRecDepth 100000 in
theorem trod74 {H : Type} {enc : TypeId × Value → H} {W : World} {base n : Nat} {sp : Nat → Bool} {hd : Bool} {cs : List Value} {x : DataW H × List MemPlace} (hl : cs.length = 2) (h : DataW.trod enc Try.prog W base sp hd n 74 cs = some x) : ∃ a b : Int, cs = [.int .i64 a, .int .i64 b] := by
  obtain ⟨c0, c1, rfl⟩ : ∃ a b, cs = [a, b] := by
    match cs, hl with
    | [a, b], _ => exact ⟨a, b, rfl⟩
  obtain ⟨xs, m, rfl, hx, _, hn, hel⟩ := DataW.trod_array Try.underlying74 h
  have h0 := hel 0 (by omega)
  have h1 := hel 1 (by omega)
  rw [cells3] at h0 h1
  obtain ⟨y0, y1, rfl⟩ : ∃ a b, xs = [a, b] := by
    match xs, hn with
    | [a, b], _ => exact ⟨a, b, rfl⟩
  obtain ⟨x0, e0, _, _⟩ := DataW.trod_int Try.underlying3 h0
  obtain ⟨x1, e1, _, _⟩ := DataW.trod_int Try.underlying3 h1
  simp at e0 e1
  subst e0 e1
  exact ⟨x0, x1, rfl⟩

set_option maxRecDepth 100000 in
theorem shape_pair74 {H : Type} {enc : TypeId × Value → H} {W : World} {base : Nat} {v : Value} {d : DataW H} {p : List MemPlace} (hval : Value.okWide Try.prog W .any base 74 v)
    (h : DataW.Trod enc Try.prog W 0 (fun _ => true) true 74 v d p) : ∃ x y : Int, v = .agg #[.int .i64 x, .int .i64 y] := by
  obtain ⟨cs, rfl, hsz, _⟩ : ∃ cs, v = .agg cs ∧ cs.size = Try.prog.cellsOf 74 ∧ Row.okWide Try.prog W .any base 74 cs := by
    simpa [Value.okWide, Try.underlying74] using hval
  rw [cells74] at hsz
  obtain ⟨l⟩ := cs
  obtain ⟨fuel, hf⟩ := h
  simp only [Value.cells] at hf
  obtain ⟨a, b, e⟩ := trod74 hsz hf
  simp only at e
  exact ⟨a, b, by rw [e]⟩

set_option maxRecDepth 100000 in
theorem shape_pairs {H : Type} {enc : TypeId × Value → H} {W : World} {base : Nat} {v : Value} {d : DataW H} {p : List MemPlace} (hval : Value.okWide Try.prog W .any base 73 v)
    (h : DataW.Trod enc Try.prog W 0 (fun _ => true) true 73 v d p) : ∃ A n c f, v = .slice A n c ∧ PairsAt W A n f ∧ n ≤ 9223372036854775807 ∧ (A = none → c = 0) ∧ n ≤ c ∧ c ≤ 9223372036854775807 := by
  obtain ⟨a0, len, cap, rfl⟩ := okWide_slice Try.underlying73 hval
  obtain ⟨fuel, hf⟩ := h
  rcases Deep.open_slice Try.underlying73 hf with ⟨hcs, hx⟩ | ⟨a, len', cap', m, n, D, Pl, hcs, _, hl, hm, hmm, hx, hel⟩
  · simp [Value.cells] at hcs
    obtain ⟨rfl, rfl, rfl⟩ := hcs
    exact ⟨_, _, _, fun _ => (0, 0), rfl, fun i hi => by omega, by omega, fun _ => rfl, by omega, by omega⟩
  · simp [Value.cells] at hcs
    obtain ⟨rfl, rfl, rfl⟩ := hcs
    have hlm : len ≤ m := by rw [hmm]; split <;> omega
    have each : ∀ i, i < len → ∃ q : Int × Int, W.cell? (a.add (i * 2)) = some (.int .i64 q.1) ∧ W.cell? (a.add (i * 2 + 1)) = some (.int .i64 q.2) := by
      intro i hi
      obtain ⟨cs', h1, h2⟩ := hel i (by omega)
      rw [cells74] at h1
      obtain ⟨_, hlen, hcell⟩ := World.cells?_some h1
      obtain ⟨x, y, rfl⟩ := trod74 hlen h2
      have e0 := hcell 0 (by omega)
      have e1 := hcell 1 (by omega)
      rw [Deep.add_add] at e0 e1
      exact ⟨(x, y), by simpa using e0, by simpa using e1⟩
    obtain ⟨q, hq⟩ := Deep.choose_lt each
    refine ⟨_, _, _, q, rfl, ?_, by unfold maxLen at hm; omega, (fun e => by cases e), by omega, by unfold maxLen at hm; omega⟩
    intro i hi
    obtain ⟨b, off, spot⟩ := a
    have hspot : spot = none := by simpa [Addr.add] using World.cell?_spot (hq 0 (by omega)).1
    subst hspot
    refine ⟨b, off, rfl, ?_⟩
    have := hq i hi
    rw [add_plain, add_plain] at this
    exact this

end Go.Proofs.Ytnpkblidlmkagaa

/- How often each key was met: a map with numbers. -/
set_option linter.unusedSimpArgs false
set_option linter.unusedVariables false
namespace Go.Proofs.Ytnpkblidlmkagaa
open Go Go.RowKit Fl

theorem run_zero3 (w : World) : (zeroValue 3).run Try.prog w = .ok (.int .i64 0) w := by go_simp

theorem run_look87 (r clock : Nat) (k : Int × Int) (es : List ((Int × Int) × Value × Nat)) (w : World) (h : w.heap[r]? = some (.map (es.map ent).toArray clock)) :
    (Instr.lookup 87 (.map (some r)) (keyV k) false).run Try.prog w = .ok (match fidx k es 0 with | some (_, v) => v | none => .int .i64 0) w := by
  unfold Instr.lookup
  have hf := run_findKey89 k es w
  simp only [Sem.run_bind, run_underlying Try.underlying87, Result.andThen_ok, MapKept.run_getObj_map h, Sem.run_pure, run_check89]
  simp only [hf, Result.andThen_ok]
  cases hk : fidx k es 0 with
  | none => simp [run_zero3]
  | some q => simp

theorem run_entry87 (r clock : Nat) (k : Int × Int) (es : List ((Int × Int) × Value × Nat)) (w : World) (h : w.heap[r]? = some (.map (es.map ent).toArray clock)) (hk : fidx k es 0 = none) :
    (Instr.mapEntry 87 (.map (some r)) (keyV k)).run Try.prog w = .ok (.tuple #[.int .i64 0, .int .i64 clock]) { w with heap := w.heap.setIfInBounds r (.map ((es ++ [(k, Value.int .i64 0, clock)]).map ent).toArray (clock + 1)) } := by
  unfold Instr.mapEntry
  have hf := run_findKey89 k es w
  simp [Sem.run_bind, run_underlying Try.underlying87, Result.andThen_ok, MapKept.run_getObj_map h, run_check89, hf, hk, run_zero3, MapKept.run_setObj_map _ h, goInt]

/-- The first j keys, each once. -/
def metE (K : List (Int × Int)) (j : Nat) : List ((Int × Int) × Value × Nat) := (List.range j).map fun i => (K.getD i (0, 0), Value.int .i64 1, i)
theorem metE_succ (K : List (Int × Int)) (j : Nat) (k : Int × Int) (h : K[j]? = some k) : metE K (j + 1) = metE K j ++ [(k, Value.int .i64 1, j)] := by
  unfold metE
  rw [List.range_succ, List.map_append]
  simp [List.getD, h]
theorem metE_keys (K : List (Int × Int)) (j : Nat) (hj : j ≤ K.length) : (metE K j).map (·.1) = K.take j := by
  induction j with
  | zero => rfl
  | succ j ih =>
    obtain ⟨k, hk⟩ : ∃ k, K[j]? = some k := ⟨_, List.getElem?_eq_getElem (by omega)⟩
    rw [metE_succ K j k hk, List.map_append, ih (by omega), List.take_add_one, hk]
    rfl

theorem entry_store (r : Nat) (es : List ((Int × Int) × Value × Nat)) (k : Int × Int) (clock : Nat) (w : World) (h : w.heap[r]? = some (.map ((es ++ [(k, Value.int .i64 0, clock)]).map ent).toArray (clock + 1))) (hb : ∀ e ∈ es, e.2.2 < clock) :
    (Instr.entryStore 87 (.map (some r)) (.int .i64 clock) (.int .i64 1)).run Try.prog w = .ok () { w with heap := w.heap.setIfInBounds r (.map ((es ++ [(k, Value.int .i64 1, clock)]).map ent).toArray (clock + 1)) } := by
  unfold Instr.entryStore
  have ha : (asInt (.int .i64 (clock : Int))).run Try.prog w = .ok (clock : Int) w := by simp [asInt, asIntOf]
  have hfi : (((es ++ [(k, Value.int .i64 0, clock)]).map ent).toArray).findIdx? (fun e => (e.born : Int) == (clock : Int)) = some es.length := by
    rw [List.findIdx?_toArray]
    rw [List.map_append, List.findIdx?_append]
    have h1 : (es.map ent).findIdx? (fun e => (e.born : Int) == (clock : Int)) = none := by
      rw [List.findIdx?_eq_none_iff]
      intro e he
      obtain ⟨e', he', rfl⟩ := List.mem_map.1 he
      have := hb e' he'
      simp
      omega
    rw [h1]
    simp [List.findIdx?_cons]
  simp only [Sem.run_bind, Result.andThen_ok, MapKept.run_getObj_map h, Sem.run_pure, ha, hfi, MapKept.run_setObj_map _ h]
  congr 4
  apply Array.ext'
  simp only [Array.toList_modify, List.toList_toArray]
  have hm : ∀ (l : List MapEntry) (e : MapEntry) (f : MapEntry → MapEntry) (n : Nat), n = l.length → (l ++ [e]).modify n f = l ++ [f e] := by
    intro l e f
    induction l with
    | nil => intro n hn; subst hn; rfl
    | cons a l ih => intro n hn; subst hn; simpa using ih _ rfl
  rw [List.map_append, List.map_append]
  exact hm _ _ _ _ (by simp)

theorem fidx_here (k : Int × Int) (es : List ((Int × Int) × Value × Nat)) (v : Value) (b : Nat) (hk : lk k es = none) : ∃ q, fidx k (es ++ [(k, v, b)]) 0 = some q ∧ q.2 = v := by
  have h : lk k (es ++ [(k, v, b)]) = some v := by rw [lk_append, hk, lk_cons, if_pos rfl]; rfl
  unfold lk at h
  cases hf : fidx k (es ++ [(k, v, b)]) 0 with
  | none => rw [hf] at h; cases h
  | some q => rw [hf] at h; simp at h; exact ⟨q, rfl, h⟩

/-- One key more was met. -/
theorem met_step (w : World) (rm j : Nat) (K : List (Int × Int)) (k : Int × Int) (h : w.heap[rm]? = some (.map ((metE K j).map ent).toArray j)) (hj : K[j]? = some k) (hn : K.Nodup) :
    ∃ W2 W3 : World, (∀ w' : World, w'.heap = w.heap → (Instr.lookup 87 (.map (some rm)) (.agg #[.int .i64 k.1, .int .i64 k.2]) false).run Try.prog w' = .ok (.int .i64 0) w') ∧ (Instr.mapEntry 87 (.map (some rm)) (.agg #[.int .i64 k.1, .int .i64 k.2])).run Try.prog w = .ok (.tuple #[.int .i64 0, .int .i64 j]) W2 ∧ (Instr.lookup 87 (.map (some rm)) (.agg #[.int .i64 k.1, .int .i64 k.2]) false).run Try.prog W2 = .ok (.int .i64 0) W2 ∧ (Instr.entryStore 87 (.map (some rm)) (.int .i64 j) (.int .i64 1)).run Try.prog W2 = .ok () W3 ∧
      (Instr.lookup 87 (.map (some rm)) (.agg #[.int .i64 k.1, .int .i64 k.2]) false).run Try.prog W3 = .ok (.int .i64 1) W3 ∧ W3.heap[rm]? = some (.map ((metE K (j + 1)).map ent).toArray (j + 1)) ∧ OnlyB rm w W3 ∧ W3.heap.size = w.heap.size ∧ OnlyB rm w W2 ∧ W2.heap.size = w.heap.size := by
  have hjl : j < K.length := (List.getElem?_eq_some_iff.1 hj).1
  have hl : lk k (metE K j) = none := by
    rw [lk_none, metE_keys K j (by omega)]
    intro hm
    obtain ⟨i, hi⟩ := List.getElem?_of_mem hm
    have hi1 := (List.getElem?_eq_some_iff.1 hi).1
    rw [List.length_take] at hi1
    rw [List.getElem?_take_of_lt (by omega)] at hi
    have e1 := (List.getElem?_eq_some_iff.1 hi).2
    have e2 := (List.getElem?_eq_some_iff.1 hj).2
    have := (List.getElem_inj hn).1 (e1.trans e2.symm)
    omega
  have hf := fidx_none hl
  have l1 : ∀ w' : World, w'.heap = w.heap → (Instr.lookup 87 (.map (some rm)) (keyV k) false).run Try.prog w' = .ok (.int .i64 0) w' := fun w' e => by
    have := run_look87 rm j k _ w' (by rw [e]; exact h)
    rwa [hf] at this
  have h2 := run_entry87 rm j k _ w h hf
  have hs2 := MapKept.heap_set (o' := .map ((metE K j ++ [(k, Value.int .i64 0, j)]).map ent).toArray (j + 1)) h
  have l2 := run_look87 rm (j + 1) k _ { w with heap := w.heap.setIfInBounds rm (.map ((metE K j ++ [(k, Value.int .i64 0, j)]).map ent).toArray (j + 1)) } hs2.1
  obtain ⟨W3, hW3⟩ : ∃ W3 : World, W3 = { w with heap := (w.heap.setIfInBounds rm (.map ((metE K j ++ [(k, Value.int .i64 0, j)]).map ent).toArray (j + 1))).setIfInBounds rm (.map ((metE K j ++ [(k, Value.int .i64 1, j)]).map ent).toArray (j + 1)) } := ⟨_, rfl⟩
  obtain ⟨q, hq, hq2⟩ := fidx_here k (metE K j) (.int .i64 0) j hl
  rw [hq] at l2
  simp only [hq2] at l2
  have h3 := entry_store rm (metE K j) k j { w with heap := w.heap.setIfInBounds rm (.map ((metE K j ++ [(k, Value.int .i64 0, j)]).map ent).toArray (j + 1)) } hs2.1 (by
    intro e he
    unfold metE at he
    obtain ⟨i, hi, rfl⟩ := List.mem_map.1 he
    exact List.mem_range.1 hi)
  have hs3 := MapKept.heap_set (w := { w with heap := w.heap.setIfInBounds rm (.map ((metE K j ++ [(k, Value.int .i64 0, j)]).map ent).toArray (j + 1)) }) (o' := .map ((metE K j ++ [(k, Value.int .i64 1, j)]).map ent).toArray (j + 1)) hs2.1
  have hs3' : W3.heap[rm]? = some (.map ((metE K j ++ [(k, Value.int .i64 1, j)]).map ent).toArray (j + 1)) := by rw [hW3]; exact hs3.1
  refine ⟨_, W3, l1, h2, l2, by rw [hW3]; exact h3, ?_, ?_, ⟨by rw [hW3], by rw [hW3], by rw [hW3], by rw [hW3]; simp, fun b hb hn => by rw [hW3]; exact (hs3.2 b hn).trans (hs2.2 b hn)⟩, by rw [hW3]; simp, ⟨rfl, rfl, rfl, by simp, fun b hb hn => hs2.2 b hn⟩, by simp⟩
  · have l3 := run_look87 rm (j + 1) k _ _ hs3'
    obtain ⟨q, hq, hq2⟩ := fidx_here k (metE K j) (.int .i64 1) j hl
    rw [hq] at l3
    simp only [hq2] at l3
    exact l3
  · rw [metE_succ K j k hj]
    exact hs3'

end Go.Proofs.Ytnpkblidlmkagaa

/- The walk of the law CacheKeeps. -/
set_option linter.unusedSimpArgs false
set_option linter.unusedVariables false
namespace Go.Proofs.Ytnpkblidlmkagaa
open Go Go.RowKit Fl

/-- Both caches, side by side. -/
def Both (base : Nat) (w : World) (p r q : Nat) (M : Int) (σ : St) : Prop := base ≤ p ∧ base ≤ r ∧ base ≤ q ∧ (∃ kv es clock, CA w p M σ.1 σ.2.1 σ.2.2 kv r es clock ∧ ∀ b, KB kv b → base ≤ b) ∧ ∃ v, RA w q M σ.1.reverse σ.2.1 σ.2.2 v ∧ ∀ b, LB v b → base ≤ b

theorem Both.keep {base : Nat} {w w1 : World} {p r q : Nat} {M : Int} {σ : St} (h : Both base w p r q M σ) (hb : Below w.heap.size w w1) : Both base w1 p r q M σ := by
  obtain ⟨h1, h2, h3, ⟨kv, es, clock, h4, h5⟩, v, h6, h7⟩ := h
  exact ⟨h1, h2, h3, ⟨kv, es, clock, h4.keep hb, h5⟩, v, h6.keep hb, h7⟩
theorem Both.same {base : Nat} {w : World} {p r q : Nat} {M : Int} {σ : St} (h : Both base w p r q M σ) : Calls Try.prog 72 #[.pointer (some ⟨p, 0, none⟩), .pointer (some ⟨q, 0, none⟩)] w fun z w' => z = .returned (.bool true) ∧ Below w.heap.size w w' := by
  obtain ⟨h1, h2, h3, ⟨kv, es, clock, h4, h5⟩, v, h6, h7⟩ := h
  exact same_any p r clock q M M σ.2.1 σ.2.2 σ.1 kv v es w h4 h6

/-- Between Table and Ask: the program's cache is a step ahead. -/
def Mid (base : Nat) (w : World) (p r q : Nat) (M : Int) (σ σ' : St) : Prop := base ≤ p ∧ base ≤ r ∧ base ≤ q ∧ (∃ kv es clock, CA w p M σ'.1 σ'.2.1 σ'.2.2 kv r es clock ∧ ∀ b, KB kv b → base ≤ b) ∧ (∃ v, RA w q M σ.1.reverse σ.2.1 σ.2.2 v ∧ ∀ b, LB v b → base ≤ b) ∧ σ.1.Nodup ∧ (∀ k ∈ σ.1, 1 ≤ k.1) ∧ sumN σ.1 ≤ 65536 ∧ σ.1.length ≤ 65536

theorem Both.table {base : Nat} {w : World} {p r q : Nat} {M : Int} {σ : St} (h : Both base w p r q M σ) (n s : Int) (f0 : 0 ≤ σ.2.1) (f1 : σ.2.1 < 9223372036854775807) (d0 : 0 ≤ σ.2.2) (d1 : σ.2.2 < 9223372036854775807) (hbs : base ≤ w.heap.size) :
    Calls Try.prog 67 #[.pointer (some ⟨p, 0, none⟩), .int .i64 n, .int .i64 s] w fun z w' => ∃ (tv : Value), z = .returned (.tuple #[tv, .int .i64 (askK M σ n s).1]) ∧ Mid base w' p r q M σ (askK M σ n s).2 ∧ Below base w w' ∧ (∀ (b : Nat) (cur : Array Value) (t : TypeId) (sp : Nat × Nat), w.heap[b]? = some (Obj.cells cur t sp) → t ≠ 120 → t ≠ 89 → w'.heap[b]? = w.heap[b]?) ∧
      (((askK M σ n s).1 ≠ 0 ∧ tv = .slice none 0 0) ∨ ((askK M σ n s).1 = 0 ∧ ∃ b c m : Nat, n = m ∧ tv = .slice (some ⟨b, 0, none⟩) m c)) := by
  obtain ⟨h1, h2, h3, ⟨kv, es, clock, h4, h5⟩, v, h6, h7⟩ := h
  refine (table_any p r clock M σ.2.1 σ.2.2 σ.1 kv es w h4 n s f0 f1 d0 d1).mono ?_
  rintro z w' ⟨σ', e, kv', es', clock', tv, ha, rfl, g1, g2, g3, g4⟩
  have ha' : askK M σ n s = (e, σ') := ha
  rw [ha']
  have oth : ∀ (b : Nat) (cur : Array Value) (t : TypeId) (sp : Nat × Nat), w.heap[b]? = some (Obj.cells cur t sp) → t ≠ 120 → t ≠ 89 → w'.heap[b]? = w.heap[b]? := fun b cur t sp hb t1 t2 => g2.block b (Array.getElem?_eq_some_iff.1 hb).1 (h4.other hb t1 t2)
  refine ⟨tv, rfl, ⟨h1, h2, h3, ⟨kv', es', clock', g1, fun b hb => ?_⟩, ⟨v, h6.past g2 (fun b cur t sp hb ht => h4.other hb (by rcases ht with rfl | rfl <;> decide) (by rcases ht with rfl | rfl <;> decide)), h7⟩, h4.kn, fun k hk => (h4.ks k hk).1, by have := h4.sm; have := h4.m1; omega, h4.len⟩, ⟨g2.os, g2.tape, g2.output, g2.size, fun b hb => g2.block b (by omega) ?_⟩, oth, ?_⟩
  · rcases g3 b hb with h | h
    · exact h5 b h
    · omega
  · rintro (e | e | e)
    · omega
    · omega
    · have := h5 b e; omega
  · rcases g4 with ⟨he, ht⟩ | ⟨he, b, c, m, hn, m1, m2, ht, hb, hT, hkb, hnt, hs⟩
    · exact .inl ⟨he, ht⟩
    · exact .inr ⟨he, b, c, m, hn, ht⟩

theorem Mid.ask {base : Nat} {w : World} {p r q : Nat} {M : Int} {σ : St} {n s : Int} (h : Mid base w p r q M σ (askK M σ n s).2) (f0 : 0 ≤ σ.2.1) (f1 : σ.2.1 < 9223372036854775807) (d0 : 0 ≤ σ.2.2) (d1 : σ.2.2 < 9223372036854775807) (hbs : base ≤ w.heap.size) :
    Calls Try.prog 73 #[.pointer (some ⟨q, 0, none⟩), .int .i64 n, .int .i64 s] w fun z w' => z = .returned (.int .i64 (askK M σ n s).1) ∧ Both base w' p r q M (askK M σ n s).2 ∧ Below base w w' := by
  obtain ⟨h1, h2, h3, ⟨kv, es, clock, h4, h5⟩, ⟨v, h6, h7⟩, k1, k2, k3, k4⟩ := h
  refine (ask_any q M σ.2.1 σ.2.2 σ.1 v w h6 k1 k2 k3 k4 n s f0 f1 d0 d1).mono ?_
  rintro z w' ⟨σ', e, v', ha, rfl, g1, g2, g3⟩
  have ha' : askK M σ n s = (e, σ') := ha
  rw [ha'] at h4 ⊢
  refine ⟨rfl, ⟨h1, h2, h3, ⟨kv, es, clock, h4.past g2 (fun b cur t sp hb ht => h6.other hb (by rcases ht with rfl | rfl | rfl <;> decide) (by rcases ht with rfl | rfl | rfl <;> decide)) (fun es' clock' hm => ?_), h5⟩, v', g1, fun b hb => ?_⟩, ⟨g2.os, g2.tape, g2.output, g2.size, fun b hb => g2.block b (by omega) ?_⟩⟩
  · rintro (e | e)
    · have h8 := h6.obj; rw [← e, hm] at h8; cases h8
    · obtain ⟨cur2, h8⟩ := h6.ls.typ _ e
      rw [hm] at h8; cases h8
  · rcases g3 b hb with h | h
    · exact h7 b h
    · omega
  · rintro (e | e)
    · omega
    · have := h7 b e; omega

/-- New caches, beside each other. -/
theorem both_made {base : Nat} {w1 w2 : World} {p r q : Nat} {M : Int} {es : List ((Int × Int) × Value × Nat)} {clock : Nat} (h1 : base ≤ p) (h2 : base ≤ r) (h3 : base ≤ q) (h4 : CA w1 p M [] 0 0 (.slice none 0 0) r es clock) (h5 : Below w1.heap.size w1 w2) (h6 : RA w2 q M [] 0 0 (.slice none 0 0)) : Both base w2 p r q M ([], 0, 0) :=
  ⟨h1, h2, h3, ⟨_, _, _, h4.keep h5, by rintro b ⟨n, c, e⟩; cases e⟩, _, h6, by rintro b ⟨o, n, c, e, _⟩; cases e⟩

theorem ask_counts {M : Int} {σ : St} {n s k : Int} (h : 0 ≤ σ.2.1 ∧ σ.2.1 ≤ k ∧ 0 ≤ σ.2.2 ∧ σ.2.2 ≤ k) : 0 ≤ (askK M σ n s).2.2.1 ∧ (askK M σ n s).2.2.1 ≤ k + 1 ∧ 0 ≤ (askK M σ n s).2.2.2 ∧ (askK M σ n s).2.2.2 ≤ k + 1 := by
  obtain ⟨K, F, D⟩ := σ
  have := askK_grows M K F D n s
  simp only at h
  omega

set_option maxRecDepth 100000 in
set_option maxHeartbeats 4000000 in
theorem keeps15_any (most : Int) (A : Option Addr) (n c : Nat) (f : Nat → Int × Int) (w : World) (hA : PairsAt w A n f) (hn : n ≤ 9223372036854775807) (hAc : A = none → c = 0) (hnc : n ≤ c) (hc : c ≤ 9223372036854775807) :
    Calls Try.prog 23 #[.int .i64 most, .slice A n c] w fun z w' => z = .returned (.bool true) ∧ Below w.heap.size w w' := by
  have H0 := Lib.hid (newC most w)
  have H1 := Lib.hid (fun w => refNew_any most w)
  have H2 := Lib.hid (fun w => wakes15_any w)
  have HA := Lib.hid hA
  clear hA
  go_enter Try.func23, Try.ntmps23
  go_wp2_with fail
  refine H0.out.mono ?_
  rintro z w1 ⟨p, r, rfl, a1, a2, a3, a4⟩
  have G1 := Lib.hid (And.intro a1 (And.intro a2 (And.intro a3 a4)))
  clear a1 a2 a3 a4
  go_wp2_with fail
  refine (H1.out w1).mono ?_
  rintro z w2 ⟨q, rfl, b1, b2, b3⟩
  have hw1 := G1.out.2.2.2.size
  have B := Lib.hid (both_made (base := w.heap.size) G1.out.1 G1.out.2.1 (by omega) G1.out.2.2.1 b3 b2)
  have BW := Lib.hid (G1.out.2.2.2.trans (b3.mono hw1))
  clear b1 b2 b3 G1
  go_wp2_with fail
  refine (H2.out w2).mono ?_
  rintro z w3 ⟨rfl, hb⟩
  have B3 := Lib.hid (B.out.keep hb)
  have hw2 := BW.out.size
  have BW3 := Lib.hid (BW.out.trans (hb.mono hw2))
  clear B BW hb
  go_wp2_with fail
  refine B3.out.same.mono ?_
  rintro z w4 ⟨rfl, hb⟩
  have B4 := Lib.hid (B3.out.keep hb)
  have hw3 := BW3.out.size
  have BW4 := Lib.hid (BW3.out.trans (hb.mono hw3))
  clear B3 BW3 hb H0 H1 H2
  go_upto_region 4 with fail
  obtain ⟨m, hm, hmn⟩ : ∃ m : Nat, min (n : Int) 40 = (m : Int) ∧ m ≤ n := ⟨min n 40, by omega, by omega⟩
  have hm40 : m ≤ 40 := by omega
  have hmc : (m : Int) ≤ c := by omega
  have hm0 : (0 : Int) ≤ (m : Int) := by omega
  have HM := Lib.hid hmn
  go_cut [5, 6, 28, 29, 30] from 12 to 30 (fun s5 s6 s28 s29 s30 wx => s5 = .pointer (some ⟨p, 0, none⟩) ∧ s6 = .pointer (some ⟨q, 0, none⟩) ∧ (∃ c', s28 = .slice A m c') ∧ s29 = .int .i64 m ∧ s30 = .int .i64 0 ∧ wx = w4)
  case first =>
    rcases A with _ | a
    · obtain rfl := hAc rfl
      obtain rfl : n = 0 := by omega
      obtain rfl : m = 0 := by omega
      go_wp2_with fail
      go_meet
      exact ⟨rfl, rfl, ⟨0, rfl⟩, rfl, rfl, rfl⟩
    · go_wp2_with (first | rw [hm] | fail)
      go_meet
      exact ⟨rfl, rfl, ⟨c, rfl⟩, rfl, rfl, rfl⟩
  case rest =>
    obtain ⟨rfl, rfl, ⟨c', rfl⟩, rfl, rfl, rfl⟩ := hcut
    have hwc := BW4.out.size
    clear hm hmc hm0 hnc hAc hc hn
    go_wp2_with fail
    go_loopw [8, 9, 10, 11, 30] (fun b8 n9 t10 e11 i wr => ∃ (k : Nat) (σ : St), k ≤ m ∧ i = .int .i64 k ∧ Hid (Both w.heap.size wr p r q (mostM most) σ) ∧ Hid (0 ≤ σ.2.1 ∧ σ.2.1 ≤ k ∧ 0 ≤ σ.2.2 ∧ σ.2.2 ≤ k) ∧ Hid (Below w.heap.size w wr)) (fun _ _ _ _ i _ => m - (intOf i).toNat)
    case atStart => exact ⟨0, ([], 0, 0), by omega, rfl, B4, Lib.hid (by decide), BW4⟩
    case round =>
      obtain ⟨k, σ, hk, rfl, hb, hcnt, hbw⟩ := hrel
      clear B4 BW4
      have hwr := hbw.out.size
      by_cases hlt : k < m
      · have hki : (k : Int) < m := by omega
        obtain ⟨b, o, rfl, y0, y1⟩ := (HA.out.keep hbw.out) k (by have := HM.out; omega)
        obtain ⟨x1, hx1⟩ : ∃ x1, (f k).1 = x1 := ⟨_, rfl⟩
        obtain ⟨x2, hx2⟩ : ∃ x2, (f k).2 = x2 := ⟨_, rfl⟩
        rw [hx1] at y0
        rw [hx2] at y1
        have HBb := Lib.hid (hb.out.keep ((Below.refl _ wr).alloc (Nat.le_refl _) (.cells #[.int .i64 x1, .int .i64 x2] 74)))
        have HWb := Lib.hid (hbw.out.alloc hwr (.cells #[.int .i64 x1, .int .i64 x2] 74))
        have HX := Lib.hid ((MapKept.heap_alloc wr (.cells #[.int .i64 x1, .int .i64 x2] 74)).1)
        obtain ⟨W, hW⟩ : ∃ W, wr.alloc (.cells #[.int .i64 x1, .int .i64 x2] 74) = W := ⟨_, rfl⟩
        have hWs : W.heap.size = wr.heap.size + 1 := by rw [← hW]; simp
        have hcn := hcnt.out
        have HC := Lib.hid (fun w => cut_any x1 w)
        obtain ⟨N, hN⟩ : ∃ N, cutN x1 = N := ⟨_, rfl⟩
        rw [hN] at HC
        rw [hW] at HBb HWb HX
        have HT := Lib.hid (HBb.out.table N x2 (by omega) (by omega) (by omega) (by omega) (by omega))
        have hst := ask_counts (M := mostM most) (n := N) (s := x2) hcn
        have HN := Lib.hid hst
        have HAs := Lib.hid (fun w (h : Mid w.heap.size w p r q (mostM most) σ (askK (mostM most) σ N x2).2) => h)
        clear HAs hst hx1 hx2
        go_upto_region 7 with fail
        have z0 : W.cell? ⟨wr.heap.size, 0, none⟩ = some (.int .i64 x1) := by simp [World.cell?, HX.out]
        have z1 : W.cell? ⟨wr.heap.size, 1, none⟩ = some (.int .i64 x2) := by simp [World.cell?, HX.out]
        clear hW
        go_wp2_with fail
        refine (HC.out W).mono ?_
        rintro z w5 ⟨rfl, rfl⟩
        go_wp2_with fail
        refine HT.out.mono ?_
        rintro z w5 ⟨tv, rfl, g1, g2, g3, g4⟩
        have G1 := Lib.hid g1
        have G2 := Lib.hid (HWb.out.trans g2)
        have hX5 := (g3 _ _ _ _ HX.out (by decide) (by decide)).trans HX.out
        have u0 : w5.cell? ⟨wr.heap.size, 0, none⟩ = some (.int .i64 x1) := by simp [World.cell?, hX5]
        have u1 : w5.cell? ⟨wr.heap.size, 1, none⟩ = some (.int .i64 x2) := by simp [World.cell?, hX5]
        have hw5 := G2.out.size
        have HAs := Lib.hid (G1.out.ask (by omega) (by omega) (by omega) (by omega) hw5)
        clear g1 g2 g3 hX5 HT HC
        obtain ⟨E, hE⟩ : ∃ E, (askK (mostM most) σ N x2).1 = E := ⟨_, rfl⟩
        rw [hE] at g4 HAs
        rcases g4 with ⟨g4, rfl⟩ | ⟨rfl, tb, tc, tm, rfl, rfl⟩
        all_goals
          go_wp2_with fail
          refine HAs.out.mono ?_
          rintro z w6 ⟨rfl, k1, k2⟩
          have K1 := Lib.hid k1
          have K2 := Lib.hid (G2.out.trans k2)
          have hw6 := K2.out.size
          clear k1 k2
          go_wp2_with fail
          refine K1.out.same.mono ?_
          rintro z w7 ⟨rfl, k3⟩
          have K3 := Lib.hid (K1.out.keep k3)
          have K4 := Lib.hid (K2.out.trans (k3.mono hw6))
          clear k3
          go_wp2_with fail
          exact ⟨⟨k + 1, _, by omega, by go_num, K3, Lib.hid (by have := HN.out; omega), K4⟩, by simp [intOf]; omega⟩
      · obtain rfl : k = m := by omega
        go_wp2_with fail
        go_ret
        exact ⟨rfl, hbw.out⟩

end Go.Proofs.Ytnpkblidlmkagaa
