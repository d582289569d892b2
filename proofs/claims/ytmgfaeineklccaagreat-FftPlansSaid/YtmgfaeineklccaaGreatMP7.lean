/- Both searches, every size. -/
import Derived.Test.YtmgfaeineklccaaGreatMP4
import Derived.Test.YtmgfaeineklccaaGreatMP6
import Derived.Test.YtmgfaeineklccaaGreatMP5
import Derived.Test.YtmgfaeineklccaaGreatMP1
set_option linter.unusedSimpArgs false
set_option linter.unusedVariables false
namespace Go.Proofs.YtmgfaeineklccaaGreat
open Go.RowKit Go.Lib

theorem find_all : ∀ (d n : Nat) (blue : Bool), deepB n blue = d → 1 ≤ n → n ≤ 32768 → FindC n blue := by
  intro d
  induction d using Nat.strongRecOn with
  | ind d ih =>
    intro n blue hd h1 hn
    refine find_step n blue h1 hn fun k r hc x hx => ?_
    obtain ⟨m, rfl, hm1, hm2, hm3⟩ := cand_wants hc h1 hn x hx
    have hl := deep_less hc hm2 hm3
    exact ⟨m, rfl, hm1, hm2, hl, ih _ (by rw [← hd]; exact hl) m _ rfl hm1 hm2⟩
theorem best_all : ∀ (d n : Nat) (blue : Bool), deepB n blue = d → 1 ≤ n → n ≤ 32768 → BestC n blue := by
  intro d
  induction d using Nat.strongRecOn with
  | ind d ih =>
    intro n blue hd h1 hn
    refine best_step n blue h1 hn fun k r hc x hx => ?_
    obtain ⟨m, rfl, hm1, hm2, hm3⟩ := cand_wants hc h1 hn x hx
    have hl := deep_less hc hm2 hm3
    exact ⟨m, rfl, hm1, hm2, hl, ih _ (by rw [← hd]; exact hl) m _ rfl hm1 hm2⟩
theorem find_any (n : Nat) (blue : Bool) (h1 : 1 ≤ n) (hn : n ≤ 32768) : FindC n blue := find_all _ n blue rfl h1 hn
theorem best_any (n : Nat) (blue : Bool) (h1 : 1 ≤ n) (hn : n ≤ 32768) : BestC n blue := best_all _ n blue rfl h1 hn
end Go.Proofs.YtmgfaeineklccaaGreat
/- Contract: ref09.Equal of a plan and its like. -/
set_option linter.unusedSimpArgs false
set_option linter.unusedVariables false
namespace Go.Proofs.YtmgfaeineklccaaGreat
open Go.RowKit Go.Lib

def EqC (kind n r : Int) (q : Fo) : Prop := q.count ≤ 549755813888 → ∀ (w : World) (A A2 : Option Addr) (c c2 : Nat), Kids w A 0 q → Kids w A2 0 q →
  Calls Tryz.prog 42 #[plV kind n r A q.len c, plV kind n r A2 q.len c2] w fun z w' => z = .returned (.bool true) ∧ Below w.heap.size w w'

set_option maxRecDepth 100000 in
set_option maxHeartbeats 4000000 in
theorem equal_all : ∀ fo : Fo, fo.all EqC := Fo.all_of fun kind n r q ih => by
  intro hc w A A2 c c2 hk hk2
  have HK := Lib.hid hk
  have HK2 := Lib.hid hk2
  have HIH := Lib.hid ih
  have HC := Lib.hid hc
  have hql : q.len ≤ 549755813888 := by have := len_count' q; omega
  clear hk hk2 ih hc
  obtain ⟨W1, hW1⟩ : ∃ W1, W1 = (w.alloc (.cells #[.int .i64 kind, .int .i64 n, .int .i64 r, .slice A q.len c] 30)).alloc (.cells #[.int .i64 kind, .int .i64 n, .int .i64 r, .slice A2 q.len c2] 30) := ⟨_, rfl⟩
  have hb1 : Below w.heap.size w W1 := by rw [hW1]; exact ((Below.refl _ w).alloc (Nat.le_refl _) _).alloc (by simp) _
  have hs1 : W1.heap.size = w.heap.size + 2 := by rw [hW1]; simp
  have hq1 : PlBox W1 w.heap.size kind n r A q.len c := by
    rw [hW1]
    exact (PlBox.new w kind n r A q.len c 30).below ((Below.refl _ _).alloc (Nat.le_refl _) _)
  have hr1 : PlBox W1 (w.heap.size + 1) kind n r A2 q.len c2 := by
    have h1 := PlBox.new (w.alloc (.cells #[.int .i64 kind, .int .i64 n, .int .i64 r, .slice A q.len c] 30)) kind n r A2 q.len c2 30
    rw [← hW1] at h1
    simp only [World.size_alloc] at h1
    exact h1
  have HW1 := Lib.hid hW1
  have HB1 : Hid (Below w.heap.size w W1 ∧ w.heap.size + 2 ≤ W1.heap.size) := Lib.hid ⟨hb1, by omega⟩
  have HQ1 := Lib.hid hq1
  have HR1 := Lib.hid hr1
  clear hb1 hs1 hq1 hr1 hW1
  go_enter Tryz.func42, Tryz.ntmps42
  go_upto_region 1 with fail
  rw [← HW1.out]
  obtain ⟨a0, a1, a2, a3⟩ := HQ1.out
  obtain ⟨b0, b1, b2, b3⟩ := HR1.out
  clear HW1
  go_wp2_with fail
  clear a0 a1 a2 a3 b0 b1 b2 b3
  go_loopw [5] (fun vi wr => ∃ (i : Nat), i ≤ q.len ∧ vi = .int .i64 i ∧ Hid (PlBox wr (w.heap.size) kind n r A q.len c) ∧ Hid (PlBox wr (w.heap.size + 1) kind n r A2 q.len c2) ∧ Hid (Below w.heap.size w wr ∧ w.heap.size + 2 ≤ wr.heap.size)) (fun vi _ => q.len - (intOf vi).toNat)
  case atStart => exact ⟨0, Nat.zero_le _, rfl, HQ1, HR1, HB1⟩
  case round =>
    obtain ⟨i, hi, rfl, hq, hr, hbw⟩ := hrel
    clear HQ1 HR1 HB1
    obtain ⟨a0, a1, a2, a3⟩ := hq.out
    obtain ⟨b0, b1, b2, b3⟩ := hr.out
    by_cases hlt : i < q.len
    · have hlti : (i : Int) < (q.len : Int) := by omega
      obtain ⟨k', n', r', q', rest, hd⟩ := drop_lt i q hlt
      obtain ⟨bA, oA, B', c', rfl, k0, k1, k2, k3, k5⟩ := HK.out.at' hd
      obtain ⟨bA2, oA2, B2, d', rfl, m0, m1, m2, m3, m5⟩ := HK2.out.at' hd
      have hq'c : q'.count ≤ 549755813888 := by
        have h1 := count_kid hd
        have h2 := upto_all q (i + 1)
        have := HC.out
        omega
      have HE := Lib.hid (fun w' h h' => Fo.all_at HIH.out hd hq'c w' B' B2 c' d' h h')
      have HKB := Lib.hid (And.intro (k5.below hbw.out.1) (m5.below hbw.out.1))
      have HJ := Lib.hid (And.intro (And.intro (keep_cell hbw.out.1 k0) (And.intro (keep_cell hbw.out.1 k1) (And.intro (keep_cell hbw.out.1 k2) (keep_cell hbw.out.1 k3)))) (And.intro (keep_cell hbw.out.1 m0) (And.intro (keep_cell hbw.out.1 m1) (And.intro (keep_cell hbw.out.1 m2) (keep_cell hbw.out.1 m3)))))
      clear k0 k1 k2 k3 k5 m0 m1 m2 m3 m5 hd hq'c
      go_upto_region 6 with fail
      have HS0 : Hid ((fun w' => (w'.cell? ⟨w.heap.size, 3, none⟩ = some (.slice (some ⟨bA, oA, none⟩) q.len c) ∧ w'.cell? ⟨w.heap.size + 1, 3, none⟩ = some (.slice (some ⟨bA2, oA2, none⟩) q.len c2)) ∧ (w'.cell? ⟨bA, oA + i * 4, none⟩ = some (.int .i64 k') ∧ w'.cell? ⟨bA, oA + i * 4 + 1, none⟩ = some (.int .i64 n') ∧ w'.cell? ⟨bA, oA + i * 4 + 2, none⟩ = some (.int .i64 r') ∧ w'.cell? ⟨bA, oA + i * 4 + 3, none⟩ = some (.slice B' q'.len c')) ∧ (w'.cell? ⟨bA2, oA2 + i * 4, none⟩ = some (.int .i64 k') ∧ w'.cell? ⟨bA2, oA2 + i * 4 + 1, none⟩ = some (.int .i64 n') ∧ w'.cell? ⟨bA2, oA2 + i * 4 + 2, none⟩ = some (.int .i64 r') ∧ w'.cell? ⟨bA2, oA2 + i * 4 + 3, none⟩ = some (.slice B2 q'.len d'))) wr.drew) := Lib.hid ⟨⟨a3, b3⟩, HJ.out⟩
      clear a0 a1 a2 a3 b0 b1 b2 b3 HK HK2 HIH HC
      refine wp_region_S (fun w' => (w'.cell? ⟨w.heap.size, 3, none⟩ = some (.slice (some ⟨bA, oA, none⟩) q.len c) ∧ w'.cell? ⟨w.heap.size + 1, 3, none⟩ = some (.slice (some ⟨bA2, oA2, none⟩) q.len c2)) ∧ (w'.cell? ⟨bA, oA + i * 4, none⟩ = some (.int .i64 k') ∧ w'.cell? ⟨bA, oA + i * 4 + 1, none⟩ = some (.int .i64 n') ∧ w'.cell? ⟨bA, oA + i * 4 + 2, none⟩ = some (.int .i64 r') ∧ w'.cell? ⟨bA, oA + i * 4 + 3, none⟩ = some (.slice B' q'.len c')) ∧ (w'.cell? ⟨bA2, oA2 + i * 4, none⟩ = some (.int .i64 k') ∧ w'.cell? ⟨bA2, oA2 + i * 4 + 1, none⟩ = some (.int .i64 n') ∧ w'.cell? ⟨bA2, oA2 + i * 4 + 2, none⟩ = some (.int .i64 r') ∧ w'.cell? ⟨bA2, oA2 + i * 4 + 3, none⟩ = some (.slice B2 q'.len d'))) 10 (by kernel_rfl) ?_
      have hS0 := HS0.out
      refine Takes.intro [0,1,2,3,4,5,6,7,8,9] ?_
      repeat (refine Takes.step (v := ?_) (by kernel_rfl) rfl (fun _ _ _ h => h) rfl hS0 (fun w hSw => by (try dsimp only at hSw); go_simp; try with_reducible rfl) ?_; try simp only [List.getElem_toArray, List.getElem_cons_zero, List.getElem_cons_succ, Act.put, List.setIfInBounds_toArray, List.set_cons_zero, List.set_cons_succ])
      refine Takes.nil ?_
      refine wpAnyS_end 2 10 (by kernel_rfl) (by decide) rfl ?_
      simp only [List.toList_toArray, List.drop_succ_cons, List.drop_zero]
      go_wp2_with fail
      refine (HE.out _ (HKB.out.1.below (Below.refl _ wr).drew) (HKB.out.2.below (Below.refl _ wr).drew)).mono ?_
      rintro z w3 ⟨rfl, hb3⟩
      have HB3 : Hid (Below wr.heap.size wr w3) := Lib.hid ((Below.refl _ wr).drew.trans hb3)
      clear hb3
      clear hS0 HS0 HJ
      have HQN := Lib.hid (hq.out.below HB3.out)
      have HRN := Lib.hid (hr.out.below HB3.out)
      have HBN : Hid (Below w.heap.size w w3 ∧ w.heap.size + 2 ≤ w3.heap.size) := Lib.hid ⟨hbw.out.1.trans (HB3.out.mono (by have := hbw.out.2; omega)), by have := hbw.out.2; have := HB3.out.size; omega⟩
      clear hq hr hbw HB3
      go_wp2_with fail
      exact ⟨⟨i + 1, by omega, by go_num, HQN, HRN, HBN⟩, by simp [intOf]; omega⟩
    · have hlti : ¬ (i : Int) < (q.len : Int) := by omega
      go_wp2_with fail
      go_ret
      exact ⟨rfl, hbw.out.1⟩
end Go.Proofs.YtmgfaeineklccaaGreat
/- Contract: the searcher's Best. -/
set_option linter.unusedSimpArgs false
set_option linter.unusedVariables false
namespace Go.Proofs.YtmgfaeineklccaaGreat
open Go.RowKit Go.Lib

set_option maxRecDepth 100000 in
set_option maxHeartbeats 4000000 in
theorem SBest_any (n : Nat) (h1 : 1 ≤ n) (hn : n ≤ 32768) (w : World) (p r : Nat) (es : List ((Int × Bool) × Value × Nat)) (clock : Nat) (S : Nat → Prop) (hse : SE S w p r es clock) (hsr : S r) (hsp : ¬ S p) (hss : ∀ k, S k → k < w.heap.size) :
    Calls Tryz.prog 93 #[.pointer (some ⟨p, 0, none⟩), .int .i64 n] w fun z w' => ∃ (B : Option Addr) (c : Nat) (es' : List ((Int × Bool) × Value × Nat)) (clock' : Nat),
      z = .returned (.tuple #[plV (bestV n false).k (bestV n false).n (bestV n false).r B (bestV n false).q.len c, .int .i64 (bestV n false).c, .int .i64 0]) ∧ KY w.heap.size none w' B (bestV n false).q ∧ SE S w' p r es' clock' ∧ OnlyB r w w' := by
  obtain ⟨W1, hW1⟩ : ∃ W1, W1 = w.alloc (.cells #[.int .i64 0, .int .i64 0, .int .i64 0, .slice none 0 0] 27) := ⟨_, rfl⟩
  have hb1 : Below w.heap.size w W1 := by rw [hW1]; exact (Below.refl _ w).alloc (Nat.le_refl _) _
  have hs1 : W1.heap.size = w.heap.size + 1 := by rw [hW1]; simp
  have hz1 : PlBox W1 w.heap.size 0 0 0 none 0 0 ∧ PlFree W1 w.heap.size := by
    rw [hW1]
    exact ⟨PlBox.new w 0 0 0 none 0 0 27, PlFree.new w (.int .i64 0) (.int .i64 0) (.int .i64 0) (.slice none 0 0) 27⟩
  have hrl := hse.rl
  have hse1 : SE (fun k => S k ∨ k = w.heap.size) W1 p r es clock := hse.only (U := fun _ => False) (OnlyZ.of_below hb1 fun k a b => by omega) (fun _ _ f => f.elim) fun k hk e => (by rcases e with e | e; exact e; omega)
  have HF := Lib.hid (find_any n false h1 hn (fun k => S k ∨ k = w.heap.size) W1 p r es clock hse1 (.inl hsr) (fun e => by have := hse.pl; rcases e with e | e; exact hsp e; omega) (fun k e => by rcases e with e | e; (have := hss k e; omega); omega))
  have HW1 := Lib.hid hW1
  have HZ1 := Lib.hid hz1
  have HB1 : Hid (Below w.heap.size w W1 ∧ W1.heap.size = w.heap.size + 1 ∧ r < w.heap.size ∧ p < w.heap.size) := Lib.hid ⟨hb1, hs1, hrl, hse.pl⟩
  have hni : ¬ (n : Int) < 1 := by omega
  have hnj : ¬ 32768 < (n : Int) := by omega
  clear hse hse1 hW1 hb1 hs1 hz1 hrl
  go_enter Tryz.func93, Tryz.ntmps93
  go_upto_region 5 with fail
  rw [← HW1.out]
  clear HW1
  go_wp2_with fail
  refine HF.out.mono ?_
  rintro z w2 hF
  obtain ⟨B, c, es', clock', rfl, hk2, hse2, -, ho2⟩ := hF
  obtain ⟨x, hx⟩ : ∃ x, bestV n false = x := ⟨_, rfl⟩
  have hcnt : (bestV n false).q.count ≤ 549755813888 := by
    have := bestV_count _ n false rfl h1 hn
    have : capN false n ≤ 549755813888 := by unfold capN; split <;> omega
    omega
  rw [hx] at hk2 hcnt ⊢
  have HX := Lib.hid hx
  have HCL : Hid (∀ w', Kids w' B 0 x.q → Calls Tryz.prog 138 #[plV x.k x.n x.r B x.q.len c] w' fun z w'' => ∃ (B' : Option Addr) (c' : Nat), z = .returned (plV x.k x.n x.r B' x.q.len c') ∧ KY w'.heap.size none w'' B' x.q ∧ Below w'.heap.size w' w'') := Lib.hid (fun w' h => (clone_all (.cons x.k x.n x.r x.q .nil)).1 hcnt w' B c h)
  obtain ⟨W3, hW3⟩ : ∃ W3, w2.alloc (.cells #[.int .i64 x.k, .int .i64 x.n, .int .i64 x.r, .slice B x.q.len c, .int .i64 x.c] 204) = W3 := ⟨_, rfl⟩
  have hb3 : Below w2.heap.size w2 W3 := by rw [← hW3]; exact (Below.refl _ w2).alloc (Nat.le_refl _) _
  have hbx : BsBox W3 w2.heap.size x B c := by rw [← hW3]; exact BsBox.new w2 x B c _
  obtain ⟨b5, hb5⟩ : ∃ b5, w2.heap.size = b5 := ⟨_, rfl⟩
  have HBX : Hid (BsBox W3 b5 x B c) := Lib.hid (hb5 ▸ hbx)
  have HKZ := Lib.hid (hk2.below hb3)
  have hrl := hse2.rl
  have HSE : Hid (SE (fun k => S k ∨ k = w.heap.size) W3 p r es' clock') := Lib.hid (hse2.only (U := fun _ => False) (OnlyZ.of_below hb3 fun k a b => by omega) (fun _ _ f => f.elim) fun _ _ e => e)
  have HZ3 : Hid (PlBox W3 w.heap.size 0 0 0 none 0 0 ∧ PlFree W3 w.heap.size ∧ OnlyB r w W3 ∧ w.heap.size < W3.heap.size ∧ r < w.heap.size ∧ p < w.heap.size ∧ w.heap.size < b5) := Lib.hid (by
    have q1 := HB1.out
    have q2 := ho2.size
    have e : W3.heap[w.heap.size]? = W1.heap[w.heap.size]? := (hb3.block _ (by omega)).trans (ho2.block _ (by omega) (by omega))
    exact ⟨HZ1.out.1.same e, fun i hi => (World.frozen?_of_block (w := W1) (a := ⟨w.heap.size, i, none⟩) e).trans (HZ1.out.2 i hi), ((OnlyB.of_below (q1.1.mono (Nat.le_refl _))).trans ho2).trans (OnlyB.of_below hb3), by have := hb3.size; omega, q1.2.2.1, q1.2.2.2, by omega⟩)
  have HW3 := Lib.hid hW3
  clear hx hcnt hk2 hse2 ho2 hb3 hbx hW3 hrl HF HB1 HZ1
  go_upto_region 6 with fail
  rw [HW3.out]
  clear HW3 hb5
  refine wp_region_S (fun w' => w'.cell? ⟨b5, 0, none⟩ = some (.int .i64 x.k) ∧ w'.cell? ⟨b5, 1, none⟩ = some (.int .i64 x.n) ∧ w'.cell? ⟨b5, 2, none⟩ = some (.int .i64 x.r) ∧ w'.cell? ⟨b5, 3, none⟩ = some (.slice B x.q.len c) ∧ w'.cell? ⟨b5, 4, none⟩ = some (.int .i64 x.c)) 6 (by kernel_rfl) ?_
  have hS0 := (HBX.out : (fun w' => w'.cell? ⟨b5, 0, none⟩ = some (.int .i64 x.k) ∧ w'.cell? ⟨b5, 1, none⟩ = some (.int .i64 x.n) ∧ w'.cell? ⟨b5, 2, none⟩ = some (.int .i64 x.r) ∧ w'.cell? ⟨b5, 3, none⟩ = some (.slice B x.q.len c) ∧ w'.cell? ⟨b5, 4, none⟩ = some (.int .i64 x.c)) W3.drew)
  refine Takes.intro [0,1,3,4] ?_
  repeat (refine Takes.step (v := ?_) (by kernel_rfl) rfl (fun _ _ _ h => h) rfl hS0 (fun w hSw => by (try dsimp only at hSw); go_simp; try with_reducible rfl) ?_; try simp only [List.getElem_toArray, List.getElem_cons_zero, List.getElem_cons_succ, Act.put, List.setIfInBounds_toArray, List.set_cons_zero, List.set_cons_succ])
  refine Takes.nil ?_
  refine wpAnyS_one (i := 2) (by kernel_rfl) rfl rfl (fun K hK => ?_)
  go_simp
  refine (HCL.out _ (HKZ.out.below (Below.refl _ W3).drew).kids).mono ?_
  rintro z w5 ⟨B2, c2, rfl, hky, hb5⟩
  have HB5 : Hid (Below W3.heap.size W3 w5) := Lib.hid ((Below.refl _ W3).drew.trans hb5)
  have HKY : Hid (KY W3.heap.size none w5 B2 x.q) := Lib.hid hky
  have hS1 : (fun w' => w'.cell? ⟨b5, 0, none⟩ = some (.int .i64 x.k) ∧ w'.cell? ⟨b5, 1, none⟩ = some (.int .i64 x.n) ∧ w'.cell? ⟨b5, 2, none⟩ = some (.int .i64 x.r) ∧ w'.cell? ⟨b5, 3, none⟩ = some (.slice B x.q.len c) ∧ w'.cell? ⟨b5, 4, none⟩ = some (.int .i64 x.c)) w5 := ⟨keep_cell HB5.out hS0.1, keep_cell HB5.out hS0.2.1, keep_cell HB5.out hS0.2.2.1, keep_cell HB5.out hS0.2.2.2.1, keep_cell HB5.out hS0.2.2.2.2⟩
  clear hky hb5
  have hp5 := HZ3.out.1.below HB5.out
  have hf5 := HZ3.out.2.1.keep HB5.out HZ3.out.2.2.2.1
  obtain ⟨z0, z1, z2, z3⟩ := hp5
  have f0 := hf5 0 (by omega)
  have f1 := hf5 1 (by omega)
  have f2 := hf5 2 (by omega)
  have f3 := hf5 3 (by omega)
  refine hK.out _ _ (fun _ => hS1) ?_
  clear hK K
  try simp only [List.getElem_toArray, List.getElem_cons_zero, List.getElem_cons_succ, Act.put, List.setIfInBounds_toArray, List.set_cons_zero, List.set_cons_succ]
  refine wpAnyS_one (i := 5) (by kernel_rfl) rfl rfl (fun K hK => ?_)
  go_simp
  obtain ⟨W6, hW6⟩ : ∃ W6, (((w5.setCell ⟨w.heap.size, 0, none⟩ (.int .i64 x.k)).setCell ⟨w.heap.size, 1, none⟩ (.int .i64 x.n)).setCell ⟨w.heap.size, 2, none⟩ (.int .i64 x.r)).setCell ⟨w.heap.size, 3, none⟩ (.slice B2 x.q.len c2) = W6 := ⟨_, rfl⟩
  rw [hW6]
  have ho6 : OnlyB w.heap.size w5 W6 := by rw [← hW6]; exact ((((OnlyB.refl _ w5).setCell _ _ _).setCell _ _ _).setCell _ _ _).setCell _ _ _
  have hbl : W6.heap[b5]? = w5.heap[b5]? := ho6.block b5 (cell_lt hS1.1) (by have := HZ3.out.2.2.2.2.2.2; omega)
  have hS2 : (fun w' => w'.cell? ⟨b5, 0, none⟩ = some (.int .i64 x.k) ∧ w'.cell? ⟨b5, 1, none⟩ = some (.int .i64 x.n) ∧ w'.cell? ⟨b5, 2, none⟩ = some (.int .i64 x.r) ∧ w'.cell? ⟨b5, 3, none⟩ = some (.slice B x.q.len c) ∧ w'.cell? ⟨b5, 4, none⟩ = some (.int .i64 x.c)) W6 := ⟨cell_same hS1.1 hbl, cell_same hS1.2.1 hbl, cell_same hS1.2.2.1 hbl, cell_same hS1.2.2.2.1 hbl, cell_same hS1.2.2.2.2 hbl⟩
  have HO6 := Lib.hid ho6
  have HW6 := Lib.hid hW6
  have hq6 : PlBox W6 w.heap.size x.k x.n x.r B2 x.q.len c2 := by rw [← hW6]; exact PlBox.put ⟨z0, z1, z2, z3⟩ _ _ _ _ _ _
  clear ho6 hbl hW6 z0 z1 z2 z3 f0 f1 f2 f3 hf5
  refine hK.out _ _ (fun _ => hS2) ?_
  clear hK K
  try simp only [List.getElem_toArray, List.getElem_cons_zero, List.getElem_cons_succ, Act.put, List.setIfInBounds_toArray, List.set_cons_zero, List.set_cons_succ]
  refine wpAnyS_end 2 6 (by kernel_rfl) (by decide) rfl ?_
  simp only [List.toList_toArray, List.drop_succ_cons, List.drop_zero]
  clear hS0 hS1 hS2
  obtain ⟨s0, s1, s2, s3⟩ := hq6
  go_wp2
  refine bodyPost_ret (v := .tuple #[plV x.k x.n x.r B2 x.q.len c2, .int .i64 x.c, .int .i64 0]) (by simp [results, Tryz.results93, go_sem, s0, s1, s2, s3, plV]) rfl ?_
  have hz3 := HZ3.out
  have hob : OnlyB r w w5 := hz3.2.2.1.trans (OnlyB.of_below HB5.out)
  have ho6 := HO6.out
  refine ⟨B2, c2, es', clock', by rw [HX.out], ?_, ?_, ⟨ho6.os.trans hob.os, ho6.tape.trans hob.tape, ho6.output.trans hob.output, Nat.le_trans hob.size ho6.size, fun k hk hn => (ho6.block k (by have := hob.size; omega) (by omega)).trans (hob.block k hk hn)⟩⟩
  · rw [HX.out, ← HW6.out]
    exact (HKY.out.set4 _ _ _ _ hz3.2.2.2.1).mono (by omega)
  · exact ((HSE.out.only (T := fun k => S k ∨ k = w.heap.size) (U := fun _ => False) (OnlyZ.of_below HB5.out fun k a b => by omega) (fun _ _ f => f.elim) fun _ _ e => e).only (U := fun k => k = w.heap.size) (OnlyZ.of_only ho6 rfl) (fun k hk u => ⟨.inr u, by omega, by omega⟩) fun k hk e => .inl e)
end Go.Proofs.YtmgfaeineklccaaGreat
/- Contracts: search.New, fft.New, fft.Plan. -/
set_option linter.unusedSimpArgs false
set_option linter.unusedVariables false
namespace Go.Proofs.YtmgfaeineklccaaGreat
open Go.RowKit Go.Lib

set_option maxRecDepth 100000 in
set_option maxHeartbeats 4000000 in
theorem SNew_any (w : World) : Calls Tryz.prog 92 #[] w fun z w' => ∃ p r : Nat, z = .returned (.pointer (some ⟨p, 0, none⟩)) ∧ SE (fun k => k = r) w' p r [] 0 ∧ w.heap.size ≤ r ∧ r < p ∧ Below w.heap.size w w' := by
  obtain ⟨W2, hW2⟩ : ∃ W2, W2 = w.alloc (.map #[] 0) := ⟨_, rfl⟩
  have hmm : (Instr.makeMap 200 none).run Tryz.prog w = .ok (.map (some w.heap.size)) W2 := by rw [hW2]; simp [Instr.makeMap]
  have hb2 : Below w.heap.size w W2 := by rw [hW2]; exact (Below.refl _ w).alloc (Nat.le_refl _) _
  have hs2 : W2.heap.size = w.heap.size + 1 := by rw [hW2]; simp
  have hm2 : W2.heap[w.heap.size]? = some (.map #[] 0) := by rw [hW2]; show (w.heap.push _)[w.heap.size]? = _; rw [Array.getElem?_push_size]
  have HB2 := Lib.hid hb2
  have HS2 := Lib.hid hs2
  have HM2 := Lib.hid hm2
  clear hW2 hb2 hs2 hm2
  go_enter Tryz.func92, Tryz.ntmps92
  go_wp2
  go_ret
  have hs := HS2.out
  have hb3 : Below W2.heap.size W2 (W2.alloc (.cells #[.map (some w.heap.size)] 202)) := (Below.refl _ W2).alloc (Nat.le_refl _) _
  refine ⟨W2.heap.size, w.heap.size, rfl, ⟨?_, ?_, fun e he => by cases he⟩, Nat.le_refl _, by omega, HB2.out.trans (hb3.mono (by omega))⟩
  · rw [World.cell?_alloc_new]; rfl
  · exact (hb3.block _ (by omega)).trans HM2.out
/-- An FFT in memory. -/
structure FE (w : World) (f p r : Nat) (es : List ((Int × Bool) × Value × Nat)) (clock : Nat) : Prop where
  c0 : w.cell? ⟨f, 0, none⟩ = some (.pointer (some ⟨p, 0, none⟩))
  se : SE (fun k => k = r) w p r es clock
  ne : f ≠ r
set_option maxRecDepth 100000 in
set_option maxHeartbeats 4000000 in
theorem FNew_any (w : World) : Calls Tryz.prog 39 #[] w fun z w' => ∃ f p r : Nat, z = .returned (.pointer (some ⟨f, 0, none⟩)) ∧ FE w' f p r [] 0 ∧ w.heap.size ≤ r ∧ Below w.heap.size w w' := by
  go_enter Tryz.func39, Tryz.ntmps39
  go_wp2_with fail
  refine (SNew_any w).mono ?_
  rintro z w2 ⟨p, r, rfl, hse, hr, hrp, hb⟩
  have HSE := Lib.hid hse
  have HB : Hid (Below w.heap.size w w2 ∧ w.heap.size ≤ r ∧ r < w2.heap.size) := Lib.hid ⟨hb, hr, hse.rl⟩
  clear hse hr hrp hb
  go_wp2
  go_ret
  have hb3 : Below w2.heap.size w2 (w2.alloc (.cells #[.pointer (some ⟨p, 0, none⟩)] 153)) := (Below.refl _ w2).alloc (Nat.le_refl _) _
  have hbo := HB.out
  refine ⟨w2.heap.size, p, r, rfl, ⟨?_, HSE.out.only (U := fun _ => False) (OnlyZ.of_below hb3 fun k a b => by omega) (fun _ _ f => f.elim) (fun _ _ e => e), by omega⟩, hbo.2.1, hbo.1.trans (hb3.mono hbo.1.size)⟩
  rw [World.cell?_alloc_new]; rfl
set_option maxRecDepth 100000 in
set_option maxHeartbeats 4000000 in
theorem FPlan_any (n : Nat) (h1 : 1 ≤ n) (hn : n ≤ 16384) (w : World) (f p r : Nat) (es : List ((Int × Bool) × Value × Nat)) (clock : Nat) (hf : FE w f p r es clock) :
    Calls Tryz.prog 40 #[.pointer (some ⟨f, 0, none⟩), .int .i64 n] w fun z w' => ∃ (B : Option Addr) (c : Nat) (es' : List ((Int × Bool) × Value × Nat)) (clock' : Nat),
      z = .returned (.tuple #[plV (bestV n false).k (bestV n false).n (bestV n false).r B (bestV n false).q.len c, .int .i64 0]) ∧ KY w.heap.size none w' B (bestV n false).q ∧ FE w' f p r es' clock' ∧ OnlyB r w w' := by
  obtain ⟨W1, hW1⟩ : ∃ W1, W1 = w.alloc (.cells #[.int .i64 0, .int .i64 0, .int .i64 0, .slice none 0 0] 27) := ⟨_, rfl⟩
  have hb1 : Below w.heap.size w W1 := by rw [hW1]; exact (Below.refl _ w).alloc (Nat.le_refl _) _
  have hs1 : W1.heap.size = w.heap.size + 1 := by rw [hW1]; simp
  have hz1 : PlBox W1 w.heap.size 0 0 0 none 0 0 ∧ PlFree W1 w.heap.size := by
    rw [hW1]
    exact ⟨PlBox.new w 0 0 0 none 0 0 27, PlFree.new w (.int .i64 0) (.int .i64 0) (.int .i64 0) (.slice none 0 0) 27⟩
  have hrl := hf.se.rl
  have hfl := cell_lt hf.c0
  have hse1 : SE (fun k => k = r ∨ k = w.heap.size) W1 p r es clock := hf.se.only (U := fun _ => False) (OnlyZ.of_below hb1 fun k a b => by omega) (fun _ _ f => f.elim) fun k hk e => (by rcases e with e | e; exact e; omega)
  have hc0 : W1.cell? ⟨f, 0, none⟩ = some (.pointer (some ⟨p, 0, none⟩)) := keep_cell hb1 hf.c0
  have HF := Lib.hid (SBest_any n h1 (by omega) W1 p r es clock _ hse1 (.inl rfl) (fun e => by have := hf.se.pl; rcases e with e | e; exact hf.se.pr e; omega) (fun k e => by omega))
  have HW1 := Lib.hid hW1
  have HZ1 := Lib.hid hz1
  have HFC := Lib.hid hf
  have HB1 : Hid (Below w.heap.size w W1 ∧ W1.heap.size = w.heap.size + 1 ∧ r < w.heap.size ∧ f < w.heap.size ∧ p < w.heap.size) := Lib.hid ⟨hb1, hs1, hrl, hfl, hf.se.pl⟩
  have hni : ¬ (n : Int) < 1 := by omega
  have hnj : ¬ 16384 < (n : Int) := by omega
  clear hf hse1 hW1 hb1 hs1 hz1 hrl hfl
  go_enter Tryz.func40, Tryz.ntmps40
  go_upto_region 5 with fail
  rw [← HW1.out]
  clear HW1
  go_wp2_with fail
  refine HF.out.mono ?_
  rintro z w2 ⟨B, c, es', clock', rfl, hk2, hse2, ho2⟩
  obtain ⟨x, hx⟩ : ∃ x, bestV n false = x := ⟨_, rfl⟩
  rw [hx] at hk2 ⊢
  have HX := Lib.hid hx
  obtain ⟨W3, hW3⟩ : ∃ W3, w2.alloc (.cells #[.int .i64 x.k, .int .i64 x.n, .int .i64 x.r, .slice B x.q.len c] 27) = W3 := ⟨_, rfl⟩
  have hb3 : Below w2.heap.size w2 W3 := by rw [← hW3]; exact (Below.refl _ w2).alloc (Nat.le_refl _) _
  have hbx : PlBox W3 w2.heap.size x.k x.n x.r B x.q.len c := by rw [← hW3]; exact PlBox.new w2 x.k x.n x.r B x.q.len c _
  have q1 := HB1.out
  have q2 := ho2.size
  have e3 : W3.heap[w.heap.size]? = W1.heap[w.heap.size]? := (hb3.block _ (by omega)).trans (ho2.block _ (by omega) (by omega))
  have hz3 := HZ1.out.1.same e3
  have hf3 : PlFree W3 w.heap.size := fun i hi => (World.frozen?_of_block (w := W1) (a := ⟨w.heap.size, i, none⟩) e3).trans (HZ1.out.2 i hi)
  have HO3 : Hid (OnlyB r w W3) := Lib.hid (((OnlyB.of_below q1.1).trans ho2).trans (OnlyB.of_below hb3))
  have HSE3 : Hid (SE (fun k => k = r ∨ k = w.heap.size) W3 p r es' clock') := Lib.hid (hse2.only (U := fun _ => False) (OnlyZ.of_below hb3 fun k a b => by omega) (fun _ _ f => f.elim) fun _ _ e => e)
  have HK3 : Hid (KY W1.heap.size none W3 B x.q) := Lib.hid (hk2.below hb3)
  have HW3 := Lib.hid hW3
  have HS3 : Hid (w.heap.size + 1 = W1.heap.size ∧ W1.heap.size ≤ w2.heap.size ∧ w2.heap.size < W3.heap.size) := Lib.hid ⟨by omega, q2, by rw [← hW3]; simp⟩
  obtain ⟨z0, z1, z2, z3⟩ := hz3
  obtain ⟨b0, b1, b2, b3⟩ := hbx
  have f0 := hf3 0 (by omega)
  have f1 := hf3 1 (by omega)
  have f2 := hf3 2 (by omega)
  have f3 := hf3 3 (by omega)
  clear hx hk2 hse2 ho2 hb3 hW3 q1 q2 e3 hf3 HF HZ1 hc0 hni hnj
  go_upto_region 6 with fail
  rw [HW3.out]
  clear HW3
  have HQ : Hid (PlBox ((((W3.setCell ⟨w.heap.size, 0, none⟩ (.int .i64 x.k)).setCell ⟨w.heap.size, 1, none⟩ (.int .i64 x.n)).setCell ⟨w.heap.size, 2, none⟩ (.int .i64 x.r)).setCell ⟨w.heap.size, 3, none⟩ (.slice B x.q.len c)) w.heap.size x.k x.n x.r B x.q.len c) := Lib.hid (PlBox.put ⟨z0, z1, z2, z3⟩ _ _ _ _ _ _)
  go_wp2
  obtain ⟨s0, s1, s2, s3⟩ := HQ.out
  refine bodyPost_ret (v := .tuple #[plV x.k x.n x.r B x.q.len c, .int .i64 0]) (by simp [results, Tryz.results40, go_sem, s0, s1, s2, s3, plV]) rfl ?_
  have ho6 : OnlyB w.heap.size W3 ((((W3.setCell ⟨w.heap.size, 0, none⟩ (.int .i64 x.k)).setCell ⟨w.heap.size, 1, none⟩ (.int .i64 x.n)).setCell ⟨w.heap.size, 2, none⟩ (.int .i64 x.r)).setCell ⟨w.heap.size, 3, none⟩ (.slice B x.q.len c)) := ((((OnlyB.refl _ W3).setCell _ _ _).setCell _ _ _).setCell _ _ _).setCell _ _ _
  have hob := HO3.out
  have hs3 := HS3.out
  have hb1 := HB1.out
  have hK6 : KY w.heap.size none ((((W3.setCell ⟨w.heap.size, 0, none⟩ (.int .i64 x.k)).setCell ⟨w.heap.size, 1, none⟩ (.int .i64 x.n)).setCell ⟨w.heap.size, 2, none⟩ (.int .i64 x.r)).setCell ⟨w.heap.size, 3, none⟩ (.slice B x.q.len c)) B x.q := (HK3.out.set4 _ _ _ _ (by omega)).mono (by omega)
  have hS6 := HSE3.out.only (T := fun k => k = r) (U := fun k => k = w.heap.size) (OnlyZ.of_only ho6 rfl) (fun k hk u => ⟨.inr u, by omega, by omega⟩) fun k hk e => .inl e
  have hoF : OnlyB r w ((((W3.setCell ⟨w.heap.size, 0, none⟩ (.int .i64 x.k)).setCell ⟨w.heap.size, 1, none⟩ (.int .i64 x.n)).setCell ⟨w.heap.size, 2, none⟩ (.int .i64 x.r)).setCell ⟨w.heap.size, 3, none⟩ (.slice B x.q.len c)) := ⟨ho6.os.trans hob.os, ho6.tape.trans hob.tape, ho6.output.trans hob.output, Nat.le_trans hob.size ho6.size, fun k hk hn => (ho6.block k (by have := hob.size; omega) (by omega)).trans (hob.block k hk hn)⟩
  exact ⟨B, c, es', clock', by rw [HX.out], by rw [HX.out]; exact hK6, ⟨cell_same HFC.out.c0 (hoF.block f hb1.2.2.2.1 HFC.out.ne), hS6, HFC.out.ne⟩, hoF⟩
end Go.Proofs.YtmgfaeineklccaaGreat
/- Contract: the document's Plan. -/
set_option linter.unusedSimpArgs false
set_option linter.unusedVariables false
namespace Go.Proofs.YtmgfaeineklccaaGreat
open Go.RowKit Go.Lib

set_option maxRecDepth 100000 in
set_option maxHeartbeats 4000000 in
theorem RPlan_any (n : Nat) (h1 : 1 ≤ n) (hn : n ≤ 16384) (w : World) :
    Calls Tryz.prog 41 #[.int .i64 n] w fun z w' => ∃ (B : Option Addr) (c : Nat),
      z = .returned (.tuple #[plV (bestV n false).k (bestV n false).n (bestV n false).r B (bestV n false).q.len c, .int .i64 0]) ∧ KZ (fun _ => False) w' B (bestV n false).q ∧ Below w.heap.size w w' := by
  obtain ⟨W1, hW1⟩ : ∃ W1, W1 = w.alloc (.cells #[.int .i64 0, .int .i64 0, .int .i64 0, .slice none 0 0] 30) := ⟨_, rfl⟩
  have hb1 : Below w.heap.size w W1 := by rw [hW1]; exact (Below.refl _ w).alloc (Nat.le_refl _) _
  have hs1 : W1.heap.size = w.heap.size + 1 := by rw [hW1]; simp
  have hz1 : PlBox W1 w.heap.size 0 0 0 none 0 0 ∧ PlFree W1 w.heap.size := by
    rw [hW1]
    exact ⟨PlBox.new w 0 0 0 none 0 0 30, PlFree.new w (.int .i64 0) (.int .i64 0) (.int .i64 0) (.slice none 0 0) 30⟩
  obtain ⟨W2, hW2⟩ : ∃ W2, W2 = W1.alloc (.cells #[.slice none 0 0] 162) := ⟨_, rfl⟩
  have hb2 : Below W1.heap.size W1 W2 := by rw [hW2]; exact (Below.refl _ W1).alloc (Nat.le_refl _) _
  have hs2 : W2.heap.size = W1.heap.size + 1 := by rw [hW2]; simp
  have hbe : BE (fun k => k = w.heap.size) W2 W1.heap.size (.slice none 0 0) [] := by
    rw [hW2]
    exact ⟨by rw [World.cell?_alloc_new]; rfl, World.frozen?_alloc_new _ _ _ _, World.ownsRow_nil _ _ _ _, (by intro e; cases e), fun e he => (by cases he), List.nodup_nil⟩
  have HF := Lib.hid (best_any n false h1 (by omega) _ W2 W1.heap.size (.slice none 0 0) [] hbe (by omega) (fun k e => by omega) (fun k e => by cases e))
  have HW1 := Lib.hid hW1
  have HW2 := Lib.hid hW2
  have HZ1 : Hid (PlBox W2 w.heap.size 0 0 0 none 0 0 ∧ PlFree W2 w.heap.size) := Lib.hid ⟨hz1.1.below hb2, hz1.2.keep hb2 (by omega)⟩
  have HB1 : Hid (Below w.heap.size w W2 ∧ W2.heap.size = w.heap.size + 2 ∧ W1.heap.size = w.heap.size + 1) := Lib.hid ⟨hb1.trans (hb2.mono (by omega)), by omega, hs1⟩
  have hni : ¬ (n : Int) < 1 := by omega
  have hnj : ¬ 16384 < (n : Int) := by omega
  clear hW1 hb1 hs1 hz1 hW2 hb2 hs2 hbe
  go_enter Tryz.func41, Tryz.ntmps41
  go_upto_region 3 with fail
  rw [← HW1.out]
  clear HW1
  go_wp2_with fail
  rw [← HW2.out]
  clear HW2
  refine HF.out.mono ?_
  rintro z w2 hF
  obtain ⟨B, c, v', es', rfl, hk2, -, -, ho2, -⟩ := hF
  obtain ⟨x, hx⟩ : ∃ x, bestV n false = x := ⟨_, rfl⟩
  rw [hx] at hk2 ⊢
  have HX := Lib.hid hx
  obtain ⟨W3, hW3⟩ : ∃ W3, w2.alloc (.cells #[.int .i64 n, .bool false, .int .i64 x.k, .int .i64 x.n, .int .i64 x.r, .slice B x.q.len c, .int .i64 x.c] 157) = W3 := ⟨_, rfl⟩
  have hb3 : Below w2.heap.size w2 W3 := by rw [← hW3]; exact (Below.refl _ w2).alloc (Nat.le_refl _) _
  have hbx : EnBox W3 w2.heap.size n false x B c := by rw [← hW3]; exact (new_box w2 n false x B c).1
  have q1 := HB1.out
  have q2 := ho2.size
  have e3 : W3.heap[w.heap.size]? = W2.heap[w.heap.size]? := (hb3.block _ (by omega)).trans (ho2.block _ (by omega) (by rintro (e | e); (omega); cases e))
  have hz3 := HZ1.out.1.same e3
  have hf3 : PlFree W3 w.heap.size := fun i hi => (World.frozen?_of_block (w := W2) (a := ⟨w.heap.size, i, none⟩) e3).trans (HZ1.out.2 i hi)
  have HB3 : Hid (Below w.heap.size w W3) := Lib.hid ((q1.1.trans (ho2.below (by omega) (fun k e => by rcases e with e | e; (omega); cases e))).trans (hb3.mono (by omega)))
  have HK3 : Hid (KZ (bkS (fun k => k = w.heap.size) W1.heap.size v') W3 B x.q) := Lib.hid (hk2.below hb3)
  have HW3 := Lib.hid hW3
  have hs3 : w.heap.size < w2.heap.size ∧ w2.heap.size ≤ W3.heap.size := ⟨by omega, hb3.size⟩
  obtain ⟨z0, z1, z2, z3⟩ := hz3
  unfold EnBox at hbx
  obtain ⟨b0, b1, b2, b3, b4, b5, b6⟩ := hbx
  have f0 := hf3 0 (by omega)
  have f1 := hf3 1 (by omega)
  have f2 := hf3 2 (by omega)
  have f3 := hf3 3 (by omega)
  clear hx hk2 ho2 hb3 hW3 q1 q2 e3 hf3 HF HZ1 hni hnj
  go_upto_region 4 with fail
  rw [HW3.out]
  clear HW3
  have HQ : Hid (PlBox ((((W3.setCell ⟨w.heap.size, 0, none⟩ (.int .i64 x.k)).setCell ⟨w.heap.size, 1, none⟩ (.int .i64 x.n)).setCell ⟨w.heap.size, 2, none⟩ (.int .i64 x.r)).setCell ⟨w.heap.size, 3, none⟩ (.slice B x.q.len c)) w.heap.size x.k x.n x.r B x.q.len c) := Lib.hid (PlBox.put ⟨z0, z1, z2, z3⟩ _ _ _ _ _ _)
  go_wp2
  obtain ⟨s0, s1, s2, s3⟩ := HQ.out
  refine bodyPost_ret (v := .tuple #[plV x.k x.n x.r B x.q.len c, .int .i64 0]) (by simp [results, Tryz.results41, go_sem, s0, s1, s2, s3, plV]) rfl ?_
  have ho6 : OnlyB w.heap.size W3 ((((W3.setCell ⟨w.heap.size, 0, none⟩ (.int .i64 x.k)).setCell ⟨w.heap.size, 1, none⟩ (.int .i64 x.n)).setCell ⟨w.heap.size, 2, none⟩ (.int .i64 x.r)).setCell ⟨w.heap.size, 3, none⟩ (.slice B x.q.len c)) := ((((OnlyB.refl _ W3).setCell _ _ _).setCell _ _ _).setCell _ _ _).setCell _ _ _
  refine ⟨B, c, by rw [HX.out], ?_, HB3.out.trans (ho6.below (Nat.le_refl _) (by omega))⟩
  rw [HX.out]
  exact HK3.out.move ho6.size (fun k hk hn => ho6.block k hk fun u => hn (.inl u)) fun _ _ f => f.elim
end Go.Proofs.YtmgfaeineklccaaGreat
/- Contracts: sizes that have no plan. -/
set_option linter.unusedSimpArgs false
set_option linter.unusedVariables false
namespace Go.Proofs.YtmgfaeineklccaaGreat
open Go.RowKit Go.Lib

set_option maxRecDepth 100000 in
set_option maxHeartbeats 4000000 in
theorem FPlan_bad (n : Int) (h : n < 1 ∨ 16384 < n) (w : World) (f : Nat) :
    Calls Tryz.prog 40 #[.pointer (some ⟨f, 0, none⟩), .int .i64 n] w fun z w' => z = .returned (.tuple #[plV 0 0 0 none 0 0, .int .i64 3]) ∧ Below w.heap.size w w' := by
  by_cases h1 : n < 1
  · go_enter Tryz.func40, Tryz.ntmps40
    go_wp2
    refine bodyPost_ret (v := .tuple #[plV 0 0 0 none 0 0, .int .i64 3]) (by simp [results, Tryz.results40, go_sem, plV]) rfl ⟨rfl, ?_⟩
    repeat (refine Below.setCell ?_ (Nat.le_refl _) _)
    exact (Below.refl _ w).alloc (Nat.le_refl _) _
  · have h2 : 16384 < n := by omega
    go_enter Tryz.func40, Tryz.ntmps40
    go_wp2
    refine bodyPost_ret (v := .tuple #[plV 0 0 0 none 0 0, .int .i64 3]) (by simp [results, Tryz.results40, go_sem, plV]) rfl ⟨rfl, ?_⟩
    repeat (refine Below.setCell ?_ (Nat.le_refl _) _)
    exact (Below.refl _ w).alloc (Nat.le_refl _) _
set_option maxRecDepth 100000 in
set_option maxHeartbeats 4000000 in
theorem RPlan_bad (n : Int) (h : n < 1 ∨ 16384 < n) (w : World) :
    Calls Tryz.prog 41 #[.int .i64 n] w fun z w' => z = .returned (.tuple #[plV 0 0 0 none 0 0, .int .i64 3]) ∧ Below w.heap.size w w' := by
  by_cases h1 : n < 1
  · go_enter Tryz.func41, Tryz.ntmps41
    go_wp2
    refine bodyPost_ret (v := .tuple #[plV 0 0 0 none 0 0, .int .i64 3]) (by simp [results, Tryz.results41, go_sem, plV]) rfl ⟨rfl, ?_⟩
    repeat (refine Below.setCell ?_ (Nat.le_refl _) _)
    exact (Below.refl _ w).alloc (Nat.le_refl _) _
  · have h2 : 16384 < n := by omega
    go_enter Tryz.func41, Tryz.ntmps41
    go_wp2
    refine bodyPost_ret (v := .tuple #[plV 0 0 0 none 0 0, .int .i64 3]) (by simp [results, Tryz.results41, go_sem, plV]) rfl ⟨rfl, ?_⟩
    repeat (refine Below.setCell ?_ (Nat.le_refl _) _)
    exact (Below.refl _ w).alloc (Nat.le_refl _) _
end Go.Proofs.YtmgfaeineklccaaGreat
/- The plans for 2 and 4. -/
set_option linter.unusedSimpArgs false
set_option linter.unusedVariables false
namespace Go.Proofs.YtmgfaeineklccaaGreat
open Go.RowKit Go.Lib
theorem best_two : bestV 2 false = ⟨0, 2, 0, .nil, 24⟩ := by kernel_rfl
theorem best_four : bestV 4 false = ⟨2, 4, 0, .nil, 32⟩ := by kernel_rfl
end Go.Proofs.YtmgfaeineklccaaGreat
