/- The walk of ModelParseval. -/
import Derived.Test.YteaimnemobnknaaM6
import Derived.Test.YteaimnemobnknaaZ2
import Derived.Laws.CopyOwn
set_option linter.unusedSimpArgs false
set_option linter.unusedVariables false
namespace Go.Proofs.Yteaimnemobnknaa
open Go.RowKit Go.Lib

/-- append of m elements that lie anywhere, to a row of the call's own. -/
theorem wp_appM {o : Oper} {a : Act} {w : World} {K : Act → World → Prop} {Q : Exit → Act → World → Prop} (s x : Operand) (t e : TypeId)
    (ho : o.op = .call { callee := .builtin .append, args := #[s, x], argTypes := #[t, t] }) (sz bytes : Nat) (z : Value) (hU : Try.prog.underlying t = some (.slice e))
    (hI : (Try.prog.info? e).map (fun i => (i.zero, i.size, i.bytes)) = some (some z, sz, bytes)) (hzs : z.cells.size = sz) (hsz : 0 < sz) (hby : bytes ≤ 64)
    (base : Nat) (v : Value) (k : Nat) (xs : List Value) (hs : a.eval s = v) (hown : w.ownsRow base e sz v k xs)
    (b off m c : Nat) (hm : 0 < m) (news : List Value) (hl : news.length = m * sz) (hx : a.eval x = .slice (some ⟨b, off, none⟩) m c) (hn : ∀ j u, news[j]? = some u → w.cell? ⟨b, off + j, none⟩ = some u) (h1 : ∀ u ∈ news, u.oneCell' = true)
    (hk : k + m ≤ 1099511627776) (hbase : base ≤ w.heap.size)
    (h : ∀ g cap w', w'.ownsRow base e sz (.slice (some ⟨g, 0, none⟩) (k + m) cap) (k + m) (xs ++ news) → w.grownBy w' v.ownBlock → K (a.put o.dst (.slice (some ⟨g, 0, none⟩) (k + m) cap)) w') : o.wp Try.prog a w K Q := by
  obtain ⟨i0, hi, hz0, hz1, hz2⟩ := info_parts hI
  refine wp_append_lies w s x t ho base e i0 z sz bytes hU hi hz0 hz1 hz2 hzs hsz v k xs hs hown ⟨b, off, none⟩ m c news hx hl ?_ h1 hm (by unfold maxLen; omega) ?_ hbase _ rfl ?_
  · intro j u hj
    have := hn j u hj
    rw [Addr.add]
    split
    · rename_i e; subst e; exact this
    · exact this
  · have : (k + m) * bytes ≤ 1099511627776 * 64 := Nat.mul_le_mul hk hby
    omega
  · intro g cap w' h1 h2 _ _
    exact h g cap w' h1 h2
set_option maxRecDepth 100000 in
set_option maxHeartbeats 2000000 in
theorem list19o (A : Option Addr) (m c n : Nat) (f : Nat → Int) (w : World) (hI : IntsAt w A m f) (hm : m ≤ 1125899906842624) (hn : n ≤ 1048576) :
    Calls Try.prog 31 #[.slice A m c, .int .i64 n] w fun z w' => ∃ g, z = .returned (.slice (some ⟨g, 0, none⟩) n n) ∧ w.heap.size ≤ g ∧ w'.ownsRow w.heap.size 2 1 (.slice (some ⟨g, 0, none⟩) n n) n (intsV n (listF m f)) ∧ Below w.heap.size w w' := by
  have HI := Lib.hid hI
  have hmk := mk_int64 n (by omega)
  obtain ⟨W1, hW1⟩ : ∃ W1, W1 = w.alloc (.cells (zs n) 2) := ⟨_, rfl⟩
  have hb1 : Below w.heap.size w W1 := by rw [hW1]; exact (Below.refl _ w).alloc (Nat.le_refl _) _
  have hg1 : W1.heap[w.heap.size]? = some (.cells (zs n).toList.toArray 2 (0, 0)) := by rw [hW1]; simpa using World.alloc_heap_new w (.cells (zs n) 2)
  have hlen : (zs n).toList.length = n := by simp [zs, madeCells]
  have hzi : ∀ i, i < n → (zs n).toList[i]? = some (.int .i64 0) := fun i hi => by simp [zs, madeCells, hi, Nat.mod_one]
  have HZI := Lib.hid hzi
  have HZL := Lib.hid hlen
  have HB1 := Lib.hid hb1
  have HG1 := Lib.hid hg1
  have HSRC : Hid (0 < (intsV (Nat.min m n) f).length → (some (⟨w.heap.size, 0, none⟩ : Addr)) = some ⟨w.heap.size, 0, none⟩ ∧ ∃ ad, A = some ad ∧ ∀ j v, (intsV (Nat.min m n) f)[j]? = some v → W1.cell? (ad.add j) = some v) := Lib.hid (fun h0 => by
    rw [intsV_len] at h0
    have hmn : Nat.min m n ≤ m := Nat.min_le_left _ _
    obtain ⟨b, o, hA, -⟩ := HI.out 0 (by omega)
    refine ⟨rfl, ⟨b, o, none⟩, hA, fun j v hj => ?_⟩
    have hjl : j < Nat.min m n := by
      have := (List.getElem?_eq_some_iff.1 hj).1
      rwa [intsV_len] at this
    rw [intsV_at _ _ _ hjl] at hj
    injection hj with hj
    subst hj
    obtain ⟨b', o', hA', hc⟩ := HI.out.keep HB1.out j (by omega)
    rw [hA] at hA'
    injection hA' with e
    injection e with e1 e2
    subst e1 e2
    rw [Addr.add]
    split
    · rename_i e; subst e; exact hc
    · exact hc)
  have HLN : Hid ((intsV (Nat.min m n) f).length = Nat.min m n) := Lib.hid (intsV_len _ _)
  have HFT : Hid (0 + (intsV (Nat.min m n) f).length ≤ (zs n).toList.length) := Lib.hid (by rw [hlen, intsV_len, Nat.zero_add]; exact Nat.min_le_right m n)
  have HON : Hid (∀ v ∈ intsV (Nat.min m n) f, v.oneCell' = true) := Lib.hid (fun v hv => by
    unfold intsV at hv
    obtain ⟨i, -, rfl⟩ := List.mem_map.1 hv
    rfl)
  clear hI hb1 hg1 hzi
  go_enter Try.func31, Try.ntmps31
  go_upto_region 2 with fail
  rw [← hW1]
  go_wp2_with (with_reducible refine wpList_copy_splice rfl (.tmp 8) (.tmp 9) 38 38 rfl 2 Try.underlying38 (by kernel_rfl) (some ⟨w.heap.size, 0, none⟩) A n n m c rfl rfl w.heap.size 0 (zs n).toList 2 HG1.out (intsV (Nat.min m n) f) HLN.out HSRC.out HFT.out HON.out w.heap.size w HB1.out (Nat.le_refl _) ?_; intro w2 hg2 hb2)
  have HG2 := hg2
  have HB2 := Lib.hid hb2
  clear hg2 hb2 hmk hW1
  go_wp2
  go_ret
  refine ⟨w.heap.size, rfl, Nat.le_refl _, ⟨by rw [intsV_len, Nat.mul_one], .inr ⟨w.heap.size, n, _, rfl, Nat.le_refl _, HG2.out, Nat.le_refl _, by unfold maxLen; omega, ?_, ?_⟩⟩, HB2.out⟩
  · rw [List.size_toArray, length_splice _ _ _ (by have := HFT.out; omega), HZL.out, Nat.mul_one]
  · rw [List.toList_toArray, Nat.mul_one]
    refine List.ext_getElem? fun i => ?_
    have hml : Nat.min m n = min m n := rfl
    by_cases hin : i < n
    · rw [List.getElem?_take_of_lt hin, intsV_at _ _ _ hin, splice, List.take_zero, List.nil_append, Nat.zero_add]
      by_cases him : i < m
      · have h1 : i < Nat.min m n := by rw [hml]; omega
        rw [List.getElem?_append_left (by rw [intsV_len]; exact h1), intsV_at _ _ _ h1]
        unfold listF
        rw [if_pos him]
      · have h1 : ¬ i < Nat.min m n := by rw [hml]; omega
        rw [List.getElem?_append_right (by rw [intsV_len]; omega), intsV_len, List.getElem?_drop, show Nat.min m n + (i - Nat.min m n) = i from by omega, HZI.out i hin]
        unfold listF
        rw [if_neg him]
    · rw [List.getElem?_eq_none (by rw [List.length_take]; omega), List.getElem?_eq_none (by rw [intsV_len]; omega)]
theorem RB.grownR {w w' : World} {b : Nat} {row : Option Nat} (h : RB w b) (hg : w.grownBy w' row) (hne : row ≠ some b) : RB w' b := by
  have e := hg.block b h.l (fun e => hne e.symm)
  exact ⟨⟨(World.cell?_of_block (w := w) (a := ⟨b, 0, none⟩) e).trans h.t.1, (World.cell?_of_block (w := w) (a := ⟨b, 1, none⟩) e).trans h.t.2.1, (World.cell?_of_block (w := w) (a := ⟨b, 2, none⟩) e).trans h.t.2.2⟩, fun j hj => (World.frozen?_of_block (w := w) (a := ⟨b, j, none⟩) e).trans (h.f j hj), Nat.lt_of_lt_of_le h.l hg.size⟩
/-- One number more. -/
def appF (n : Nat) (Y : Nat → Int) : Nat → Int := fun i => if i < n then Y i else 1
theorem appF_ints (n : Nat) (Y : Nat → Int) : intsV (n + 1) (appF n Y) = intsV n Y ++ [.int .i64 1] := by
  rw [intsV_succ]
  have e1 : appF n Y n = 1 := by unfold appF; rw [if_neg (by omega)]
  have e2 : intsV n (appF n Y) = intsV n Y := by
    unfold intsV
    refine List.map_congr_left fun i hi => ?_
    have := List.mem_range.1 hi
    unfold appF
    rw [if_pos this]
  rw [e1, e2]
theorem runE_more {k r : Int} {N : Nat} {q : Fo} (h : checkE k N r q N = 0) : runE k N r q ((N + 1 : Nat) : Int) (-1) = 4 := by
  unfold runE
  rw [if_neg (by rw [h]; decide), if_pos (by omega)]

set_option maxRecDepth 100000 in
set_option maxHeartbeats 32000000 in
theorem MParseval_any (a0 : Int) (b0 : -9223372036854775808 ≤ a0) (b1 : a0 ≤ 9223372036854775807) (Ac : Option Addr) (nc cc : Nat) (f : Nat → Int) (A1 : Option Addr) (n1 c1 : Nat) (l1 : Nat → Int) (A2 : Option Addr) (n2 c2 : Nat) (l2 : Nat → Int) (w : World) (hI : IntsAt w Ac nc f) (hnc : nc ≤ 1125899906842624) (hI1 : IntsAt w A1 n1 l1) (hR1 : Rng l1) (hn1 : n1 ≤ 1125899906842624) (hI2 : IntsAt w A2 n2 l2) (hR2 : Rng l2) (hn2 : n2 ≤ 1125899906842624) :
    Calls Try.prog 10 #[.int .i64 a0, .slice Ac nc cc, .agg #[.slice A1 n1 c1, .slice A2 n2 c2]] w (Ret w (.bool true)) := by
  have HI := Lib.hid hI
  have HI1 := Lib.hid hI1
  have HI2 := Lib.hid hI2
  have HR1 := Lib.hid hR1
  have HR2 := Lib.hid hR2
  obtain ⟨W0, hW0⟩ : ∃ W0, W0 = w.alloc (.cells #[.slice A1 n1 c1, .slice A2 n2 c2] 72) := ⟨_, rfl⟩
  have hb0 : Below w.heap.size w W0 := by rw [hW0]; exact (Below.refl _ w).alloc (Nat.le_refl _) _
  have c0 : W0.cell? ⟨w.heap.size, 0, none⟩ = some (.slice A1 n1 c1) := by rw [hW0]; go_simp
  have c1' : W0.cell? ⟨w.heap.size, 1, none⟩ = some (.slice A2 n2 c2) := by rw [hW0]; go_simp
  obtain ⟨bL, hbL⟩ : ∃ bL, w.heap.size = bL := ⟨_, rfl⟩
  have HBL := Lib.hid hbL
  rw [hbL] at c0 c1'
  have HB0 := Lib.hid hb0
  have HC0 := Lib.hid (⟨c0, c1'⟩ : (fun w' => w'.cell? ⟨bL, 0, none⟩ = some (.slice A1 n1 c1) ∧ w'.cell? ⟨bL, 1, none⟩ = some (.slice A2 n2 c2)) W0)
  clear hI hI1 hI2 hR1 hR2 hb0 c0 c1'
  go_enter Try.func10, Try.ntmps10
  go_upto_region 1 with (fail)
  try rw [← hW0]
  try rw [hbL]
  clear hW0 hbL
  go_cut [0] from 19 to 22 (fun s0 wx => ∃ n : Nat, 1 ≤ n ∧ n ≤ 100 ∧ s0 = .int .i64 n ∧ W0 = wx)
  case first =>
    have h0 := Int.emod_nonneg a0 (show (100 : Int) ≠ 0 by omega)
    have h1 := Int.emod_lt_of_pos a0 (show (0 : Int) < 100 by omega)
    by_cases hneg : a0 ≤ 0
    · go_wp2_with fail
      go_meet
      exact ⟨1, by omega, by omega, rfl, rfl⟩
    · have ht : a0.tmod 100 = a0 % 100 := Int.tmod_eq_emod_of_nonneg (by omega)
      obtain ⟨x, hx⟩ : ∃ x, a0 % 100 = x := ⟨_, rfl⟩
      rw [hx] at h0 h1 ht
      clear hx
      go_wp2_with fail
      go_meet
      exact ⟨(1 + x).toNat, by omega, by omega, by rw [Int.toNat_of_nonneg (by omega)], rfl⟩
  case rest =>
  obtain ⟨n, hm1, hm2, rfl, rfl⟩ := hcut
  apply_assumption
  have HPO := Lib.hid (planOf19 n hm1 (by omega) Ac nc cc f W0 (HI.out.keep HB0.out) hnc)
  go_wp2_with fail
  refine HPO.out.mono ?_
  rintro z w1 ⟨kind, r, q, Bk, ck, rfl, hq, hkd, hb1⟩
  have HQ := Lib.hid (show q.count ≤ 549755813888 by omega)
  have HB1 := Lib.hid (HB0.out.trans (hb1.mono HB0.out.size))
  have HK1 := Lib.hid hkd
  have HC1 := Lib.hid (⟨keep_cell hb1 HC0.out.1, keep_cell hb1 HC0.out.2⟩ : (fun w' => w'.cell? ⟨bL, 0, none⟩ = some (.slice A1 n1 c1) ∧ w'.cell? ⟨bL, 1, none⟩ = some (.slice A2 n2 c2)) w1)
  clear HPO hb1 hkd hq HC0 HB0
  go_upto_region 3 with (fail)
  obtain ⟨w2, hw2⟩ : ∃ w2, w2 = w1.alloc (.cells #[.int .i64 kind, .int .i64 n, .int .i64 r, .slice Bk q.len ck] 26) := ⟨_, rfl⟩
  have hb2 : Below w1.heap.size w1 w2 := by rw [hw2]; exact (Below.refl _ w1).alloc (Nat.le_refl _) _
  have hp2 := PlBox.new w1 kind n r Bk q.len ck 26
  rw [← hw2] at hp2 ⊢
  obtain ⟨bP, hbP⟩ : ∃ bP, w1.heap.size = bP := ⟨_, rfl⟩
  rw [hbP] at hp2 ⊢
  have HP2 := Lib.hid hp2
  have HK2 := Lib.hid (HK1.out.below hb2)
  have HB2 : Hid (Below w.heap.size w w2) := Lib.hid (HB1.out.trans (hb2.mono HB1.out.size))
  have HC2 := Lib.hid (⟨keep_cell hb2 HC1.out.1, keep_cell hb2 HC1.out.2⟩ : (fun w' => w'.cell? ⟨bL, 0, none⟩ = some (.slice A1 n1 c1) ∧ w'.cell? ⟨bL, 1, none⟩ = some (.slice A2 n2 c2)) w2)
  have HWK := Lib.hid (fun w => wakes19 w)
  clear hw2 hb2 hp2 hbP HB1 HK1 HC1
  by_cases he : checkE kind n r q n = 0
  case neg =>
    have hdt : decide (checkE kind n r q n = 0) = false := decide_eq_false he
    rw [hdt]
    clear hdt he
    go_wp2_with fail
    refine (HWK.out _).mono ?_
    rintro z w3 ⟨rfl, hb3⟩
    have HB3 : Hid (Below w.heap.size w w3) := Lib.hid (HB2.out.trans (hb3.mono HB2.out.size))
    clear hb3
    go_wp2_with fail
    refine (HWK.out _).mono ?_
    rintro z w4 ⟨rfl, hb4⟩
    have HB4 : Hid (Below w.heap.size w w4) := Lib.hid (HB3.out.trans (hb4.mono HB3.out.size))
    clear hb4
    go_wp2
    go_ret
    exact ⟨rfl, HB4.out⟩
  have hdt : decide (checkE kind n r q n = 0) = true := decide_eq_true he
  rw [hdt]
  have HE := Lib.hid he
  clear hdt he
  go_wp2_with fail
  refine (HWK.out _).mono ?_
  rintro z w3 ⟨rfl, hb3⟩
  have HP3 := Lib.hid (HP2.out.below hb3)
  have HK3 := Lib.hid (HK2.out.below hb3)
  have HB3 : Hid (Below w.heap.size w w3) := Lib.hid (HB2.out.trans (hb3.mono HB2.out.size))
  have HC3 := Lib.hid (⟨keep_cell hb3 HC2.out.1, keep_cell hb3 HC2.out.2⟩ : (fun w' => w'.cell? ⟨bL, 0, none⟩ = some (.slice A1 n1 c1) ∧ w'.cell? ⟨bL, 1, none⟩ = some (.slice A2 n2 c2)) w3)
  have HSM := Lib.hid (small19 kind n r q HQ.out w3 Bk ck HK3.out)
  obtain ⟨p0, p1, p2, p3⟩ := HP3.out
  clear hb3 HP2 HK2 HB2 HC2
  by_cases hsm : (ordR kind n r q).2 = 0 ∧ (ordR kind n r q).1 ≤ 4294967296
  case neg =>
    rw [decide_eq_false hsm] at HSM
    clear hsm
    go_wp2_with fail
    refine HSM.out.mono ?_
    rintro z w4 ⟨rfl, hb4⟩
    have HB4 : Hid (Below w.heap.size w w4) := Lib.hid (HB3.out.trans (hb4.mono HB3.out.size))
    clear hb4 HSM p0 p1 p2 p3
    go_wp2_with fail
    refine (HWK.out _).mono ?_
    rintro z w5 ⟨rfl, hb5⟩
    have HB5 : Hid (Below w.heap.size w w5) := Lib.hid (HB4.out.trans (hb5.mono HB4.out.size))
    clear hb5
    go_wp2
    go_ret
    exact ⟨rfl, HB5.out⟩
  rw [decide_eq_true hsm] at HSM
  obtain ⟨o, Q, ho, F⟩ := small_field hm2 hsm
  have hlo := F.lo
  have hhi := F.hi
  have HPA := Lib.hid (fun (w : World) (h : Kids w Bk 0 q) (bX gY : Nat) (hX : IntsAt w (some ⟨bX, 0, none⟩) n (listF n1 l1)) (hY : IntsAt w (some ⟨gY, 0, none⟩) n (listF n2 l2)) => Parseval_any kind n r q HQ.out o Q F ho (by omega) w Bk ck h (some ⟨bX, 0, none⟩) (some ⟨gY, 0, none⟩) n n _ _ hX hY (listF_rng HR1.out) (listF_rng HR2.out))
  have hRA : Rng (appF n (listF n2 l2)) := fun i => by
    unfold appF
    split
    · exact listF_rng HR2.out i
    · omega
  have HPN0 : Hid (∀ (w : World), Kids w Bk 0 q → ∀ (bX gA capA : Nat), IntsAt w (some ⟨bX, 0, none⟩) n (listF n1 l1) → IntsAt w (some ⟨gA, 0, none⟩) (n + 1) (appF n (listF n2 l2)) → Calls Try.prog 39 #[plV kind n r Bk q.len ck, .slice (some ⟨bX, 0, none⟩) n n, .slice (some ⟨gA, 0, none⟩) (n + 1) capA] w fun z w' => z = .returned (.tuple #[.int .i64 0, rgV 0 0 0, .int .i64 4]) ∧ Below w.heap.size w w') := Lib.hid (fun w h bX gA capA hX hA => by
    have := Parseval_no kind n r q HQ.out o Q F ho (by omega) w Bk ck h (some ⟨bX, 0, none⟩) (some ⟨gA, 0, none⟩) n (n + 1) capA (by omega) (by rw [runE_more HE.out]; decide) (listF n1 l1) (appF n (listF n2 l2)) hX hA (listF_rng HR1.out) hRA
    rw [runE_more HE.out] at this
    exact this)
  clear hsm ho F hRA
  go_wp2_with fail
  refine HSM.out.mono ?_
  rintro z w4 ⟨rfl, hb4⟩
  have HB4 : Hid (Below w.heap.size w w4) := Lib.hid (HB3.out.trans (hb4.mono HB3.out.size))
  have HP4 := Lib.hid (HP3.out.below hb4)
  have HK4 := Lib.hid (HK3.out.below hb4)
  have HLI1 := Lib.hid (fun w h => list19 A1 n1 c1 n l1 w h hn1 (by omega))
  have HLI2 := Lib.hid (fun w h => list19o A2 n2 c2 n l2 w h hn2 (by omega))
  obtain ⟨l0, l1'⟩ := (⟨keep_cell hb4 HC3.out.1, keep_cell hb4 HC3.out.2⟩ : (fun w' => w'.cell? ⟨bL, 0, none⟩ = some (.slice A1 n1 c1) ∧ w'.cell? ⟨bL, 1, none⟩ = some (.slice A2 n2 c2)) w4)
  clear hb4 HP3 HK3 HB3 HSM HC3 p0 p1 p2 p3 HWK
  go_upto_region 5 with (fail)
  refine wp_region_S (fun w' => w'.cell? ⟨bL, 0, none⟩ = some (.slice A1 n1 c1) ∧ w'.cell? ⟨bL, 1, none⟩ = some (.slice A2 n2 c2)) 7 (by kernel_rfl) ?_
  have hS0 := (⟨l0, l1'⟩ : (fun w' => w'.cell? ⟨bL, 0, none⟩ = some (.slice A1 n1 c1) ∧ w'.cell? ⟨bL, 1, none⟩ = some (.slice A2 n2 c2)) w4.drew)
  refine wpAnyS_take (i := 0) (v := ?_) (by kernel_rfl) rfl (fun _ _ _ h => h) rfl hS0 (fun w hSw => by (try dsimp only at hSw); go_simp; try with_reducible rfl) ?_
  try simp only [List.getElem_toArray, List.getElem_cons_zero, List.getElem_cons_succ, Act.put, List.setIfInBounds_toArray, List.set_cons_zero, List.set_cons_succ]
  refine wpAnyS_take (i := 1) (v := ?_) (by kernel_rfl) rfl (fun _ _ _ h => h) rfl hS0 (fun w hSw => by (try dsimp only at hSw); go_simp; try with_reducible rfl) ?_
  try simp only [List.getElem_toArray, List.getElem_cons_zero, List.getElem_cons_succ, Act.put, List.setIfInBounds_toArray, List.set_cons_zero, List.set_cons_succ]
  refine wpAnyS_take (i := 2) (v := ?_) (by kernel_rfl) rfl (fun _ _ _ h => h) rfl hS0 (fun w hSw => by (try dsimp only at hSw); go_simp; try with_reducible rfl) ?_
  try simp only [List.getElem_toArray, List.getElem_cons_zero, List.getElem_cons_succ, Act.put, List.setIfInBounds_toArray, List.set_cons_zero, List.set_cons_succ]
  refine wpAnyS_take (i := 4) (v := ?_) (by kernel_rfl) rfl (fun _ _ _ h => h) rfl hS0 (fun w hSw => by (try dsimp only at hSw); go_simp; try with_reducible rfl) ?_
  try simp only [List.getElem_toArray, List.getElem_cons_zero, List.getElem_cons_succ, Act.put, List.setIfInBounds_toArray, List.set_cons_zero, List.set_cons_succ]
  refine wpAnyS_take (i := 5) (v := ?_) (by kernel_rfl) rfl (fun _ _ _ h => h) rfl hS0 (fun w hSw => by (try dsimp only at hSw); go_simp; try with_reducible rfl) ?_
  try simp only [List.getElem_toArray, List.getElem_cons_zero, List.getElem_cons_succ, Act.put, List.setIfInBounds_toArray, List.set_cons_zero, List.set_cons_succ]
  refine wpAnyS_take (i := 6) (v := ?_) (by kernel_rfl) rfl (fun _ _ _ h => h) rfl hS0 (fun w hSw => by (try dsimp only at hSw); go_simp; try with_reducible rfl) ?_
  try simp only [List.getElem_toArray, List.getElem_cons_zero, List.getElem_cons_succ, Act.put, List.setIfInBounds_toArray, List.set_cons_zero, List.set_cons_succ]
  refine wpAnyS_one (i := 3) (by kernel_rfl) rfl rfl (fun K hK => ?_)
  go_simp
  refine (HLI1.out _ (HI1.out.keep HB4.out.drew)).mono ?_
  rintro z w5 ⟨bX, rfl, -, hx5, hb5⟩
  have hr5 : Below w4.heap.size w4 w5 := (Below.refl _ w4).drew.trans hb5
  have HB5 := Lib.hid (HB4.out.trans (hr5.mono HB4.out.size))
  have hS1 : (fun w' => w'.cell? ⟨bL, 0, none⟩ = some (.slice A1 n1 c1) ∧ w'.cell? ⟨bL, 1, none⟩ = some (.slice A2 n2 c2)) w5 := ⟨keep_cell hr5 l0, keep_cell hr5 l1'⟩
  refine hK.out _ _ (fun _ => hS1) ?_
  clear hK K
  try simp only [List.getElem_toArray, List.getElem_cons_zero, List.getElem_cons_succ, Act.put, List.setIfInBounds_toArray, List.set_cons_zero, List.set_cons_succ]
  refine wpAnyS_end 3 7 (by kernel_rfl) (by decide) rfl ?_
  simp only [List.toList_toArray, List.drop_succ_cons, List.drop_zero]
  go_wp2_with fail
  refine (HLI2.out w5 (HI2.out.keep HB5.out)).mono ?_
  rintro z w6 ⟨gY, rfl, -, hy6, hb6⟩
  have HX5 := Lib.hid hx5
  have HP5 := Lib.hid (HP4.out.below hr5)
  have HK5 := Lib.hid (HK4.out.below hr5)
  have HW6 : Hid (Below w5.heap.size w5 w6) := Lib.hid hb6
  have HO6 := Lib.hid hy6
  clear hS0 hS1 hx5 hy6 hb5 hb6 hr5 l0 l1' HLI1 HLI2 HP4 HK4 HB4
  obtain ⟨X, hX⟩ : ∃ X, listF n1 l1 = X := ⟨_, rfl⟩
  obtain ⟨Y, hY⟩ : ∃ Y, listF n2 l2 = Y := ⟨_, rfl⟩
  have HRX : Hid (Rng X) := Lib.hid (by rw [← hX]; exact listF_rng HR1.out)
  have HRY : Hid (Rng Y) := Lib.hid (by rw [← hY]; exact listF_rng HR2.out)
  rw [hX] at HX5 HPA HPN0
  rw [hY] at HO6 HPA HPN0
  have HPN := Lib.hid (fun (w : World) (gA capA : Nat) (hB : Below w5.heap.size w5 w) (hA : IntsAt w (some ⟨gA, 0, none⟩) (n + 1) (appF n Y)) => HPN0.out w (HK5.out.below hB) bX gA capA (HX5.out.keep hB) hA)
  obtain ⟨AY, cY, hvY, hiY, hgY⟩ := owns_ints HO6.out
  injection hvY with hY1 hY2 hY3
  subst hY1 hY3
  have HPX := Lib.hid (HPA.out w6 (HK5.out.below HW6.out) bX gY (HX5.out.keep HW6.out) hiY)
  obtain ⟨p0, p1, p2, p3⟩ := HP5.out.below HW6.out
  clear hX hY hiY hgY hY2 HPN0 HPA
  go_wp2_with fail
  refine HPX.out.mono ?_
  rintro z w7 ⟨v, hv, rfl, hb7⟩
  have HW7 : Hid (Below w5.heap.size w5 w7) := Lib.hid (HW6.out.trans (hb7.mono HW6.out.size))
  have HO7 := Lib.hid (owns_below HO6.out hb7)
  clear hv hb7 HPX p0 p1 p2 p3 HO6 HW6
  go_upto_region 7 with (fail)
  obtain ⟨w8, hw8⟩ : ∃ w8, w8 = w7.alloc (.cells #[.int .i64 Q, .int .i64 v, .int .i64 o] 60) := ⟨_, rfl⟩
  have hb8 : Below w7.heap.size w7 w8 := by rw [hw8]; exact (Below.refl _ w7).alloc (Nat.le_refl _) _
  have hT8 := Tri.new w7 (Q : Int) v o 60
  rw [← hw8] at hT8 ⊢
  obtain ⟨bF, hbF⟩ : ∃ bF, w7.heap.size = bF := ⟨_, rfl⟩
  rw [hbF] at hT8 ⊢
  have HT8 := Lib.hid hT8
  have HW8 : Hid (Below w5.heap.size w5 w8) := Lib.hid (HW7.out.trans (hb8.mono HW7.out.size))
  have HO8 := Lib.hid (owns_below HO7.out hb8)
  clear hw8 hb8 hT8 hbF HW7 HO7
  obtain ⟨DD, hDD⟩ : ∃ DD, dot19 Q X Y n = DD := ⟨_, rfl⟩
  rw [hDD]
  have HDD := Lib.hid hDD
  clear hDD
  go_wp2_with fail
  go_loopw [14, 15, 61] (fun v14 v15 v61 wr => ∃ k : Nat, k ≤ n ∧ v61 = .int .i64 k ∧ v14 = .int .i64 ((dot19 Q X Y k : Nat) : Int) ∧ Hid (Below w5.heap.size w5 wr) ∧ Hid (wr.ownsRow w5.heap.size 2 1 (.slice (some ⟨gY, 0, none⟩) n n) n (intsV n Y)) ∧ Hid (Tri wr bF Q v o)) (fun _ _ v61 _ => n - (intOf v61).toNat)
  case atStart => exact ⟨0, by omega, rfl, rfl, HW8, HO8, HT8⟩
  case round =>
    clear HW8 HO8 HT8
    obtain ⟨k, hk, rfl, rfl, HWL, HOL, HTL⟩ := hrel
    by_cases hlt : k < n
    · have hki : (k : Int) < n := by omega
      obtain ⟨bx', ox', ex, hxc⟩ := HX5.out.keep HWL.out k hlt
      injection ex with ex
      injection ex with ex1 ex2
      subst ex1 ex2
      rw [Nat.zero_add] at hxc
      obtain ⟨AY, cY, hvY, hiY, hgY⟩ := owns_ints HOL.out
      injection hvY with hY1 hY2 hY3
      subst hY1 hY3
      obtain ⟨by', oy', ey, hyc⟩ := hiY k hlt
      injection ey with ey
      injection ey with ey1 ey2
      subst ey1 ey2
      rw [Nat.zero_add] at hyc
      have hdl := dot19_lt (q := Q) (by omega) X Y k
      have hst : dot19 Q X Y (k + 1) = (dot19 Q X Y k + ((X k * Y k) % (Q : Int)).toNat) % Q := rfl
      have h0 := Int.emod_nonneg (X k) (show (Q : Int) ≠ 0 by omega)
      have h1 := Int.emod_nonneg (Y k) (show (Q : Int) ≠ 0 by omega)
      obtain ⟨x, hx⟩ := Int.eq_ofNat_of_zero_le h0
      obtain ⟨y, hy⟩ := Int.eq_ofNat_of_zero_le h1
      have hxy : ((X k * Y k) % (Q : Int)).toNat = x * y % Q := by rw [Int.mul_emod, hx, hy, ← Int.natCast_mul, ← Int.natCast_emod, Int.toNat_natCast]
      rw [hxy] at hst
      have HMU := Lib.hid (fun w => RMul_any (X k) (Y k) x y Q hx hy (by omega) (by omega) (HRX.out k).1 (HRX.out k).2 (HRY.out k).1 (HRY.out k).2 w)
      have hpl : x * y % Q < Q := Nat.mod_lt _ (by omega)
      obtain ⟨p, hp⟩ : ∃ p, x * y % Q = p := ⟨_, rfl⟩
      rw [hp] at hst hpl HMU
      obtain ⟨d, hd⟩ : ∃ d, dot19 Q X Y k = d := ⟨_, rfl⟩
      rw [hd] at hst hdl ⊢
      have htm : ((d : Int) + (p : Int)).tmod Q = ((dot19 Q X Y (k + 1) : Nat) : Int) := by rw [hst, Int.tmod_eq_emod_of_nonneg (by omega), Int.natCast_emod, Int.natCast_add]
      have hw2 : IntKind.i64.wrap ((d : Int) + (p : Int)) = (d : Int) + (p : Int) := by rw [← Int.natCast_add]; exact wrapI_nat _ (by omega)
      obtain ⟨D2, hD2⟩ : ∃ D2, dot19 Q X Y (k + 1) = D2 := ⟨_, rfl⟩
      have hD2l : D2 < Q := by rw [← hD2]; exact dot19_lt (by omega) X Y (k + 1)
      rw [hD2] at htm
      have hw3 : IntKind.i64.wrap ((D2 : Nat) : Int) = (D2 : Int) := wrapI_nat _ (by omega)
      have HD2 := Lib.hid hD2
      have hQ0 : ¬ Q = 0 := by omega
      obtain ⟨f0, -, -⟩ := HTL.out
      have x0 := hxc
      have y0' := hyc
      clear hst hx hy h0 h1 hxy hp hd hD2 hxc hyc hiY hgY hY2
      go_upto_region 13 with (fail)
      refine wp_region_S (fun w' => w'.cell? ⟨bX, k, none⟩ = some (.int .i64 (X k)) ∧ w'.cell? ⟨gY, k, none⟩ = some (.int .i64 (Y k)) ∧ w'.cell? ⟨bF, 0, none⟩ = some (.int .i64 Q)) 15 (by kernel_rfl) ?_
      have hS0 := (⟨x0, y0', f0⟩ : (fun w' => w'.cell? ⟨bX, k, none⟩ = some (.int .i64 (X k)) ∧ w'.cell? ⟨gY, k, none⟩ = some (.int .i64 (Y k)) ∧ w'.cell? ⟨bF, 0, none⟩ = some (.int .i64 Q)) wr.drew)
      refine wpAnyS_take (i := 0) (v := ?_) (by kernel_rfl) rfl (fun _ _ _ h => h) rfl hS0 (fun w hSw => by (try dsimp only at hSw); go_simp; try with_reducible rfl) ?_
      try simp only [List.getElem_toArray, List.getElem_cons_zero, List.getElem_cons_succ, Act.put, List.setIfInBounds_toArray, List.set_cons_zero, List.set_cons_succ]
      refine wpAnyS_take (i := 1) (v := ?_) (by kernel_rfl) rfl (fun _ _ _ h => h) rfl hS0 (fun w hSw => by (try dsimp only at hSw); go_simp; try with_reducible rfl) ?_
      try simp only [List.getElem_toArray, List.getElem_cons_zero, List.getElem_cons_succ, Act.put, List.setIfInBounds_toArray, List.set_cons_zero, List.set_cons_succ]
      refine wpAnyS_take (i := 2) (v := ?_) (by kernel_rfl) rfl (fun _ _ _ h => h) rfl hS0 (fun w hSw => by (try dsimp only at hSw); go_simp; try with_reducible rfl) ?_
      try simp only [List.getElem_toArray, List.getElem_cons_zero, List.getElem_cons_succ, Act.put, List.setIfInBounds_toArray, List.set_cons_zero, List.set_cons_succ]
      refine wpAnyS_take (i := 3) (v := ?_) (by kernel_rfl) rfl (fun _ _ _ h => h) rfl hS0 (fun w hSw => by (try dsimp only at hSw); go_simp; try with_reducible rfl) ?_
      try simp only [List.getElem_toArray, List.getElem_cons_zero, List.getElem_cons_succ, Act.put, List.setIfInBounds_toArray, List.set_cons_zero, List.set_cons_succ]
      refine wpAnyS_take (i := 4) (v := ?_) (by kernel_rfl) rfl (fun _ _ _ h => h) rfl hS0 (fun w hSw => by (try dsimp only at hSw); go_simp; try with_reducible rfl) ?_
      try simp only [List.getElem_toArray, List.getElem_cons_zero, List.getElem_cons_succ, Act.put, List.setIfInBounds_toArray, List.set_cons_zero, List.set_cons_succ]
      refine wpAnyS_take (i := 5) (v := ?_) (by kernel_rfl) rfl (fun _ _ _ h => h) rfl hS0 (fun w hSw => by (try dsimp only at hSw); go_simp; try with_reducible rfl) ?_
      try simp only [List.getElem_toArray, List.getElem_cons_zero, List.getElem_cons_succ, Act.put, List.setIfInBounds_toArray, List.set_cons_zero, List.set_cons_succ]
      refine wpAnyS_take (i := 6) (v := ?_) (by kernel_rfl) rfl (fun _ _ _ h => h) rfl hS0 (fun w hSw => by (try dsimp only at hSw); go_simp; try with_reducible rfl) ?_
      try simp only [List.getElem_toArray, List.getElem_cons_zero, List.getElem_cons_succ, Act.put, List.setIfInBounds_toArray, List.set_cons_zero, List.set_cons_succ]
      refine wpAnyS_take (i := 7) (v := ?_) (by kernel_rfl) rfl (fun _ _ _ h => h) rfl hS0 (fun w hSw => by (try dsimp only at hSw); go_simp; try with_reducible rfl) ?_
      try simp only [List.getElem_toArray, List.getElem_cons_zero, List.getElem_cons_succ, Act.put, List.setIfInBounds_toArray, List.set_cons_zero, List.set_cons_succ]
      refine wpAnyS_take (i := 8) (v := ?_) (by kernel_rfl) rfl (fun _ _ _ h => h) rfl hS0 (fun w hSw => by (try dsimp only at hSw); go_simp; try with_reducible rfl) ?_
      try simp only [List.getElem_toArray, List.getElem_cons_zero, List.getElem_cons_succ, Act.put, List.setIfInBounds_toArray, List.set_cons_zero, List.set_cons_succ]
      refine wpAnyS_take (i := 9) (v := ?_) (by kernel_rfl) rfl (fun _ _ _ h => h) rfl hS0 (fun w hSw => by (try dsimp only at hSw); go_simp; try with_reducible rfl) ?_
      try simp only [List.getElem_toArray, List.getElem_cons_zero, List.getElem_cons_succ, Act.put, List.setIfInBounds_toArray, List.set_cons_zero, List.set_cons_succ]
      refine wpAnyS_take (i := 10) (v := ?_) (by kernel_rfl) rfl (fun _ _ _ h => h) rfl hS0 (fun w hSw => by (try dsimp only at hSw); go_simp; try with_reducible rfl) ?_
      try simp only [List.getElem_toArray, List.getElem_cons_zero, List.getElem_cons_succ, Act.put, List.setIfInBounds_toArray, List.set_cons_zero, List.set_cons_succ]
      refine wpAnyS_take (i := 13) (v := ?_) (by kernel_rfl) rfl (fun _ _ _ h => h) rfl hS0 (fun w hSw => by (try dsimp only at hSw); go_simp; try with_reducible rfl) ?_
      try simp only [List.getElem_toArray, List.getElem_cons_zero, List.getElem_cons_succ, Act.put, List.setIfInBounds_toArray, List.set_cons_zero, List.set_cons_succ]
      refine wpAnyS_take (i := 14) (v := ?_) (by kernel_rfl) rfl (fun _ _ _ h => h) rfl hS0 (fun w hSw => by (try dsimp only at hSw); go_simp; try with_reducible rfl) ?_
      try simp only [List.getElem_toArray, List.getElem_cons_zero, List.getElem_cons_succ, Act.put, List.setIfInBounds_toArray, List.set_cons_zero, List.set_cons_succ]
      refine wpAnyS_one (i := 11) (by kernel_rfl) rfl rfl (fun K hK => ?_)
      go_simp
      refine (HMU.out _).mono ?_
      rintro z wz ⟨rfl, rfl⟩
      have hS1 := hS0
      refine hK.out _ _ (fun _ => hS1) ?_
      clear hK K
      try simp only [List.getElem_toArray, List.getElem_cons_zero, List.getElem_cons_succ, Act.put, List.setIfInBounds_toArray, List.set_cons_zero, List.set_cons_succ]
      refine wpAnyS_take (i := 12) (v := ?_) (by kernel_rfl) rfl (fun _ _ _ h => h) rfl hS1 (fun w hSw => by (try dsimp only at hSw); go_simp; try with_reducible rfl) ?_
      try simp only [List.getElem_toArray, List.getElem_cons_zero, List.getElem_cons_succ, Act.put, List.setIfInBounds_toArray, List.set_cons_zero, List.set_cons_succ]
      refine wpAnyS_end 2 15 (by kernel_rfl) (by decide) rfl ?_
      simp only [List.toList_toArray, List.drop_succ_cons, List.drop_zero]
      have HWN := Lib.hid HWL.out.drew
      have HON := Lib.hid (owns_below HOL.out (Below.refl _ wr).drew)
      have HTN := Lib.hid (HTL.out.below (Below.refl _ wr).drew)
      clear hS0 hS1 x0 y0' f0
      go_wp2
      exact ⟨⟨k + 1, by omega, by go_num, by rw [HD2.out], HWN, HON, HTN⟩, by simp [intOf]; omega⟩
    · obtain rfl : n = k := by omega
      have hDe : dot19 Q X Y n = DD := HDD.out
      rw [hDe]
      clear hDe
      go_upto_region 15 with (fail)
      refine wp_region_S (fun w' => w'.cell? ⟨bP, 0, none⟩ = some (.int .i64 kind) ∧ w'.cell? ⟨bP, 1, none⟩ = some (.int .i64 n) ∧ w'.cell? ⟨bP, 2, none⟩ = some (.int .i64 r) ∧ w'.cell? ⟨bP, 3, none⟩ = some (.slice Bk q.len ck)) 13 (by kernel_rfl) ?_
      obtain ⟨p0, p1, p2, p3⟩ := HP5.out.below HWL.out
      have hSy0 := (⟨p0, p1, p2, p3⟩ : (fun w' => w'.cell? ⟨bP, 0, none⟩ = some (.int .i64 kind) ∧ w'.cell? ⟨bP, 1, none⟩ = some (.int .i64 n) ∧ w'.cell? ⟨bP, 2, none⟩ = some (.int .i64 r) ∧ w'.cell? ⟨bP, 3, none⟩ = some (.slice Bk q.len ck)) wr.drew)
      have HWy0 : Hid (Below w5.heap.size w5 wr.drew) := Lib.hid HWL.out.drew
      have HOy0 : Hid (wr.drew.ownsRow w5.heap.size 2 1 (.slice (some ⟨gY, 0, none⟩) n n) n (intsV n Y)) := Lib.hid (owns_below HOL.out (Below.refl _ wr).drew)
      generalize wr.drew = y0 at *
      refine wpAnyS_take (i := 0) (v := ?_) (by kernel_rfl) rfl (fun _ _ _ h => h) rfl hSy0 (fun w hSw => by (try dsimp only at hSw); go_simp; try with_reducible rfl) ?_
      try simp only [List.getElem_toArray, List.getElem_cons_zero, List.getElem_cons_succ, Act.put, List.setIfInBounds_toArray, List.set_cons_zero, List.set_cons_succ]
      refine wpAnyS_take (i := 1) (v := ?_) (by kernel_rfl) rfl (fun _ _ _ h => h) rfl hSy0 (fun w hSw => by (try dsimp only at hSw); go_simp; try with_reducible rfl) ?_
      try simp only [List.getElem_toArray, List.getElem_cons_zero, List.getElem_cons_succ, Act.put, List.setIfInBounds_toArray, List.set_cons_zero, List.set_cons_succ]
      refine wpAnyS_take (i := 2) (v := ?_) (by kernel_rfl) rfl (fun _ _ _ h => h) rfl hSy0 (fun w hSw => by (try dsimp only at hSw); go_simp; try with_reducible rfl) ?_
      try simp only [List.getElem_toArray, List.getElem_cons_zero, List.getElem_cons_succ, Act.put, List.setIfInBounds_toArray, List.set_cons_zero, List.set_cons_succ]
      refine wpAnyS_pair (i := 3) (j := 10) (by kernel_rfl) rfl rfl rfl rfl (fun K hK => ?_) (fun K hK => ?_)
      · go_simp
        obtain ⟨y1, hwx⟩ : ∃ y1, y1 = y0.alloc (.cells #[.int .i64 1] 2) := ⟨_, rfl⟩
        have hcc : Below y0.heap.size y0 y1 := by rw [hwx]; exact (Below.refl _ y0).alloc (Nat.le_refl _) _
        have hn1 : ∀ j u, [Value.int .i64 1][j]? = some u → y1.cell? ⟨y0.heap.size, 0 + j, none⟩ = some u := fun j u hj => by rw [Nat.zero_add, hwx]; exact cells_one _ _ _ _ rfl j u hj
        rw [← hwx]
        obtain ⟨bN, hbN⟩ : ∃ bN, y0.heap.size = bN := ⟨_, rfl⟩
        rw [hbN] at hn1 ⊢
        have HN1 := Lib.hid hn1
        have hSy1 : (fun w' => w'.cell? ⟨bP, 0, none⟩ = some (.int .i64 kind) ∧ w'.cell? ⟨bP, 1, none⟩ = some (.int .i64 n) ∧ w'.cell? ⟨bP, 2, none⟩ = some (.int .i64 r) ∧ w'.cell? ⟨bP, 3, none⟩ = some (.slice Bk q.len ck)) y1 := ⟨keep_cell hcc hSy0.1, keep_cell hcc hSy0.2.1, keep_cell hcc hSy0.2.2.1, keep_cell hcc hSy0.2.2.2⟩
        clear hn1 hbN hwx
        have HWy1 := Lib.hid (HWy0.out.trans (hcc.mono HWy0.out.size))
        have HOy1 := Lib.hid (owns_below HOy0.out hcc)
        clear hcc
        refine hK.out _ _ (fun _ => hSy1) ?_
        clear hK K
        try simp only [List.getElem_toArray, List.getElem_cons_zero, List.getElem_cons_succ, Act.put, List.setIfInBounds_toArray, List.set_cons_zero, List.set_cons_succ]
        refine wpAnyS_pair (i := 4) (j := 10) (by kernel_rfl) rfl rfl rfl rfl (fun K hK => ?_) (fun K hK => ?_)
        · refine wp_appM _ _ 38 2 rfl 1 8 (.int .i64 0) Try.underlying38 info_int64 rfl (by omega) (by omega) w5.heap.size (.slice (some ⟨gY, 0, none⟩) n n) n (intsV n Y) (by kernel_rfl) HOy1.out bN 0 1 1 (by omega) [.int .i64 1] rfl (by kernel_rfl) HN1.out (one_int _) (by omega) HWy1.out.size ?_
          intro gA capA y2 hOA hGA
          have HWy2 : Hid (Below w5.heap.size w5 y2) := Lib.hid (HWy1.out.grown hGA HWy1.out.size (fun k e => (World.ownsRow.lt HOy1.out k e).1))
          rw [← appF_ints] at hOA
          obtain ⟨AA, cA, hvA, hiA, -⟩ := owns_ints hOA
          injection hvA with hA1 hA2 hA3
          subst hA1 hA3
          have HIA := Lib.hid hiA
          obtain ⟨q0, q1, q2, q3⟩ := HP5.out.below HWy2.out
          have hSy2 : (fun w' => w'.cell? ⟨bP, 0, none⟩ = some (.int .i64 kind) ∧ w'.cell? ⟨bP, 1, none⟩ = some (.int .i64 n) ∧ w'.cell? ⟨bP, 2, none⟩ = some (.int .i64 r) ∧ w'.cell? ⟨bP, 3, none⟩ = some (.slice Bk q.len ck)) y2 := ⟨q0, q1, q2, q3⟩
          clear q0 q1 q2 q3
          clear hOA hGA hiA
          refine hK.out _ _ (fun _ => hSy2) ?_
          clear hK K
          try simp only [List.getElem_toArray, List.getElem_cons_zero, List.getElem_cons_succ, Act.put, List.setIfInBounds_toArray, List.set_cons_zero, List.set_cons_succ]
          refine wpAnyS_pair (i := 5) (j := 10) (by kernel_rfl) rfl rfl rfl rfl (fun K hK => ?_) (fun K hK => ?_)
          · go_simp
            refine (HPN.out y2 gA capA HWy2.out HIA.out).mono ?_
            rintro z y3 ⟨rfl, hcc⟩
            have hSy3 : (fun w' => w'.cell? ⟨bP, 0, none⟩ = some (.int .i64 kind) ∧ w'.cell? ⟨bP, 1, none⟩ = some (.int .i64 n) ∧ w'.cell? ⟨bP, 2, none⟩ = some (.int .i64 r) ∧ w'.cell? ⟨bP, 3, none⟩ = some (.slice Bk q.len ck)) y3 := ⟨keep_cell hcc hSy2.1, keep_cell hcc hSy2.2.1, keep_cell hcc hSy2.2.2.1, keep_cell hcc hSy2.2.2.2⟩
            have HWy3 := Lib.hid (HWy2.out.trans (hcc.mono HWy2.out.size))
            clear hcc
            refine hK.out _ _ (fun _ => hSy3) ?_
            clear hK K
            try simp only [List.getElem_toArray, List.getElem_cons_zero, List.getElem_cons_succ, Act.put, List.setIfInBounds_toArray, List.set_cons_zero, List.set_cons_succ]
            refine wpAnyS_take (i := 6) (v := ?_) (by kernel_rfl) rfl (fun _ _ _ h => h) rfl hSy3 (fun w hSw => by (try dsimp only at hSw); go_simp; try with_reducible rfl) ?_
            try simp only [List.getElem_toArray, List.getElem_cons_zero, List.getElem_cons_succ, Act.put, List.setIfInBounds_toArray, List.set_cons_zero, List.set_cons_succ]
            refine wpAnyS_take (i := 7) (v := ?_) (by kernel_rfl) rfl (fun _ _ _ h => h) rfl hSy3 (fun w hSw => by (try dsimp only at hSw); go_simp; try with_reducible rfl) ?_
            try simp only [List.getElem_toArray, List.getElem_cons_zero, List.getElem_cons_succ, Act.put, List.setIfInBounds_toArray, List.set_cons_zero, List.set_cons_succ]
            refine wpAnyS_take (i := 8) (v := ?_) (by kernel_rfl) rfl (fun _ _ _ h => h) rfl hSy3 (fun w hSw => by (try dsimp only at hSw); go_simp; try with_reducible rfl) ?_
            try simp only [List.getElem_toArray, List.getElem_cons_zero, List.getElem_cons_succ, Act.put, List.setIfInBounds_toArray, List.set_cons_zero, List.set_cons_succ]
            refine wpAnyS_take (i := 9) (v := ?_) (by kernel_rfl) rfl (fun _ _ _ h => h) rfl hSy3 (fun w hSw => by (try dsimp only at hSw); go_simp; try with_reducible rfl) ?_
            try simp only [List.getElem_toArray, List.getElem_cons_zero, List.getElem_cons_succ, Act.put, List.setIfInBounds_toArray, List.set_cons_zero, List.set_cons_succ]
            refine wpAnyS_one (i := 10) (by kernel_rfl) rfl rfl (fun K hK => ?_)
            go_simp
            obtain ⟨y4, hwx⟩ : ∃ y4, y4 = y3.alloc (.cells #[.int .i64 0, .int .i64 0, .int .i64 0] 60) := ⟨_, rfl⟩
            have hcc : Below y3.heap.size y3 y4 := by rw [hwx]; exact (Below.refl _ y3).alloc (Nat.le_refl _) _
            have hrb := RB.new y3 60
            rw [← hwx] at hrb ⊢
            have HLG : Hid (w5.heap.size ≤ y3.heap.size) := Lib.hid HWy3.out.size
            obtain ⟨bG, hbG⟩ : ∃ bG, y3.heap.size = bG := ⟨_, rfl⟩
            rw [hbG] at hrb HLG ⊢
            have HRB := Lib.hid hrb
            have hSy4 : (fun w' => w'.cell? ⟨bP, 0, none⟩ = some (.int .i64 kind) ∧ w'.cell? ⟨bP, 1, none⟩ = some (.int .i64 n) ∧ w'.cell? ⟨bP, 2, none⟩ = some (.int .i64 r) ∧ w'.cell? ⟨bP, 3, none⟩ = some (.slice Bk q.len ck)) y4 := ⟨keep_cell hcc hSy3.1, keep_cell hcc hSy3.2.1, keep_cell hcc hSy3.2.2.1, keep_cell hcc hSy3.2.2.2⟩
            clear hrb hbG hwx
            have HWy4 := Lib.hid (HWy3.out.trans (hcc.mono HWy3.out.size))
            clear hcc
            refine hK.out _ _ (fun _ => hSy4) ?_
            clear hK K
            try simp only [List.getElem_toArray, List.getElem_cons_zero, List.getElem_cons_succ, Act.put, List.setIfInBounds_toArray, List.set_cons_zero, List.set_cons_succ]
            refine wpAnyS_take (i := 11) (v := ?_) (by kernel_rfl) rfl (fun _ _ _ h => h) rfl hSy4 (fun w hSw => by (try dsimp only at hSw); go_simp; try with_reducible rfl) ?_
            try simp only [List.getElem_toArray, List.getElem_cons_zero, List.getElem_cons_succ, Act.put, List.setIfInBounds_toArray, List.set_cons_zero, List.set_cons_succ]
            refine wpAnyS_one (i := 12) (by kernel_rfl) rfl rfl (fun K hK => ?_)
            obtain ⟨⟨u0, u1, u2⟩, hz, hlb⟩ := HRB.out
            have hz0 := hz 0 (by omega)
            have hz1 := hz 1 (by omega)
            have hz2 := hz 2 (by omega)
            clear hz hlb
            go_simp
            have HWF := Lib.hid (((HWy4.out.setCell (p := ⟨bG, 0, none⟩) HLG.out (.int .i64 0)).setCell (p := ⟨bG, 1, none⟩) HLG.out (.int .i64 0)).setCell (p := ⟨bG, 2, none⟩) HLG.out (.int .i64 0))
            obtain ⟨q0, q1, q2, q3⟩ := HP5.out.below HWF.out
            refine hK.out _ _ (fun _ => (⟨q0, q1, q2, q3⟩ : (fun w' : World => w'.cell? ⟨bP, 0, none⟩ = some (.int .i64 kind) ∧ w'.cell? ⟨bP, 1, none⟩ = some (.int .i64 n) ∧ w'.cell? ⟨bP, 2, none⟩ = some (.int .i64 r) ∧ w'.cell? ⟨bP, 3, none⟩ = some (.slice Bk q.len ck)) _)) ?_
            clear hK K
            try simp only [List.getElem_toArray, List.getElem_cons_zero, List.getElem_cons_succ, Act.put, List.setIfInBounds_toArray, List.set_cons_zero, List.set_cons_succ]
            refine wpAnyS_end 1 13 (by kernel_rfl) (by decide) rfl ?_
            simp only [List.toList_toArray, List.drop_succ_cons, List.drop_zero]
            clear q0 q1 q2 q3 u0 u1 u2 hz0 hz1 hz2
            go_wp2
            go_ret
            exact ⟨rfl, HB5.out.trans (HWF.out.mono HB5.out.size)⟩
          · go_simp
            obtain ⟨y6, hwx⟩ : ∃ y6, y6 = y2.alloc (.cells #[.int .i64 0, .int .i64 0, .int .i64 0] 60) := ⟨_, rfl⟩
            have hcc : Below y2.heap.size y2 y6 := by rw [hwx]; exact (Below.refl _ y2).alloc (Nat.le_refl _) _
            have hrb := RB.new y2 60
            rw [← hwx] at hrb ⊢
            have HLG : Hid (w5.heap.size ≤ y2.heap.size) := Lib.hid HWy2.out.size
            obtain ⟨bG, hbG⟩ : ∃ bG, y2.heap.size = bG := ⟨_, rfl⟩
            rw [hbG] at hrb HLG ⊢
            have HRB := Lib.hid hrb
            have hSy6 : (fun w' => w'.cell? ⟨bP, 0, none⟩ = some (.int .i64 kind) ∧ w'.cell? ⟨bP, 1, none⟩ = some (.int .i64 n) ∧ w'.cell? ⟨bP, 2, none⟩ = some (.int .i64 r) ∧ w'.cell? ⟨bP, 3, none⟩ = some (.slice Bk q.len ck)) y6 := ⟨keep_cell hcc hSy2.1, keep_cell hcc hSy2.2.1, keep_cell hcc hSy2.2.2.1, keep_cell hcc hSy2.2.2.2⟩
            replace HIA := Lib.hid (HIA.out.keep hcc)
            clear hrb hbG hwx
            have HWy6 := Lib.hid (HWy2.out.trans (hcc.mono HWy2.out.size))
            clear hcc
            refine hK.out _ _ (fun _ => hSy6) ?_
            clear hK K
            try simp only [List.getElem_toArray, List.getElem_cons_zero, List.getElem_cons_succ, Act.put, List.setIfInBounds_toArray, List.set_cons_zero, List.set_cons_succ]
            refine wpAnyS_one (i := 5) (by kernel_rfl) rfl rfl (fun K hK => ?_)
            go_simp
            refine (HPN.out y6 gA capA HWy6.out HIA.out).mono ?_
            rintro z y7 ⟨rfl, hcc⟩
            have hSy7 : (fun w' => w'.cell? ⟨bP, 0, none⟩ = some (.int .i64 kind) ∧ w'.cell? ⟨bP, 1, none⟩ = some (.int .i64 n) ∧ w'.cell? ⟨bP, 2, none⟩ = some (.int .i64 r) ∧ w'.cell? ⟨bP, 3, none⟩ = some (.slice Bk q.len ck)) y7 := ⟨keep_cell hcc hSy6.1, keep_cell hcc hSy6.2.1, keep_cell hcc hSy6.2.2.1, keep_cell hcc hSy6.2.2.2⟩
            replace HRB := Lib.hid (HRB.out.below hcc)
            have HWy7 := Lib.hid (HWy6.out.trans (hcc.mono HWy6.out.size))
            clear hcc
            refine hK.out _ _ (fun _ => hSy7) ?_
            clear hK K
            try simp only [List.getElem_toArray, List.getElem_cons_zero, List.getElem_cons_succ, Act.put, List.setIfInBounds_toArray, List.set_cons_zero, List.set_cons_succ]
            refine wpAnyS_take (i := 6) (v := ?_) (by kernel_rfl) rfl (fun _ _ _ h => h) rfl hSy7 (fun w hSw => by (try dsimp only at hSw); go_simp; try with_reducible rfl) ?_
            try simp only [List.getElem_toArray, List.getElem_cons_zero, List.getElem_cons_succ, Act.put, List.setIfInBounds_toArray, List.set_cons_zero, List.set_cons_succ]
            refine wpAnyS_take (i := 7) (v := ?_) (by kernel_rfl) rfl (fun _ _ _ h => h) rfl hSy7 (fun w hSw => by (try dsimp only at hSw); go_simp; try with_reducible rfl) ?_
            try simp only [List.getElem_toArray, List.getElem_cons_zero, List.getElem_cons_succ, Act.put, List.setIfInBounds_toArray, List.set_cons_zero, List.set_cons_succ]
            refine wpAnyS_take (i := 8) (v := ?_) (by kernel_rfl) rfl (fun _ _ _ h => h) rfl hSy7 (fun w hSw => by (try dsimp only at hSw); go_simp; try with_reducible rfl) ?_
            try simp only [List.getElem_toArray, List.getElem_cons_zero, List.getElem_cons_succ, Act.put, List.setIfInBounds_toArray, List.set_cons_zero, List.set_cons_succ]
            refine wpAnyS_take (i := 9) (v := ?_) (by kernel_rfl) rfl (fun _ _ _ h => h) rfl hSy7 (fun w hSw => by (try dsimp only at hSw); go_simp; try with_reducible rfl) ?_
            try simp only [List.getElem_toArray, List.getElem_cons_zero, List.getElem_cons_succ, Act.put, List.setIfInBounds_toArray, List.set_cons_zero, List.set_cons_succ]
            refine wpAnyS_take (i := 11) (v := ?_) (by kernel_rfl) rfl (fun _ _ _ h => h) rfl hSy7 (fun w hSw => by (try dsimp only at hSw); go_simp; try with_reducible rfl) ?_
            try simp only [List.getElem_toArray, List.getElem_cons_zero, List.getElem_cons_succ, Act.put, List.setIfInBounds_toArray, List.set_cons_zero, List.set_cons_succ]
            refine wpAnyS_one (i := 12) (by kernel_rfl) rfl rfl (fun K hK => ?_)
            obtain ⟨⟨u0, u1, u2⟩, hz, hlb⟩ := HRB.out
            have hz0 := hz 0 (by omega)
            have hz1 := hz 1 (by omega)
            have hz2 := hz 2 (by omega)
            clear hz hlb
            go_simp
            have HWF := Lib.hid (((HWy7.out.setCell (p := ⟨bG, 0, none⟩) HLG.out (.int .i64 0)).setCell (p := ⟨bG, 1, none⟩) HLG.out (.int .i64 0)).setCell (p := ⟨bG, 2, none⟩) HLG.out (.int .i64 0))
            obtain ⟨q0, q1, q2, q3⟩ := HP5.out.below HWF.out
            refine hK.out _ _ (fun _ => (⟨q0, q1, q2, q3⟩ : (fun w' : World => w'.cell? ⟨bP, 0, none⟩ = some (.int .i64 kind) ∧ w'.cell? ⟨bP, 1, none⟩ = some (.int .i64 n) ∧ w'.cell? ⟨bP, 2, none⟩ = some (.int .i64 r) ∧ w'.cell? ⟨bP, 3, none⟩ = some (.slice Bk q.len ck)) _)) ?_
            clear hK K
            try simp only [List.getElem_toArray, List.getElem_cons_zero, List.getElem_cons_succ, Act.put, List.setIfInBounds_toArray, List.set_cons_zero, List.set_cons_succ]
            refine wpAnyS_end 1 13 (by kernel_rfl) (by decide) rfl ?_
            simp only [List.toList_toArray, List.drop_succ_cons, List.drop_zero]
            clear q0 q1 q2 q3 u0 u1 u2 hz0 hz1 hz2
            go_wp2
            go_ret
            exact ⟨rfl, HB5.out.trans (HWF.out.mono HB5.out.size)⟩
        · go_simp
          obtain ⟨y9, hwx⟩ : ∃ y9, y9 = y1.alloc (.cells #[.int .i64 0, .int .i64 0, .int .i64 0] 60) := ⟨_, rfl⟩
          have hcc : Below y1.heap.size y1 y9 := by rw [hwx]; exact (Below.refl _ y1).alloc (Nat.le_refl _) _
          have hrb := RB.new y1 60
          rw [← hwx] at hrb ⊢
          have HLG : Hid (w5.heap.size ≤ y1.heap.size) := Lib.hid HWy1.out.size
          have HNG : Hid (gY ≠ y1.heap.size) := Lib.hid (by have := (World.ownsRow.lt HOy1.out gY rfl).2; omega)
          obtain ⟨bG, hbG⟩ : ∃ bG, y1.heap.size = bG := ⟨_, rfl⟩
          rw [hbG] at hrb HLG HNG ⊢
          have HRB := Lib.hid hrb
          have hSy9 : (fun w' => w'.cell? ⟨bP, 0, none⟩ = some (.int .i64 kind) ∧ w'.cell? ⟨bP, 1, none⟩ = some (.int .i64 n) ∧ w'.cell? ⟨bP, 2, none⟩ = some (.int .i64 r) ∧ w'.cell? ⟨bP, 3, none⟩ = some (.slice Bk q.len ck)) y9 := ⟨keep_cell hcc hSy1.1, keep_cell hcc hSy1.2.1, keep_cell hcc hSy1.2.2.1, keep_cell hcc hSy1.2.2.2⟩
          replace HN1 := Lib.hid (fun j u hj => keep_cell hcc (HN1.out j u hj))
          clear hrb hbG hwx
          have HWy9 := Lib.hid (HWy1.out.trans (hcc.mono HWy1.out.size))
          have HOy9 := Lib.hid (owns_below HOy1.out hcc)
          clear hcc
          refine hK.out _ _ (fun _ => hSy9) ?_
          clear hK K
          try simp only [List.getElem_toArray, List.getElem_cons_zero, List.getElem_cons_succ, Act.put, List.setIfInBounds_toArray, List.set_cons_zero, List.set_cons_succ]
          refine wpAnyS_one (i := 4) (by kernel_rfl) rfl rfl (fun K hK => ?_)
          refine wp_appM _ _ 38 2 rfl 1 8 (.int .i64 0) Try.underlying38 info_int64 rfl (by omega) (by omega) w5.heap.size (.slice (some ⟨gY, 0, none⟩) n n) n (intsV n Y) (by kernel_rfl) HOy9.out bN 0 1 1 (by omega) [.int .i64 1] rfl (by kernel_rfl) HN1.out (one_int _) (by omega) HWy9.out.size ?_
          intro gA capA y10 hOA hGA
          have HWy10 : Hid (Below w5.heap.size w5 y10) := Lib.hid (HWy9.out.grown hGA HWy9.out.size (fun k e => (World.ownsRow.lt HOy9.out k e).1))
          rw [← appF_ints] at hOA
          obtain ⟨AA, cA, hvA, hiA, -⟩ := owns_ints hOA
          injection hvA with hA1 hA2 hA3
          subst hA1 hA3
          have HIA := Lib.hid hiA
          obtain ⟨q0, q1, q2, q3⟩ := HP5.out.below HWy10.out
          have hSy10 : (fun w' => w'.cell? ⟨bP, 0, none⟩ = some (.int .i64 kind) ∧ w'.cell? ⟨bP, 1, none⟩ = some (.int .i64 n) ∧ w'.cell? ⟨bP, 2, none⟩ = some (.int .i64 r) ∧ w'.cell? ⟨bP, 3, none⟩ = some (.slice Bk q.len ck)) y10 := ⟨q0, q1, q2, q3⟩
          clear q0 q1 q2 q3
          replace HRB := Lib.hid (HRB.out.grownR hGA (fun e => HNG.out (by injection e)))
          clear hOA hGA hiA
          refine hK.out _ _ (fun _ => hSy10) ?_
          clear hK K
          try simp only [List.getElem_toArray, List.getElem_cons_zero, List.getElem_cons_succ, Act.put, List.setIfInBounds_toArray, List.set_cons_zero, List.set_cons_succ]
          refine wpAnyS_one (i := 5) (by kernel_rfl) rfl rfl (fun K hK => ?_)
          go_simp
          refine (HPN.out y10 gA capA HWy10.out HIA.out).mono ?_
          rintro z y11 ⟨rfl, hcc⟩
          have hSy11 : (fun w' => w'.cell? ⟨bP, 0, none⟩ = some (.int .i64 kind) ∧ w'.cell? ⟨bP, 1, none⟩ = some (.int .i64 n) ∧ w'.cell? ⟨bP, 2, none⟩ = some (.int .i64 r) ∧ w'.cell? ⟨bP, 3, none⟩ = some (.slice Bk q.len ck)) y11 := ⟨keep_cell hcc hSy10.1, keep_cell hcc hSy10.2.1, keep_cell hcc hSy10.2.2.1, keep_cell hcc hSy10.2.2.2⟩
          replace HRB := Lib.hid (HRB.out.below hcc)
          have HWy11 := Lib.hid (HWy10.out.trans (hcc.mono HWy10.out.size))
          clear hcc
          refine hK.out _ _ (fun _ => hSy11) ?_
          clear hK K
          try simp only [List.getElem_toArray, List.getElem_cons_zero, List.getElem_cons_succ, Act.put, List.setIfInBounds_toArray, List.set_cons_zero, List.set_cons_succ]
          refine wpAnyS_take (i := 6) (v := ?_) (by kernel_rfl) rfl (fun _ _ _ h => h) rfl hSy11 (fun w hSw => by (try dsimp only at hSw); go_simp; try with_reducible rfl) ?_
          try simp only [List.getElem_toArray, List.getElem_cons_zero, List.getElem_cons_succ, Act.put, List.setIfInBounds_toArray, List.set_cons_zero, List.set_cons_succ]
          refine wpAnyS_take (i := 7) (v := ?_) (by kernel_rfl) rfl (fun _ _ _ h => h) rfl hSy11 (fun w hSw => by (try dsimp only at hSw); go_simp; try with_reducible rfl) ?_
          try simp only [List.getElem_toArray, List.getElem_cons_zero, List.getElem_cons_succ, Act.put, List.setIfInBounds_toArray, List.set_cons_zero, List.set_cons_succ]
          refine wpAnyS_take (i := 8) (v := ?_) (by kernel_rfl) rfl (fun _ _ _ h => h) rfl hSy11 (fun w hSw => by (try dsimp only at hSw); go_simp; try with_reducible rfl) ?_
          try simp only [List.getElem_toArray, List.getElem_cons_zero, List.getElem_cons_succ, Act.put, List.setIfInBounds_toArray, List.set_cons_zero, List.set_cons_succ]
          refine wpAnyS_take (i := 9) (v := ?_) (by kernel_rfl) rfl (fun _ _ _ h => h) rfl hSy11 (fun w hSw => by (try dsimp only at hSw); go_simp; try with_reducible rfl) ?_
          try simp only [List.getElem_toArray, List.getElem_cons_zero, List.getElem_cons_succ, Act.put, List.setIfInBounds_toArray, List.set_cons_zero, List.set_cons_succ]
          refine wpAnyS_take (i := 11) (v := ?_) (by kernel_rfl) rfl (fun _ _ _ h => h) rfl hSy11 (fun w hSw => by (try dsimp only at hSw); go_simp; try with_reducible rfl) ?_
          try simp only [List.getElem_toArray, List.getElem_cons_zero, List.getElem_cons_succ, Act.put, List.setIfInBounds_toArray, List.set_cons_zero, List.set_cons_succ]
          refine wpAnyS_one (i := 12) (by kernel_rfl) rfl rfl (fun K hK => ?_)
          obtain ⟨⟨u0, u1, u2⟩, hz, hlb⟩ := HRB.out
          have hz0 := hz 0 (by omega)
          have hz1 := hz 1 (by omega)
          have hz2 := hz 2 (by omega)
          clear hz hlb
          go_simp
          have HWF := Lib.hid (((HWy11.out.setCell (p := ⟨bG, 0, none⟩) HLG.out (.int .i64 0)).setCell (p := ⟨bG, 1, none⟩) HLG.out (.int .i64 0)).setCell (p := ⟨bG, 2, none⟩) HLG.out (.int .i64 0))
          obtain ⟨q0, q1, q2, q3⟩ := HP5.out.below HWF.out
          refine hK.out _ _ (fun _ => (⟨q0, q1, q2, q3⟩ : (fun w' : World => w'.cell? ⟨bP, 0, none⟩ = some (.int .i64 kind) ∧ w'.cell? ⟨bP, 1, none⟩ = some (.int .i64 n) ∧ w'.cell? ⟨bP, 2, none⟩ = some (.int .i64 r) ∧ w'.cell? ⟨bP, 3, none⟩ = some (.slice Bk q.len ck)) _)) ?_
          clear hK K
          try simp only [List.getElem_toArray, List.getElem_cons_zero, List.getElem_cons_succ, Act.put, List.setIfInBounds_toArray, List.set_cons_zero, List.set_cons_succ]
          refine wpAnyS_end 1 13 (by kernel_rfl) (by decide) rfl ?_
          simp only [List.toList_toArray, List.drop_succ_cons, List.drop_zero]
          clear q0 q1 q2 q3 u0 u1 u2 hz0 hz1 hz2
          go_wp2
          go_ret
          exact ⟨rfl, HB5.out.trans (HWF.out.mono HB5.out.size)⟩
      · go_simp
        obtain ⟨y13, hwx⟩ : ∃ y13, y13 = y0.alloc (.cells #[.int .i64 0, .int .i64 0, .int .i64 0] 60) := ⟨_, rfl⟩
        have hcc : Below y0.heap.size y0 y13 := by rw [hwx]; exact (Below.refl _ y0).alloc (Nat.le_refl _) _
        have hrb := RB.new y0 60
        rw [← hwx] at hrb ⊢
        have HLG : Hid (w5.heap.size ≤ y0.heap.size) := Lib.hid HWy0.out.size
        have HNG : Hid (gY ≠ y0.heap.size) := Lib.hid (by have := (World.ownsRow.lt HOy0.out gY rfl).2; omega)
        obtain ⟨bG, hbG⟩ : ∃ bG, y0.heap.size = bG := ⟨_, rfl⟩
        rw [hbG] at hrb HLG HNG ⊢
        have HRB := Lib.hid hrb
        have hSy13 : (fun w' => w'.cell? ⟨bP, 0, none⟩ = some (.int .i64 kind) ∧ w'.cell? ⟨bP, 1, none⟩ = some (.int .i64 n) ∧ w'.cell? ⟨bP, 2, none⟩ = some (.int .i64 r) ∧ w'.cell? ⟨bP, 3, none⟩ = some (.slice Bk q.len ck)) y13 := ⟨keep_cell hcc hSy0.1, keep_cell hcc hSy0.2.1, keep_cell hcc hSy0.2.2.1, keep_cell hcc hSy0.2.2.2⟩
        clear hrb hbG hwx
        have HWy13 := Lib.hid (HWy0.out.trans (hcc.mono HWy0.out.size))
        have HOy13 := Lib.hid (owns_below HOy0.out hcc)
        clear hcc
        refine hK.out _ _ (fun _ => hSy13) ?_
        clear hK K
        try simp only [List.getElem_toArray, List.getElem_cons_zero, List.getElem_cons_succ, Act.put, List.setIfInBounds_toArray, List.set_cons_zero, List.set_cons_succ]
        refine wpAnyS_one (i := 3) (by kernel_rfl) rfl rfl (fun K hK => ?_)
        go_simp
        obtain ⟨y14, hwx⟩ : ∃ y14, y14 = y13.alloc (.cells #[.int .i64 1] 2) := ⟨_, rfl⟩
        have hcc : Below y13.heap.size y13 y14 := by rw [hwx]; exact (Below.refl _ y13).alloc (Nat.le_refl _) _
        have hn1 : ∀ j u, [Value.int .i64 1][j]? = some u → y14.cell? ⟨y13.heap.size, 0 + j, none⟩ = some u := fun j u hj => by rw [Nat.zero_add, hwx]; exact cells_one _ _ _ _ rfl j u hj
        rw [← hwx]
        obtain ⟨bN, hbN⟩ : ∃ bN, y13.heap.size = bN := ⟨_, rfl⟩
        rw [hbN] at hn1 ⊢
        have HN1 := Lib.hid hn1
        have hSy14 : (fun w' => w'.cell? ⟨bP, 0, none⟩ = some (.int .i64 kind) ∧ w'.cell? ⟨bP, 1, none⟩ = some (.int .i64 n) ∧ w'.cell? ⟨bP, 2, none⟩ = some (.int .i64 r) ∧ w'.cell? ⟨bP, 3, none⟩ = some (.slice Bk q.len ck)) y14 := ⟨keep_cell hcc hSy13.1, keep_cell hcc hSy13.2.1, keep_cell hcc hSy13.2.2.1, keep_cell hcc hSy13.2.2.2⟩
        replace HRB := Lib.hid (HRB.out.below hcc)
        clear hn1 hbN hwx
        have HWy14 := Lib.hid (HWy13.out.trans (hcc.mono HWy13.out.size))
        have HOy14 := Lib.hid (owns_below HOy13.out hcc)
        clear hcc
        refine hK.out _ _ (fun _ => hSy14) ?_
        clear hK K
        try simp only [List.getElem_toArray, List.getElem_cons_zero, List.getElem_cons_succ, Act.put, List.setIfInBounds_toArray, List.set_cons_zero, List.set_cons_succ]
        refine wpAnyS_one (i := 4) (by kernel_rfl) rfl rfl (fun K hK => ?_)
        refine wp_appM _ _ 38 2 rfl 1 8 (.int .i64 0) Try.underlying38 info_int64 rfl (by omega) (by omega) w5.heap.size (.slice (some ⟨gY, 0, none⟩) n n) n (intsV n Y) (by kernel_rfl) HOy14.out bN 0 1 1 (by omega) [.int .i64 1] rfl (by kernel_rfl) HN1.out (one_int _) (by omega) HWy14.out.size ?_
        intro gA capA y15 hOA hGA
        have HWy15 : Hid (Below w5.heap.size w5 y15) := Lib.hid (HWy14.out.grown hGA HWy14.out.size (fun k e => (World.ownsRow.lt HOy14.out k e).1))
        rw [← appF_ints] at hOA
        obtain ⟨AA, cA, hvA, hiA, -⟩ := owns_ints hOA
        injection hvA with hA1 hA2 hA3
        subst hA1 hA3
        have HIA := Lib.hid hiA
        obtain ⟨q0, q1, q2, q3⟩ := HP5.out.below HWy15.out
        have hSy15 : (fun w' => w'.cell? ⟨bP, 0, none⟩ = some (.int .i64 kind) ∧ w'.cell? ⟨bP, 1, none⟩ = some (.int .i64 n) ∧ w'.cell? ⟨bP, 2, none⟩ = some (.int .i64 r) ∧ w'.cell? ⟨bP, 3, none⟩ = some (.slice Bk q.len ck)) y15 := ⟨q0, q1, q2, q3⟩
        clear q0 q1 q2 q3
        replace HRB := Lib.hid (HRB.out.grownR hGA (fun e => HNG.out (by injection e)))
        clear hOA hGA hiA
        refine hK.out _ _ (fun _ => hSy15) ?_
        clear hK K
        try simp only [List.getElem_toArray, List.getElem_cons_zero, List.getElem_cons_succ, Act.put, List.setIfInBounds_toArray, List.set_cons_zero, List.set_cons_succ]
        refine wpAnyS_one (i := 5) (by kernel_rfl) rfl rfl (fun K hK => ?_)
        go_simp
        refine (HPN.out y15 gA capA HWy15.out HIA.out).mono ?_
        rintro z y16 ⟨rfl, hcc⟩
        have hSy16 : (fun w' => w'.cell? ⟨bP, 0, none⟩ = some (.int .i64 kind) ∧ w'.cell? ⟨bP, 1, none⟩ = some (.int .i64 n) ∧ w'.cell? ⟨bP, 2, none⟩ = some (.int .i64 r) ∧ w'.cell? ⟨bP, 3, none⟩ = some (.slice Bk q.len ck)) y16 := ⟨keep_cell hcc hSy15.1, keep_cell hcc hSy15.2.1, keep_cell hcc hSy15.2.2.1, keep_cell hcc hSy15.2.2.2⟩
        replace HRB := Lib.hid (HRB.out.below hcc)
        have HWy16 := Lib.hid (HWy15.out.trans (hcc.mono HWy15.out.size))
        clear hcc
        refine hK.out _ _ (fun _ => hSy16) ?_
        clear hK K
        try simp only [List.getElem_toArray, List.getElem_cons_zero, List.getElem_cons_succ, Act.put, List.setIfInBounds_toArray, List.set_cons_zero, List.set_cons_succ]
        refine wpAnyS_take (i := 6) (v := ?_) (by kernel_rfl) rfl (fun _ _ _ h => h) rfl hSy16 (fun w hSw => by (try dsimp only at hSw); go_simp; try with_reducible rfl) ?_
        try simp only [List.getElem_toArray, List.getElem_cons_zero, List.getElem_cons_succ, Act.put, List.setIfInBounds_toArray, List.set_cons_zero, List.set_cons_succ]
        refine wpAnyS_take (i := 7) (v := ?_) (by kernel_rfl) rfl (fun _ _ _ h => h) rfl hSy16 (fun w hSw => by (try dsimp only at hSw); go_simp; try with_reducible rfl) ?_
        try simp only [List.getElem_toArray, List.getElem_cons_zero, List.getElem_cons_succ, Act.put, List.setIfInBounds_toArray, List.set_cons_zero, List.set_cons_succ]
        refine wpAnyS_take (i := 8) (v := ?_) (by kernel_rfl) rfl (fun _ _ _ h => h) rfl hSy16 (fun w hSw => by (try dsimp only at hSw); go_simp; try with_reducible rfl) ?_
        try simp only [List.getElem_toArray, List.getElem_cons_zero, List.getElem_cons_succ, Act.put, List.setIfInBounds_toArray, List.set_cons_zero, List.set_cons_succ]
        refine wpAnyS_take (i := 9) (v := ?_) (by kernel_rfl) rfl (fun _ _ _ h => h) rfl hSy16 (fun w hSw => by (try dsimp only at hSw); go_simp; try with_reducible rfl) ?_
        try simp only [List.getElem_toArray, List.getElem_cons_zero, List.getElem_cons_succ, Act.put, List.setIfInBounds_toArray, List.set_cons_zero, List.set_cons_succ]
        refine wpAnyS_take (i := 11) (v := ?_) (by kernel_rfl) rfl (fun _ _ _ h => h) rfl hSy16 (fun w hSw => by (try dsimp only at hSw); go_simp; try with_reducible rfl) ?_
        try simp only [List.getElem_toArray, List.getElem_cons_zero, List.getElem_cons_succ, Act.put, List.setIfInBounds_toArray, List.set_cons_zero, List.set_cons_succ]
        refine wpAnyS_one (i := 12) (by kernel_rfl) rfl rfl (fun K hK => ?_)
        obtain ⟨⟨u0, u1, u2⟩, hz, hlb⟩ := HRB.out
        have hz0 := hz 0 (by omega)
        have hz1 := hz 1 (by omega)
        have hz2 := hz 2 (by omega)
        clear hz hlb
        go_simp
        have HWF := Lib.hid (((HWy16.out.setCell (p := ⟨bG, 0, none⟩) HLG.out (.int .i64 0)).setCell (p := ⟨bG, 1, none⟩) HLG.out (.int .i64 0)).setCell (p := ⟨bG, 2, none⟩) HLG.out (.int .i64 0))
        obtain ⟨q0, q1, q2, q3⟩ := HP5.out.below HWF.out
        refine hK.out _ _ (fun _ => (⟨q0, q1, q2, q3⟩ : (fun w' : World => w'.cell? ⟨bP, 0, none⟩ = some (.int .i64 kind) ∧ w'.cell? ⟨bP, 1, none⟩ = some (.int .i64 n) ∧ w'.cell? ⟨bP, 2, none⟩ = some (.int .i64 r) ∧ w'.cell? ⟨bP, 3, none⟩ = some (.slice Bk q.len ck)) _)) ?_
        clear hK K
        try simp only [List.getElem_toArray, List.getElem_cons_zero, List.getElem_cons_succ, Act.put, List.setIfInBounds_toArray, List.set_cons_zero, List.set_cons_succ]
        refine wpAnyS_end 1 13 (by kernel_rfl) (by decide) rfl ?_
        simp only [List.toList_toArray, List.drop_succ_cons, List.drop_zero]
        clear q0 q1 q2 q3 u0 u1 u2 hz0 hz1 hz2
        go_wp2
        go_ret
        exact ⟨rfl, HB5.out.trans (HWF.out.mono HB5.out.size)⟩
end Go.Proofs.Yteaimnemobnknaa
