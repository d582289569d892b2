/- The walk of the law CacheTwins. -/
import Derived.Test.YtnpkblidlmkagaaK27
set_option linter.unusedSimpArgs false
set_option linter.unusedVariables false
namespace Go.Proofs.Ytnpkblidlmkagaa
open Go Go.RowKit Fl

/-- A row of keys that may be overwritten. -/
def ZR (W wr : World) (v : Value) (m : Nat) : Prop := m = 0 ∨ ∃ (lb cc : Nat) (cur : Array Value), v = .slice (some ⟨lb, 0, none⟩) m cc ∧ wr.heap[lb]? = some (.cells cur 89 (0, 0)) ∧ m * 2 ≤ cur.size ∧ W.heap.size ≤ lb ∧ m ≤ cc ∧ cc ≤ 9223372036854775807
structure ZZ (W wr : World) (LL : Nat) (V1 V2 : Value) (m1 m2 : Nat) : Prop where
  ll : wr.heap[LL]? = some (.cells #[V1, V2] 85 (0, 0))
  z1 : ZR W wr V1 m1
  z2 : ZR W wr V2 m2
  low : Below W.heap.size W wr
theorem ZR.set {W wr : World} {v : Value} {m : Nat} (h : ZR W wr v m) (lb i : Nat) (u : Value) : ZR W (wr.setCell ⟨lb, i, none⟩ u) v m := by
  rcases h with h | ⟨q, cc, cur, h1, h2, h3, h4⟩
  · exact .inl h
  · by_cases e : q = lb
    · subst e
      exact .inr ⟨q, cc, _, h1, obj_set h2 i u, by simpa using h3, h4⟩
    · exact .inr ⟨q, cc, cur, h1, by rw [obj_other _ _ _ _ _ e]; exact h2, h3, h4⟩
theorem ZZ.set {W wr : World} {LL : Nat} {V1 V2 : Value} {m1 m2 : Nat} (h : ZZ W wr LL V1 V2 m1 m2) {lb : Nat} {cur : Array Value} (hc : wr.heap[lb]? = some (.cells cur 89 (0, 0))) (hl : W.heap.size ≤ lb) (i : Nat) (u : Value) : ZZ W (wr.setCell ⟨lb, i, none⟩ u) LL V1 V2 m1 m2 := by
  refine ⟨?_, h.z1.set lb i u, h.z2.set lb i u, h.low.setCell (p := ⟨lb, i, none⟩) hl u⟩
  rw [obj_other _ _ _ _ _ (fun e => by have h1 := h.ll; rw [e, hc] at h1; cases h1)]
  exact h.ll
theorem ZR.keep {W w w1 : World} {v : Value} {m : Nat} (h : ZR W w v m) (hb : Below w.heap.size w w1) : ZR W w1 v m := by
  rcases h with h | ⟨q, cc, cur, h1, h2, h3, h4⟩
  · exact .inl h
  · exact .inr ⟨q, cc, cur, h1, by rw [hb.block q (Array.getElem?_eq_some_iff.1 h2).1]; exact h2, h3, h4⟩
theorem ZR.of {W w : World} {v : Value} {K : List (Int × Int)} (h : KV w v K) (hb : ∀ b, KB v b → W.heap.size ≤ b) : ZR W w v K.length := by
  rcases h with ⟨h1, h2⟩ | ⟨b, c, h1, h2⟩
  · subst h2; exact .inl rfl
  · obtain ⟨cur, rest, g1, g2, g3⟩ := h2.obj
    have := h2.le
    exact .inr ⟨b, c, cur, h1, g1, by omega, hb b ⟨_, _, h1⟩, h2.le, by have := h2.mx; unfold maxLen at this; omega⟩

theorem twins_made {base : Nat} {w1 w2 w3 w4 : World} {p1 r1 p2 r2 q1 q2 : Nat} {M1 M2 : Int} (h1 : base ≤ p1) (h2 : base ≤ r1) (h3 : w1.heap.size ≤ p2) (h4 : w1.heap.size ≤ r2) (h5 : w2.heap.size ≤ q1) (h6 : w3.heap.size ≤ q2) (a : CA w1 p1 M1 [] 0 0 (.slice none 0 0) r1 [] 0) (b : CA w2 p2 M2 [] 0 0 (.slice none 0 0) r2 [] 0) (r : RA w3 q1 M1 [] 0 0 (.slice none 0 0)) (s : RA w4 q2 M2 [] 0 0 (.slice none 0 0))
    (b0 : base ≤ w1.heap.size) (b1 : Below w1.heap.size w1 w2) (b2 : Below w2.heap.size w2 w3) (b3 : Below w3.heap.size w3 w4) : Twins base w4 p1 r1 p2 r2 q1 q2 M1 M2 ([], 0, 0) ([], 0, 0) ([], 0, 0) ([], 0, 0) := by
  have s1 := b1.size
  have s2 := b2.size
  have e1 := (Array.getElem?_eq_some_iff.1 a.obj).1
  have e2 := (Array.getElem?_eq_some_iff.1 a.mp).1
  have e3 := (Array.getElem?_eq_some_iff.1 r.obj).1
  have nk : ∀ b, ¬ KB (.slice none 0 0) b := by rintro b ⟨n, c, e⟩; cases e
  have nl : ∀ b, ¬ LB (.slice none 0 0) b := by rintro b ⟨o, n, c, e, _⟩; cases e
  have ff : FineK (([], 0, 0) : St) := ⟨List.nodup_nil, (fun k hk => by cases hk), by simp [sumN], by simp⟩
  exact ⟨_, _, _, _, _, _, _, _, ((a.keep b1).keep b2).keep b3, (b.keep b2).keep b3, r.keep b3, s, by omega, by omega, by omega, fun b hb => absurd hb (nk b), fun b hb => absurd hb (nl b), ff, ff, ⟨h1, h2, by omega, fun b hb => absurd hb (nk b), fun b hb => absurd hb (nl b)⟩, ⟨by omega, by omega, by omega, fun b hb => absurd hb (nk b), fun b hb => absurd hb (nl b)⟩⟩

def Cnt (σ : St) (j : Int) : Prop := 0 ≤ σ.2.1 ∧ σ.2.1 ≤ j ∧ 0 ≤ σ.2.2 ∧ σ.2.2 ≤ j

set_option maxRecDepth 100000 in
set_option maxHeartbeats 4000000 in
theorem twins15_any (A1 : Option Addr) (n1 c1 : Nat) (f1 : Nat → Int × Int) (A2 : Option Addr) (n2 c2 : Nat) (f2 : Nat → Int × Int) (w : World) (hA1 : PairsAt w A1 n1 f1) (hn1 : n1 ≤ 9223372036854775807) (hAc1 : A1 = none → c1 = 0) (hnc1 : n1 ≤ c1) (hc1 : c1 ≤ 9223372036854775807) (hA2 : PairsAt w A2 n2 f2) (hn2 : n2 ≤ 9223372036854775807) (hAc2 : A2 = none → c2 = 0) (hnc2 : n2 ≤ c2) (hc2 : c2 ≤ 9223372036854775807) :
    Calls Try.prog 24 #[.slice A1 n1 c1, .slice A2 n2 c2] w fun z w' => z = .returned (.bool true) ∧ Below w.heap.size w w' := by
  have HN50 := Lib.hid (fun w => newC 50 w)
  have HN20 := Lib.hid (fun w => newC 20 w)
  have HR50 := Lib.hid (fun w => refNew_any 50 w)
  have HR20 := Lib.hid (fun w => refNew_any 20 w)
  have HTn := Lib.hid (fun w => table_nil 4 1 w)
  have HCn := Lib.hid (fun w => counts_nil w)
  have HKn := Lib.hid (fun w => kept_nil w)
  have HWk := Lib.hid (fun w => wakes15_any w)
  have HA1 := Lib.hid hA1
  have HA2 := Lib.hid hA2
  clear hA1 hA2 hAc1 hAc2
  go_enter Try.func24, Try.ntmps24
  go_wp2_with fail
  refine (HN50.out w).mono ?_
  rintro z w1 ⟨p1, r1, rfl, a1, a2, a3, a4⟩
  have G1 := Lib.hid (And.intro a1 (And.intro a2 (And.intro a3 a4)))
  clear a1 a2 a3 a4
  go_wp2_with fail
  refine (HN20.out w1).mono ?_
  rintro z w2 ⟨p2, r2, rfl, a1, a2, a3, a4⟩
  have G2 := Lib.hid (And.intro a1 (And.intro a2 (And.intro a3 a4)))
  clear a1 a2 a3 a4
  go_wp2_with fail
  refine (HR50.out w2).mono ?_
  rintro z w3 ⟨q1, rfl, a1, a2, a3⟩
  have G3 := Lib.hid (And.intro a1 (And.intro a2 a3))
  clear a1 a2 a3
  go_wp2_with fail
  refine (HR20.out w3).mono ?_
  rintro z w4 ⟨q2, rfl, a1, a2, a3⟩
  have hs1 := G1.out.2.2.2.size
  have hs2 := G2.out.2.2.2.size
  have hs3 := G3.out.2.2.size
  have HT4 := Lib.hid (twins_made (base := w.heap.size) (M1 := 50) (M2 := 20) G1.out.1 G1.out.2.1 G2.out.1 G2.out.2.1 G3.out.1 a1 G1.out.2.2.1 G2.out.2.2.1 G3.out.2.1 a2 hs1 G2.out.2.2.2 G3.out.2.2 a3)
  have HB4 := Lib.hid (((G1.out.2.2.2.trans (G2.out.2.2.2.mono hs1)).trans (G3.out.2.2.mono (by omega))).trans (a3.mono (by omega)))
  clear a1 a2 a3 G1 G2 G3 hs1 hs2 hs3 HN50 HN20 HR50 HR20
  go_wp2_with fail
  refine (HTn.out w4).mono ?_
  rintro z w5 ⟨rfl, rfl⟩
  go_wp2_with fail
  refine (HCn.out w4).mono ?_
  rintro z w5 ⟨rfl, rfl⟩
  go_wp2_with fail
  refine (HWk.out w5).mono ?_
  rintro z w6 ⟨rfl, hb⟩
  have hs4 := HB4.out.size
  have HT6 := Lib.hid (HT4.out.keep hb)
  have HB6 := Lib.hid (HB4.out.trans (hb.mono hs4))
  clear HT4 HB4 hb HTn HCn HWk
  go_wp2_with fail
  refine (HKn.out w6).mono ?_
  rintro z w7 ⟨rfl, rfl⟩
  clear HKn hs4
  go_wp2_with fail
  go_loopw [14, 16, 17] (fun i l k wr => ∃ (j : Nat) (σ1 σ2 : St), j ≤ 20 ∧ i = .int .i64 j ∧ Hid (Twins w.heap.size wr p1 r1 p2 r2 q1 q2 50 20 σ1 σ2 σ1 σ2) ∧ Hid (Cnt σ1 j) ∧ Hid (Cnt σ2 j) ∧ Hid (Below w.heap.size w wr)) (fun i _ _ _ => 20 - (intOf i).toNat)
  case atStart => exact ⟨0, ([], 0, 0), ([], 0, 0), by omega, rfl, HT6, Lib.hid (by unfold Cnt; decide), Lib.hid (by unfold Cnt; decide), HB6⟩
  case round =>
    obtain ⟨j, σ1, σ2, hj, rfl, ht, hC1, hC2, hbw⟩ := hrel
    clear HT6 HB6
    obtain ⟨wo, hwo⟩ : ∃ wo, wo = wr := ⟨_, rfl⟩
    subst hwo
    have hwr := hbw.out.size
    by_cases hend : j < 20 ∧ (j < n1 ∨ j < n2)
    · have hj20 : (j : Int) < 20 := by omega
      by_cases h1 : j < n1
      · have h1i : (j : Int) < n1 := by omega
        by_cases h2 : j < n2
        · have h2i : (j : Int) < n2 := by omega
          obtain ⟨ba, oa, ea, c0a, c1a⟩ := (HA1.out.keep hbw.out) j (by omega)
          obtain ⟨xa, hxa⟩ : ∃ x, (f1 j).1 = x := ⟨_, rfl⟩
          obtain ⟨ya, hya⟩ : ∃ x, (f1 j).2 = x := ⟨_, rfl⟩
          rw [hxa] at c0a
          rw [hya] at c1a
          subst ea
          have HCa := Lib.hid (fun w => cut_any xa w)
          obtain ⟨Na, hNa⟩ : ∃ N, cutN xa = N := ⟨_, rfl⟩
          rw [hNa] at HCa
          have hsa := hbw.out.size
          have HTaba := Lib.hid ((ht.out.keep ((Below.refl _ wo).drew)).table Na ya (by have := hC1.out.1; omega) (by have := hC1.out.2.1; omega) (by have := hC1.out.2.2.1; omega) (by have := hC1.out.2.2.2; omega) hsa)
          clear hNa
          go_upto_region 12 with fail
          go_cut [] from 72 to 84 (fun wx => Hid (Twins w.heap.size wx p1 r1 p2 r2 q1 q2 50 20 (askK 50 σ1 Na ya).2 σ2 σ1 σ2) ∧ Hid (Below w.heap.size w wx))
          case first =>
            go_region_with (first
              | (go_at_call 66; refine (HCa.out _).mono ?_; rintro z w' ⟨rfl, rfl⟩)
              | (go_at_call 67; refine HTaba.out.mono ?_; rintro z w5 ⟨v, rfl, g1, g2⟩; have G1 := Lib.hid g1; have G2 := Lib.hid (hbw.out.drew.trans g2); clear g1 g2))
            all_goals
              go_wp2_with fail
              go_meet
              exact ⟨G1, G2⟩
          case rest =>
            obtain ⟨HTma, hbma⟩ := hcut
            obtain ⟨wma, hwma⟩ : ∃ x, x = wc := ⟨_, rfl⟩
            subst hwma
            clear c0a c1a HTaba
            obtain ⟨b'a, o'a, e'a, c0a, c1a⟩ := (HA1.out.keep hbma.out) j (by omega)
            rw [hxa] at c0a
            rw [hya] at c1a
            cases e'a
            have hsma := hbma.out.size
            have HAska := Lib.hid ((HTma.out.keep ((Below.refl _ wma).drew)).ask (by have := hC1.out.1; omega) (by have := hC1.out.2.1; omega) (by have := hC1.out.2.2.1; omega) (by have := hC1.out.2.2.2; omega) hsma)
            go_upto_region 13 with fail
            go_cut [] from 85 to 97 (fun wx => Hid (Twins w.heap.size wx p1 r1 p2 r2 q1 q2 50 20 (askK 50 σ1 Na ya).2 σ2 (askK 50 σ1 Na ya).2 σ2) ∧ Hid (Below w.heap.size w wx))
            case first =>
              go_region_with (first
                | (go_at_call 66; refine (HCa.out _).mono ?_; rintro z w' ⟨rfl, rfl⟩)
                | (go_at_call 73; refine HAska.out.mono ?_; rintro z w5 ⟨v, rfl, g1, g2⟩; have G1 := Lib.hid g1; have G2 := Lib.hid (hbma.out.drew.trans g2); clear g1 g2))
              all_goals
                go_wp2_with fail
                go_meet
                exact ⟨G1, G2⟩
            case rest =>
              obtain ⟨HTea, hbea⟩ := hcut
              obtain ⟨wea, hwea⟩ : ∃ x, x = wc := ⟨_, rfl⟩
              subst hwea
              clear c0a c1a HAska HTma hbma
              have HNa : Hid (Cnt (askK 50 σ1 Na ya).2 ((j : Int) + 1)) := Lib.hid (ask_counts (M := 50) (n := Na) (s := ya) hC1.out)
              obtain ⟨bb, ob, eb, c0b, c1b⟩ := (HA2.out.keep hbea.out) j (by omega)
              obtain ⟨xb, hxb⟩ : ∃ x, (f2 j).1 = x := ⟨_, rfl⟩
              obtain ⟨yb, hyb⟩ : ∃ x, (f2 j).2 = x := ⟨_, rfl⟩
              rw [hxb] at c0b
              rw [hyb] at c1b
              subst eb
              have HCb := Lib.hid (fun w => cut_any xb w)
              obtain ⟨Nb, hNb⟩ : ∃ N, cutN xb = N := ⟨_, rfl⟩
              rw [hNb] at HCb
              have hsb := hbea.out.size
              have HTabb := Lib.hid ((HTea.out.keep ((Below.refl _ wea).drew)).swap.table Nb yb (by have := hC2.out.1; omega) (by have := hC2.out.2.1; omega) (by have := hC2.out.2.2.1; omega) (by have := hC2.out.2.2.2; omega) hsb)
              clear hNb
              go_upto_region 15 with fail
              go_cut [] from 102 to 114 (fun wx => Hid (Twins w.heap.size wx p1 r1 p2 r2 q1 q2 50 20 (askK 50 σ1 Na ya).2 (askK 20 σ2 Nb yb).2 (askK 50 σ1 Na ya).2 σ2) ∧ Hid (Below w.heap.size w wx))
              case first =>
                go_region_with (first
                  | (go_at_call 66; refine (HCb.out _).mono ?_; rintro z w' ⟨rfl, rfl⟩)
                  | (go_at_call 67; refine HTabb.out.mono ?_; rintro z w5 ⟨v, rfl, g1, g2⟩; have G1 := Lib.hid g1.swap; have G2 := Lib.hid (hbea.out.drew.trans g2); clear g1 g2))
                all_goals
                  go_wp2_with fail
                  go_meet
                  exact ⟨G1, G2⟩
              case rest =>
                obtain ⟨HTmb, hbmb⟩ := hcut
                obtain ⟨wmb, hwmb⟩ : ∃ x, x = wc := ⟨_, rfl⟩
                subst hwmb
                clear c0b c1b HTabb
                obtain ⟨b'b, o'b, e'b, c0b, c1b⟩ := (HA2.out.keep hbmb.out) j (by omega)
                rw [hxb] at c0b
                rw [hyb] at c1b
                cases e'b
                have hsmb := hbmb.out.size
                have HAskb := Lib.hid ((HTmb.out.keep ((Below.refl _ wmb).drew)).swap.ask (by have := hC2.out.1; omega) (by have := hC2.out.2.1; omega) (by have := hC2.out.2.2.1; omega) (by have := hC2.out.2.2.2; omega) hsmb)
                go_upto_region 16 with fail
                go_cut [] from 115 to 127 (fun wx => Hid (Twins w.heap.size wx p1 r1 p2 r2 q1 q2 50 20 (askK 50 σ1 Na ya).2 (askK 20 σ2 Nb yb).2 (askK 50 σ1 Na ya).2 (askK 20 σ2 Nb yb).2) ∧ Hid (Below w.heap.size w wx))
                case first =>
                  go_region_with (first
                    | (go_at_call 66; refine (HCb.out _).mono ?_; rintro z w' ⟨rfl, rfl⟩)
                    | (go_at_call 73; refine HAskb.out.mono ?_; rintro z w5 ⟨v, rfl, g1, g2⟩; have G1 := Lib.hid g1.swap; have G2 := Lib.hid (hbmb.out.drew.trans g2); clear g1 g2))
                  all_goals
                    go_wp2_with fail
                    go_meet
                    exact ⟨G1, G2⟩
                case rest =>
                  obtain ⟨HTeb, hbeb⟩ := hcut
                  obtain ⟨web, hweb⟩ : ∃ x, x = wc := ⟨_, rfl⟩
                  subst hweb
                  clear c0b c1b HAskb HTmb hbmb
                  have HNb : Hid (Cnt (askK 20 σ2 Nb yb).2 ((j : Int) + 1)) := Lib.hid (ask_counts (M := 20) (n := Nb) (s := yb) hC2.out)
                  have HK1 := Lib.hid HTeb.out.kept
                  go_upto_region 17 with fail
                  go_wp2_with fail
                  refine HK1.out.mono ?_
                  rintro z wk1 ⟨v1, rfl, g1, g2, g3⟩
                  obtain ⟨LA1, lc1, rfl, ha1, hb1⟩ := g1.shape
                  have HZ1 := Lib.hid (ZR.of (W := web) g1 g2)
                  have HTk := Lib.hid (HTeb.out.swap.keep g3)
                  have HBk := Lib.hid g3
                  have HK2 := Lib.hid HTk.out.kept
                  have hsk1 := g3.size
                  clear g1 g2 g3
                  go_wp2_with fail
                  refine HK2.out.mono ?_
                  rintro z wk2 ⟨v2, rfl, g1, g2, g3⟩
                  obtain ⟨LA2, lc2, rfl, ha2, hb2⟩ := g1.shape
                  have HZ2 := Lib.hid (ZR.of (W := web) g1 (fun b hb => Nat.le_trans hsk1 (g2 b hb)))
                  have HB2 : Hid (Below web.heap.size web wk2) := Lib.hid (HBk.out.trans (g3.mono hsk1))
                  have HAl := Lib.hid ((Below.refl wk2.heap.size wk2).alloc (Nat.le_refl _) (.cells #[(.slice LA1 ((askK 50 σ1 Na ya).2).1.length lc1), (.slice LA2 ((askK 20 σ2 Nb yb).2).1.length lc2)] 85))
                  have HZZ : Hid (ZZ web (wk2.alloc (.cells #[(.slice LA1 ((askK 50 σ1 Na ya).2).1.length lc1), (.slice LA2 ((askK 20 σ2 Nb yb).2).1.length lc2)] 85)) wk2.heap.size (.slice LA1 ((askK 50 σ1 Na ya).2).1.length lc1) (.slice LA2 ((askK 20 σ2 Nb yb).2).1.length lc2) ((askK 50 σ1 Na ya).2).1.length ((askK 20 σ2 Nb yb).2).1.length) := Lib.hid ⟨(MapKept.heap_alloc wk2 _).1, (HZ1.out.keep g3).keep HAl.out, HZ2.out.keep HAl.out, HB2.out.alloc HB2.out.size _⟩
                  clear g1 g2 g3 HK1 HK2
                  go_wp2_with fail
                  go_loopw [16, 17, 134] (fun l k i wr => ∃ e : Nat, e ≤ 2 ∧ i = .int .i64 e ∧ Hid (ZZ web wr wk2.heap.size (.slice LA1 ((askK 50 σ1 Na ya).2).1.length lc1) (.slice LA2 ((askK 20 σ2 Nb yb).2).1.length lc2) ((askK 50 σ1 Na ya).2).1.length ((askK 20 σ2 Nb yb).2).1.length)) (fun _ _ i _ => 2 - (intOf i).toNat)
                  case atStart => exact ⟨0, by omega, rfl, HZZ⟩
                  case round =>
                    obtain ⟨e, he, rfl, hz⟩ := hrel
                    clear HZZ
                    obtain ⟨wz, hwz⟩ : ∃ x, x = wr := ⟨_, rfl⟩
                    subst hwz
                    have l0 : wz.cell? ⟨wk2.heap.size, 0, none⟩ = some (.slice LA1 ((askK 50 σ1 Na ya).2).1.length lc1) := by simp [World.cell?, hz.out.ll]
                    have l1 : wz.cell? ⟨wk2.heap.size, 1, none⟩ = some (.slice LA2 ((askK 20 σ2 Nb yb).2).1.length lc2) := by simp [World.cell?, hz.out.ll]
                    rcases (show e = 0 ∨ e = 1 ∨ e = 2 by omega) with rfl | rfl | rfl
                    · go_wp2_with fail
                      go_loopw [17, 140] (fun k i wr => ∃ d : Nat, d ≤ ((askK 50 σ1 Na ya).2).1.length ∧ i = .int .i64 d ∧ Hid (ZZ web wr wk2.heap.size (.slice LA1 ((askK 50 σ1 Na ya).2).1.length lc1) (.slice LA2 ((askK 20 σ2 Nb yb).2).1.length lc2) ((askK 50 σ1 Na ya).2).1.length ((askK 20 σ2 Nb yb).2).1.length)) (fun _ i _ => ((askK 50 σ1 Na ya).2).1.length - (intOf i).toNat)
                      case atStart => exact ⟨0, by omega, rfl, hz⟩
                      case round =>
                        obtain ⟨d, hd, rfl, hz'⟩ := hrel
                        by_cases hdl : d < ((askK 50 σ1 Na ya).2).1.length
                        · have hdi : (d : Int) < ((askK 50 σ1 Na ya).2).1.length := by omega
                          rcases hz'.out.z1 with h0 | ⟨lb, cc, cur, e, hcur, hsz, hW, hcc, hcm⟩
                          · omega
                          · cases e
                            have k0 : wr.cell? ⟨lb, d * 2, none⟩ = some (cur[d * 2]'(by omega)) := by simp [World.cell?, hcur]
                            have k1 : wr.cell? ⟨lb, d * 2 + 1, none⟩ = some (cur[d * 2 + 1]'(by omega)) := by simp [World.cell?, hcur]
                            have g0 : wr.frozen? ⟨lb, d * 2, none⟩ = false := by simp [World.frozen?, hcur]
                            have g1 : wr.frozen? ⟨lb, d * 2 + 1, none⟩ = false := by simp [World.frozen?, hcur]
                            have HN' := Lib.hid ((hz'.out.set hcur hW (d * 2) (.int .i64 0)).set (obj_set hcur (d * 2) (.int .i64 0)) hW (d * 2 + 1) (.int .i64 0))
                            go_wp2_with fail
                            exact ⟨⟨d + 1, by omega, by go_num, HN'⟩, by simp [intOf]; omega⟩
                        · obtain rfl : d = ((askK 50 σ1 Na ya).2).1.length := by omega
                          go_wp2_with fail
                          exact ⟨⟨1, by omega, rfl, hz'⟩, by simp [intOf]⟩

                    · go_wp2_with fail
                      go_loopw [17, 140] (fun k i wr => ∃ d : Nat, d ≤ ((askK 20 σ2 Nb yb).2).1.length ∧ i = .int .i64 d ∧ Hid (ZZ web wr wk2.heap.size (.slice LA1 ((askK 50 σ1 Na ya).2).1.length lc1) (.slice LA2 ((askK 20 σ2 Nb yb).2).1.length lc2) ((askK 50 σ1 Na ya).2).1.length ((askK 20 σ2 Nb yb).2).1.length)) (fun _ i _ => ((askK 20 σ2 Nb yb).2).1.length - (intOf i).toNat)
                      case atStart => exact ⟨0, by omega, rfl, hz⟩
                      case round =>
                        obtain ⟨d, hd, rfl, hz'⟩ := hrel
                        by_cases hdl : d < ((askK 20 σ2 Nb yb).2).1.length
                        · have hdi : (d : Int) < ((askK 20 σ2 Nb yb).2).1.length := by omega
                          rcases hz'.out.z2 with h0 | ⟨lb, cc, cur, e, hcur, hsz, hW, hcc, hcm⟩
                          · omega
                          · cases e
                            have k0 : wr.cell? ⟨lb, d * 2, none⟩ = some (cur[d * 2]'(by omega)) := by simp [World.cell?, hcur]
                            have k1 : wr.cell? ⟨lb, d * 2 + 1, none⟩ = some (cur[d * 2 + 1]'(by omega)) := by simp [World.cell?, hcur]
                            have g0 : wr.frozen? ⟨lb, d * 2, none⟩ = false := by simp [World.frozen?, hcur]
                            have g1 : wr.frozen? ⟨lb, d * 2 + 1, none⟩ = false := by simp [World.frozen?, hcur]
                            have HN' := Lib.hid ((hz'.out.set hcur hW (d * 2) (.int .i64 0)).set (obj_set hcur (d * 2) (.int .i64 0)) hW (d * 2 + 1) (.int .i64 0))
                            go_wp2_with fail
                            exact ⟨⟨d + 1, by omega, by go_num, HN'⟩, by simp [intOf]; omega⟩
                        · obtain rfl : d = ((askK 20 σ2 Nb yb).2).1.length := by omega
                          go_wp2_with fail
                          exact ⟨⟨2, by omega, rfl, hz'⟩, by simp [intOf]⟩

                    · have HTz := Lib.hid (HTeb.out.keep hz.out.low)
                      have HBz := Lib.hid (hbeb.out.trans (hz.out.low.mono hbeb.out.size))
                      go_wp2_with fail
                      exact ⟨⟨j + 1, (askK 50 σ1 Na ya).2, (askK 20 σ2 Nb yb).2, by omega, by go_num, HTz, Lib.hid (by exact HNa.out), Lib.hid (by exact HNb.out), HBz⟩, by simp [intOf]; omega⟩
        · have h2i : ¬ (j : Int) < n2 := by omega
          obtain ⟨ba, oa, ea, c0a, c1a⟩ := (HA1.out.keep hbw.out) j (by omega)
          obtain ⟨xa, hxa⟩ : ∃ x, (f1 j).1 = x := ⟨_, rfl⟩
          obtain ⟨ya, hya⟩ : ∃ x, (f1 j).2 = x := ⟨_, rfl⟩
          rw [hxa] at c0a
          rw [hya] at c1a
          subst ea
          have HCa := Lib.hid (fun w => cut_any xa w)
          obtain ⟨Na, hNa⟩ : ∃ N, cutN xa = N := ⟨_, rfl⟩
          rw [hNa] at HCa
          have hsa := hbw.out.size
          have HTaba := Lib.hid ((ht.out.keep ((Below.refl _ wo).drew)).table Na ya (by have := hC1.out.1; omega) (by have := hC1.out.2.1; omega) (by have := hC1.out.2.2.1; omega) (by have := hC1.out.2.2.2; omega) hsa)
          clear hNa
          go_upto_region 12 with fail
          go_cut [] from 72 to 84 (fun wx => Hid (Twins w.heap.size wx p1 r1 p2 r2 q1 q2 50 20 (askK 50 σ1 Na ya).2 σ2 σ1 σ2) ∧ Hid (Below w.heap.size w wx))
          case first =>
            go_region_with (first
              | (go_at_call 66; refine (HCa.out _).mono ?_; rintro z w' ⟨rfl, rfl⟩)
              | (go_at_call 67; refine HTaba.out.mono ?_; rintro z w5 ⟨v, rfl, g1, g2⟩; have G1 := Lib.hid g1; have G2 := Lib.hid (hbw.out.drew.trans g2); clear g1 g2))
            all_goals
              go_wp2_with fail
              go_meet
              exact ⟨G1, G2⟩
          case rest =>
            obtain ⟨HTma, hbma⟩ := hcut
            obtain ⟨wma, hwma⟩ : ∃ x, x = wc := ⟨_, rfl⟩
            subst hwma
            clear c0a c1a HTaba
            obtain ⟨b'a, o'a, e'a, c0a, c1a⟩ := (HA1.out.keep hbma.out) j (by omega)
            rw [hxa] at c0a
            rw [hya] at c1a
            cases e'a
            have hsma := hbma.out.size
            have HAska := Lib.hid ((HTma.out.keep ((Below.refl _ wma).drew)).ask (by have := hC1.out.1; omega) (by have := hC1.out.2.1; omega) (by have := hC1.out.2.2.1; omega) (by have := hC1.out.2.2.2; omega) hsma)
            go_upto_region 13 with fail
            go_cut [] from 85 to 97 (fun wx => Hid (Twins w.heap.size wx p1 r1 p2 r2 q1 q2 50 20 (askK 50 σ1 Na ya).2 σ2 (askK 50 σ1 Na ya).2 σ2) ∧ Hid (Below w.heap.size w wx))
            case first =>
              go_region_with (first
                | (go_at_call 66; refine (HCa.out _).mono ?_; rintro z w' ⟨rfl, rfl⟩)
                | (go_at_call 73; refine HAska.out.mono ?_; rintro z w5 ⟨v, rfl, g1, g2⟩; have G1 := Lib.hid g1; have G2 := Lib.hid (hbma.out.drew.trans g2); clear g1 g2))
              all_goals
                go_wp2_with fail
                go_meet
                exact ⟨G1, G2⟩
            case rest =>
              obtain ⟨HTea, hbea⟩ := hcut
              obtain ⟨wea, hwea⟩ : ∃ x, x = wc := ⟨_, rfl⟩
              subst hwea
              clear c0a c1a HAska HTma hbma
              have HNa : Hid (Cnt (askK 50 σ1 Na ya).2 ((j : Int) + 1)) := Lib.hid (ask_counts (M := 50) (n := Na) (s := ya) hC1.out)
              have HK1 := Lib.hid HTea.out.kept
              go_upto_region 17 with fail
              go_wp2_with fail
              refine HK1.out.mono ?_
              rintro z wk1 ⟨v1, rfl, g1, g2, g3⟩
              obtain ⟨LA1, lc1, rfl, ha1, hb1⟩ := g1.shape
              have HZ1 := Lib.hid (ZR.of (W := wea) g1 g2)
              have HTk := Lib.hid (HTea.out.swap.keep g3)
              have HBk := Lib.hid g3
              have HK2 := Lib.hid HTk.out.kept
              have hsk1 := g3.size
              clear g1 g2 g3
              go_wp2_with fail
              refine HK2.out.mono ?_
              rintro z wk2 ⟨v2, rfl, g1, g2, g3⟩
              obtain ⟨LA2, lc2, rfl, ha2, hb2⟩ := g1.shape
              have HZ2 := Lib.hid (ZR.of (W := wea) g1 (fun b hb => Nat.le_trans hsk1 (g2 b hb)))
              have HB2 : Hid (Below wea.heap.size wea wk2) := Lib.hid (HBk.out.trans (g3.mono hsk1))
              have HAl := Lib.hid ((Below.refl wk2.heap.size wk2).alloc (Nat.le_refl _) (.cells #[(.slice LA1 ((askK 50 σ1 Na ya).2).1.length lc1), (.slice LA2 (σ2).1.length lc2)] 85))
              have HZZ : Hid (ZZ wea (wk2.alloc (.cells #[(.slice LA1 ((askK 50 σ1 Na ya).2).1.length lc1), (.slice LA2 (σ2).1.length lc2)] 85)) wk2.heap.size (.slice LA1 ((askK 50 σ1 Na ya).2).1.length lc1) (.slice LA2 (σ2).1.length lc2) ((askK 50 σ1 Na ya).2).1.length (σ2).1.length) := Lib.hid ⟨(MapKept.heap_alloc wk2 _).1, (HZ1.out.keep g3).keep HAl.out, HZ2.out.keep HAl.out, HB2.out.alloc HB2.out.size _⟩
              clear g1 g2 g3 HK1 HK2
              go_wp2_with fail
              go_loopw [16, 17, 134] (fun l k i wr => ∃ e : Nat, e ≤ 2 ∧ i = .int .i64 e ∧ Hid (ZZ wea wr wk2.heap.size (.slice LA1 ((askK 50 σ1 Na ya).2).1.length lc1) (.slice LA2 (σ2).1.length lc2) ((askK 50 σ1 Na ya).2).1.length (σ2).1.length)) (fun _ _ i _ => 2 - (intOf i).toNat)
              case atStart => exact ⟨0, by omega, rfl, HZZ⟩
              case round =>
                obtain ⟨e, he, rfl, hz⟩ := hrel
                clear HZZ
                obtain ⟨wz, hwz⟩ : ∃ x, x = wr := ⟨_, rfl⟩
                subst hwz
                have l0 : wz.cell? ⟨wk2.heap.size, 0, none⟩ = some (.slice LA1 ((askK 50 σ1 Na ya).2).1.length lc1) := by simp [World.cell?, hz.out.ll]
                have l1 : wz.cell? ⟨wk2.heap.size, 1, none⟩ = some (.slice LA2 (σ2).1.length lc2) := by simp [World.cell?, hz.out.ll]
                rcases (show e = 0 ∨ e = 1 ∨ e = 2 by omega) with rfl | rfl | rfl
                · go_wp2_with fail
                  go_loopw [17, 140] (fun k i wr => ∃ d : Nat, d ≤ ((askK 50 σ1 Na ya).2).1.length ∧ i = .int .i64 d ∧ Hid (ZZ wea wr wk2.heap.size (.slice LA1 ((askK 50 σ1 Na ya).2).1.length lc1) (.slice LA2 (σ2).1.length lc2) ((askK 50 σ1 Na ya).2).1.length (σ2).1.length)) (fun _ i _ => ((askK 50 σ1 Na ya).2).1.length - (intOf i).toNat)
                  case atStart => exact ⟨0, by omega, rfl, hz⟩
                  case round =>
                    obtain ⟨d, hd, rfl, hz'⟩ := hrel
                    by_cases hdl : d < ((askK 50 σ1 Na ya).2).1.length
                    · have hdi : (d : Int) < ((askK 50 σ1 Na ya).2).1.length := by omega
                      rcases hz'.out.z1 with h0 | ⟨lb, cc, cur, e, hcur, hsz, hW, hcc, hcm⟩
                      · omega
                      · cases e
                        have k0 : wr.cell? ⟨lb, d * 2, none⟩ = some (cur[d * 2]'(by omega)) := by simp [World.cell?, hcur]
                        have k1 : wr.cell? ⟨lb, d * 2 + 1, none⟩ = some (cur[d * 2 + 1]'(by omega)) := by simp [World.cell?, hcur]
                        have g0 : wr.frozen? ⟨lb, d * 2, none⟩ = false := by simp [World.frozen?, hcur]
                        have g1 : wr.frozen? ⟨lb, d * 2 + 1, none⟩ = false := by simp [World.frozen?, hcur]
                        have HN' := Lib.hid ((hz'.out.set hcur hW (d * 2) (.int .i64 0)).set (obj_set hcur (d * 2) (.int .i64 0)) hW (d * 2 + 1) (.int .i64 0))
                        go_wp2_with fail
                        exact ⟨⟨d + 1, by omega, by go_num, HN'⟩, by simp [intOf]; omega⟩
                    · obtain rfl : d = ((askK 50 σ1 Na ya).2).1.length := by omega
                      go_wp2_with fail
                      exact ⟨⟨1, by omega, rfl, hz'⟩, by simp [intOf]⟩

                · go_wp2_with fail
                  go_loopw [17, 140] (fun k i wr => ∃ d : Nat, d ≤ (σ2).1.length ∧ i = .int .i64 d ∧ Hid (ZZ wea wr wk2.heap.size (.slice LA1 ((askK 50 σ1 Na ya).2).1.length lc1) (.slice LA2 (σ2).1.length lc2) ((askK 50 σ1 Na ya).2).1.length (σ2).1.length)) (fun _ i _ => (σ2).1.length - (intOf i).toNat)
                  case atStart => exact ⟨0, by omega, rfl, hz⟩
                  case round =>
                    obtain ⟨d, hd, rfl, hz'⟩ := hrel
                    by_cases hdl : d < (σ2).1.length
                    · have hdi : (d : Int) < (σ2).1.length := by omega
                      rcases hz'.out.z2 with h0 | ⟨lb, cc, cur, e, hcur, hsz, hW, hcc, hcm⟩
                      · omega
                      · cases e
                        have k0 : wr.cell? ⟨lb, d * 2, none⟩ = some (cur[d * 2]'(by omega)) := by simp [World.cell?, hcur]
                        have k1 : wr.cell? ⟨lb, d * 2 + 1, none⟩ = some (cur[d * 2 + 1]'(by omega)) := by simp [World.cell?, hcur]
                        have g0 : wr.frozen? ⟨lb, d * 2, none⟩ = false := by simp [World.frozen?, hcur]
                        have g1 : wr.frozen? ⟨lb, d * 2 + 1, none⟩ = false := by simp [World.frozen?, hcur]
                        have HN' := Lib.hid ((hz'.out.set hcur hW (d * 2) (.int .i64 0)).set (obj_set hcur (d * 2) (.int .i64 0)) hW (d * 2 + 1) (.int .i64 0))
                        go_wp2_with fail
                        exact ⟨⟨d + 1, by omega, by go_num, HN'⟩, by simp [intOf]; omega⟩
                    · obtain rfl : d = (σ2).1.length := by omega
                      go_wp2_with fail
                      exact ⟨⟨2, by omega, rfl, hz'⟩, by simp [intOf]⟩

                · have HTz := Lib.hid (HTea.out.keep hz.out.low)
                  have HBz := Lib.hid (hbea.out.trans (hz.out.low.mono hbea.out.size))
                  go_wp2_with fail
                  exact ⟨⟨j + 1, (askK 50 σ1 Na ya).2, σ2, by omega, by go_num, HTz, Lib.hid (by exact HNa.out), Lib.hid (by exact ⟨hC2.out.1, by have := hC2.out.2.1; omega, hC2.out.2.2.1, by have := hC2.out.2.2.2; omega⟩), HBz⟩, by simp [intOf]; omega⟩
      · have h1i : ¬ (j : Int) < n1 := by omega
        have h2i : (j : Int) < n2 := by omega
        have h2 : j < n2 := by omega
        obtain ⟨bb, ob, eb, c0b, c1b⟩ := (HA2.out.keep hbw.out) j (by omega)
        obtain ⟨xb, hxb⟩ : ∃ x, (f2 j).1 = x := ⟨_, rfl⟩
        obtain ⟨yb, hyb⟩ : ∃ x, (f2 j).2 = x := ⟨_, rfl⟩
        rw [hxb] at c0b
        rw [hyb] at c1b
        subst eb
        have HCb := Lib.hid (fun w => cut_any xb w)
        obtain ⟨Nb, hNb⟩ : ∃ N, cutN xb = N := ⟨_, rfl⟩
        rw [hNb] at HCb
        have hsb := hbw.out.size
        have HTabb := Lib.hid ((ht.out.keep ((Below.refl _ wo).drew)).swap.table Nb yb (by have := hC2.out.1; omega) (by have := hC2.out.2.1; omega) (by have := hC2.out.2.2.1; omega) (by have := hC2.out.2.2.2; omega) hsb)
        clear hNb
        go_upto_region 15 with fail
        go_cut [] from 102 to 114 (fun wx => Hid (Twins w.heap.size wx p1 r1 p2 r2 q1 q2 50 20 σ1 (askK 20 σ2 Nb yb).2 σ1 σ2) ∧ Hid (Below w.heap.size w wx))
        case first =>
          go_region_with (first
            | (go_at_call 66; refine (HCb.out _).mono ?_; rintro z w' ⟨rfl, rfl⟩)
            | (go_at_call 67; refine HTabb.out.mono ?_; rintro z w5 ⟨v, rfl, g1, g2⟩; have G1 := Lib.hid g1.swap; have G2 := Lib.hid (hbw.out.drew.trans g2); clear g1 g2))
          all_goals
            go_wp2_with fail
            go_meet
            exact ⟨G1, G2⟩
        case rest =>
          obtain ⟨HTmb, hbmb⟩ := hcut
          obtain ⟨wmb, hwmb⟩ : ∃ x, x = wc := ⟨_, rfl⟩
          subst hwmb
          clear c0b c1b HTabb
          obtain ⟨b'b, o'b, e'b, c0b, c1b⟩ := (HA2.out.keep hbmb.out) j (by omega)
          rw [hxb] at c0b
          rw [hyb] at c1b
          cases e'b
          have hsmb := hbmb.out.size
          have HAskb := Lib.hid ((HTmb.out.keep ((Below.refl _ wmb).drew)).swap.ask (by have := hC2.out.1; omega) (by have := hC2.out.2.1; omega) (by have := hC2.out.2.2.1; omega) (by have := hC2.out.2.2.2; omega) hsmb)
          go_upto_region 16 with fail
          go_cut [] from 115 to 127 (fun wx => Hid (Twins w.heap.size wx p1 r1 p2 r2 q1 q2 50 20 σ1 (askK 20 σ2 Nb yb).2 σ1 (askK 20 σ2 Nb yb).2) ∧ Hid (Below w.heap.size w wx))
          case first =>
            go_region_with (first
              | (go_at_call 66; refine (HCb.out _).mono ?_; rintro z w' ⟨rfl, rfl⟩)
              | (go_at_call 73; refine HAskb.out.mono ?_; rintro z w5 ⟨v, rfl, g1, g2⟩; have G1 := Lib.hid g1.swap; have G2 := Lib.hid (hbmb.out.drew.trans g2); clear g1 g2))
            all_goals
              go_wp2_with fail
              go_meet
              exact ⟨G1, G2⟩
          case rest =>
            obtain ⟨HTeb, hbeb⟩ := hcut
            obtain ⟨web, hweb⟩ : ∃ x, x = wc := ⟨_, rfl⟩
            subst hweb
            clear c0b c1b HAskb HTmb hbmb
            have HNb : Hid (Cnt (askK 20 σ2 Nb yb).2 ((j : Int) + 1)) := Lib.hid (ask_counts (M := 20) (n := Nb) (s := yb) hC2.out)
            have HK1 := Lib.hid HTeb.out.kept
            go_upto_region 17 with fail
            go_wp2_with fail
            refine HK1.out.mono ?_
            rintro z wk1 ⟨v1, rfl, g1, g2, g3⟩
            obtain ⟨LA1, lc1, rfl, ha1, hb1⟩ := g1.shape
            have HZ1 := Lib.hid (ZR.of (W := web) g1 g2)
            have HTk := Lib.hid (HTeb.out.swap.keep g3)
            have HBk := Lib.hid g3
            have HK2 := Lib.hid HTk.out.kept
            have hsk1 := g3.size
            clear g1 g2 g3
            go_wp2_with fail
            refine HK2.out.mono ?_
            rintro z wk2 ⟨v2, rfl, g1, g2, g3⟩
            obtain ⟨LA2, lc2, rfl, ha2, hb2⟩ := g1.shape
            have HZ2 := Lib.hid (ZR.of (W := web) g1 (fun b hb => Nat.le_trans hsk1 (g2 b hb)))
            have HB2 : Hid (Below web.heap.size web wk2) := Lib.hid (HBk.out.trans (g3.mono hsk1))
            have HAl := Lib.hid ((Below.refl wk2.heap.size wk2).alloc (Nat.le_refl _) (.cells #[(.slice LA1 (σ1).1.length lc1), (.slice LA2 ((askK 20 σ2 Nb yb).2).1.length lc2)] 85))
            have HZZ : Hid (ZZ web (wk2.alloc (.cells #[(.slice LA1 (σ1).1.length lc1), (.slice LA2 ((askK 20 σ2 Nb yb).2).1.length lc2)] 85)) wk2.heap.size (.slice LA1 (σ1).1.length lc1) (.slice LA2 ((askK 20 σ2 Nb yb).2).1.length lc2) (σ1).1.length ((askK 20 σ2 Nb yb).2).1.length) := Lib.hid ⟨(MapKept.heap_alloc wk2 _).1, (HZ1.out.keep g3).keep HAl.out, HZ2.out.keep HAl.out, HB2.out.alloc HB2.out.size _⟩
            clear g1 g2 g3 HK1 HK2
            go_wp2_with fail
            go_loopw [16, 17, 134] (fun l k i wr => ∃ e : Nat, e ≤ 2 ∧ i = .int .i64 e ∧ Hid (ZZ web wr wk2.heap.size (.slice LA1 (σ1).1.length lc1) (.slice LA2 ((askK 20 σ2 Nb yb).2).1.length lc2) (σ1).1.length ((askK 20 σ2 Nb yb).2).1.length)) (fun _ _ i _ => 2 - (intOf i).toNat)
            case atStart => exact ⟨0, by omega, rfl, HZZ⟩
            case round =>
              obtain ⟨e, he, rfl, hz⟩ := hrel
              clear HZZ
              obtain ⟨wz, hwz⟩ : ∃ x, x = wr := ⟨_, rfl⟩
              subst hwz
              have l0 : wz.cell? ⟨wk2.heap.size, 0, none⟩ = some (.slice LA1 (σ1).1.length lc1) := by simp [World.cell?, hz.out.ll]
              have l1 : wz.cell? ⟨wk2.heap.size, 1, none⟩ = some (.slice LA2 ((askK 20 σ2 Nb yb).2).1.length lc2) := by simp [World.cell?, hz.out.ll]
              rcases (show e = 0 ∨ e = 1 ∨ e = 2 by omega) with rfl | rfl | rfl
              · go_wp2_with fail
                go_loopw [17, 140] (fun k i wr => ∃ d : Nat, d ≤ (σ1).1.length ∧ i = .int .i64 d ∧ Hid (ZZ web wr wk2.heap.size (.slice LA1 (σ1).1.length lc1) (.slice LA2 ((askK 20 σ2 Nb yb).2).1.length lc2) (σ1).1.length ((askK 20 σ2 Nb yb).2).1.length)) (fun _ i _ => (σ1).1.length - (intOf i).toNat)
                case atStart => exact ⟨0, by omega, rfl, hz⟩
                case round =>
                  obtain ⟨d, hd, rfl, hz'⟩ := hrel
                  by_cases hdl : d < (σ1).1.length
                  · have hdi : (d : Int) < (σ1).1.length := by omega
                    rcases hz'.out.z1 with h0 | ⟨lb, cc, cur, e, hcur, hsz, hW, hcc, hcm⟩
                    · omega
                    · cases e
                      have k0 : wr.cell? ⟨lb, d * 2, none⟩ = some (cur[d * 2]'(by omega)) := by simp [World.cell?, hcur]
                      have k1 : wr.cell? ⟨lb, d * 2 + 1, none⟩ = some (cur[d * 2 + 1]'(by omega)) := by simp [World.cell?, hcur]
                      have g0 : wr.frozen? ⟨lb, d * 2, none⟩ = false := by simp [World.frozen?, hcur]
                      have g1 : wr.frozen? ⟨lb, d * 2 + 1, none⟩ = false := by simp [World.frozen?, hcur]
                      have HN' := Lib.hid ((hz'.out.set hcur hW (d * 2) (.int .i64 0)).set (obj_set hcur (d * 2) (.int .i64 0)) hW (d * 2 + 1) (.int .i64 0))
                      go_wp2_with fail
                      exact ⟨⟨d + 1, by omega, by go_num, HN'⟩, by simp [intOf]; omega⟩
                  · obtain rfl : d = (σ1).1.length := by omega
                    go_wp2_with fail
                    exact ⟨⟨1, by omega, rfl, hz'⟩, by simp [intOf]⟩

              · go_wp2_with fail
                go_loopw [17, 140] (fun k i wr => ∃ d : Nat, d ≤ ((askK 20 σ2 Nb yb).2).1.length ∧ i = .int .i64 d ∧ Hid (ZZ web wr wk2.heap.size (.slice LA1 (σ1).1.length lc1) (.slice LA2 ((askK 20 σ2 Nb yb).2).1.length lc2) (σ1).1.length ((askK 20 σ2 Nb yb).2).1.length)) (fun _ i _ => ((askK 20 σ2 Nb yb).2).1.length - (intOf i).toNat)
                case atStart => exact ⟨0, by omega, rfl, hz⟩
                case round =>
                  obtain ⟨d, hd, rfl, hz'⟩ := hrel
                  by_cases hdl : d < ((askK 20 σ2 Nb yb).2).1.length
                  · have hdi : (d : Int) < ((askK 20 σ2 Nb yb).2).1.length := by omega
                    rcases hz'.out.z2 with h0 | ⟨lb, cc, cur, e, hcur, hsz, hW, hcc, hcm⟩
                    · omega
                    · cases e
                      have k0 : wr.cell? ⟨lb, d * 2, none⟩ = some (cur[d * 2]'(by omega)) := by simp [World.cell?, hcur]
                      have k1 : wr.cell? ⟨lb, d * 2 + 1, none⟩ = some (cur[d * 2 + 1]'(by omega)) := by simp [World.cell?, hcur]
                      have g0 : wr.frozen? ⟨lb, d * 2, none⟩ = false := by simp [World.frozen?, hcur]
                      have g1 : wr.frozen? ⟨lb, d * 2 + 1, none⟩ = false := by simp [World.frozen?, hcur]
                      have HN' := Lib.hid ((hz'.out.set hcur hW (d * 2) (.int .i64 0)).set (obj_set hcur (d * 2) (.int .i64 0)) hW (d * 2 + 1) (.int .i64 0))
                      go_wp2_with fail
                      exact ⟨⟨d + 1, by omega, by go_num, HN'⟩, by simp [intOf]; omega⟩
                  · obtain rfl : d = ((askK 20 σ2 Nb yb).2).1.length := by omega
                    go_wp2_with fail
                    exact ⟨⟨2, by omega, rfl, hz'⟩, by simp [intOf]⟩

              · have HTz := Lib.hid (HTeb.out.keep hz.out.low)
                have HBz := Lib.hid (hbeb.out.trans (hz.out.low.mono hbeb.out.size))
                go_wp2_with fail
                exact ⟨⟨j + 1, σ1, (askK 20 σ2 Nb yb).2, by omega, by go_num, HTz, Lib.hid (by exact ⟨hC1.out.1, by have := hC1.out.2.1; omega, hC1.out.2.2.1, by have := hC1.out.2.2.2; omega⟩), Lib.hid (by exact HNb.out), HBz⟩, by simp [intOf]; omega⟩
    · have hstop : ¬ (j : Int) < 20 ∨ ((j : Int) < 20 ∧ ¬ (j : Int) < n1 ∧ ¬ (j : Int) < n2) := by omega
      clear hend
      rcases hstop with h0 | ⟨h0, h1, h2⟩
      all_goals
        go_wp2_with fail
        refine ht.out.same.mono ?_
        rintro z wa ⟨rfl, hba⟩
        have HTa := Lib.hid (ht.out.swap.keep hba)
        have HBa := Lib.hid (hbw.out.trans (hba.mono hwr))
        have hsa := HBa.out.size
        clear hba
        go_wp2_with fail
        refine HTa.out.same.mono ?_
        rintro z wb ⟨rfl, hbb⟩
        have HBb := Lib.hid (HBa.out.trans (hbb.mono hsa))
        clear hbb
        go_wp2_with fail
        go_ret
        exact ⟨rfl, HBb.out⟩

end Go.Proofs.Ytnpkblidlmkagaa
