/- The document's search: try. -/
import Derived.Test.YtmgfaeineklccaaGreatMP5
import Derived.Test.YtmgfaeineklccaaGreatMY1
import Derived.Test.YtmgfaeineklccaaGreatMP3
set_option linter.unusedSimpArgs false
set_option linter.unusedVariables false
namespace Go.Proofs.YtmgfaeineklccaaGreat
open Go.RowKit Go.Lib

/-- A box of seven noughts. -/
def ZeroE (w : World) (b : Nat) : Prop := (∀ (i : Nat) u, [Value.int .i64 0, .bool false, .int .i64 0, .int .i64 0, .int .i64 0, .slice none 0 0, .int .i64 0][i]? = some u → w.cell? ⟨b, i, none⟩ = some u) ∧ ∀ i, i < 7 → w.frozen? ⟨b, i, none⟩ = false
theorem ZeroE.new (w : World) : ZeroE (w.alloc (.cells #[.int .i64 0, .bool false, .int .i64 0, .int .i64 0, .int .i64 0, .slice none 0 0, .int .i64 0] 157)) w.heap.size := by
  refine ⟨fun i u h => ?_, fun i _ => World.frozen?_alloc_new _ _ _ _⟩
  rw [World.cell?_alloc_new]
  simpa using h
theorem ZeroE.same {w w' : World} {b : Nat} (h : ZeroE w b) (e : w'.heap[b]? = w.heap[b]?) : ZeroE w' b :=
  ⟨fun i u hu => cell_same (h.1 i u hu) e, fun i hi => (World.frozen?_of_block (w := w) (a := ⟨b, i, none⟩) e).trans (h.2 i hi)⟩
/-- An entry in a block. -/
def EnBox (w : World) (b : Nat) (n : Nat) (blue : Bool) (x : Bst) (B : Option Addr) (c : Nat) : Prop :=
  w.cell? ⟨b, 0, none⟩ = some (.int .i64 n) ∧ w.cell? ⟨b, 1, none⟩ = some (.bool blue) ∧ w.cell? ⟨b, 2, none⟩ = some (.int .i64 x.k) ∧ w.cell? ⟨b, 3, none⟩ = some (.int .i64 x.n) ∧ w.cell? ⟨b, 4, none⟩ = some (.int .i64 x.r) ∧ w.cell? ⟨b, 5, none⟩ = some (.slice B x.q.len c) ∧ w.cell? ⟨b, 6, none⟩ = some (.int .i64 x.c)
theorem EnBox.same {w w' : World} {b n : Nat} {blue : Bool} {x : Bst} {B : Option Addr} {c : Nat} (h : EnBox w b n blue x B c) (e : w'.heap[b]? = w.heap[b]?) : EnBox w' b n blue x B c :=
  ⟨cell_same h.1 e, cell_same h.2.1 e, cell_same h.2.2.1 e, cell_same h.2.2.2.1 e, cell_same h.2.2.2.2.1 e, cell_same h.2.2.2.2.2.1 e, cell_same h.2.2.2.2.2.2 e⟩
/-- The world with an entry written. -/
def putEn (w : World) (b : Nat) (n : Nat) (blue : Bool) (x : Bst) (B : Option Addr) (c : Nat) : World :=
  ((((((w.setCell ⟨b, 0, none⟩ (.int .i64 n)).setCell ⟨b, 1, none⟩ (.bool blue)).setCell ⟨b, 2, none⟩ (.int .i64 x.k)).setCell ⟨b, 3, none⟩ (.int .i64 x.n)).setCell ⟨b, 4, none⟩ (.int .i64 x.r)).setCell ⟨b, 5, none⟩ (.slice B x.q.len c)).setCell ⟨b, 6, none⟩ (.int .i64 x.c)
theorem only_putEn (w : World) (b n : Nat) (blue : Bool) (x : Bst) (B : Option Addr) (c : Nat) : OnlyB b w (putEn w b n blue x B c) :=
  (((((((OnlyB.refl b w).setCell _ _ _).setCell _ _ _).setCell _ _ _).setCell _ _ _).setCell _ _ _).setCell _ _ _).setCell _ _ _
theorem set_ne {w : World} {b i j : Nat} {u v : Value} (h : w.cell? ⟨b, i, none⟩ = some u) (e : i ≠ j) : (w.setCell ⟨b, j, none⟩ v).cell? ⟨b, i, none⟩ = some u := by
  rw [World.cell?_setCell_other _ _ _ _ (fun h => e (congrArg Addr.off h).symm)]; exact h
theorem set_eq {w : World} {b i : Nat} {u v : Value} (h : w.cell? ⟨b, i, none⟩ = some u) : (w.setCell ⟨b, i, none⟩ v).cell? ⟨b, i, none⟩ = some v := World.cell?_setCell_same _ _ _ h
theorem EnBox.put {w : World} {b : Nat} {c0 c1 c2 c3 c4 c5 c6 : Value} (h0 : w.cell? ⟨b, 0, none⟩ = some c0) (h1 : w.cell? ⟨b, 1, none⟩ = some c1) (h2 : w.cell? ⟨b, 2, none⟩ = some c2) (h3 : w.cell? ⟨b, 3, none⟩ = some c3) (h4 : w.cell? ⟨b, 4, none⟩ = some c4) (h5 : w.cell? ⟨b, 5, none⟩ = some c5) (h6 : w.cell? ⟨b, 6, none⟩ = some c6)
    (n : Nat) (blue : Bool) (x : Bst) (B : Option Addr) (c : Nat) : EnBox (putEn w b n blue x B c) b n blue x B c := by
  unfold putEn
  refine ⟨?_, ?_, ?_, ?_, ?_, ?_, ?_⟩
  · exact set_ne (set_ne (set_ne (set_ne (set_ne (set_ne (set_eq h0) (by decide)) (by decide)) (by decide)) (by decide)) (by decide)) (by decide)
  · exact set_ne (set_ne (set_ne (set_ne (set_ne (set_eq (set_ne h1 (by decide))) (by decide)) (by decide)) (by decide)) (by decide)) (by decide)
  · exact set_ne (set_ne (set_ne (set_ne (set_eq (set_ne (set_ne h2 (by decide)) (by decide))) (by decide)) (by decide)) (by decide)) (by decide)
  · exact set_ne (set_ne (set_ne (set_eq (set_ne (set_ne (set_ne h3 (by decide)) (by decide)) (by decide))) (by decide)) (by decide)) (by decide)
  · exact set_ne (set_ne (set_eq (set_ne (set_ne (set_ne (set_ne h4 (by decide)) (by decide)) (by decide)) (by decide))) (by decide)) (by decide)
  · exact set_ne (set_eq (set_ne (set_ne (set_ne (set_ne (set_ne h5 (by decide)) (by decide)) (by decide)) (by decide)) (by decide))) (by decide)
  · exact set_eq (set_ne (set_ne (set_ne (set_ne (set_ne (set_ne h6 (by decide)) (by decide)) (by decide)) (by decide)) (by decide)) (by decide))
section
variable {S : Nat → Prop} {w W : World} {pb n : Nat} {blue : Bool} {k r : Int} {v0 : Value} {es0 : List EN} {b : Bool} {ws : List Int} {A' : Option Addr} {T : Nat} {Bk : Option Addr} {j cb : Nat} {vc v : Value} {es : List EN}
/-- A nested answer and a box for it, made in either order. -/
def TwoB (S : Nat → Prop) (w W : World) (pb n : Nat) (blue : Bool) (k r : Int) (v0 : Value) (es0 : List EN) (b : Bool) (ws : List Int) (A' : Option Addr) (T : Nat) (Bk : Option Addr) (j cb : Nat) (vc : Value) (x : Nat) (vi vj : Value) (w2 : World) : Prop :=
  ∃ (B3 : Option Addr) (c3 q9 : Nat) (v' : Value) (es' : List EN), vi = .agg #[.int .i64 x, .bool b, .int .i64 (bestV x b).k, .int .i64 (bestV x b).n, .int .i64 (bestV x b).r, .slice B3 (bestV x b).q.len c3, .int .i64 (bestV x b).c] ∧ vj = .pointer (some ⟨q9, 0, none⟩) ∧ TB (fun i => S i ∨ i = q9) w w2 pb n blue k r v0 es0 b ws A' T Bk j cb vc v' es' ∧
    KZ (bkS (trS (fun i => S i ∨ i = q9) w Bk j cb vc) pb v') w2 B3 (bestV x b).q ∧ ZeroE w2 q9 ∧ W.heap.size ≤ q9 ∧ q9 < w2.heap.size
theorem twoB_a (h : TB S w W pb n blue k r v0 es0 b ws A' T Bk j cb vc v es) {x : Nat} (hx : deepB x b < deepB n blue) {z : Ending} {w1 : World} (hb : BestP (trS S w Bk j cb vc) W pb x b v es z w1) :
    ∃ (B3 : Option Addr) (c3 : Nat), z = .returned (.agg #[.int .i64 x, .bool b, .int .i64 (bestV x b).k, .int .i64 (bestV x b).n, .int .i64 (bestV x b).r, .slice B3 (bestV x b).q.len c3, .int .i64 (bestV x b).c]) ∧ TwoB S w W pb n blue k r v0 es0 b ws A' T Bk j cb vc x (.agg #[.int .i64 x, .bool b, .int .i64 (bestV x b).k, .int .i64 (bestV x b).n, .int .i64 (bestV x b).r, .slice B3 (bestV x b).q.len c3, .int .i64 (bestV x b).c]) (.pointer (some ⟨w1.heap.size, 0, none⟩)) (w1.alloc (.cells #[.int .i64 0, .bool false, .int .i64 0, .int .i64 0, .int .i64 0, .slice none 0 0, .int .i64 0] 157)) ∧ Below T W W = Below T W W ∧ OnlyZ (fun i => i = pb ∨ v.ownBlock = some i) W w1 := by
  obtain ⟨B3, c3, v', es', rfl, hk, hbe, hes, ho, hv⟩ := hb
  have h1 := h.next ho hbe hv (fun e he => by
    rcases hes e he with f | f
    · exact h.es e f
    · exact .inr (Nat.lt_of_le_of_lt f hx))
  have hb2 : Below w1.heap.size w1 (w1.alloc (.cells #[.int .i64 0, .bool false, .int .i64 0, .int .i64 0, .int .i64 0, .slice none 0 0, .int .i64 0] 157)) := (Below.refl _ w1).alloc (Nat.le_refl _) _
  refine ⟨B3, c3, rfl, ⟨B3, c3, w1.heap.size, v', es', rfl, rfl, h1.new hb2 (fun i e => ⟨?_, ?_⟩), ?_, ZeroE.new w1, ho.size, by simp⟩, rfl, ho⟩
  · rcases e with e | e
    · exact .inl e
    · exact .inr (by omega)
  · rcases e with e | e
    · have := h1.sl i e; have := hb2.size; omega
    · rw [e]; simp
  · refine hk.move hb2.size (fun i hi _ => hb2.block i hi) fun i hi e => ?_
    rcases e with e | e
    · rcases e with e | e
      · rcases e with e | e
        · exact .inl (.inl e)
        · omega
      · exact .inl (.inr e)
    · exact .inr e
theorem twoB_b0 (h : TB S w W pb n blue k r v0 es0 b ws A' T Bk j cb vc v es) : TB (fun i => S i ∨ i = W.heap.size) w (W.alloc (.cells #[.int .i64 0, .bool false, .int .i64 0, .int .i64 0, .int .i64 0, .slice none 0 0, .int .i64 0] 157)) pb n blue k r v0 es0 b ws A' T Bk j cb vc v es :=
  h.new ((Below.refl _ W).alloc (Nat.le_refl _) _) (fun i e => by
    rcases e with e | e
    · exact ⟨.inl e, by have := h.sl i e; simp; omega⟩
    · exact ⟨.inr (by omega), by rw [e]; simp⟩)
theorem twoB_b (h : TB S w W pb n blue k r v0 es0 b ws A' T Bk j cb vc v es) {x : Nat} (hx : deepB x b < deepB n blue) {z : Ending} {w1 : World} (hb : BestP (trS (fun i => S i ∨ i = W.heap.size) w Bk j cb vc) (W.alloc (.cells #[.int .i64 0, .bool false, .int .i64 0, .int .i64 0, .int .i64 0, .slice none 0 0, .int .i64 0] 157)) pb x b v es z w1) :
    ∃ (B3 : Option Addr) (c3 : Nat), z = .returned (.agg #[.int .i64 x, .bool b, .int .i64 (bestV x b).k, .int .i64 (bestV x b).n, .int .i64 (bestV x b).r, .slice B3 (bestV x b).q.len c3, .int .i64 (bestV x b).c]) ∧ TwoB S w W pb n blue k r v0 es0 b ws A' T Bk j cb vc x (.agg #[.int .i64 x, .bool b, .int .i64 (bestV x b).k, .int .i64 (bestV x b).n, .int .i64 (bestV x b).r, .slice B3 (bestV x b).q.len c3, .int .i64 (bestV x b).c]) (.pointer (some ⟨W.heap.size, 0, none⟩)) w1 ∧ OnlyZ (fun i => i = pb ∨ v.ownBlock = some i) (W.alloc (.cells #[.int .i64 0, .bool false, .int .i64 0, .int .i64 0, .int .i64 0, .slice none 0 0, .int .i64 0] 157)) w1 := by
  obtain ⟨B3, c3, v', es', rfl, hk, hbe, hes, ho, hv⟩ := hb
  have h0 := twoB_b0 h
  have h1 := h0.next ho hbe hv (fun e he => by
    rcases hes e he with f | f
    · exact h.es e f
    · exact .inr (Nat.lt_of_le_of_lt f hx))
  have hs : (W.alloc (.cells #[.int .i64 0, .bool false, .int .i64 0, .int .i64 0, .int .i64 0, .slice none 0 0, .int .i64 0] 157)).heap.size = W.heap.size + 1 := by simp
  refine ⟨B3, c3, rfl, ⟨B3, c3, W.heap.size, v', es', rfl, rfl, h1, hk, (ZeroE.new W).same (ho.block _ (by omega) ?_), Nat.le_refl _, by have := ho.size; omega⟩, ho⟩
  rintro (e | e)
  · have := h.pl; have := h.sz; omega
  · exact h0.sv _ e (.inr rfl)
end

set_option maxRecDepth 100000 in
set_option maxHeartbeats 8000000 in
theorem try_step (n : Nat) (blue : Bool) (k r : Int) (hcd : Cand n blue k r) (h2 : k = 2 → 4 ≤ n) (h1 : 1 ≤ n) (hn : n ≤ 32768) (ih : ∀ x ∈ wantsF k n r, ∃ m : Nat, x = m ∧ 1 ≤ m ∧ m ≤ 32768 ∧ deepB m (blue || k == 4) < deepB n blue ∧ BestC m (blue || k == 4))
    (S : Nat → Prop) (w : World) (pb : Nat) (v : Value) (es : List EN) (hb : BE S w pb v es) (hsp : ¬ S pb) (hsl : ∀ k, S k → k < w.heap.size) (hsv : ∀ k, v.ownBlock = some k → ¬ S k) :
    Calls Tryz.prog 140 #[.pointer (some ⟨pb, 0, none⟩), plV k n r none 0 0, .bool blue] w (TryP S w pb n blue k r v es) := by
  have HCD : Hid (Cand n blue k r ∧ (k = 2 → 4 ≤ n)) := Lib.hid ⟨hcd, h2⟩
  have HN : Hid (1 ≤ n ∧ n ≤ 32768) := Lib.hid ⟨h1, hn⟩
  obtain ⟨W1, hW1⟩ : ∃ W1, W1 = (w.alloc (.cells #[.int .i64 k, .int .i64 n, .int .i64 r, .slice none 0 0] 30)).alloc (.cells #[.int .i64 0, .bool false, .int .i64 0, .int .i64 0, .int .i64 0, .slice none 0 0, .int .i64 0] 157) := ⟨_, rfl⟩
  have hb1 : Below w.heap.size w W1 := by rw [hW1]; exact ((Below.refl _ w).alloc (Nat.le_refl _) _).alloc (by simp) _
  have hs1 : W1.heap.size = w.heap.size + 2 := by rw [hW1]; simp
  have hp1 : PlBox W1 w.heap.size k n r none 0 0 ∧ PlFree W1 w.heap.size := by
    rw [hW1]
    have hbb : Below (w.alloc (.cells #[.int .i64 k, .int .i64 n, .int .i64 r, .slice none 0 0] 30)).heap.size (w.alloc (.cells #[.int .i64 k, .int .i64 n, .int .i64 r, .slice none 0 0] 30)) ((w.alloc (.cells #[.int .i64 k, .int .i64 n, .int .i64 r, .slice none 0 0] 30)).alloc (.cells #[.int .i64 0, .bool false, .int .i64 0, .int .i64 0, .int .i64 0, .slice none 0 0, .int .i64 0] 157)) := (Below.refl _ _).alloc (Nat.le_refl _) _
    exact ⟨(PlBox.new w k n r none 0 0 30).below hbb, (PlFree.new w (.int .i64 k) (.int .i64 n) (.int .i64 r) (.slice none 0 0) 30).keep hbb (by simp)⟩
  have hz1 : ZeroE W1 (w.heap.size + 1) := by
    have := ZeroE.new (w.alloc (.cells #[.int .i64 k, .int .i64 n, .int .i64 r, .slice none 0 0] 30))
    rw [← hW1] at this
    simpa using this
  have HW1 := Lib.hid hW1
  have HB1 := Lib.hid hb1
  have HS1 := Lib.hid hs1
  have HP1 := Lib.hid hp1
  have HZ1 := Lib.hid hz1
  have HWN := Lib.hid (fun w => RWants_any k n r none 0 0 w (by omega) (by omega) (fun h4 => by
    rcases hcd with ⟨h, _⟩ | ⟨h, _⟩ | ⟨h, _⟩ | ⟨h, _⟩ | ⟨_, _, _, _, h⟩ <;> omega))
  obtain ⟨ws, hws⟩ : ∃ ws, wantsF k n r = ws := ⟨_, rfl⟩
  obtain ⟨b, hbb⟩ : ∃ b, (blue || k == 4) = b := ⟨_, rfl⟩
  have hwl : ws.length ≤ 2 := by rw [← hws]; unfold wantsF; (repeat' split) <;> simp
  have HWF := Lib.hid hws
  have HBB := Lib.hid hbb
  have HCO : Hid (CkOk (costsB bestV b ws)) := Lib.hid (by rw [← hws]; exact costsB_ok hcd h1 hn b)
  rw [hws, hbb] at ih
  rw [hws] at HWN
  have HIH := Lib.hid ih
  have HBE := Lib.hid (And.intro hb (And.intro hsp (And.intro hsl hsv)))
  clear hW1 hb1 hs1 hp1 hz1 hws hbb ih hb hsp hsl hsv hcd h2 h1 hn
  go_enter Tryz.func140, Tryz.ntmps140
  go_wp2_with fail
  rw [← HW1.out]
  obtain ⟨p0, p1, p2, p3⟩ := HP1.out.1
  refine (HWN.out _).mono ?_
  rintro z W2 ⟨⟨A', rfl, hwi, hwg⟩, hb2⟩
  obtain ⟨T, hT⟩ : ∃ T, W2.heap.size = T := ⟨_, rfl⟩
  have hs1 := HS1.out
  have hpl := HBE.out.1.pl
  have hb12 := HB1.out.trans (hb2.mono (by omega))
  have hszT := hb2.size
  have hzn : OnlyZ (fun _ => False) w W2 := OnlyZ.of_below hb12 fun k a b => by omega
  have HTB : Hid (TB S w W2 pb n blue k r v es b ws A' T none 0 0 (.slice none 0 0) v es) := Lib.hid
    ⟨hzn.mono fun _ _ f => f.elim, ⟨HP1.out.1.below hb2, HP1.out.2.keep hb2 (by omega)⟩, (HZ1.out.same (hb2.block _ (by omega)) : ZeroE W2 (w.heap.size + 1)), RowQ.nil _ _ _ _, OwnI.nil _ _, fun g e => (by cases e), fun g e => ⟨by have := HBE.out.1.gl g e; omega, by have := HBE.out.1.gl g e; omega, (by intro e2; cases e2), (by intro e2; cases e2)⟩,
      HBE.out.1.only hzn (fun _ _ f => f.elim) (fun i hi e => by
        rcases e with e | e | e | e | e
        · exact .inl e
        · omega
        · omega
        · cases e
        · cases e), .inl rfl, hwi, fun h0 bb o e => by
        have q1 := hwg bb o e
        have q2 := hwi.block h0 bb o e
        refine ⟨by omega, by omega, fun e2 => ?_⟩
        have := HBE.out.1.gl bb e2
        omega, ⟨by omega, by omega⟩, fun e he => .inl he, HBE.out.2.1, HBE.out.2.2.2, fun i e => by have := HBE.out.2.2.1 i e; omega, hpl⟩
  clear hwi hwg hb2 hs1 hpl hb12 hszT hzn hT HP1 HZ1 HB1 HS1 p0 p1 p2 p3 HWN
  go_wp2_with fail
  go_loopw [7, 9] (fun v7 v9 wr => ∃ (j : Nat) (Bk : Option Addr) (cb : Nat) (v' : Value) (es' : List EN), j ≤ ws.length ∧ v9 = .int .i64 j ∧ Hid (TB S w wr pb n blue k r v es b ws A' T Bk j cb v7 v' es')) (fun _ v9 _ => ws.length - (intOf v9).toNat)
  case atStart => exact ⟨0, none, 0, v, es, Nat.zero_le _, rfl, HTB⟩
  case round =>
    clear HTB
    obtain ⟨j, Bk, cb, v', es', hj, rfl, hF⟩ := hrel
    by_cases hjl : j < ws.length
    · have hjli : (j : Int) < (ws.length : Int) := by omega
      obtain ⟨x, hx, hx1, hx2, hxd, hxf⟩ := HIH.out (ws.getD j 0) (by rw [List.getD_eq_getElem?_getD, List.getElem?_eq_getElem hjl]; exact List.getElem_mem hjl)
      obtain ⟨bW, oW, rfl, hcw0⟩ := hF.out.wt j hjl
      have hcw : wr.cell? ⟨bW, oW + j, none⟩ = some (.int .i64 (ws.getD j 0)) := hcw0
      rw [hx] at hcw
      have HCW := Lib.hid hcw
      have HX := Lib.hid (And.intro hx hxd)
      have HBC := Lib.hid hxf
      clear hcw0 hcw hx hx1 hx2 hxd hxf
      go_upto_region 6 with fail
      have HFD : Hid (TB S w wr.drew pb n blue k r v es b ws (some ⟨bW, oW, none⟩) T Bk j cb u7 v' es') := Lib.hid (hF.out.new ((Below.refl _ wr).drew) fun i e => ⟨.inl e, hF.out.sl i e⟩)
      have HSO : Hid (∀ W0 w1 : World, (W0.cell? ⟨bW, oW + j, none⟩ = some (.int .i64 x) ∧ W0.cell? ⟨w.heap.size, 0, none⟩ = some (.int .i64 k)) → OnlyZ (fun i => i = pb ∨ v'.ownBlock = some i) W0 w1 → w1.cell? ⟨bW, oW + j, none⟩ = some (.int .i64 x) ∧ w1.cell? ⟨w.heap.size, 0, none⟩ = some (.int .i64 k)) := Lib.hid (fun W0 w1 h ho => by
        have q1 := hF.out.wg (by omega) bW oW rfl
        have q2 := hF.out.pl
        have q3 : v'.ownBlock ≠ some w.heap.size := fun e => (hF.out.apv _ e).1 rfl
        refine ⟨cell_same h.1 (ho.block bW (cell_lt h.1) ?_), cell_same h.2 (ho.block _ (cell_lt h.2) ?_)⟩
        · rintro (e | e)
          · omega
          · exact q1.2.2 e
        · rintro (e | e)
          · omega
          · exact q3 e)
      obtain ⟨blueQ, hbq⟩ : ∃ q, q = blue := ⟨_, rfl⟩
      have HBQ := Lib.hid hbq
      rw [← hbq] at HX HFD hF
      clear hbq
      rcases blue with _ | _
      all_goals
        refine wp_region_S (fun w' => w'.cell? ⟨bW, oW + j, none⟩ = some (.int .i64 x) ∧ w'.cell? ⟨w.heap.size, 0, none⟩ = some (.int .i64 k)) 13 (by kernel_rfl) ?_
        have hS0 : wr.drew.cell? ⟨bW, oW + j, none⟩ = some (.int .i64 x) ∧ wr.drew.cell? ⟨w.heap.size, 0, none⟩ = some (.int .i64 k) := ⟨HCW.out, hF.out.pb4.1.1⟩
        refine Takes.intro [0,1,2,3,4,5,6,7,8,9,10] ?_
        repeat (first | (refine Takes.step (v := ?_) (by kernel_rfl) rfl (fun _ _ _ h => h) rfl hS0 (fun w hSw => by (try dsimp only at hSw); go_simp; try with_reducible rfl) ?_; try simp only [List.getElem_toArray, List.getElem_cons_zero, List.getElem_cons_succ, Act.put, List.setIfInBounds_toArray, List.set_cons_zero, List.set_cons_succ]) | (refine Takes.stepG (v := ?_) (by kernel_rfl) rfl (fun _ _ _ h => h) rfl hS0 (fun w hSw => by (try dsimp only at hSw); go_simp; try with_reducible rfl) ?_; try simp only [List.getElem_toArray, List.getElem_cons_zero, List.getElem_cons_succ, Act.put, List.setIfInBounds_toArray, List.set_cons_zero, List.set_cons_succ]) | (refine Takes.skip (by kernel_rfl) rfl (fun _ _ _ h => h) rfl hS0 ?_; try simp only [List.getElem_toArray, List.getElem_cons_zero, List.getElem_cons_succ, Act.put, List.setIfInBounds_toArray, List.set_cons_zero, List.set_cons_succ]))
        refine Takes.nil ?_
        refine wpAnyS_two (i := 11) (j := 12) (di := 31) (dj := 10) (TwoB S w wr.drew pb n blueQ k r v es b ws (some ⟨bW, oW, none⟩) T Bk j cb u7 x) (by kernel_rfl) rfl rfl (by decide) (by decide) rfl rfl (fun K hK => ?_) (fun K hK => ?_) ?_
        · try simp only [List.getElem_toArray, List.getElem_cons_zero, List.getElem_cons_succ, Act.put, List.setIfInBounds_toArray, List.set_cons_zero, List.set_cons_succ] at hK
          go_simp
          refine Eq.mp (congrArg (fun v => Calls Tryz.prog 94 #[.pointer (some ⟨pb, 0, none⟩), .int .i64 x, v] wr.drew _) (congrArg Value.bool HBB.out.symm : Value.bool b = _)) ?_
          refine (HBC.out (trS S w Bk j cb u7) wr.drew pb v' es' HFD.out.be HFD.out.ask.1 HFD.out.ask.2.1 HFD.out.ask.2.2).mono ?_
          intro z w1 hbp
          obtain ⟨B3, c3, rfl, hR, -, ho⟩ := twoB_a HFD.out HX.out.2 hbp
          have hT1 := HSO.out _ _ hS0 ho
          refine hK.out _ _ hT1 (fun K2 hK2 => ?_)
          clear hK K
          try simp only [List.getElem_toArray, List.getElem_cons_zero, List.getElem_cons_succ, Act.put, List.setIfInBounds_toArray, List.set_cons_zero, List.set_cons_succ] at hK2 ⊢
          go_simp
          have hT2 : (w1.alloc (.cells #[.int .i64 0, .bool false, .int .i64 0, .int .i64 0, .int .i64 0, .slice none 0 0, .int .i64 0] 157)).cell? ⟨bW, oW + j, none⟩ = some (.int .i64 x) ∧ (w1.alloc (.cells #[.int .i64 0, .bool false, .int .i64 0, .int .i64 0, .int .i64 0, .slice none 0 0, .int .i64 0] 157)).cell? ⟨w.heap.size, 0, none⟩ = some (.int .i64 k) := ⟨keep_cell ((Below.refl _ w1).alloc (Nat.le_refl _) _) hT1.1, keep_cell ((Below.refl _ w1).alloc (Nat.le_refl _) _) hT1.2⟩
          exact hK2.out _ _ hT2 hR
        · try simp only [List.getElem_toArray, List.getElem_cons_zero, List.getElem_cons_succ, Act.put, List.setIfInBounds_toArray, List.set_cons_zero, List.set_cons_succ] at hK
          go_simp
          have hB0 : TB (fun i => S i ∨ i = wr.drew.heap.size) w ((wr.alloc (.cells #[.int .i64 0, .bool false, .int .i64 0, .int .i64 0, .int .i64 0, .slice none 0 0, .int .i64 0] 157)).drew) pb n blueQ k r v es b ws (some ⟨bW, oW, none⟩) T Bk j cb u7 v' es' := twoB_b0 HFD.out
          have hT1 : ((wr.alloc (.cells #[.int .i64 0, .bool false, .int .i64 0, .int .i64 0, .int .i64 0, .slice none 0 0, .int .i64 0] 157)).drew).cell? ⟨bW, oW + j, none⟩ = some (.int .i64 x) ∧ ((wr.alloc (.cells #[.int .i64 0, .bool false, .int .i64 0, .int .i64 0, .int .i64 0, .slice none 0 0, .int .i64 0] 157)).drew).cell? ⟨w.heap.size, 0, none⟩ = some (.int .i64 k) := ⟨keep_cell ((Below.refl _ wr).alloc (Nat.le_refl _) _).drew hS0.1, keep_cell ((Below.refl _ wr).alloc (Nat.le_refl _) _).drew hS0.2⟩
          refine hK.out _ _ hT1 (fun K2 hK2 => ?_)
          clear hK K
          try simp only [List.getElem_toArray, List.getElem_cons_zero, List.getElem_cons_succ, Act.put, List.setIfInBounds_toArray, List.set_cons_zero, List.set_cons_succ] at hK2 ⊢
          go_simp
          refine Eq.mp (congrArg (fun v => Calls Tryz.prog 94 #[.pointer (some ⟨pb, 0, none⟩), .int .i64 x, v] ((wr.alloc (.cells #[.int .i64 0, .bool false, .int .i64 0, .int .i64 0, .int .i64 0, .slice none 0 0, .int .i64 0] 157)).drew) _) (congrArg Value.bool HBB.out.symm : Value.bool b = _)) ?_
          refine (HBC.out (trS (fun i => S i ∨ i = wr.drew.heap.size) w Bk j cb u7) _ pb v' es' hB0.be hB0.ask.1 hB0.ask.2.1 hB0.ask.2.2).mono ?_
          intro z w1 hbp
          obtain ⟨B3, c3, rfl, hR, ho⟩ := twoB_b HFD.out HX.out.2 hbp
          have hT2 := HSO.out _ _ hT1 ho
          exact hK2.out _ _ hT2 hR
        rintro vi vj w2 hS1 ⟨B3, c3, q9, v2, es2, rfl, rfl, hTB, hkz, hz, hq1, hq2⟩
        try simp only [List.getElem_toArray, List.getElem_cons_zero, List.getElem_cons_succ, Act.put, List.setIfInBounds_toArray, List.set_cons_zero, List.set_cons_succ]
        refine wpAnyS_end 1 13 (by kernel_rfl) (by decide) rfl ?_
        simp only [List.toList_toArray, List.drop_succ_cons, List.drop_zero]
        obtain ⟨yy, hyy⟩ : ∃ yy, bestV x b = yy := ⟨_, rfl⟩
        have HYY : Hid (bestV (ws.getD j 0).toNat b = yy) := Lib.hid (by rw [HX.out.1, ← hyy]; rfl)
        rw [hyy] at hkz ⊢
        have z0 := hz.1 0 _ rfl
        have z1 := hz.1 1 _ rfl
        have z2 := hz.1 2 _ rfl
        have z3 := hz.1 3 _ rfl
        have z4 := hz.1 4 _ rfl
        have z5 := hz.1 5 _ rfl
        have z6 := hz.1 6 _ rfl
        have f0 := hz.2 0 (by omega)
        have f1 := hz.2 1 (by omega)
        have f2 := hz.2 2 (by omega)
        have f3 := hz.2 3 (by omega)
        have f4 := hz.2 4 (by omega)
        have f5 := hz.2 5 (by omega)
        have f6 := hz.2 6 (by omega)
        have hen := EnBox.put z0 z1 z2 z3 z4 z5 z6 x b yy B3 c3
        have hoe := only_putEn w2 q9 x b yy B3 c3
        have hzu : OnlyZ (fun i => i = q9) w2 (putEn w2 q9 x b yy B3 c3) := OnlyZ.of_only hoe rfl
        have hszT := HFD.out.sz
        have hq1' : wr.heap.size ≤ q9 := hq1
        have htb3 : TB S w (putEn w2 q9 x b yy B3 c3) pb n blueQ k r v es b ws (some ⟨bW, oW, none⟩) T Bk j cb u7 v2 es2 := hTB.drop hzu (fun i e => ⟨.inr e, by have : T ≤ wr.heap.size := hszT.2; omega, fun e2 => by have := (HFD.out.cost.lt i e2).2; have : i < wr.heap.size := this; omega, fun e2 => by have := (HFD.out.row.lt i e2).2; have : i < wr.heap.size := this; omega⟩) (fun i e => .inl e)
        have hkz3 : KZ (bkS (trS S w Bk j cb u7) pb v2) (putEn w2 q9 x b yy B3 c3) B3 yy.q := hkz.move hzu.size (fun i hi hn => hzu.block i hi fun e => hn (.inl (.inl (.inr e)))) fun i hi e => by
          rcases e with e | e
          · rcases e with e | e
            · exact .inl (.inl (.inl e))
            · exact .inl (.inr e)
          · exact .inr e
        obtain ⟨W3, hW3⟩ : ∃ W3, putEn w2 q9 x b yy B3 c3 = W3 := ⟨_, rfl⟩
        rw [hW3] at hen htb3 hkz3
        unfold putEn at hW3
        have HEN := Lib.hid hen
        have HTB3 := Lib.hid htb3
        have HKZ3 := Lib.hid hkz3
        have HW3 := Lib.hid hW3
        have HQ9 : Hid (wr.heap.size ≤ q9 ∧ T ≤ wr.heap.size ∧ (∀ i, u7.ownBlock = some i → i < wr.heap.size) ∧ ∀ i, (Value.slice Bk j cb).ownBlock = some i → i < wr.heap.size) := Lib.hid ⟨hq1', hszT.2, fun i e => (HFD.out.cost.lt i e).2, fun i e => (HFD.out.row.lt i e).2⟩
        clear hen hoe hzu hszT hq1' htb3 hkz3 hW3 hyy hTB hkz hz hq1 hq2 hS1 hS0 HFD HSO HCW hF HBC
        go_upto_region 7 with fail
        rw [HW3.out]
        clear z0 z1 z2 z3 z4 z5 z6 f0 f1 f2 f3 f4 f5 f6 HW3
        obtain ⟨xs, ho1, hxr⟩ := HTB3.out.row
        have hkl : (kidsB bestV b (ws.take j)).len = j := by rw [kidsB_len, List.length_take]; omega
        rw [hkl] at ho1
        have HKL := Lib.hid hkl
        have HXR := Lib.hid hxr
        have HO1 := Lib.hid ho1
        have ho2 := HTB3.out.cost
        have hcl : (costsB bestV b (ws.take j)).length = j := by unfold costsB; rw [List.length_map, List.length_take]; omega
        unfold OwnI at ho2
        rw [hcl] at ho2
        have HO2 := Lib.hid ho2
        have HCL := Lib.hid hcl
        have hi40 : j + 1 ≤ 1099511627776 := by omega
        have hs4 : T ≤ W3.heap.size + 1 := by have := HTB3.out.sz; omega
        have HOL := Lib.hid HTB3.out.row.lt
        have bs := bs_rplan
        obtain ⟨e0, e1, e2, e3, e4, e5, e6⟩ := HEN.out
        obtain ⟨p0, p1, p2, p3⟩ := HTB3.out.pb4.1
        clear hkl ho1 hxr ho2 hcl
        go_upto_region 8 with (at_builtin; go_loud (refine wpList_appL rfl _ _ 28 30 rfl 4 48 (.agg #[.int .i64 0, .int .i64 0, .int .i64 0, .slice none 0 0]) Tryz.underlying28 info_rplan rfl (by omega) (by omega) T (.slice Bk j cb) j xs rfl (World.ownsRow.alloc HO1.out _) _ _ [.int .i64 yy.k, .int .i64 yy.n, .int .i64 yy.r, .slice B3 yy.q.len c3] rfl rfl (cells_four _ _ _ _ _ _ _ rfl) (one_four _ _ _ _ _ _) hi40 (by simpa using hs4) ?_); intro g2 cap2 w5 hA2 hG2 hL2; have hb4 : Below W3.heap.size W3 (W3.alloc (.cells #[.int .i64 yy.k, .int .i64 yy.n, .int .i64 yy.r, .slice B3 yy.q.len c3] 30)) := (Below.refl _ W3).alloc (Nat.le_refl _) _; obtain ⟨d0, d1, d2, d3⟩ := ((HTB3.out.pb4.1.below hb4).grown hG2.out (fun e => by have := (HOL.out _ e).1; have := HTB3.out.sz; omega)); have hf5 := ((HTB3.out.pb4.2.keep hb4 (cell_lt HTB3.out.pb4.1.1)).grown hG2.out (by have := cell_lt HTB3.out.pb4.1.1; simp; omega) (fun e => by have := (HOL.out _ e).1; have := HTB3.out.sz; omega)) 3 (by omega); clear p0 p1 p2 p3 hb4)
        have hb5 : Below W3.heap.size W3 (W3.alloc (.cells #[.int .i64 yy.k, .int .i64 yy.n, .int .i64 yy.r, .slice B3 yy.q.len c3] 30)) := (Below.refl _ W3).alloc (Nat.le_refl _) _
        have hs5 : (W3.alloc (.cells #[.int .i64 yy.k, .int .i64 yy.n, .int .i64 yy.r, .slice B3 yy.q.len c3] 30)).heap.size = W3.heap.size + 1 := by simp
        generalize W3.alloc (.cells #[.int .i64 yy.k, .int .i64 yy.n, .int .i64 yy.r, .slice B3 yy.q.len c3] 30) = W5 at hG2 hL2 hb5 hs5
        have hgs := hG2.out.size
        have hsT := HTB3.out.sz
        have hown : ∀ i, (Value.slice Bk j cb).ownBlock = some i → T ≤ i ∧ i < wr.heap.size := fun i e => ⟨(HOL.out i e).1, HQ9.out.2.2.2 i e⟩
        have hq9l : q9 < W3.heap.size := cell_lt HEN.out.1
        obtain ⟨W6, hW6⟩ : ∃ W6, W6 = w5.setCell ⟨w.heap.size, 3, none⟩ (.slice (some ⟨g2, 0, none⟩) (j + 1) cap2) := ⟨_, rfl⟩
        have hs6 : W6.heap.size = w5.heap.size := by rw [hW6]; simp [World.setCell]
        have hbl6 : ∀ i, i < W3.heap.size → i ≠ w.heap.size → (Value.slice Bk j cb).ownBlock ≠ some i → W6.heap[i]? = W3.heap[i]? := fun i hi h1 h2 => by
          rw [hW6]
          exact (heap_set _ h1).trans ((hG2.out.block i (by omega) (Ne.symm h2)).trans (hb5.block i hi))
        have hen6 := HEN.out.same (hbl6 q9 hq9l (by have := HQ9.out; omega) (fun e => by have := (hown q9 e).2; have := HQ9.out.1; omega))
        have hp6 : PlBox W6 w.heap.size k n r (some ⟨g2, 0, none⟩) (j + 1) cap2 ∧ PlFree W6 w.heap.size := by
          rw [hW6]
          refine ⟨PlBox.kid (A := Bk) (l := j) (c := cb) ⟨d0, d1, d2, d3⟩ _ _ _, fun i hi => ?_⟩
          rw [World.frozen?_setCell]
          refine (World.frozen?_of_block (w := W3) (a := ⟨w.heap.size, i, none⟩) ((hG2.out.block w.heap.size (by omega) (fun e => by have := (hown _ e.symm).1; omega)).trans (hb5.block w.heap.size (by omega)))).trans (HTB3.out.pb4.2 i hi)
        have ho6 : OnlyZ (fun i => i = w.heap.size ∨ (Value.slice Bk j cb).ownBlock = some i) W3 W6 := ⟨by rw [hW6]; exact hG2.out.os.trans hb5.os, by rw [hW6]; exact hG2.out.tape.trans hb5.tape, by rw [hW6]; exact hG2.out.output.trans hb5.output, by omega, fun i hi hn => hbl6 i hi (fun e => hn (.inl e)) (fun e => hn (.inr e))⟩
        have hro6 : W6.ownsRow T 30 4 (.slice (some ⟨g2, 0, none⟩) (j + 1) cap2) (j + 1) (xs ++ [.int .i64 yy.k, .int .i64 yy.n, .int .i64 yy.r, .slice B3 yy.q.len c3]) := by
          rw [hW6]
          exact owns_same hA2.out fun i e => heap_set _ (by
            have e : some g2 = some i := e
            injection e with e
            have := (World.ownsRow.lt hA2.out g2 rfl).1
            omega)
        have HCL2 : Hid (∀ i, u7.ownBlock = some i → T ≤ i ∧ i < W3.heap.size ∧ (Value.slice Bk j cb).ownBlock ≠ some i) := Lib.hid (fun i e => ⟨(HTB3.out.cost.lt i e).1, (HTB3.out.cost.lt i e).2, fun e2 => HTB3.out.ap i e2 e⟩)
        have HO6 : Hid (W6.ownsRow T 2 1 u7 j ((costsB bestV b (ws.take j)).map fun x => .int .i64 x)) := Lib.hid (owns_same HO2.out fun i e => hbl6 i (HCL2.out i e).2.1 (by have := (HCL2.out i e).1; omega) (HCL2.out i e).2.2)
        have HF2 : Hid (((Value.slice Bk j cb).ownBlock = some g2 ∨ W3.heap.size ≤ g2) ∧ T ≤ g2 ∧ g2 < W6.heap.size ∧ u7.ownBlock ≠ some g2) := Lib.hid ⟨hL2.out.imp id (fun e => by omega), (World.ownsRow.lt hA2.out g2 rfl).1, by rw [hs6]; exact (World.ownsRow.lt hA2.out g2 rfl).2, fun e => by
          rcases hL2.out with h | h
          · exact (HCL2.out g2 e).2.2 h
          · have := (HCL2.out g2 e).2.1; omega⟩
        have HO36 := Lib.hid ho6
        have HP6 := Lib.hid hp6
        have HRO6 := Lib.hid hro6
        have HSZ6 : Hid (W3.heap.size ≤ W6.heap.size ∧ w.heap.size + 2 ≤ T ∧ T ≤ W3.heap.size) := Lib.hid ⟨by omega, by omega, by omega⟩
        rw [← hW6]
        have hs48 : T ≤ W6.heap.size + 1 := by omega
        have bs1 := bs_i64'
        obtain ⟨e0, e1, e2, e3, e4, e5, e6⟩ := hen6
        clear hW6 hb5 hs5 hgs hsT hown hq9l hs6 hbl6 hp6 ho6 hro6 hA2 hG2 hL2 d0 d1 d2 d3 hf5 HOL HO1 HO2 bs hs4
        go_upto_region 5 with (at_builtin; go_loud (refine wpList_appL rfl _ _ 126 2 rfl 1 8 (.int .i64 0) Tryz.underlying126 info_int64 rfl (by omega) (by omega) T u7 j _ rfl (World.ownsRow.alloc HO6.out _) _ _ [.int .i64 yy.c] rfl rfl (fun i u hu => by rcases i with _ | i <;> simp at hu; subst hu; rw [World.cell?_alloc_new]; rfl) (fun u hu => by simp at hu; subst hu; rfl) hi40 (by simpa using hs48) ?_); intro g3 cap3 w8 hA3 hG3 hL3)
        have hb7 : Below W6.heap.size W6 (W6.alloc (.cells #[.int .i64 yy.c] 2)) := (Below.refl _ W6).alloc (Nat.le_refl _) _
        have hs7 : (W6.alloc (.cells #[.int .i64 yy.c] 2)).heap.size = W6.heap.size + 1 := by simp
        generalize W6.alloc (.cells #[.int .i64 yy.c] 2) = W7 at hG3 hL3 hb7 hs7
        have hsz6 := HSZ6.out
        have hgs := hG3.out.size
        have hbl8 : ∀ i, i < W6.heap.size → u7.ownBlock ≠ some i → w8.heap[i]? = W6.heap[i]? := fun i hi h1 => (hG3.out.block i (by omega) (Ne.symm h1)).trans (hb7.block i hi)
        have ho8 : OnlyZ (fun i => i = w.heap.size ∨ (Value.slice Bk j cb).ownBlock = some i ∨ u7.ownBlock = some i) W3 w8 :=
          (HO36.out.mono fun i _ e => e.elim .inl (fun e => .inr (.inl e))).trans' (T := fun i => u7.ownBlock = some i) ⟨hG3.out.os.trans hb7.os, hG3.out.tape.trans hb7.tape, hG3.out.output.trans hb7.output, by omega, fun i hi hn => hbl8 i hi hn⟩ (fun i _ e => .inr (.inr e))
        have h0b : w8.heap[w.heap.size]? = W6.heap[w.heap.size]? := hbl8 _ (by omega) (fun e => by have := (HCL2.out _ e).1; omega)
        have hp8 : PlBox w8 w.heap.size k n r (some ⟨g2, 0, none⟩) (j + 1) cap2 ∧ PlFree w8 w.heap.size := ⟨HP6.out.1.same h0b, HP6.out.2.same h0b⟩
        have h28 : w8.ownsRow T 30 4 (.slice (some ⟨g2, 0, none⟩) (j + 1) cap2) (j + 1) (xs ++ [.int .i64 yy.k, .int .i64 yy.n, .int .i64 yy.r, .slice B3 yy.q.len c3]) := owns_same HRO6.out fun i e => by
          have e : some g2 = some i := e
          injection e with e
          rw [← e]
          exact hbl8 g2 HF2.out.2.2.1 HF2.out.2.2.2
        have h38 : OwnI w8 T (.slice (some ⟨g3, 0, none⟩) (j + 1) cap3) (costsB bestV b (ws.take j) ++ [yy.c]) := by
          unfold OwnI
          rw [List.length_append, HCL.out, List.map_append]
          exact hA3.out
        have hne : g2 ≠ g3 := fun e => by
          rcases hL3.out with h | h
          · exact HF2.out.2.2.2 (by rw [e]; exact h)
          · have := HF2.out.2.2.1; omega
        have HMORE := Lib.hid (HTB3.out.more hjl HYY.out HXR.out HKL.out HKZ3.out ho8 hp8 h28 h38 hne HF2.out.1 (hL3.out.imp id (fun e => by omega)))
        clear hb7 hs7 hsz6 hgs hbl8 ho8 h0b hp8 h28 h38 hne hA3 hG3 hL3 e0 e1 e2 e3 e4 e5 e6 bs1 HTB3 HKZ3 HXR HCL HO36 HP6 HRO6 HO6 HF2 HCL2 HSZ6 HKL HEN HQ9
        go_wp2
        exact ⟨⟨j + 1, _, _, v2, es2, by omega, by go_num, Lib.hid (by have h := HMORE.out; rw [HBQ.out] at h; exact h)⟩, by simp [intOf]; omega⟩
    · obtain rfl : j = ws.length := by omega
      have htk : ws.take ws.length = ws := List.take_length
      obtain ⟨Ak, ck, hu, hik, -⟩ := hF.out.cost.form
      rw [htk] at hu hik
      subst hu
      have hks : (costsB bestV b ws).length = (wantsF k n r).length := by rw [HWF.out]; unfold costsB; rw [List.length_map]
      have HCST := Lib.hid (ROwn_cost n blue k r HCD.out.1 HCD.out.2 HN.out.1 HN.out.2 Bk ws.length cb (costsB bestV b ws) Ak ck wr hks hik HCO.out)
      obtain ⟨V, hV⟩ : ∃ V, costF k n r (costsB bestV b ws) = V := ⟨_, rfl⟩
      have HTY : Hid (tryB bestV n blue (k, r) = ⟨k, n, r, kidsB bestV b ws, V⟩) := Lib.hid (by
        unfold tryB
        rw [show (blue || (k, r).1 == 4) = b from HBB.out, show wantsF (k, r).1 n (k, r).2 = ws from HWF.out, show costF (k, r).1 n (k, r).2 (costsB bestV b ws) = V from hV])
      rw [hV] at HCST
      have hrf := hF.out.row.form
      rw [htk] at hrf
      obtain ⟨A2, c2, ha, hkz0⟩ := hrf
      injection ha with ha1 ha2 ha3
      subst ha1 ha3
      have HKL : Hid ((kidsB bestV b ws).len = ws.length) := Lib.hid (kidsB_len _ _ _)
      have hkz := hkz0 (fun i e => by
        have h1 := hF.out.row.lt i e
        have h2 := hF.out.sz
        rintro (h | h | h | h)
        · rcases h with h | h | h
          · have := HBE.out.2.2.1 i h; omega
          · have := hF.out.pl; omega
          · exact (hF.out.apv i h).2.2.2 e
        · omega
        · omega
        · exact hF.out.ap i e h)
      have HKZ : Hid (KZ (fun i => bkS S pb v' i ∨ i = w.heap.size + 1) wr Bk (kidsB bestV b ws)) := Lib.hid (hkz.mono fun i _ h => h.elim .inl (fun h => .inr (.inr (.inl h))))
      have HTB := Lib.hid hF.out
      obtain ⟨p0, p1, p2, p3⟩ := hF.out.pb4.1
      clear hik htk hV ha2 hkz0 hkz hks hF
      go_wp2_with fail
      refine HCST.out.mono ?_
      rintro z W10 ⟨rfl, hb10⟩
      have HTB3 := Lib.hid (HTB.out.new (S' := S) hb10 fun i e => ⟨.inl e, by have := HTB.out.sl i e; have := hb10.size; omega⟩)
      have HKZ3 := Lib.hid (HKZ.out.below hb10)
      have hpb3 := HTB3.out.pb4.1
      clear p0 p1 p2 p3 hb10 HTB HKZ HCST
      obtain ⟨p0, p1, p2, p3⟩ := hpb3
      have z0 := HTB3.out.rb.1 0 _ rfl
      have z1 := HTB3.out.rb.1 1 _ rfl
      have z2 := HTB3.out.rb.1 2 _ rfl
      have z3 := HTB3.out.rb.1 3 _ rfl
      have z4 := HTB3.out.rb.1 4 _ rfl
      have z5 := HTB3.out.rb.1 5 _ rfl
      have z6 := HTB3.out.rb.1 6 _ rfl
      have f0 := HTB3.out.rb.2 0 (by omega)
      have f1 := HTB3.out.rb.2 1 (by omega)
      have f2 := HTB3.out.rb.2 2 (by omega)
      have f3 := HTB3.out.rb.2 3 (by omega)
      have f4 := HTB3.out.rb.2 4 (by omega)
      have f5 := HTB3.out.rb.2 5 (by omega)
      have f6 := HTB3.out.rb.2 6 (by omega)
      have hen := EnBox.put z0 z1 z2 z3 z4 z5 z6 n blue ⟨k, n, r, kidsB bestV b ws, V⟩ Bk cb
      have hoe := only_putEn W10 (w.heap.size + 1) n blue ⟨k, n, r, kidsB bestV b ws, V⟩ Bk cb
      have hputE : putEn W10 (w.heap.size + 1) n blue ⟨k, n, r, kidsB bestV b ws, V⟩ Bk cb = ((((((W10.setCell ⟨w.heap.size + 1, 0, none⟩ (.int .i64 n)).setCell ⟨w.heap.size + 1, 1, none⟩ (.bool blue)).setCell ⟨w.heap.size + 1, 2, none⟩ (.int .i64 k)).setCell ⟨w.heap.size + 1, 3, none⟩ (.int .i64 n)).setCell ⟨w.heap.size + 1, 4, none⟩ (.int .i64 r)).setCell ⟨w.heap.size + 1, 5, none⟩ (.slice Bk ws.length cb)).setCell ⟨w.heap.size + 1, 6, none⟩ (.int .i64 V) := by
        unfold putEn
        show ((((((W10.setCell _ _).setCell _ _).setCell _ _).setCell _ _).setCell _ _).setCell _ (.slice Bk (kidsB bestV b ws).len cb)).setCell _ _ = _
        rw [HKL.out]
      have hzu : OnlyZ (fun i => i = w.heap.size + 1) W10 (putEn W10 (w.heap.size + 1) n blue ⟨k, n, r, kidsB bestV b ws, V⟩ Bk cb) := OnlyZ.of_only hoe rfl
      have HFIN : Hid (TryP S w pb n blue k r v es (.returned (.agg #[.int .i64 n, .bool blue, .int .i64 k, .int .i64 n, .int .i64 r, .slice Bk ws.length cb, .int .i64 V])) (putEn W10 (w.heap.size + 1) n blue ⟨k, n, r, kidsB bestV b ws, V⟩ Bk cb)) := Lib.hid (by
        have q1 := HTB3.out.pl
        have q2 := HTB3.out.sz
        refine ⟨Bk, cb, v', es', by rw [HTY.out, ← HKL.out], ?_, HTB3.out.be.only hzu (fun i hi e => ⟨.inr (.inr (.inl e)), by omega, fun e2 => (HTB3.out.apv i e2).2.1 e⟩) (fun i hi e => .inl (.inl e)), HTB3.out.es, HTB3.out.o.trans' hzu (fun i hi e => by omega), HTB3.out.vv⟩
        rw [HTY.out]
        exact HKZ3.out.move hzu.size (fun i hi hn => hzu.block i hi fun e => hn (.inr e)) fun i hi e => .inl e)
      rw [hputE] at HFIN hen
      have HEN := Lib.hid hen
      clear hen hoe hputE hzu
      go_wp2
      obtain ⟨s0, s1, s2, s3, s4, s5, s6⟩ := HEN.out
      have s5 := s5
      rw [show (⟨k, n, r, kidsB bestV b ws, V⟩ : Bst).q.len = ws.length from HKL.out] at s5
      refine bodyPost_ret (v := .agg #[.int .i64 n, .bool blue, .int .i64 k, .int .i64 n, .int .i64 r, .slice Bk ws.length cb, .int .i64 V]) (by simp [results, Tryz.results140, go_sem, s0, s1, s2, s3, s4, s5, s6]) rfl HFIN.out
end Go.Proofs.YtmgfaeineklccaaGreat
/- The document's search: Best. -/
set_option linter.unusedSimpArgs false
set_option linter.unusedVariables false
namespace Go.Proofs.YtmgfaeineklccaaGreat
open Go.RowKit Go.Lib

/-- The plans that may be, as a list of the call's own. -/
def LA (W1 wx : World) (n : Nat) (v : Value) (cs : List (Int × Int)) : Prop := wx.ownsRow W1.heap.size 30 4 v cs.length (candV n cs) ∧ Below W1.heap.size W1 wx
theorem LA.more {W1 wx w5 : World} {n : Nat} {v : Value} {cs ds : List (Int × Int)} {o : Obj} {g2 cap2 : Nat} (h : LA W1 wx n v cs) (hO : w5.ownsRow W1.heap.size 30 4 (.slice (some ⟨g2, 0, none⟩) (cs.length + ds.length) cap2) (cs.length + ds.length) (candV n cs ++ candV n ds)) (hG : (wx.alloc o).grownBy w5 v.ownBlock) :
    LA W1 w5 n (.slice (some ⟨g2, 0, none⟩) (cs.length + ds.length) cap2) (cs ++ ds) :=
  ⟨by rw [candV_app, List.length_append]; exact hO, h.2.trans (grown_below hG (fun k e => (World.ownsRow.lt h.1 k e).1) h.2.size)⟩
theorem LA.form {W1 wx : World} {n : Nat} {v : Value} {cs : List (Int × Int)} (h : LA W1 wx n v cs) : ∃ A c, v = .slice A cs.length c := by
  rcases h.1.2 with ⟨rfl, hl⟩ | ⟨g, cap, cur, rfl, -⟩
  · exact ⟨none, 0, by rw [hl]⟩
  · exact ⟨_, _, rfl⟩
theorem rplan_row {base n : Nat} {w : World} {g cap : Nat} {cs : List (Int × Int)} (h : w.ownsRow base 30 4 (.slice (some ⟨g, 0, none⟩) cs.length cap) cs.length (candV n cs)) : GRow w g cs.length n (fun i => cs.getD i (0, 0)) :=
  ⟨fun i hi j hj => by
    rw [World.ownsRow.cellAt h (i * 4 + j) (by omega), List.getD_eq_getElem?_getD, List.getElem?_eq_getElem hi]
    exact candV_at n cs i _ (List.getElem?_eq_getElem hi) j hj⟩

section
variable {S : Nat → Prop} {W W' : World} {pb : Nat} {v : Value} {es : List EN}
/-- A new entry. -/
theorem BE.put {n : Nat} {blue : Bool} {B : Option Addr} {c g cap : Nat} (h : BE S W pb v es) (h1 : 1 ≤ n) (hn : n ≤ 32768) (hk : KZ (bkS S pb v) W B (bestV n blue).q) (hno : ∀ e ∈ es, ¬ (e.n = n ∧ e.blue = blue))
    (hO : W'.ownsRow 0 157 7 (.slice (some ⟨g, 0, none⟩) (es.length + 1) cap) (es.length + 1) (enL es ++ enL [⟨n, blue, B, c⟩])) (hG : OnlyZ (fun i => v.ownBlock = some i) W W') (hL : v.ownBlock = some g ∨ W.heap.size ≤ g) :
    BE S (W'.setCell ⟨pb, 0, none⟩ (.slice (some ⟨g, 0, none⟩) (es.length + 1) cap)) pb (.slice (some ⟨g, 0, none⟩) (es.length + 1) cap) (es ++ [⟨n, blue, B, c⟩]) ∧
      KZ (bkS S pb (.slice (some ⟨g, 0, none⟩) (es.length + 1) cap)) (W'.setCell ⟨pb, 0, none⟩ (.slice (some ⟨g, 0, none⟩) (es.length + 1) cap)) B (bestV n blue).q ∧ OnlyZ (fun i => i = pb ∨ v.ownBlock = some i) W (W'.setCell ⟨pb, 0, none⟩ (.slice (some ⟨g, 0, none⟩) (es.length + 1) cap)) := by
  have hpl := h.pl
  have hgp : g ≠ pb := fun e => by
    rcases hL with f | f
    · exact h.ne (by rw [f, e])
    · omega
  have hz : OnlyZ (fun i => i = pb ∨ v.ownBlock = some i) W (W'.setCell ⟨pb, 0, none⟩ (.slice (some ⟨g, 0, none⟩) (es.length + 1) cap)) := (hG.mono fun i _ e => .inr e).trans' (OnlyZ.of_only (S := fun i => i = pb) ((OnlyB.refl pb W').setCell 0 none _) rfl) (fun i _ e => .inl e)
  have hT : ∀ i, i < W.heap.size → bkS S pb (.slice (some ⟨g, 0, none⟩) (es.length + 1) cap) i → bkS S pb v i := fun i hi e => by
    rcases e with e | e | e
    · exact .inl e
    · exact .inr (.inl e)
    · have e : some g = some i := e
      injection e with e
      rcases hL with f | f
      · exact .inr (.inr (by rw [f, e]))
      · omega
  have hmv : ∀ D q, KZ (bkS S pb v) W D q → KZ (bkS S pb (.slice (some ⟨g, 0, none⟩) (es.length + 1) cap)) (W'.setCell ⟨pb, 0, none⟩ (.slice (some ⟨g, 0, none⟩) (es.length + 1) cap)) D q := fun D q hk => hk.move hz.size (fun i hi hn => hz.block i hi fun e => hn (by
    rcases e with e | e
    · exact .inr (.inl e)
    · exact .inr (.inr e))) hT
  refine ⟨⟨?_, ?_, ?_, ?_, ?_, ?_⟩, hmv _ _ hk, hz⟩
  · refine World.cell?_setCell_same _ _ _ (u := v) ?_
    exact cell_same h.c0 (hG.block pb hpl fun e => h.ne e)
  · rw [World.frozen?_setCell]
    exact (World.frozen?_of_block (w := W) (a := ⟨pb, 0, none⟩) (hG.block pb hpl fun e => h.ne e)).trans h.fr
  · rw [enL_app, List.length_append]
    exact owns_same hO fun i e => heap_set _ (by
      have e : some g = some i := e
      injection e with e
      omega)
  · intro e
    have e : some g = some pb := e
    injection e with e
    exact hgp e
  · intro e he
    rcases List.mem_append.1 he with he | he
    · obtain ⟨a, b, d⟩ := h.ent e he
      exact ⟨a, b, hmv _ _ d⟩
    · simp only [List.mem_cons, List.not_mem_nil, or_false] at he
      subst he
      exact ⟨h1, hn, hmv _ _ hk⟩
  · rw [List.map_append, List.nodup_append]
    refine ⟨h.nd, by simp, fun a ha b hb => ?_⟩
    rw [List.mem_map] at ha
    obtain ⟨e, he, rfl⟩ := ha
    simp only [List.map_cons, List.map_nil, List.mem_cons, List.not_mem_nil, or_false] at hb
    subst hb
    intro e2
    have b1 : e.blue.toNat ≤ 1 := by cases e.blue <;> simp
    have b2 : blue.toNat ≤ 1 := by cases blue <;> simp
    have e3 : e.n = n := by omega
    have e4 : e.blue.toNat = blue.toNat := by omega
    refine hno e he ⟨e3, ?_⟩
    revert e4
    cases e.blue <;> cases blue <;> simp
end
end Go.Proofs.YtmgfaeineklccaaGreat
/- The document's search: Best, what its rounds keep. -/
set_option linter.unusedSimpArgs false
set_option linter.unusedVariables false
namespace Go.Proofs.YtmgfaeineklccaaGreat
open Go.RowKit Go.Lib

theorem pow4_odd {n k e : Nat} (hn : n ≤ 32768) (h : n = k * 2 ^ e) (h1 : 1 < k) (ho : k % 2 = 1) : pow4 n = false := by
  cases hp : pow4 n
  · rfl
  · obtain ⟨j, -, hj⟩ := (pow4_iff n hn).1 hp
    rw [hj] at h
    exfalso
    rcases Nat.lt_or_ge e j with hlt | hge
    · obtain ⟨d, rfl⟩ : ∃ d, j = e + (d + 1) := ⟨j - e - 1, by omega⟩
      have h2 : k * 2 ^ e = 2 ^ (d + 1) * 2 ^ e := by rw [← h, Nat.pow_add, Nat.mul_comm]
      have h3 := Nat.eq_of_mul_eq_mul_right (Nat.two_pow_pos e) h2
      rw [h3, Nat.pow_succ] at ho
      omega
    · have h2 : 2 ^ j ≤ 2 ^ e := Nat.pow_le_pow_right (by decide) hge
      have h3 : 2 * 2 ^ e ≤ k * 2 ^ e := Nat.mul_le_mul_right _ h1
      have := Nat.two_pow_pos e
      omega
theorem pow4_two {n e : Nat} (hn : n ≤ 32768) (h4 : 4 ≤ n) (h : n = 1 * 2 ^ e) : pow4 n = true := by
  refine (pow4_iff n hn).2 ⟨e, ?_, by omega⟩
  rcases e with _ | _ | e
  · omega
  · omega
  · omega
/-- What the loop over the halves keeps. -/
def PW (n k : Nat) (p : Bool) : Prop := 1 ≤ k ∧ k ≤ n ∧ (p = true → 4 ≤ n ∧ ∃ e, n = k * 2 ^ e) ∧ (p = false → pow4 n = false)
theorem PW.start {n : Nat} (h1 : 1 ≤ n) : PW n n (decide (4 ≤ n)) :=
  ⟨h1, Nat.le_refl _, fun h => ⟨of_decide_eq_true h, 0, by omega⟩, fun h => pow4_small n (by have := of_decide_eq_false h; omega)⟩
theorem PW.odd {n k : Nat} {p : Bool} (h : PW n k p) (hn : n ≤ 32768) (h1 : 1 < k) (ho : k % 2 = 1) : PW n (k / 2) false := by
  refine ⟨by omega, by have := h.2.1; omega, fun h => (by cases h), fun _ => ?_⟩
  cases p
  · exact h.2.2.2 rfl
  · obtain ⟨-, e, he⟩ := h.2.2.1 rfl
    exact pow4_odd hn he h1 ho
theorem PW.even {n k : Nat} {p : Bool} (h : PW n k p) (h1 : 1 < k) (ho : k % 2 = 0) : PW n (k / 2) p := by
  refine ⟨by omega, by have := h.2.1; omega, fun hp => ?_, h.2.2.2⟩
  obtain ⟨h4, e, he⟩ := h.2.2.1 hp
  refine ⟨h4, e + 1, ?_⟩
  have h2 : k = k / 2 * 2 := by omega
  rw [Nat.pow_succ, he]
  conv => lhs; rw [h2]
  rw [Nat.mul_assoc, Nat.mul_comm 2]
theorem PW.fin {n k : Nat} {p : Bool} (h : PW n k p) (hn : n ≤ 32768) (h1 : ¬ 1 < k) : pow4 n = p := by
  have hk : k = 1 := by have := h.1; omega
  cases p
  · exact h.2.2.2 rfl
  · obtain ⟨h4, e, he⟩ := h.2.2.1 rfl
    rw [hk] at he
    exact pow4_two hn h4 he

theorem LA.some {W1 wx : World} {n : Nat} {v : Value} {cs : List (Int × Int)} (h : LA W1 wx n v cs) (h0 : 0 < cs.length) : ∃ g c, v = .slice (some ⟨g, 0, none⟩) cs.length c ∧ W1.heap.size ≤ g ∧ g < wx.heap.size ∧ GRow wx g cs.length n (fun i => cs.getD i (0, 0)) := by
  rcases h.1.2 with ⟨_, hl⟩ | ⟨g, cap, cur, hv, hb, hg, -⟩
  · omega
  · have h2 := h.1
    rw [hv] at h2
    exact ⟨g, cap, hv, hb, (Array.getElem?_eq_some_iff.1 hg).1, rplan_row h2⟩
theorem info_entry : (Tryz.prog.info? 157).map (fun i => (i.zero, i.size, i.bytes)) = some (some (.agg #[.int .i64 0, .bool false, .int .i64 0, .int .i64 0, .int .i64 0, .slice none 0 0, .int .i64 0]), 7, 72) := by kernel_rfl
theorem bs_entry (a b c d e f g : Value) (w : World) : (Instr.buildSlice 160 1 #[(0, .agg #[a, b, c, d, e, f, g])]).run Tryz.prog w = .ok (.slice (some ⟨w.heap.size, 0, none⟩) 1 1) (w.alloc (.cells #[a, b, c, d, e, f, g] 157)) := by
  obtain ⟨i0, hi, hz0, hz1, hz2⟩ := info_parts info_entry
  refine run_buildSlice w 160 157 1 _ #[a, b, c, d, e, f, g] i0 _ Tryz.underlying160 hi hz0 (by rw [hz1]; decide) (by rw [hz1]; decide) ?_
  rw [hz1]
  have hr : Array.range 7 = #[0, 1, 2, 3, 4, 5, 6] := by decide
  simp [Instr.fill, Value.cells, hr]
theorem cells_seven (w : World) (a b c d e f g : Value) (t : TypeId) (n : Nat) (hn : n = w.heap.size) (j : Nat) (u : Value) (h : [a, b, c, d, e, f, g][j]? = some u) : (w.alloc (.cells #[a, b, c, d, e, f, g] t)).cell? ⟨n, j, none⟩ = some u := by
  subst hn
  rw [World.cell?_alloc_new]
  simpa using h
theorem one_seven (n k m r x : Int) (bl : Bool) (A : Option Addr) (l c : Nat) (u : Value) (h : u ∈ [Value.int .i64 n, .bool bl, .int .i64 k, .int .i64 m, .int .i64 r, .slice A l c, .int .i64 x]) : u.oneCell' = true := by
  simp only [List.mem_cons, List.not_mem_nil, or_false] at h
  rcases h with rfl | rfl | rfl | rfl | rfl | rfl | rfl <;> rfl
theorem wp_appE {o : Oper} {a : Act} {w : World} {K : Act → World → Prop} {Q : Exit → Act → World → Prop} (s x : Operand) (t e : TypeId)
    (ho : o.op = .call { callee := .builtin .append, args := #[s, x], argTypes := #[t, t] }) (sz bytes : Nat) (z : Value) (hU : Tryz.prog.underlying t = some (.slice e))
    (hI : (Tryz.prog.info? e).map (fun i => (i.zero, i.size, i.bytes)) = some (some z, sz, bytes)) (hzs : z.cells.size = sz) (hsz : 0 < sz) (hby : bytes ≤ 128)
    (base : Nat) (v : Value) (k : Nat) (xs : List Value) (hs : a.eval s = v) (hown : w.ownsRow base e sz v k xs)
    (b c : Nat) (news : List Value) (hl : news.length = sz) (hx : a.eval x = .slice (some ⟨b, 0, none⟩) 1 c) (hn : ∀ j u, news[j]? = some u → w.cell? ⟨b, j, none⟩ = some u) (h1 : ∀ u ∈ news, u.oneCell' = true)
    (hk : k + 1 ≤ 1048576) (hbase : base ≤ w.heap.size)
    (h : ∀ g cap w', Hid (w'.ownsRow base e sz (.slice (some ⟨g, 0, none⟩) (k + 1) cap) (k + 1) (xs ++ news)) → Hid (w.grownBy w' v.ownBlock) → Hid (v.ownBlock = some g ∨ g = w.heap.size) → K (a.put o.dst (.slice (some ⟨g, 0, none⟩) (k + 1) cap)) w') : Oper.wp Tryz.prog o a w K Q := by
  obtain ⟨i0, hi, hz0, hz1, hz2⟩ := info_parts hI
  refine wp_append_lies w s x t ho base e i0 z sz bytes hU hi hz0 hz1 hz2 hzs hsz v k xs hs hown ⟨b, 0, none⟩ 1 c news hx (by omega) ?_ h1 (by omega) (by unfold maxLen; omega) ?_ hbase _ rfl ?_
  · intro j u hj
    have := hn j u hj
    rw [Addr.add]
    split
    · rename_i e; subst e; exact this
    · simpa using this
  · have : (k + 1) * bytes ≤ 1048576 * 128 := Nat.mul_le_mul hk hby
    omega
  · intro g cap w' h1 h2 h3 _
    exact h g cap w' (Lib.hid h1) (Lib.hid h2) (Lib.hid h3)
/-- The box of what is best so far. -/
def W27 (w : World) : World := w.alloc (.cells #[.int .i64 0, .bool false, .int .i64 0, .int .i64 0, .int .i64 0, .slice none 0 0, .int .i64 (-1)] 157)
theorem out_box (w : World) : EnBox (W27 w) w.heap.size 0 false noB none 0 ∧ Below w.heap.size w (W27 w) ∧ w.heap.size < (W27 w).heap.size ∧ ∀ i, i < 7 → (W27 w).frozen? ⟨w.heap.size, i, none⟩ = false := by
  refine ⟨?_, (Below.refl _ w).alloc (Nat.le_refl _) _, by unfold W27; simp, fun i _ => World.frozen?_alloc_new _ _ _ _⟩
  unfold W27
  refine ⟨?_, ?_, ?_, ?_, ?_, ?_, ?_⟩ <;> rw [World.cell?_alloc_new] <;> rfl

/-- What the loop over the plans keeps. -/
structure BL (S : Nat → Prop) (w : World) (pb n : Nat) (blue : Bool) (v0 : Value) (es0 : List EN) (L : List (Int × Int)) (g ob : Nat) (wr : World) (i nb : Nat) (bb : Bool) (B : Option Addr) (c : Nat) (v : Value) (es : List EN) : Prop where
  box : EnBox wr ob nb bb (pickB (tryB bestV n blue) (L.take i)) B c
  fr : ∀ j, j < 7 → wr.frozen? ⟨ob, j, none⟩ = false
  nm : 0 < i → nb = n ∧ bb = blue
  row : GRow wr g L.length n (fun i => L.getD i (0, 0))
  be : BE (fun k => S k ∨ k = w.heap.size ∨ k = ob) wr pb v es
  kz : KZ (bkS (fun k => S k ∨ k = w.heap.size ∨ k = ob) pb v) wr B (pickB (tryB bestV n blue) (L.take i)).q
  o : OnlyZ (fun k => k = pb ∨ v0.ownBlock = some k) w wr
  es : ∀ e ∈ es, e ∈ es0 ∨ deepB e.n e.blue < deepB n blue
  vv : v.ownBlock = v0.ownBlock ∨ ∀ g, v.ownBlock = some g → w.heap.size ≤ g
  res : ZeroE wr w.heap.size
  gl : w.heap.size < g ∧ g < wr.heap.size ∧ w.heap.size < ob ∧ ob < wr.heap.size ∧ g ≠ ob
  va : ∀ k, v.ownBlock = some k → k ≠ g ∧ k ≠ ob ∧ k ≠ w.heap.size
  sp : ¬ S pb
  sl : ∀ k, S k → k < w.heap.size
  sv : ∀ k, v.ownBlock = some k → ¬ S k
  pl : pb < w.heap.size
section
variable {S : Nat → Prop} {w wr W' : World} {pb n : Nat} {blue : Bool} {v0 : Value} {es0 : List EN} {L : List (Int × Int)} {g ob i nb : Nat} {bb : Bool} {B : Option Addr} {c : Nat} {v : Value} {es : List EN}
theorem BL.ask (h : BL S w pb n blue v0 es0 L g ob wr i nb bb B c v es) : ¬ (S pb ∨ pb = w.heap.size ∨ pb = ob) ∧ (∀ k, (S k ∨ k = w.heap.size ∨ k = ob) → k < wr.heap.size) ∧ ∀ k, v.ownBlock = some k → ¬ (S k ∨ k = w.heap.size ∨ k = ob) := by
  have h1 := h.pl
  have h2 := h.gl
  refine ⟨?_, ?_, fun k e => ?_⟩
  · rintro (e | e | e)
    · exact h.sp e
    · omega
    · omega
  · rintro k (e | e | e)
    · have := h.sl k e; omega
    · omega
    · omega
  · rintro (e2 | e2 | e2)
    · exact h.sv k e e2
    · exact (h.va k e).2.2 e2
    · exact (h.va k e).2.1 e2
/-- A try. -/
theorem BL.next {k r : Int} {z : Ending} (h : BL S w pb n blue v0 es0 L g ob wr i nb bb B c v es) (ht : TryP (fun k => S k ∨ k = w.heap.size ∨ k = ob) wr pb n blue k r v es z W') :
    ∃ (B' : Option Addr) (c' : Nat) (v' : Value) (es' : List EN), z = .returned (.agg #[.int .i64 n, .bool blue, .int .i64 k, .int .i64 n, .int .i64 r, .slice B' (tryB bestV n blue (k, r)).q.len c', .int .i64 (tryB bestV n blue (k, r)).c]) ∧
      BL S w pb n blue v0 es0 L g ob W' i nb bb B c v' es' ∧ KZ (bkS (fun k => S k ∨ k = w.heap.size ∨ k = ob) pb v') W' B' (tryB bestV n blue (k, r)).q := by
  obtain ⟨B', c', v', es', rfl, hk, hbe, hes, ho, hv⟩ := ht
  have h1 := h.pl
  have h2 := h.gl
  have hsz := ho.size
  have old : ∀ i, i < wr.heap.size → v'.ownBlock = some i → v.ownBlock = some i := fun i hi e => by
    rcases hv with f | f
    · rw [← f]; exact e
    · have := f i e; omega
  have hbl : ∀ i, i < wr.heap.size → i ≠ pb → v.ownBlock ≠ some i → W'.heap[i]? = wr.heap[i]? := fun i hi a c => ho.block i hi (by
    rintro (e | e)
    · exact a e
    · exact c e)
  have ng : v.ownBlock ≠ some g := fun e => (h.va _ e).1 rfl
  have nob : v.ownBlock ≠ some ob := fun e => (h.va _ e).2.1 rfl
  have nr : v.ownBlock ≠ some w.heap.size := fun e => (h.va _ e).2.2 rfl
  refine ⟨B', c', v', es', rfl, ⟨h.box.same (hbl _ (by omega) (by omega) nob), fun j hj => (World.frozen?_of_block (w := wr) (a := ⟨ob, j, none⟩) (hbl ob (by omega) (by omega) nob)).trans (h.fr j hj), h.nm, h.row.same (hbl _ (by omega) (by omega) ng), hbe, ?_, h.o.trans' ho ?_, fun e he => ?_, ?_, h.res.same (hbl _ (by omega) (by omega) nr), by omega, fun k e => ?_, h.sp, h.sl, fun k e => ?_, h1⟩, hk⟩
  · refine h.kz.move hsz (fun k hk hn => ho.block k hk fun e => hn (.inr e)) fun k hk e => ?_
    rcases e with e | e | e
    · exact .inl e
    · exact .inr (.inl e)
    · exact .inr (.inr (old k hk e))
  · rintro k hk (e | e)
    · exact .inl e
    · rcases h.vv with f | f
      · exact .inr (by rw [← f]; exact e)
      · have := f k e; omega
  · rcases hes e he with f | f
    · exact h.es e f
    · exact .inr f
  · rcases hv with f | f
    · rw [f]; exact h.vv
    · exact .inr fun k e => by have := f k e; have := h.o.size; omega
  · rcases hv with f | f
    · exact h.va k (by rw [← f]; exact e)
    · have := f k e
      exact ⟨by omega, by omega, by omega⟩
  · rcases hv with f | f
    · exact h.sv k (by rw [← f]; exact e)
    · intro e2
      have := f k e
      have := h.sl k e2
      omega
/-- Only what is new is written. -/
theorem BL.keep (h : BL S w pb n blue v0 es0 L g ob wr i nb bb B c v es) (ho : OnlyZ (fun _ => False) wr W') : BL S w pb n blue v0 es0 L g ob W' i nb bb B c v es := by
  have h1 := h.pl
  have h2 := h.gl
  have hsz := ho.size
  have hbl : ∀ i, i < wr.heap.size → W'.heap[i]? = wr.heap[i]? := fun i hi => ho.block i hi fun e => e
  exact ⟨h.box.same (hbl _ (by omega)), fun j hj => (World.frozen?_of_block (w := wr) (a := ⟨ob, j, none⟩) (hbl ob (by omega))).trans (h.fr j hj), h.nm, h.row.same (hbl _ (by omega)), h.be.only ho (fun _ _ f => f.elim) (fun i hi e => .inl e), h.kz.move hsz (fun k hk _ => hbl k hk) (fun _ _ e => e), h.o.trans' ho (fun _ _ f => f.elim), h.es, h.vv, h.res.same (hbl _ (by omega)), by omega, h.va, h.sp, h.sl, h.sv, h1⟩
theorem take_succ' {L : List (Int × Int)} {i : Nat} (hi : i < L.length) : L.take (i + 1) = L.take i ++ [L.getD i (0, 0)] := by
  rw [List.take_add_one, List.getD_eq_getElem?_getD, List.getElem?_eq_getElem hi]; rfl
/-- Not better. -/
theorem BL.no (h : BL S w pb n blue v0 es0 L g ob wr i nb bb B c v es) (hi : i < L.length) (h0 : ¬ (pickB (tryB bestV n blue) (L.take i)).c < 0) (h1 : ¬ (tryB bestV n blue (L.getD i (0, 0))).c < (pickB (tryB bestV n blue) (L.take i)).c) :
    BL S w pb n blue v0 es0 L g ob wr (i + 1) nb bb B c v es := by
  have e : pickB (tryB bestV n blue) (L.take (i + 1)) = pickB (tryB bestV n blue) (L.take i) := by
    rw [take_succ' hi, pickB_append]
    unfold Bst.or
    rw [if_neg (by rintro (f | f) <;> omega)]
  have hi0 : 0 < i := by
    rcases i with _ | i
    · exact absurd (show (pickB (tryB bestV n blue) (L.take 0)).c < 0 by show (-1 : Int) < 0; decide) h0
    · omega
  exact ⟨by rw [e]; exact h.box, h.fr, fun _ => h.nm hi0, h.row, h.be, by rw [e]; exact h.kz, h.o, h.es, h.vv, h.res, h.gl, h.va, h.sp, h.sl, h.sv, h.pl⟩
/-- Better. -/
theorem BL.yes {B' : Option Addr} {c' : Nat} (h : BL S w pb n blue v0 es0 L g ob wr i nb bb B c v es) (hi : i < L.length) (h0 : (pickB (tryB bestV n blue) (L.take i)).c < 0 ∨ (tryB bestV n blue (L.getD i (0, 0))).c < (pickB (tryB bestV n blue) (L.take i)).c)
    (hk : KZ (bkS (fun k => S k ∨ k = w.heap.size ∨ k = ob) pb v) wr B' (tryB bestV n blue (L.getD i (0, 0))).q) :
    BL S w pb n blue v0 es0 L g ob (putEn wr ob n blue (tryB bestV n blue (L.getD i (0, 0))) B' c') (i + 1) n blue B' c' v es := by
  have e : pickB (tryB bestV n blue) (L.take (i + 1)) = tryB bestV n blue (L.getD i (0, 0)) := by
    rw [take_succ' hi, pickB_append]
    unfold Bst.or
    rw [if_pos h0]
  have h1 := h.pl
  have h2 := h.gl
  have hoe := only_putEn wr ob n blue (tryB bestV n blue (L.getD i (0, 0))) B' c'
  have ho : OnlyZ (fun k => k = ob) wr (putEn wr ob n blue (tryB bestV n blue (L.getD i (0, 0))) B' c') := OnlyZ.of_only hoe rfl
  have hsz := ho.size
  obtain ⟨b0, b1, b2, b3, b4, b5, b6⟩ := h.box
  have hbl : ∀ k, k < wr.heap.size → k ≠ ob → (putEn wr ob n blue (tryB bestV n blue (L.getD i (0, 0))) B' c').heap[k]? = wr.heap[k]? := fun k hk hn => ho.block k hk hn
  refine ⟨by rw [e]; exact EnBox.put b0 b1 b2 b3 b4 b5 b6 n blue _ B' c', fun j hj => by unfold putEn; simp only [World.frozen?_setCell]; exact h.fr j hj, fun _ => ⟨rfl, rfl⟩, h.row.same (hbl _ (by omega) (by omega)), h.be.only ho (fun k hk u => ⟨.inr (.inr u), by omega, fun e2 => (h.va k e2).2.1 u⟩) (fun k hk e => .inl e), ?_, h.o.trans' ho (fun k hk u => by omega), h.es, h.vv, h.res.same (hbl _ (by omega) (by omega)), by omega, h.va, h.sp, h.sl, h.sv, h1⟩
  rw [e]
  exact hk.move hsz (fun k hk hn => hbl k hk fun u => hn (.inl (.inr (.inr u)))) fun _ _ e => e
theorem BL.start {W1 wc W3 : World} (hb : BE S w pb v0 es0) (hsp : ¬ S pb) (hsl : ∀ k, S k → k < w.heap.size) (hsv : ∀ k, v0.ownBlock = some k → ¬ S k) (h1 : Below w.heap.size w W1) (hs1 : W1.heap.size = w.heap.size + 1) (hz : ZeroE W1 w.heap.size) (h2 : Below W1.heap.size W1 wc) (h3 : Below wc.heap.size wc W3) (hl : wc.heap.size < W3.heap.size) (hbx : EnBox W3 wc.heap.size 0 false noB none 0)
    (hf : ∀ i, i < 7 → W3.frozen? ⟨wc.heap.size, i, none⟩ = false) (hg : GRow wc g L.length n (fun i => L.getD i (0, 0))) (hg1 : W1.heap.size ≤ g) (hg2 : g < wc.heap.size) : BL S w pb n blue v0 es0 L g wc.heap.size W3 0 0 false none 0 v0 es0 := by
  have a1 := h1.size
  have a2 := h2.size
  have a3 := h3.size
  have hbw : Below w.heap.size w W3 := (h1.trans (h2.mono (by omega))).trans (h3.mono (by omega))
  have hgl := hb.gl
  exact ⟨hbx, hf, fun h => by omega, hg.same (h3.block g hg2), hb.only (U := fun _ => False) (OnlyZ.of_below hbw fun k a b => by omega) (fun _ _ f => f.elim) (fun k hk e => by
    rcases e with e | e | e
    · exact .inl e
    · omega
    · omega), KZ.nil _ _ _, OnlyZ.of_below hbw fun k a b => by omega, fun e he => .inl he, .inl rfl, hz.same ((h3.block _ (by omega)).trans (h2.block _ (by omega))), ⟨by omega, by omega, by omega, by omega, by omega⟩, fun k e => by have := hgl k e; exact ⟨by omega, by omega, by omega⟩, hsp, hsl, hsv, hb.pl⟩
theorem new_box (w : World) (n : Nat) (blue : Bool) (x : Bst) (B : Option Addr) (c : Nat) : EnBox (w.alloc (.cells #[.int .i64 n, .bool blue, .int .i64 x.k, .int .i64 x.n, .int .i64 x.r, .slice B x.q.len c, .int .i64 x.c] 157)) w.heap.size n blue x B c ∧
    OnlyZ (fun _ => False) w (w.alloc (.cells #[.int .i64 n, .bool blue, .int .i64 x.k, .int .i64 x.n, .int .i64 x.r, .slice B x.q.len c, .int .i64 x.c] 157)) := by
  refine ⟨?_, OnlyZ.of_below ((Below.refl _ w).alloc (Nat.le_refl _) _) fun k a b => by omega⟩
  refine ⟨?_, ?_, ?_, ?_, ?_, ?_, ?_⟩ <;> rw [World.cell?_alloc_new] <;> rfl
/-- What is handed back in the end. -/
theorem BL.fin {g2 cap2 : Nat} {W5 : World} (h : BL S w pb n blue v0 es0 (candL n blue) g ob wr (candL n blue).length nb bb B c v es) (h1 : 1 ≤ n) (hn : n ≤ 32768) (hno : ∀ e ∈ es0, ¬ (e.n = n ∧ e.blue = blue))
    (hO : W5.ownsRow 0 157 7 (.slice (some ⟨g2, 0, none⟩) (es.length + 1) cap2) (es.length + 1) (enL es ++ enL [⟨n, blue, B, c⟩])) (hG : OnlyZ (fun i => v.ownBlock = some i) wr W5) (hL : v.ownBlock = some g2 ∨ wr.heap.size ≤ g2) :
    ∃ W6, W6 = W5.setCell ⟨pb, 0, none⟩ (.slice (some ⟨g2, 0, none⟩) (es.length + 1) cap2) ∧ EnBox W6 ob n blue (bestV n blue) B c ∧ ZeroE W6 w.heap.size ∧ w.heap.size ≠ ob ∧
      BestP S w pb n blue v0 es0 (.returned (.agg #[.int .i64 n, .bool blue, .int .i64 (bestV n blue).k, .int .i64 (bestV n blue).n, .int .i64 (bestV n blue).r, .slice B (bestV n blue).q.len c, .int .i64 (bestV n blue).c])) (putEn W6 w.heap.size n blue (bestV n blue) B c) := by
  have a1 := h.pl
  have a2 := h.gl
  have hl0 : 0 < (candL n blue).length := List.length_pos_iff.2 (candL_ne n blue h1)
  obtain ⟨hnb, hbb⟩ := h.nm hl0
  subst hnb hbb
  have hpk : pickB (tryB bestV nb bb) ((candL nb bb).take (candL nb bb).length) = bestV nb bb := by rw [List.take_length, ← bestV_eq nb bb h1 hn]
  have hbox := h.box
  have hkz := h.kz
  rw [hpk] at hbox hkz
  have hno2 : ∀ e ∈ es, ¬ (e.n = nb ∧ e.blue = bb) := fun e he => by
    rcases h.es e he with f | f
    · exact hno e f
    · rintro ⟨e1, e2⟩
      rw [e1, e2] at f
      omega
  obtain ⟨p1, p2, p3⟩ := h.be.put h1 hn hkz hno2 hO hG hL
  have hne : w.heap.size ≠ ob := by omega
  have n1 : v.ownBlock ≠ some ob := fun e => (h.va _ e).2.1 rfl
  have n2 : v.ownBlock ≠ some w.heap.size := fun e => (h.va _ e).2.2 rfl
  have b1 := hbox.same (p3.block ob (by omega) (by rintro (e | e); omega; exact n1 e))
  have b2 := h.res.same (p3.block w.heap.size (by omega) (by rintro (e | e); omega; exact n2 e))
  refine ⟨_, rfl, b1, b2, hne, B, c, .slice (some ⟨g2, 0, none⟩) (es.length + 1) cap2, es ++ [⟨nb, bb, B, c⟩], rfl, ?_, ?_, ?_, ?_, ?_⟩
  · refine p2.move (OnlyZ.of_only (S := fun k => k = w.heap.size) (only_putEn _ _ _ _ _ _ _) rfl).size (fun k hk hx => (OnlyZ.of_only (S := fun k => k = w.heap.size) (only_putEn _ _ _ _ _ _ _) rfl).block k hk fun u => hx (.inl (.inr (.inl u)))) fun k hk e => ?_
    rcases e with e | e
    · exact .inl (.inl e)
    · exact .inr e
  · refine p1.only (OnlyZ.of_only (S := fun k => k = w.heap.size) (only_putEn _ _ _ _ _ _ _) rfl) (fun k hk u => ⟨.inr (.inl u), by omega, fun e => ?_⟩) fun k hk e => .inl (.inl e)
    have e : some g2 = some k := e
    injection e with e
    rcases hL with f | f
    · exact n2 (by rw [f, e, u])
    · omega
  · intro e he
    rcases List.mem_append.1 he with he | he
    · rcases h.es e he with f | f
      · exact .inl f
      · exact .inr (Nat.le_of_lt f)
    · simp only [List.mem_cons, List.not_mem_nil, or_false] at he
      subst he
      exact .inr (Nat.le_refl _)
  · refine (h.o.trans' p3 ?_).trans' (OnlyZ.of_only (S := fun k => k = w.heap.size) (only_putEn _ _ _ _ _ _ _) rfl) (fun k hk u => by omega)
    rintro k hk (e | e)
    · exact .inl e
    · rcases h.vv with f | f
      · exact .inr (by rw [← f]; exact e)
      · have := f k e; omega
  · rcases hL with f | f
    · rcases h.vv with d | d
      · exact .inl (by rw [← d, f]; rfl)
      · exact .inr fun k e => by
          have e : some g2 = some k := e
          injection e with e
          rw [← e]
          exact d g2 f
    · exact .inr fun k e => by
        have e : some g2 = some k := e
        injection e with e
        have := h.o.size
        omega
theorem BL.grown {W5 : World} {o : Obj} (h : BL S w pb n blue v0 es0 L g ob wr i nb bb B c v es) (hG : (wr.drew.alloc o).grownBy W5 v.ownBlock) : W5.cell? ⟨pb, 0, none⟩ = some v ∧ W5.frozen? ⟨pb, 0, none⟩ = false ∧ OnlyZ (fun i => v.ownBlock = some i) wr W5 := by
  have hb : Below wr.heap.size wr (wr.drew.alloc o) := ((Below.refl _ wr).drew).alloc (Nat.le_refl _) _
  have hz : OnlyZ (fun i => v.ownBlock = some i) wr W5 := (OnlyZ.of_below hb fun k a b => by omega).trans (OnlyZ.of_grown hG fun k e => e)
  have hp := hz.block pb h.be.pl h.be.ne
  exact ⟨cell_same h.be.c0 hp, (World.frozen?_of_block (w := wr) (a := ⟨pb, 0, none⟩) hp).trans h.be.fr, hz⟩
theorem BL.last (h : BL S w pb n blue v0 es0 (candL n blue) g ob wr (candL n blue).length nb bb B c v es) (h1 : 1 ≤ n) (hn : n ≤ 32768) : nb = n ∧ bb = blue ∧ EnBox wr ob nb bb (bestV n blue) B c := by
  have hl0 : 0 < (candL n blue).length := List.length_pos_iff.2 (candL_ne n blue h1)
  have hbox := h.box
  rw [List.take_length, ← bestV_eq n blue h1 hn] at hbox
  exact ⟨(h.nm hl0).1, (h.nm hl0).2, hbox⟩
theorem BL.done {g2 cap2 : Nat} {W5 : World} {o : Obj} (h : BL S w pb n blue v0 es0 (candL n blue) g ob wr (candL n blue).length nb bb B c v es) (h1 : 1 ≤ n) (hn : n ≤ 32768) (hno : ∀ e ∈ es0, ¬ (e.n = n ∧ e.blue = blue))
    (hO : W5.ownsRow 0 157 7 (.slice (some ⟨g2, 0, none⟩) (es.length + 1) cap2) (es.length + 1) (enL es ++ [.int .i64 n, .bool blue, .int .i64 (bestV n blue).k, .int .i64 (bestV n blue).n, .int .i64 (bestV n blue).r, .slice B (bestV n blue).q.len c, .int .i64 (bestV n blue).c])) (hG : (wr.drew.alloc o).grownBy W5 v.ownBlock) (hL : v.ownBlock = some g2 ∨ g2 = (wr.drew.alloc o).heap.size) :
    ∃ W6, W6 = W5.setCell ⟨pb, 0, none⟩ (.slice (some ⟨g2, 0, none⟩) (es.length + 1) cap2) ∧ EnBox W6 ob n blue (bestV n blue) B c ∧ ZeroE W6 w.heap.size ∧ w.heap.size ≠ ob ∧
      BestP S w pb n blue v0 es0 (.returned (.agg #[.int .i64 n, .bool blue, .int .i64 (bestV n blue).k, .int .i64 (bestV n blue).n, .int .i64 (bestV n blue).r, .slice B (bestV n blue).q.len c, .int .i64 (bestV n blue).c])) (putEn W6 w.heap.size n blue (bestV n blue) B c) :=
  h.fin h1 hn hno hO (h.grown hG).2.2 (hL.imp id fun e => by
    have hb : Below wr.heap.size wr (wr.drew.alloc o) := ((Below.refl _ wr).drew).alloc (Nat.le_refl _) _
    have := hb.size
    omega)
end
end Go.Proofs.YtmgfaeineklccaaGreat
/- The document's search: Best, the walk. -/
set_option linter.unusedSimpArgs false
set_option linter.unusedVariables false
namespace Go.Proofs.YtmgfaeineklccaaGreat
open Go.RowKit Go.Lib

set_option maxRecDepth 100000 in
set_option maxHeartbeats 16000000 in
theorem best_step (n : Nat) (blue : Bool) (h1 : 1 ≤ n) (hn : n ≤ 32768) (ih : ∀ k r, Cand n blue k r → ∀ x ∈ wantsF k n r, ∃ m : Nat, x = m ∧ 1 ≤ m ∧ m ≤ 32768 ∧ deepB m (blue || k == 4) < deepB n blue ∧ BestC m (blue || k == 4)) : BestC n blue := by
  intro S w pb v es hb hsp hsl hsv
  have HN : Hid (1 ≤ n ∧ n ≤ 32768) := Lib.hid ⟨h1, hn⟩
  have HTR : Hid (∀ c ∈ candL n blue, ∀ (S : Nat → Prop) (w : World) (pb : Nat) (v : Value) (es : List EN), BE S w pb v es → ¬ S pb → (∀ k, S k → k < w.heap.size) → (∀ k, v.ownBlock = some k → ¬ S k) → Calls Tryz.prog 140 #[.pointer (some ⟨pb, 0, none⟩), plV c.1 n c.2 none 0 0, .bool blue] w (TryP S w pb n blue c.1 c.2 v es)) := Lib.hid (fun c hc S w pb v es => try_step n blue c.1 c.2 (candL_cand h1 hc) (cand_pow hc) h1 hn (ih c.1 c.2 (candL_cand h1 hc)) S w pb v es)
  obtain ⟨W1, hW1⟩ : ∃ W1, W1 = w.alloc (.cells #[.int .i64 0, .bool false, .int .i64 0, .int .i64 0, .int .i64 0, .slice none 0 0, .int .i64 0] 157) := ⟨_, rfl⟩
  have hb1 : Below w.heap.size w W1 := by rw [hW1]; exact (Below.refl _ w).alloc (Nat.le_refl _) _
  have hs1 : W1.heap.size = w.heap.size + 1 := by rw [hW1]; simp
  have hz1 : ZeroE W1 w.heap.size := by rw [hW1]; exact ZeroE.new w
  have HW1 := Lib.hid hW1
  have HB1 : Hid (Below w.heap.size w W1 ∧ W1.heap.size = w.heap.size + 1) := Lib.hid ⟨hb1, hs1⟩
  have HZ1 := Lib.hid hz1
  have HBE := Lib.hid (And.intro hb (And.intro hsp (And.intro hsl hsv)))
  have hzn : OnlyZ (fun _ => False) w W1 := OnlyZ.of_below hb1 fun k a b => by omega
  have HBE1 := Lib.hid (hb.only (T := S) hzn (fun _ _ f => f.elim) (fun i hi e => .inl e))
  have HEL := Lib.hid hb.len
  clear hW1 hb1 hs1 hz1 hb hsp hsl hsv hzn h1 hn ih
  go_enter Tryz.func94, Tryz.ntmps94
  go_wp2_with fail
  rw [← HW1.out]
  go_loopw [7] (fun v7 wr => ∃ i : Nat, i ≤ es.length ∧ v7 = .int .i64 i ∧ Hid (∀ t e, t < i → es[t]? = some e → ¬ (e.n = n ∧ e.blue = blue)) ∧ W1 = wr) (fun v7 _ => es.length - (intOf v7).toNat)
  case atStart => exact ⟨0, Nat.zero_le _, rfl, Lib.hid (fun t e h => by omega), rfl⟩
  case round =>
    obtain ⟨i, hi, rfl, hno, rfl⟩ := hrel
    have hc0 := HBE1.out.c0
    have hfm : ∃ A c, v = .slice A es.length c ∧ ((0 < es.length) → ∃ g, A = some ⟨g, 0, none⟩ ∧ ∀ j u, (enL es)[j]? = some u → W1.cell? ⟨g, j, none⟩ = some u) := by
      rcases HBE1.out.row.2 with ⟨h, h0⟩ | ⟨g, cap, cur, h, -⟩
      · exact ⟨none, 0, by rw [h, h0], fun h => by omega⟩
      · refine ⟨some ⟨g, 0, none⟩, cap, h, fun _ => ⟨g, rfl, fun j u hu => ?_⟩⟩
        have h' := HBE1.out.row
        rw [h] at h'
        have hl := (List.getElem?_eq_some_iff.1 hu).1
        rw [enL_len] at hl
        exact (World.ownsRow.cellAt h' j hl).trans hu
    obtain ⟨Av, cv, hv, hcell⟩ := hfm
    have HV := Lib.hid hv
    rw [hv] at hc0
    have hel := HEL.out
    by_cases hlt : i < es.length
    · have hlti : (i : Int) < (es.length : Int) := by omega
      obtain ⟨g, rfl, hcl2⟩ := hcell (by omega)
      have hes : es[i]? = some es[i] := List.getElem?_eq_getElem hlt
      have hat := enL_at es i _ hes
      have c0 : W1.cell? ⟨g, i * 7, none⟩ = some (.int .i64 (es[i]).n) := hcl2 _ _ (hat 0 (by omega))
      have c1 : W1.cell? ⟨g, i * 7 + 1, none⟩ = some (.bool (es[i]).blue) := hcl2 _ _ (hat 1 (by omega))
      have c2 : W1.cell? ⟨g, i * 7 + 2, none⟩ = some _ := hcl2 _ _ (hat 2 (by omega))
      have c3 : W1.cell? ⟨g, i * 7 + 3, none⟩ = some _ := hcl2 _ _ (hat 3 (by omega))
      have c4 : W1.cell? ⟨g, i * 7 + 4, none⟩ = some _ := hcl2 _ _ (hat 4 (by omega))
      have c5 : W1.cell? ⟨g, i * 7 + 5, none⟩ = some _ := hcl2 _ _ (hat 5 (by omega))
      have c6 : W1.cell? ⟨g, i * 7 + 6, none⟩ = some _ := hcl2 _ _ (hat 6 (by omega))
      have HEN := Lib.hid (HBE1.out.ent _ (List.getElem_mem hlt))
      have HES := Lib.hid hes
      obtain ⟨e, he⟩ : ∃ e, es[i] = e := ⟨_, rfl⟩
      rw [he] at c0 c1 c2 c3 c4 c5 c6 HEN HES
      clear hcell hcl2 hat hes he hv
      by_cases hq : e.n = n ∧ e.blue = blue
      · obtain ⟨rfl, rfl⟩ := hq
        have z0 := HZ1.out.1 0 _ rfl
        have z1 := HZ1.out.1 1 _ rfl
        have z2 := HZ1.out.1 2 _ rfl
        have z3 := HZ1.out.1 3 _ rfl
        have z4 := HZ1.out.1 4 _ rfl
        have z5 := HZ1.out.1 5 _ rfl
        have z6 := HZ1.out.1 6 _ rfl
        have f0 := HZ1.out.2 0 (by omega)
        have f1 := HZ1.out.2 1 (by omega)
        have f2 := HZ1.out.2 2 (by omega)
        have f3 := HZ1.out.2 3 (by omega)
        have f4 := HZ1.out.2 4 (by omega)
        have f5 := HZ1.out.2 5 (by omega)
        have f6 := HZ1.out.2 6 (by omega)
        have HQE := Lib.hid (EnBox.put z0 z1 z2 z3 z4 z5 z6 e.n e.blue (bestV e.n e.blue) e.B e.c)
        have HOE := Lib.hid (only_putEn W1 w.heap.size e.n e.blue (bestV e.n e.blue) e.B e.c)
        unfold putEn at HQE HOE
        clear hno HTR
        go_wp2
        obtain ⟨s0, s1, s2, s3, s4, s5, s6⟩ := HQE.out
        have hz : OnlyZ (fun _ => False) w (((((((W1.setCell ⟨w.heap.size, 0, none⟩ (.int .i64 e.n)).setCell ⟨w.heap.size, 1, none⟩ (.bool e.blue)).setCell ⟨w.heap.size, 2, none⟩ (.int .i64 (bestV e.n e.blue).k)).setCell ⟨w.heap.size, 3, none⟩ (.int .i64 (bestV e.n e.blue).n)).setCell ⟨w.heap.size, 4, none⟩ (.int .i64 (bestV e.n e.blue).r)).setCell ⟨w.heap.size, 5, none⟩ (.slice e.B (bestV e.n e.blue).q.len e.c)).setCell ⟨w.heap.size, 6, none⟩ (.int .i64 (bestV e.n e.blue).c)) := (OnlyZ.of_below HB1.out.1 fun k a b => by omega).trans' (OnlyZ.of_only (S := fun i => i = w.heap.size) HOE.out rfl) (fun i hi e => by omega)
        have hen := HBE.out.1.ent e (List.mem_of_getElem? HES.out)
        refine bodyPost_ret (v := .agg #[.int .i64 e.n, .bool e.blue, .int .i64 (bestV e.n e.blue).k, .int .i64 (bestV e.n e.blue).n, .int .i64 (bestV e.n e.blue).r, .slice e.B (bestV e.n e.blue).q.len e.c, .int .i64 (bestV e.n e.blue).c]) (by simp [results, Tryz.results94, go_sem, s0, s1, s2, s3, s4, s5, s6]) rfl
          (⟨e.B, e.c, v, es, rfl, hen.2.2.move hz.size (fun i hi _ => hz.block i hi fun f => f) (fun i hi e => e), HBE.out.1.only hz (fun _ _ f => f.elim) (fun i hi e => .inl e), fun e he => .inl he, hz.mono (fun _ _ f => f.elim), .inl rfl⟩ : BestP S w pb e.n e.blue v es _ _)
      · have HNX : Hid (∀ t e', t < i + 1 → es[t]? = some e' → ¬ (e'.n = n ∧ e'.blue = blue)) := Lib.hid (fun t e' ht he' => by
          rcases Nat.lt_or_ge t i with h | h
          · exact hno.out t e' h he'
          · have e1 : t = i := by omega
            rw [e1, HES.out] at he'
            injection he' with he'
            rw [← he']
            exact hq)
        clear hno
        by_cases hq1 : e.n = n
        · have hq2 : (e.blue == blue) = false := by rw [beq_eq_false_iff_ne]; exact fun h => hq ⟨hq1, h⟩
          have hq3 : ((e.n : Int) == (n : Int)) = true := by rw [beq_iff_eq]; omega
          clear hq
          go_wp2
          exact ⟨⟨i + 1, by omega, by go_num, HNX, trivial⟩, by simp [intOf]; omega⟩
        · have hq3 : ((e.n : Int) == (n : Int)) = false := by rw [beq_eq_false_iff_ne]; omega
          clear hq
          go_wp2
          exact ⟨⟨i + 1, by omega, by go_num, HNX, trivial⟩, by simp [intOf]; omega⟩
    · have hie : i = es.length := by omega
      have HNO : Hid (∀ e ∈ es, ¬ (e.n = n ∧ e.blue = blue)) := Lib.hid (fun e he => by
        obtain ⟨t, ht, rfl⟩ := List.getElem_of_mem he
        exact hno.out t _ (by omega) (List.getElem?_eq_getElem ht))
      have hle : ¬ (i : Int) < (es.length : Int) := by omega
      clear hno hcell hv
      go_upto_region 7 with fail
      clear hc0 hle hie hel HV
      obtain ⟨cs0, hcs0⟩ : ∃ cs0, cs0 = (if n ≤ 32 then [((0 : Int), (0 : Int))] else []) := ⟨_, rfl⟩
      obtain ⟨cs1, hcs1⟩ : ∃ cs1, cs1 = cs0 ++ radU n n := ⟨_, rfl⟩
      obtain ⟨cs2, hcs2⟩ : ∃ cs2, cs2 = cs1 ++ (if pow4 n = true then [((2 : Int), (0 : Int))] else []) := ⟨_, rfl⟩
      obtain ⟨cs3, hcs3⟩ : ∃ cs3, cs3 = cs2 ++ (if primeB n = true ∧ 3 ≤ n then [((3 : Int), (0 : Int))] else []) := ⟨_, rfl⟩
      have HC4 : Hid (candL n blue = cs3 ++ (if blue = false ∧ 2 ≤ n ∧ n ≤ 16384 then [((4 : Int), (0 : Int))] else [])) := Lib.hid (by rw [hcs3, hcs2, hcs1, hcs0]; rfl)
      have HLEN : Hid (cs0.length ≤ 1 ∧ cs1.length ≤ 32769 ∧ cs2.length ≤ 32770 ∧ cs3.length ≤ 32771) := Lib.hid (by
        have q0 : cs0.length ≤ 1 := by rw [hcs0]; split <;> simp
        have q1 : cs1.length ≤ 32769 := by rw [hcs1, List.length_append]; have := radU_len n n; have := HN.out; omega
        have q2 : cs2.length ≤ 32770 := by rw [hcs2, List.length_append]; split <;> simp <;> omega
        have q3 : cs3.length ≤ 32771 := by rw [hcs3, List.length_append]; split <;> simp <;> omega
        exact ⟨q0, q1, q2, q3⟩)
      have HC0 := Lib.hid hcs0
      have HC1 := Lib.hid hcs1
      have HC2 := Lib.hid hcs2
      have HC3 := Lib.hid hcs3
      clear hcs0 hcs1 hcs2 hcs3
      have HL0 : Hid (LA W1 W1 n (.slice none 0 0) []) := Lib.hid ⟨World.ownsRow_nil _ _ _ _, Below.refl _ _⟩
      obtain ⟨q55, hq55⟩ : ∃ q, q = decide (n ≤ 32) := ⟨_, rfl⟩
      have HQ55 := Lib.hid hq55
      clear hq55
      go_cut [55] from 54 to 55 (fun s55 wx => s55 = .bool q55 ∧ W1 = wx)
      case first =>
        go_wp2_with fail
        go_meet
        exact ⟨by rw [HQ55.out]; congr 1; simp [Int.ofNat_le]; omega, rfl⟩
      case rest =>
      obtain ⟨rfl, rfl⟩ := hcut
      apply_assumption
      go_cut [8] from 56 to 60 (fun s8 wx => Hid (LA W1 wx n s8 cs0))
      case first =>
        cases q55
        · have HE0 : Hid (cs0 = []) := Lib.hid (by rw [HC0.out, if_neg (of_decide_eq_false HQ55.out.symm)])
          go_wp2_with fail
          go_meet
          rw [HE0.out]
          exact HL0
        · have HE0 : Hid (cs0 = [] ++ [((0 : Int), (0 : Int))]) := Lib.hid (by rw [HC0.out, if_pos (of_decide_eq_true HQ55.out.symm)]; rfl)
          have HLEN0 := HLEN
          have HLEN : Hid (([] : List (Int × Int)).length ≤ 100000) := Lib.hid (by simp)
          have hle0 : ([] : List (Int × Int)).length + 1 ≤ 1099511627776 := by have := HLEN.out; omega
          have HOW := Lib.hid HL0.out.1
          have HSW := Lib.hid HL0.out.2.size
          have bs := bs_rplan
          go_wp2_with (at_builtin; go_loud (refine wpList_appM rfl _ _ 28 30 rfl 4 48 (.agg #[.int .i64 0, .int .i64 0, .int .i64 0, .slice none 0 0]) Tryz.underlying28 info_rplan rfl (by omega) (by omega) W1.heap.size _ ([] : List (Int × Int)).length 1 (by omega) (candV n ([] : List (Int × Int))) rfl (World.ownsRow.alloc HOW.out _) _ _ [Value.int .i64 0, .int .i64 n, .int .i64 0, .slice none 0 0] rfl rfl (cells_four _ _ _ _ _ _ _ rfl) (one_four _ _ _ _ _ _) hle0 (by have := HSW.out; rw [World.size_alloc]; omega) ?_); intro g2 cap2 w5 hO2 hG2 hL2)
          have HLN := Lib.hid (LA.more HL0.out (ds := [((0 : Int), (0 : Int))]) hO2.out hG2.out)
          clear hO2 hG2 hL2 HOW HSW bs
          go_meet
          rw [HE0.out]
          exact HLN
      case rest =>
      have HLA := hcut
      clear hcut HL0
      obtain ⟨A8, c8, rfl⟩ := HLA.out.form
      apply_assumption
      go_wp2_with fail
      go_loopw [8, 9] (fun v8 v9 wr => ∃ (r : Nat) (cs : List (Int × Int)), v9 = .int .i64 r ∧ 2 ≤ r ∧ r ≤ n + 1 ∧ Hid (r ≤ n ∨ r = 2) ∧ Hid (cs = cs0 ++ radU n r) ∧ Hid (LA W1 wr n v8 cs)) (fun _ v9 _ => n + 3 - (intOf v9).toNat)
      case atStart => exact ⟨2, cs0, rfl, by omega, by have := HN.out; omega, Lib.hid (.inr rfl), Lib.hid (by
        have : radU n 2 = [] := by
          show (([] ++ (if 2 ≤ 0 ∧ n % 0 = 0 then _ else [])) ++ (if 2 ≤ 1 ∧ n % 1 = 0 then _ else [])) = []
          rw [if_neg (by omega), if_neg (by omega)]
          rfl
        rw [this, List.append_nil]), HLA⟩
      case round =>
        clear HLA
        obtain ⟨r, cs, rfl, hr2, hrm, hrx, hcs, HLA⟩ := hrel
        obtain ⟨A8, c8, rfl⟩ := HLA.out.form
        have hn := HN.out
        by_cases hlt : r < n
        · have hlti : (r : Int) < (n : Int) := by omega
          have HLEN2 : Hid (cs.length ≤ 40000) := Lib.hid (by
            rw [hcs.out, List.length_append]
            have := radU_len n r
            have := HLEN.out
            omega)
          have ht : (n : Int).tmod r = ((n % r : Nat) : Int) := by rw [Int.tmod_eq_emod_of_nonneg (by omega)]; omega
          have hr0 : ¬ (r : Int) = 0 := by omega
          have hr0b : ((r : Int) == 0) = false := by rw [beq_eq_false_iff_ne]; omega
          have hnx : radU n (r + 1) = radU n r ++ (if 2 ≤ r ∧ n % r = 0 then [((1 : Int), (r : Int))] else []) := rfl
          obtain ⟨x, hx⟩ : ∃ x, n % r = x := ⟨_, rfl⟩
          have hxl : x < r := by rw [← hx]; exact Nat.mod_lt _ (by omega)
          rw [hx] at ht hnx
          have HMN : Hid (r + 1 ≤ n ∨ r + 1 = 2) := Lib.hid (.inl (by omega))
          clear hx hrm
          by_cases h0 : x = 0
          · subst h0
            rw [if_pos ⟨hr2, rfl⟩] at hnx
            have HNX : Hid (cs ++ [((1 : Int), (r : Int))] = cs0 ++ radU n (r + 1)) := Lib.hid (by rw [hnx, hcs.out, List.append_assoc])
            clear hnx HLEN
            have HLEN := HLEN2
            have hle0 : cs.length + 1 ≤ 1099511627776 := by have := HLEN.out; omega
            have HOW := Lib.hid HLA.out.1
            have HSW := Lib.hid HLA.out.2.size
            have bs := bs_rplan
            go_wp2_with (at_builtin; go_loud (refine wpList_appM rfl _ _ 28 30 rfl 4 48 (.agg #[.int .i64 0, .int .i64 0, .int .i64 0, .slice none 0 0]) Tryz.underlying28 info_rplan rfl (by omega) (by omega) W1.heap.size _ cs.length 1 (by omega) (candV n cs) rfl (World.ownsRow.alloc HOW.out _) _ _ [Value.int .i64 1, .int .i64 n, .int .i64 r, .slice none 0 0] rfl rfl (cells_four _ _ _ _ _ _ _ rfl) (one_four _ _ _ _ _ _) hle0 (by have := HSW.out; rw [World.size_alloc]; omega) ?_); intro g2 cap2 w5 hO2 hG2 hL2)
            have HLN := Lib.hid (LA.more HLA.out (ds := [((1 : Int), (r : Int))]) hO2.out hG2.out)
            clear hO2 hG2 hL2 HOW HSW bs hle0
            clear ht hr0 hr0b hxl
            exact ⟨⟨r + 1, _, by go_num, by omega, by omega, HMN, HNX, HLN⟩, by simp [intOf]; omega⟩
          · have h0' : ¬ (x : Int) = 0 := by omega
            have h0b : ((x : Int) == 0) = false := by rw [beq_eq_false_iff_ne]; omega
            rw [if_neg (by rintro ⟨_, h⟩; exact h0 h), List.append_nil] at hnx
            have HNX : Hid (cs = cs0 ++ radU n (r + 1)) := Lib.hid (by rw [hnx]; exact hcs.out)
            clear hnx h0
            go_wp2_with fail
            exact ⟨⟨r + 1, cs, by go_num, by omega, by omega, HMN, HNX, HLA⟩, by simp [intOf]; omega⟩
        · have HCS1 : Hid (cs = cs1) := Lib.hid (by
            rw [hcs.out, HC1.out]
            congr 1
            by_cases h2 : 2 ≤ n
            · rw [show r = n by have := hrx.out; omega]
            · have e1 : n = 1 := by omega
              rw [e1, radU_one, radU_one])
          have hlti : ¬ (r : Int) < (n : Int) := by omega
          obtain rfl := HCS1.out
          clear hrm hrx hcs HCS1
          go_wp2_with fail
          go_loopw [10, 11] (fun v10 v11 wq => ∃ (k : Nat) (p : Bool), v10 = .bool p ∧ v11 = .int .i64 k ∧ Hid (PW n k p) ∧ wr = wq) (fun _ v11 _ => (intOf v11).toNat)
          case atStart => exact ⟨n, decide (4 ≤ n), by first | rfl | (congr 1; exact decide_eq_decide.2 (by omega)), rfl, Lib.hid (PW.start hn.1), rfl⟩
          case round =>
            obtain ⟨k, p, rfl, rfl, hpw, rfl⟩ := hrel
            have hk1 : 1 ≤ k ∧ k ≤ 32768 := ⟨hpw.out.1, by have := hpw.out.2.1; omega⟩
            by_cases h1 : 1 < k
            · have h1i : (1 : Int) < (k : Int) := by omega
              have ht : (k : Int).tmod 2 = ((k % 2 : Nat) : Int) := by rw [Int.tmod_eq_emod_of_nonneg (by omega)]; omega
              have hq : (k : Int).tdiv 2 = ((k / 2 : Nat) : Int) := by rw [Int.tdiv_eq_ediv_of_nonneg (by omega)]; omega
              have hyl : k / 2 ≤ 32768 ∧ k / 2 < k := by omega
              rcases Nat.mod_two_eq_zero_or_one k with ho | ho
              · have HP := Lib.hid (hpw.out.even h1 ho)
                rw [ho] at ht
                obtain ⟨y, hy⟩ : ∃ y, k / 2 = y := ⟨_, rfl⟩
                rw [hy] at hq hyl HP
                clear hy ho hpw
                go_wp2_with fail
                exact ⟨⟨y, p, rfl, by go_num, HP, trivial⟩, by simp [intOf]; omega⟩
              · have HP := Lib.hid (hpw.out.odd hn.2 h1 ho)
                rw [ho] at ht
                obtain ⟨y, hy⟩ : ∃ y, k / 2 = y := ⟨_, rfl⟩
                rw [hy] at hq hyl HP
                clear hy ho hpw
                go_wp2_with fail
                exact ⟨⟨y, false, rfl, by go_num, HP, trivial⟩, by simp [intOf]; omega⟩
            · have HP4 := Lib.hid (hpw.out.fin hn.2 h1)
              have h1i : ¬ (1 : Int) < (k : Int) := by omega
              clear hpw
              go_upto_region 20 with fail
              clear hk1 h1 h1i hlt hlti hn hr2
              go_cut [86] from 86 to 86 (fun s86 wx => s86 = .bool p ∧ wr = wx)
              case first =>
                go_wp2_with fail
                go_meet
                exact ⟨rfl, rfl⟩
              case rest =>
              obtain ⟨rfl, rfl⟩ := hcut
              apply_assumption
              go_cut [8] from 87 to 91 (fun s8 wx => Hid (LA W1 wx n s8 cs2))
              case first =>
                cases p
                · have HE0 : Hid (cs2 = cs) := Lib.hid (by rw [HC2.out, HP4.out]; simp)
                  go_wp2_with fail
                  go_meet
                  rw [HE0.out]
                  exact HLA
                · have HE0 : Hid (cs2 = cs ++ [((2 : Int), (0 : Int))]) := Lib.hid (by rw [HC2.out, HP4.out]; rfl)
                  have hle0 : cs.length + 1 ≤ 1099511627776 := by have := HLEN.out; omega
                  have HOW := Lib.hid HLA.out.1
                  have HSW := Lib.hid HLA.out.2.size
                  have bs := bs_rplan
                  go_wp2_with (at_builtin; go_loud (refine wpList_appM rfl _ _ 28 30 rfl 4 48 (.agg #[.int .i64 0, .int .i64 0, .int .i64 0, .slice none 0 0]) Tryz.underlying28 info_rplan rfl (by omega) (by omega) W1.heap.size _ cs.length 1 (by omega) (candV n cs) rfl (World.ownsRow.alloc HOW.out _) _ _ [Value.int .i64 2, .int .i64 n, .int .i64 0, .slice none 0 0] rfl rfl (cells_four _ _ _ _ _ _ _ rfl) (one_four _ _ _ _ _ _) hle0 (by have := HSW.out; rw [World.size_alloc]; omega) ?_); intro g2 cap2 w5 hO2 hG2 hL2)
                  have HLN := Lib.hid (LA.more HLA.out (ds := [((2 : Int), (0 : Int))]) hO2.out hG2.out)
                  clear hO2 hG2 hL2 HOW HSW bs hle0
                  go_meet
                  rw [HE0.out]
                  exact HLN
              case rest =>
              have HLA2 := hcut
              clear hcut HLA HC2
              obtain ⟨A82, c82, rfl⟩ := HLA2.out.form
              apply_assumption
              obtain ⟨pq, hpq⟩ : ∃ q, q = primeB n := ⟨_, rfl⟩
              have HPR : Hid (∀ w, Calls Tryz.prog 139 #[.int .i64 n] w fun z w' => z = .returned (.bool pq) ∧ w = w') := Lib.hid (fun w => by
                have := RIs_any n w (by have := HN.out; omega)
                rw [Int.toNat_natCast, ← hpq] at this
                exact this)
              have HPQ := Lib.hid hpq
              clear hpq
              go_wp2_with fail
              refine (HPR.out _).mono ?_
              rintro z wx ⟨rfl, rfl⟩
              clear HPR
              go_upto_region 23 with fail
              obtain ⟨q98, hq98⟩ : ∃ q, q = decide (primeB n = true ∧ 3 ≤ n) := ⟨_, rfl⟩
              have HQ98 := Lib.hid hq98
              clear hq98
              go_cut [98] from 94 to 98 (fun s98 wx => s98 = .bool q98 ∧ wc = wx)
              case first =>
                have hq := HQ98.out
                rw [← HPQ.out] at hq
                cases pq
                · have hq2 : q98 = false := by rw [hq]; rfl
                  subst hq2
                  clear hq
                  go_wp2_with fail
                  go_meet
                  exact ⟨rfl, rfl⟩
                · by_cases h3 : 3 ≤ n
                  · have hq2 : q98 = true := by rw [hq]; simp [h3]
                    have h3i : (3 : Int) ≤ (n : Int) := by omega
                    subst hq2
                    clear hq
                    go_wp2_with fail
                    go_meet
                    exact ⟨rfl, rfl⟩
                  · have hq2 : q98 = false := by rw [hq]; simp [h3]
                    have h3i : ¬ (3 : Int) ≤ (n : Int) := by omega
                    subst hq2
                    clear hq
                    go_wp2_with fail
                    go_meet
                    exact ⟨rfl, rfl⟩
              case rest =>
              obtain ⟨rfl, rfl⟩ := hcut
              apply_assumption
              go_cut [8] from 99 to 103 (fun s8 wx => Hid (LA W1 wx n s8 cs3))
              case first =>
                cases q98
                · have HE0 : Hid (cs3 = cs2) := Lib.hid (by rw [HC3.out, if_neg (of_decide_eq_false HQ98.out.symm), List.append_nil])
                  go_wp2_with fail
                  go_meet
                  rw [HE0.out]
                  exact HLA2
                · have HE0 : Hid (cs3 = cs2 ++ [((3 : Int), (0 : Int))]) := Lib.hid (by rw [HC3.out, if_pos (of_decide_eq_true HQ98.out.symm)])
                  have hle0 : cs2.length + 1 ≤ 1099511627776 := by have := HLEN.out; omega
                  have HOW := Lib.hid HLA2.out.1
                  have HSW := Lib.hid HLA2.out.2.size
                  have bs := bs_rplan
                  go_wp2_with (at_builtin; go_loud (refine wpList_appM rfl _ _ 28 30 rfl 4 48 (.agg #[.int .i64 0, .int .i64 0, .int .i64 0, .slice none 0 0]) Tryz.underlying28 info_rplan rfl (by omega) (by omega) W1.heap.size _ cs2.length 1 (by omega) (candV n cs2) rfl (World.ownsRow.alloc HOW.out _) _ _ [Value.int .i64 3, .int .i64 n, .int .i64 0, .slice none 0 0] rfl rfl (cells_four _ _ _ _ _ _ _ rfl) (one_four _ _ _ _ _ _) hle0 (by have := HSW.out; rw [World.size_alloc]; omega) ?_); intro g2 cap2 w5 hO2 hG2 hL2)
                  have HLN := Lib.hid (LA.more HLA2.out (ds := [((3 : Int), (0 : Int))]) hO2.out hG2.out)
                  clear hO2 hG2 hL2 HOW HSW bs hle0
                  go_meet
                  rw [HE0.out]
                  exact HLN
              case rest =>
              have HLA3 := hcut
              clear hcut HLA2 HC3 HPQ HQ98
              obtain ⟨A83, c83, rfl⟩ := HLA3.out.form
              apply_assumption
              obtain ⟨q113, hq113⟩ : ∃ q, q = decide (blue = false ∧ 2 ≤ n ∧ n ≤ 16384) := ⟨_, rfl⟩
              have HQ113 := Lib.hid hq113
              clear hq113
              go_upto_region 25 with fail
              go_cut [113] from 104 to 113 (fun s113 wx => s113 = .bool q113 ∧ wc = wx)
              case first =>
                have hq := HQ113.out
                have hfin : q113 = (!blue && decide (2 ≤ n) && decide (n ≤ 16384)) := by rw [hq]; cases blue <;> simp
                clear hq
                by_cases h2 : 2 ≤ n
                · have h2i : (2 : Int) ≤ (n : Int) := by omega
                  by_cases h3 : n ≤ 16384
                  · have h3i : (n : Int) ≤ 16384 := by omega
                    rw [decide_eq_true h2, decide_eq_true h3] at hfin
                    cases blue
                    · subst hfin
                      go_wp2_with fail
                      go_meet
                      exact ⟨rfl, rfl⟩
                    · subst hfin
                      go_wp2_with fail
                      go_meet
                      exact ⟨rfl, rfl⟩
                  · have h3i : ¬ (n : Int) ≤ 16384 := by omega
                    rw [decide_eq_true h2, decide_eq_false h3] at hfin
                    cases blue
                    · subst hfin
                      go_wp2_with fail
                      go_meet
                      exact ⟨rfl, rfl⟩
                    · subst hfin
                      go_wp2_with fail
                      go_meet
                      exact ⟨rfl, rfl⟩
                · have h2i : ¬ (2 : Int) ≤ (n : Int) := by omega
                  rw [decide_eq_false h2] at hfin
                  cases blue
                  · subst hfin
                    go_wp2_with fail
                    go_meet
                    exact ⟨rfl, rfl⟩
                  · subst hfin
                    go_wp2_with fail
                    go_meet
                    exact ⟨rfl, rfl⟩
              case rest =>
              obtain ⟨rfl, rfl⟩ := hcut
              apply_assumption
              go_cut [8] from 114 to 118 (fun s8 wx => Hid (LA W1 wx n s8 (candL n blue)))
              case first =>
                cases q113
                · have HE0 : Hid (candL n blue = cs3) := Lib.hid (by rw [HC4.out, if_neg (of_decide_eq_false HQ113.out.symm), List.append_nil])
                  go_wp2_with fail
                  go_meet
                  rw [HE0.out]
                  exact HLA3
                · have HE0 : Hid (candL n blue = cs3 ++ [((4 : Int), (0 : Int))]) := Lib.hid (by rw [HC4.out, if_pos (of_decide_eq_true HQ113.out.symm)])
                  have hle0 : cs3.length + 1 ≤ 1099511627776 := by have := HLEN.out; omega
                  have HOW := Lib.hid HLA3.out.1
                  have HSW := Lib.hid HLA3.out.2.size
                  have bs := bs_rplan
                  go_wp2_with (at_builtin; go_loud (refine wpList_appM rfl _ _ 28 30 rfl 4 48 (.agg #[.int .i64 0, .int .i64 0, .int .i64 0, .slice none 0 0]) Tryz.underlying28 info_rplan rfl (by omega) (by omega) W1.heap.size _ cs3.length 1 (by omega) (candV n cs3) rfl (World.ownsRow.alloc HOW.out _) _ _ [Value.int .i64 4, .int .i64 n, .int .i64 0, .slice none 0 0] rfl rfl (cells_four _ _ _ _ _ _ _ rfl) (one_four _ _ _ _ _ _) hle0 (by have := HSW.out; rw [World.size_alloc]; omega) ?_); intro g2 cap2 w5 hO2 hG2 hL2)
                  have HLN := Lib.hid (LA.more HLA3.out (ds := [((4 : Int), (0 : Int))]) hO2.out hG2.out)
                  clear hO2 hG2 hL2 HOW HSW bs hle0
                  go_meet
                  rw [HE0.out]
                  exact HLN
              case rest =>
              obtain ⟨g, c8, hg8, hgl1, hgl2, hgr⟩ := hcut.out.some (List.length_pos_iff.2 (candL_ne n blue HN.out.1))
              subst hg8
              have HGR := Lib.hid hgr
              have HGL : Hid (W1.heap.size ≤ g ∧ g < wc.heap.size) := Lib.hid ⟨hgl1, hgl2⟩
              have HBW := Lib.hid hcut.out.2
              have HLL : Hid ((candL n blue).length ≤ 32772) := Lib.hid (by
                have := HLEN.out
                rw [HC4.out, List.length_append]
                split <;> simp <;> omega)
              clear hcut HLA3 HQ113 hgl1 hgl2 hgr HLEN HC4 HC0 HC1 HP4 HQ55
              apply_assumption
              obtain ⟨W3, hW3⟩ : ∃ W3, W27 wc = W3 := ⟨_, rfl⟩
              have HB3 := Lib.hid (out_box wc)
              rw [hW3] at HB3
              unfold W27 at hW3
              have HW3 := Lib.hid hW3
              clear hW3
              go_wp2_with fail
              rw [HW3.out]
              clear HW3
              have HBL0 := Lib.hid (BL.start (blue := blue) HBE.out.1 HBE.out.2.1 HBE.out.2.2.1 HBE.out.2.2.2 HB1.out.1 HB1.out.2 HZ1.out HBW.out HB3.out.2.1 HB3.out.2.2.1 HB3.out.1 HB3.out.2.2.2 HGR.out HGL.out.1 HGL.out.2)
              clear HBE HBE1 HEL HW1 HB1 HZ1 HBW HB3 HGR HGL
              go_loopw [14] (fun v14 wr => ∃ (i nb : Nat) (bb : Bool) (B : Option Addr) (c : Nat) (v' : Value) (es' : List EN), i ≤ (candL n blue).length ∧ v14 = .int .i64 i ∧ Hid (BL S w pb n blue v es (candL n blue) g wc.heap.size wr i nb bb B c v' es')) (fun v14 _ => (candL n blue).length - (intOf v14).toNat)
              case atStart => exact ⟨0, 0, false, none, 0, v, es, Nat.zero_le _, rfl, HBL0⟩
              case round =>
                clear HBL0
                obtain ⟨i, nb, bb, B, c, v', es', hi, rfl, HBL⟩ := hrel
                have hll := HLL.out
                obtain ⟨Y, hY⟩ : ∃ Y, pickB (tryB bestV n blue) ((candL n blue).take i) = Y := ⟨_, rfl⟩
                by_cases hlt : i < (candL n blue).length
                · have hlti : (i : Int) < ((candL n blue).length : Int) := by omega
                  obtain ⟨⟨k, r⟩, hx⟩ : ∃ x, (candL n blue).getD i (0, 0) = x := ⟨_, rfl⟩
                  obtain ⟨xq, xc, hX⟩ : ∃ q c, tryB bestV n blue (k, r) = ⟨k, n, r, q, c⟩ := ⟨_, _, rfl⟩
                  have hmem : (k, r) ∈ candL n blue := by
                    rw [← hx, List.getD_eq_getElem?_getD, List.getElem?_eq_getElem hlt]
                    exact List.getElem_mem hlt
                  have HT := Lib.hid (HTR.out (k, r) hmem _ wr pb v' es' HBL.out.be HBL.out.ask.1 HBL.out.ask.2.1 HBL.out.ask.2.2)
                  obtain ⟨c0, c1, c2, c3⟩ := HBL.out.row.at' hlt
                  rw [hx] at c0 c2
                  have HX := Lib.hid hX
                  have HXI := Lib.hid hx
                  have HY := Lib.hid hY
                  clear hX hx hY hmem
                  go_wp2_with fail
                  refine HT.out.mono ?_
                  rintro z w2 hT
                  obtain ⟨B', c', v2, es2, rfl, hbl2, hk2⟩ := HBL.out.next hT
                  have hnb := new_box w2 n blue (tryB bestV n blue (k, r)) B' c'
                  rw [HX.out] at hk2 hnb ⊢
                  dsimp only at hk2 hnb ⊢
                  obtain ⟨W5, hW5⟩ : ∃ W5, w2.alloc (.cells #[.int .i64 n, .bool blue, .int .i64 k, .int .i64 n, .int .i64 r, .slice B' xq.len c', .int .i64 xc] 157) = W5 := ⟨_, rfl⟩
                  rw [hW5] at hnb
                  have HNB := Lib.hid hnb
                  have HBL3 := Lib.hid (hbl2.keep hnb.2)
                  have HK3 := Lib.hid (hk2.move hnb.2.size (fun k hk _ => hnb.2.block k hk fun f => f) fun _ _ e => e)
                  have HW5 := Lib.hid hW5
                  clear hT hbl2 hk2 hnb hW5 HT HBL c0 c1 c2 c3
                  go_upto_region 32 with fail
                  rw [HW5.out]
                  clear HW5
                  have HYES : Hid (Y.c < 0 ∨ xc < Y.c → BL S w pb n blue v es (candL n blue) g wc.heap.size (putEn W5 wc.heap.size n blue ⟨k, n, r, xq, xc⟩ B' c') (i + 1) n blue B' c' v2 es2) := Lib.hid (fun h => by
                    have h2 := HBL3.out.yes (c' := c') (B' := B') hlt (by rw [HY.out, HXI.out, HX.out]; exact h) (by rw [HXI.out, HX.out]; exact HK3.out)
                    rw [HXI.out, HX.out] at h2
                    exact h2)
                  have HNOB : Hid (¬ Y.c < 0 → ¬ xc < Y.c → BL S w pb n blue v es (candL n blue) g wc.heap.size W5 (i + 1) nb bb B c v2 es2) := Lib.hid (fun h h' => HBL3.out.no hlt (by rw [HY.out]; exact h) (by rw [HY.out, HXI.out, HX.out]; exact h'))
                  have hbx := HBL3.out.box
                  rw [HY.out] at hbx
                  have hdx := HNB.out.1
                  unfold EnBox at hdx hbx
                  dsimp only at hdx
                  obtain ⟨d0, d1, d2, d3, d4, d5, d6⟩ := hdx
                  obtain ⟨b0, b1, b2, b3, b4, b5, b6⟩ := hbx
                  have f0 := HBL3.out.fr 0 (by omega)
                  have f1 := HBL3.out.fr 1 (by omega)
                  have f2 := HBL3.out.fr 2 (by omega)
                  have f3 := HBL3.out.fr 3 (by omega)
                  have f4 := HBL3.out.fr 4 (by omega)
                  have f5 := HBL3.out.fr 5 (by omega)
                  have f6 := HBL3.out.fr 6 (by omega)
                  unfold putEn at HYES
                  dsimp only at HYES
                  clear HBL3 HNB HK3 HX HXI HY HTR
                  by_cases hc1 : Y.c < 0
                  · go_wp2_with fail
                    exact ⟨⟨i + 1, n, blue, B', c', v2, es2, by omega, by go_num, Lib.hid (HYES.out (.inl hc1))⟩, by simp [intOf]; omega⟩
                  · by_cases hc2 : xc < Y.c
                    · go_wp2_with fail
                      exact ⟨⟨i + 1, n, blue, B', c', v2, es2, by omega, by go_num, Lib.hid (HYES.out (.inr hc2))⟩, by simp [intOf]; omega⟩
                    · go_wp2_with fail
                      exact ⟨⟨i + 1, nb, bb, B, c, v2, es2, by omega, by go_num, Lib.hid (HNOB.out hc1 hc2)⟩, by simp [intOf]; omega⟩
                · have hie : i = (candL n blue).length := by omega
                  have hlti : ¬ (i : Int) < ((candL n blue).length : Int) := by omega
                  subst hie
                  go_upto_region 34 with fail
                  obtain ⟨hnb, hbb, hbx⟩ := HBL.out.last HN.out.1 HN.out.2
                  subst hnb hbb
                  unfold EnBox at hbx
                  obtain ⟨b0, b1, b2, b3, b4, b5, b6⟩ := hbx
                  have HB := Lib.hid (And.intro b0 (And.intro b1 (And.intro b2 (And.intro b3 (And.intro b4 (And.intro b5 b6))))))
                  have HRW := Lib.hid HBL.out.be.row
                  have hle0 : es'.length + 1 ≤ 1048576 := by have := HBL.out.be.len; omega
                  have HC := Lib.hid HBL.out.be.c0
                  clear hY hlti hlt hll hi HTR b0 b1 b2 b3 b4 b5 b6 HLL
                  have bs := bs_entry
                  refine wp_region_S (fun w' => w'.cell? ⟨pb, 0, none⟩ = some v' ∧ w'.cell? ⟨wc.heap.size, 0, none⟩ = some (.int .i64 nb) ∧ w'.cell? ⟨wc.heap.size, 1, none⟩ = some (.bool bb) ∧ w'.cell? ⟨wc.heap.size, 2, none⟩ = some (.int .i64 (bestV nb bb).k) ∧ w'.cell? ⟨wc.heap.size, 3, none⟩ = some (.int .i64 (bestV nb bb).n) ∧ w'.cell? ⟨wc.heap.size, 4, none⟩ = some (.int .i64 (bestV nb bb).r) ∧ w'.cell? ⟨wc.heap.size, 5, none⟩ = some (.slice B (bestV nb bb).q.len c) ∧ w'.cell? ⟨wc.heap.size, 6, none⟩ = some (.int .i64 (bestV nb bb).c)) 8 (by kernel_rfl) ?_
                  have hS0 := And.intro (show wr.drew.cell? ⟨pb, 0, none⟩ = some v' from HC.out) HB.out
                  refine Takes.intro [0,1,2,3,4,5] ?_
                  repeat (refine Takes.step (v := ?_) (by kernel_rfl) rfl (fun _ _ _ h => h) rfl hS0 (fun w hSw => by (try dsimp only at hSw); go_simp; try with_reducible rfl) ?_; try simp only [List.getElem_toArray, List.getElem_cons_zero, List.getElem_cons_succ, Act.put, List.setIfInBounds_toArray, List.set_cons_zero, List.set_cons_succ])
                  refine Takes.nil ?_
                  clear hS0
                  have hb6 : ∀ o, Below wr.heap.size wr (wr.drew.alloc o) := fun o => ((Below.refl _ wr).drew).alloc (Nat.le_refl _) o
                  have HB6 := Lib.hid hb6
                  clear hb6
                  refine wpAnyS_one (i := 6) (by kernel_rfl) rfl rfl (fun K hK => ?_)
                  go_simp
                  refine hK.out _ _ (fun _ => ⟨keep_cell (HB6.out _) HC.out, keep_cell (HB6.out _) HB.out.1, keep_cell (HB6.out _) HB.out.2.1, keep_cell (HB6.out _) HB.out.2.2.1, keep_cell (HB6.out _) HB.out.2.2.2.1, keep_cell (HB6.out _) HB.out.2.2.2.2.1, keep_cell (HB6.out _) HB.out.2.2.2.2.2.1, keep_cell (HB6.out _) HB.out.2.2.2.2.2.2⟩) ?_
                  clear hK K
                  try simp only [List.getElem_toArray, List.getElem_cons_zero, List.getElem_cons_succ, Act.put, List.setIfInBounds_toArray, List.set_cons_zero, List.set_cons_succ]
                  refine wpAnyS_one (i := 7) (by kernel_rfl) rfl rfl (fun K hK => ?_)
                  refine wp_appE _ _ 160 157 rfl 7 72 (.agg #[.int .i64 0, .bool false, .int .i64 0, .int .i64 0, .int .i64 0, .slice none 0 0, .int .i64 0]) Tryz.underlying160 info_entry rfl (by omega) (by omega) 0 v' es'.length (enL es') rfl (World.ownsRow.alloc (w := wr.drew) HRW.out _) _ _ [.int .i64 nb, .bool bb, .int .i64 (bestV nb bb).k, .int .i64 (bestV nb bb).n, .int .i64 (bestV nb bb).r, .slice B (bestV nb bb).q.len c, .int .i64 (bestV nb bb).c] rfl rfl (cells_seven _ _ _ _ _ _ _ _ _ _ rfl) (one_seven _ _ _ _ _ _ _ _ _) hle0 (Nat.zero_le _) ?_
                  intro g2 cap2 w5 hO2 hG2 hL2
                  have hq0 := (HBL.out.grown hG2.out).1
                  have hq1 := (HBL.out.grown hG2.out).2.1
                  have hqo : w5.heap[wc.heap.size]? = wr.heap[wc.heap.size]? := (HBL.out.grown hG2.out).2.2.block _ HBL.out.gl.2.2.2.1 (fun e => (HBL.out.va _ e).2.1 rfl)
                  refine hK.out _ _ (fun _ => ⟨hq0, cell_same HB.out.1 hqo, cell_same HB.out.2.1 hqo, cell_same HB.out.2.2.1 hqo, cell_same HB.out.2.2.2.1 hqo, cell_same HB.out.2.2.2.2.1 hqo, cell_same HB.out.2.2.2.2.2.1 hqo, cell_same HB.out.2.2.2.2.2.2 hqo⟩) ?_
                  clear hK K hqo
                  try simp only [List.getElem_toArray, List.getElem_cons_zero, List.getElem_cons_succ, Act.put, List.setIfInBounds_toArray, List.set_cons_zero, List.set_cons_succ]
                  refine wpAnyS_end 3 8 (by kernel_rfl) (by decide) rfl ?_
                  simp only [List.toList_toArray, List.drop_succ_cons, List.drop_zero]
                  go_upto_region 35 with fail
                  clear hq0 hq1 bs hle0 HRW HC HB
                  obtain ⟨W6, hW6, hbx6, hz6, hne6, hP⟩ := HBL.out.done HN.out.1 HN.out.2 HNO.out hO2.out hG2.out hL2.out
                  rw [← hW6]
                  have HP := Lib.hid hP
                  clear hW6 hP hO2 hG2 hL2 HBL
                  unfold EnBox at hbx6
                  obtain ⟨b0, b1, b2, b3, b4, b5, b6⟩ := hbx6
                  have z0 := hz6.1 0 _ rfl
                  have z1 := hz6.1 1 _ rfl
                  have z2 := hz6.1 2 _ rfl
                  have z3 := hz6.1 3 _ rfl
                  have z4 := hz6.1 4 _ rfl
                  have z5 := hz6.1 5 _ rfl
                  have z6 := hz6.1 6 _ rfl
                  have f0 := hz6.2 0 (by omega)
                  have f1 := hz6.2 1 (by omega)
                  have f2 := hz6.2 2 (by omega)
                  have f3 := hz6.2 3 (by omega)
                  have f4 := hz6.2 4 (by omega)
                  have f5 := hz6.2 5 (by omega)
                  have f6 := hz6.2 6 (by omega)
                  have HQE := Lib.hid (EnBox.put z0 z1 z2 z3 z4 z5 z6 nb bb (bestV nb bb) B c)
                  unfold putEn at HQE HP
                  clear hz6
                  go_wp2
                  obtain ⟨s0, s1, s2, s3, s4, s5, s6⟩ := HQE.out
                  refine bodyPost_ret (v := .agg #[.int .i64 nb, .bool bb, .int .i64 (bestV nb bb).k, .int .i64 (bestV nb bb).n, .int .i64 (bestV nb bb).r, .slice B (bestV nb bb).q.len c, .int .i64 (bestV nb bb).c]) (by simp [results, Tryz.results94, go_sem, s0, s1, s2, s3, s4, s5, s6]) rfl HP.out
end Go.Proofs.YtmgfaeineklccaaGreat
