/- Words for memory: two cells alone are written. The statement's isPrime; pick's choice. -/
import Derived.Test.YteaimnemobnknaaMW2
import Derived.Test.YteaimnemobnknaaMW1
set_option linter.unusedSimpArgs false
set_option linter.unusedVariables false
namespace Go.Proofs.Yteaimnemobnknaa
open Go.RowKit Go.Lib
structure Only2(a b:Nat)(w w':World):Prop where
 os:w'.os=w.os
 tape:w'.tape=w.tape
 output:w'.output=w.output
 size:w.heap.size<=w'.heap.size
 block:∀k,k<w.heap.size->k≠a->k≠b->w'.heap[k]?=w.heap[k]?
theorem Only2.refl(a b:Nat)(w:World):Only2 a b w w:=⟨rfl,rfl,rfl,Nat.le_refl _,λ_ _ _ _=>rfl⟩
theorem Only2.trans{a b:Nat}{x y z:World}(h:Only2 a b x y)(k:Only2 a b y z):Only2 a b x z:=
 ⟨k.os.trans h.os,k.tape.trans h.tape,k.output.trans h.output,Nat.le_trans h.size k.size,λi hi ha hb=>(k.block i (Nat.lt_of_lt_of_le hi h.size) ha hb).trans (h.block i hi ha hb)⟩
theorem Only2.of_below{a b:Nat}{x y:World}(h:Below x.heap.size x y):Only2 a b x y:=⟨h.os,h.tape,h.output,h.size,λi hi _ _=>h.block i hi⟩
theorem Only2.below{a b c:Nat}{x y:World}(h:Only2 a b x y)(ha:c<=a)(hb:c<=b)(hc:c<=x.heap.size):Below c x y:=⟨h.os,h.tape,h.output,h.size,λi hi=>h.block i (by omega) (by omega) (by omega)⟩
def IntBox(w:World)(b:Nat)(v:Int):Prop:=w.cell? ⟨b,0,none⟩=some (.int .i64 v)/\w.frozen? ⟨b,0,none⟩=false
theorem IntBox.drew{w:World}{b:Nat}{v:Int}(h:IntBox w b v):IntBox w.drew b v:=h
def AnyB(z:Ending):Prop:=∃b:Bool,z=.returned (.bool b)
end Go.Proofs.Yteaimnemobnknaa
