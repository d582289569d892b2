/- A region that draws its order: many operations that only read are taken one behind another. -/
import Derived.Test.YteaimnemobnknaaMW1
set_option linter.unusedSimpArgs false
set_option linter.unusedVariables false
namespace Go.Proofs.Yteaimnemobnknaa
open Go Go.RowKit
section
variable {P : Program} {md : Region.Mode} {ops : Array Oper} {Q : Exit -> Act -> World -> Prop} {S : World -> Prop} {t : Nat}
def Takes(_:List Nat)(P:Program)(md:Region.Mode)(ops:Array Oper)(Q:Exit->Act->World->Prop)(S:World->Prop)(t fuel:Nat)(listed:Array Bool)(a:Act)(w:World):Prop:=wpAnyS P md ops Q S t fuel listed a w
theorem Takes.intro(is:List Nat){fuel:Nat}{listed:Array Bool}{a:Act}{w:World}(h:Takes is P md ops Q S t fuel listed a w):wpAnyS P md ops Q S t fuel listed a w:=h
theorem Takes.nil{fuel:Nat}{listed:Array Bool}{a:Act}{w:World}(h:wpAnyS P md ops Q S t fuel listed a w):Takes [] P md ops Q S t fuel listed a w:=h
theorem Takes.step{i:Nat}{is:List Nat}{oi:Oper}{v:Value}{fuel:Nat}{listed:Array Bool}{a:Act}{w:World}(hk:takeOk md ops t listed i=true)(hi:ops[i]?=some oi)(hQ:∀c a w,Q (.panic c) (a.put oi.dst v) w->Q (.panic c) a w)(hwn:oi.guard=none)(hS:S w)(hy:∀w,S w->(execOp a.eval oi).run P w=.ok (.value v) w)(h:Takes is P md ops Q S t fuel (listed.setIfInBounds i true) (a.put oi.dst v) w):Takes (i::is) P md ops Q S t (fuel+1) listed a w:=wpAnyS_take hk hi hQ hwn hS hy h
theorem Takes.stepG{i:Nat}{is:List Nat}{oi:Oper}{v:Value}{fuel:Nat}{listed:Array Bool}{a:Act}{w:World}(hk:takeOk md ops t listed i=true)(hi:ops[i]?=some oi)(hQ:∀c a w,Q (.panic c) (a.put oi.dst v) w->Q (.panic c) a w)(hwn:Region.wanted oi (yielded ops a.tmps)=true)(hS:S w)(hy:∀w,S w->(execOp a.eval oi).run P w=.ok (.value v) w)(h:Takes is P md ops Q S t fuel (listed.setIfInBounds i true) (a.put oi.dst v) w):Takes (i::is) P md ops Q S t (fuel+1) listed a w:=wpAnyS_takeG hk hi hQ hwn hS hy h
theorem Takes.skip{i:Nat}{is:List Nat}{oi:Oper}{fuel:Nat}{listed:Array Bool}{a:Act}{w:World}(hk:takeOk md ops t listed i=true)(hi:ops[i]?=some oi)(hQ:∀c a w,Q (.panic c) (a.put oi.dst undef) w->Q (.panic c) a w)(hwn:Region.wanted oi (yielded ops a.tmps)=false)(hS:S w)(h:Takes is P md ops Q S t fuel (listed.setIfInBounds i true) (a.put oi.dst undef) w):Takes (i::is) P md ops Q S t (fuel+1) listed a w:=wpAnyS_skipG hk hi hQ hwn hS h
theorem Takes.go{i:Nat}{is:List Nat}{oi:Oper}{v:Value}{fuel:Nat}{listed:Array Bool}{a:Act}{w:World}(hS:S w)(h:Takes is P md ops Q S t fuel (listed.setIfInBounds i true) (a.put oi.dst v) w)(hk:takeOk md ops t listed i=true:=by kernel_rfl)(hi:ops[i]?=some oi:=by rfl)(hQ:∀c a w,Q (.panic c) (a.put oi.dst v) w->Q (.panic c) a w:=by intro _ _ _ h;exact h)(hwn:oi.guard=none:=by rfl)(hy:∀w,S w->(execOp a.eval oi).run P w=.ok (.value v) w:=by intro w hSw;(try dsimp only at hSw);go_simp;try with_reducible rfl):Takes (i::is) P md ops Q S t (fuel+1) listed a w:=wpAnyS_take hk hi hQ hwn hS hy h
end
end Go.Proofs.Yteaimnemobnknaa
