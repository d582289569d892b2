/- A region that draws: two come up; each way is walked. -/
import Derived.Test.YteaimnemobnknaaX0
import Derived.Test.YteaimnemobnknaaMW1
set_option linter.unusedSimpArgs false
set_option linter.unusedVariables false
namespace Go.Proofs.Yteaimnemobnknaa
open Go Go.RowKit
section
variable {P : Program} {md : Region.Mode} {ops : Array Oper} {Q : Exit -> Act -> World -> Prop} {S : World -> Prop} {t : Nat}
def pairOk(md:Region.Mode)(ops:Array Oper)(listed:Array Bool)(i j:Nat):Bool:=Region.ready md ops listed==[i,j]
theorem wpAnyS_pair{i j:Nat}{oi oj:Oper}{fuel:Nat}{listed:Array Bool}{a:Act}{w:World}(hr:pairOk md ops listed i j=true)(hi:ops[i]?=some oi)(hj:ops[j]?=some oj)(gi:oi.guard=none)(gj:oj.guard=none)(h1:∀K:Act->World->Prop,Hid (∀a' w',(i<t->S w')->wpAnyS P md ops Q S t fuel (listed.setIfInBounds i true) a' w'->K a' w')->Oper.wp P oi a w K Q)(h2:∀K:Act->World->Prop,Hid (∀a' w',(j<t->S w')->wpAnyS P md ops Q S t fuel (listed.setIfInBounds j true) a' w'->K a' w')->Oper.wp P oj a w K Q):wpAnyS P md ops Q S t (fuel+1) listed a w:=by
 unfold pairOk at hr
 rw[beq_iff_eq] at hr
 refine⟨λh0=>(by rw[hr] at h0;cases h0),λk hk=>?_⟩
 rw[hr] at hk
 have key:∀x ox,ops[x]?=some ox->ox.guard=none->(∀K:Act->World->Prop,Hid (∀a' w',(x<t->S w')->wpAnyS P md ops Q S t fuel (listed.setIfInBounds x true) a' w'->K a' w')->Oper.wp P ox a w K Q)->
   wpOp P ops Q x (λa' w'=>(x<t->S w')/\wpAnyS P md ops Q S t fuel (listed.setIfInBounds x true) a' w') a w:=λx ox hx gx h=>by
  unfold wpOp
  rw[hx]
  have hwt:Region.wanted ox (yielded ops a.tmps)=true:=by unfold Region.wanted;rw[gx]
  simp only[hwt,if_true]
  exact .inl (h _ (aZ λa' w' h1 h2=>⟨h1,h2⟩))
 rcases List.mem_cons.1 hk with rfl|hk
 ·exact key _ _ hi gi h1
 ·obtain rfl:=List.mem_singleton.1 hk
  exact key _ _ hj gj h2
end
end Go.Proofs.Yteaimnemobnknaa
