/- A short name. -/
import Derived.Lib.Hide
namespace Go.Proofs.Yteaimnemobnknaa
theorem aZ{p:Prop}(h:p):RowKit.Hid p:=h
end Go.Proofs.Yteaimnemobnknaa
