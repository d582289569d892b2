/- A short name. -/
import Derived.Lib.Hide
namespace Go.Proofs.YtmgfaeineklccaaGreat
theorem aZ{p:Prop}(h:p):RowKit.Hid p:=h
end Go.Proofs.YtmgfaeineklccaaGreat
