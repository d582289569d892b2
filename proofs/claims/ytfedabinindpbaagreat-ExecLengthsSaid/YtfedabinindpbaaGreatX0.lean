/- A short name. -/
import Derived.Lib.Hide
namespace Go.Proofs.YtfedabinindpbaaGreat
theorem aZ{p:Prop}(h:p):RowKit.Hid p:=h
end Go.Proofs.YtfedabinindpbaaGreat
