/- math.Ldexp of a positive normal float, where the result is normal. -/
import Derived.Test.YtmgfaeineklccaaGreatX0
import Derived.Test.YtmgfaeineklccaaGreatTG
import Derived.Test.YtmgfaeineklccaaGreatMQ4
set_option maxRecDepth 100000
set_option maxHeartbeats 2000000
set_option linter.unusedSimpArgs false
set_option linter.unusedVariables false
namespace Go.Proofs.YtmgfaeineklccaaGreat
open Go.RowKit Go.Lib Fl
theorem iv_pos{E m:Nat}(h1:1<=E)(h2:E<=2046)(hm:m<4503599627370496):iv (E*4503599627370496+m)=((4503599627370496+m:Nat):Int)*2^(E-1):=by
 have:=@iv_word false (E-1) (4503599627370496+m) (by omega) (by omega) (.inr (by omega))
 have e:D.word false ((E-1)*2^52+(4503599627370496+m))=E*4503599627370496+m:=by
  unfold Ieee.Format.word
  simp only[Bool.false_eq_true,if_false]
  omega
 rw[e] at this
 rw[this]
 simp
theorem iv_zero:iv 0=0:=by decide+kernel
theorem iv_low{r l q:Nat}(h:r<9218868437227405312)(hl:l=r/4503599627370496-1)(hq:q=r-l*4503599627370496):iv r=(q:Int)*2^l:=by
 have:=@iv_word false l q (by omega) (by omega) (by omega)
 have e:D.word false (l*2^52+q)=r:=by
  unfold Ieee.Format.word
  simp only[Bool.false_eq_true,if_false]
  omega
 rw[e] at this
 rw[this]
 simp
end Go.Proofs.YtmgfaeineklccaaGreat
