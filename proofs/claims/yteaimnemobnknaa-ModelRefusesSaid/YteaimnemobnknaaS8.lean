/- Primes and roots up to 32768: by the kernel. -/
import Derived.Test.YteaimnemobnknaaMS1
set_option maxRecDepth 100000
set_option linter.unusedSimpArgs false
set_option linter.unusedVariables false
namespace Go.Proofs.Yteaimnemobnknaa
theorem same0:allR sameB 13 0=true:=by decide+kernel
theorem same1:allR sameB 13 8192=true:=by decide+kernel
theorem same2:allR sameB 13 16384=true:=by decide+kernel
theorem same3:allR sameB 13 24576=true:=by decide+kernel
theorem same4:sameB 32768=true:=by decide+kernel
theorem is_prime(n:Nat)(hn:n<=32768):isB n=primeB n:=by
 have h:sameB n=true:=by
  by_cases a:n<8192
  ·exact allR_at 13 0 n same0 (by omega) (by omega)
  by_cases a:n<16384
  ·exact allR_at 13 8192 n same1 (by omega) (by omega)
  by_cases a:n<24576
  ·exact allR_at 13 16384 n same2 (by omega) (by omega)
  by_cases a:n<32768
  ·exact allR_at 13 24576 n same3 (by omega) (by omega)
  obtain rfl:n=32768:=by omega
  exact same4
 unfold sameB at h
 cases hp:primeB n
 ·rw[hp] at h
  simpa using h
 ·rw[hp] at h
  simpa using h
theorem root0:allR rootOk 11 0=true:=by decide+kernel
theorem root_ok(n:Nat)(hn:n<2048):rootOk n=true:=allR_at 11 0 n root0 (by omega) (by omega)
end Go.Proofs.Yteaimnemobnknaa
