import Derived.Test.YtppdaagiofcmkaaRpn0
import Derived.Test.YtppdaagiofcmkaaRpn1
/- The check of the representations holds at every discriminant down to -2000. -/
namespace Go.Proofs.Ytppdaagiofcmkaa.Rep
theorem run_all (D : Nat) (h1 : 3 ≤ D) (h2 : D ≤ 2000) : rep D = true := by
  by_cases c : D < 1003
  · exact part0 D (by omega) (by omega)
  exact part1 D (by omega) (by omega)
end Go.Proofs.Ytppdaagiofcmkaa.Rep
