import Derived.Test.YtppdaagiofcmkaaRun0
import Derived.Test.YtppdaagiofcmkaaRun1
import Derived.Test.YtppdaagiofcmkaaRun2
import Derived.Test.YtppdaagiofcmkaaRun3
import Derived.Test.YtppdaagiofcmkaaRun4
import Derived.Test.YtppdaagiofcmkaaRun5
import Derived.Test.YtppdaagiofcmkaaRun6
import Derived.Test.YtppdaagiofcmkaaRun7
import Derived.Test.YtppdaagiofcmkaaRun8
import Derived.Test.YtppdaagiofcmkaaRun9
/- The check holds at every discriminant down to -10000. -/
namespace Go.Proofs.Ytppdaagiofcmkaa.Chk
theorem run_all (D : Nat) (h1 : 3 ≤ D) (h2 : D ≤ 10000) : chk MML D = true := by
  by_cases c0 : D < 1003
  · exact part0 D (by omega) (by omega)
  by_cases c1 : D < 2003
  · exact part1 D (by omega) (by omega)
  by_cases c2 : D < 3003
  · exact part2 D (by omega) (by omega)
  by_cases c3 : D < 4003
  · exact part3 D (by omega) (by omega)
  by_cases c4 : D < 5003
  · exact part4 D (by omega) (by omega)
  by_cases c5 : D < 6003
  · exact part5 D (by omega) (by omega)
  by_cases c6 : D < 7003
  · exact part6 D (by omega) (by omega)
  by_cases c7 : D < 8003
  · exact part7 D (by omega) (by omega)
  by_cases c8 : D < 9003
  · exact part8 D (by omega) (by omega)
  exact part9 D (by omega) (by omega)
end Go.Proofs.Ytppdaagiofcmkaa.Chk
