import Derived.Test.YtppdaagiofcmkaaChk3
/- The check, run by the kernel at the discriminants of a thousand. -/
namespace Go.Proofs.Ytppdaagiofcmkaa.Chk
set_option maxRecDepth 100000
theorem run5000 : chunk MML 5003 50 = true := by decide +kernel
theorem run5050 : chunk MML 5053 50 = true := by decide +kernel
theorem run5100 : chunk MML 5103 50 = true := by decide +kernel
theorem run5150 : chunk MML 5153 50 = true := by decide +kernel
theorem run5200 : chunk MML 5203 50 = true := by decide +kernel
theorem run5250 : chunk MML 5253 50 = true := by decide +kernel
theorem run5300 : chunk MML 5303 50 = true := by decide +kernel
theorem run5350 : chunk MML 5353 50 = true := by decide +kernel
theorem run5400 : chunk MML 5403 50 = true := by decide +kernel
theorem run5450 : chunk MML 5453 50 = true := by decide +kernel
theorem run5500 : chunk MML 5503 50 = true := by decide +kernel
theorem run5550 : chunk MML 5553 50 = true := by decide +kernel
theorem run5600 : chunk MML 5603 50 = true := by decide +kernel
theorem run5650 : chunk MML 5653 50 = true := by decide +kernel
theorem run5700 : chunk MML 5703 50 = true := by decide +kernel
theorem run5750 : chunk MML 5753 50 = true := by decide +kernel
theorem run5800 : chunk MML 5803 50 = true := by decide +kernel
theorem run5850 : chunk MML 5853 50 = true := by decide +kernel
theorem run5900 : chunk MML 5903 50 = true := by decide +kernel
theorem run5950 : chunk MML 5953 50 = true := by decide +kernel
theorem part5 (D : Nat) (h1 : 5003 ≤ D) (h2 : D < 6003) : chk MML D = true := by
  by_cases c0 : D < 5053
  · exact chunk_at run5000 (by omega) (by omega)
  by_cases c1 : D < 5103
  · exact chunk_at run5050 (by omega) (by omega)
  by_cases c2 : D < 5153
  · exact chunk_at run5100 (by omega) (by omega)
  by_cases c3 : D < 5203
  · exact chunk_at run5150 (by omega) (by omega)
  by_cases c4 : D < 5253
  · exact chunk_at run5200 (by omega) (by omega)
  by_cases c5 : D < 5303
  · exact chunk_at run5250 (by omega) (by omega)
  by_cases c6 : D < 5353
  · exact chunk_at run5300 (by omega) (by omega)
  by_cases c7 : D < 5403
  · exact chunk_at run5350 (by omega) (by omega)
  by_cases c8 : D < 5453
  · exact chunk_at run5400 (by omega) (by omega)
  by_cases c9 : D < 5503
  · exact chunk_at run5450 (by omega) (by omega)
  by_cases c10 : D < 5553
  · exact chunk_at run5500 (by omega) (by omega)
  by_cases c11 : D < 5603
  · exact chunk_at run5550 (by omega) (by omega)
  by_cases c12 : D < 5653
  · exact chunk_at run5600 (by omega) (by omega)
  by_cases c13 : D < 5703
  · exact chunk_at run5650 (by omega) (by omega)
  by_cases c14 : D < 5753
  · exact chunk_at run5700 (by omega) (by omega)
  by_cases c15 : D < 5803
  · exact chunk_at run5750 (by omega) (by omega)
  by_cases c16 : D < 5853
  · exact chunk_at run5800 (by omega) (by omega)
  by_cases c17 : D < 5903
  · exact chunk_at run5850 (by omega) (by omega)
  by_cases c18 : D < 5953
  · exact chunk_at run5900 (by omega) (by omega)
  exact chunk_at run5950 (by omega) (by omega)
end Go.Proofs.Ytppdaagiofcmkaa.Chk
