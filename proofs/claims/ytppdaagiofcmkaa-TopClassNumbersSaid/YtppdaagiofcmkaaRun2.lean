import Derived.Test.YtppdaagiofcmkaaChk3
/- The check, run by the kernel at the discriminants of a thousand. -/
namespace Go.Proofs.Ytppdaagiofcmkaa.Chk
set_option maxRecDepth 100000
theorem run2000 : chunk MML 2003 50 = true := by decide +kernel
theorem run2050 : chunk MML 2053 50 = true := by decide +kernel
theorem run2100 : chunk MML 2103 50 = true := by decide +kernel
theorem run2150 : chunk MML 2153 50 = true := by decide +kernel
theorem run2200 : chunk MML 2203 50 = true := by decide +kernel
theorem run2250 : chunk MML 2253 50 = true := by decide +kernel
theorem run2300 : chunk MML 2303 50 = true := by decide +kernel
theorem run2350 : chunk MML 2353 50 = true := by decide +kernel
theorem run2400 : chunk MML 2403 50 = true := by decide +kernel
theorem run2450 : chunk MML 2453 50 = true := by decide +kernel
theorem run2500 : chunk MML 2503 50 = true := by decide +kernel
theorem run2550 : chunk MML 2553 50 = true := by decide +kernel
theorem run2600 : chunk MML 2603 50 = true := by decide +kernel
theorem run2650 : chunk MML 2653 50 = true := by decide +kernel
theorem run2700 : chunk MML 2703 50 = true := by decide +kernel
theorem run2750 : chunk MML 2753 50 = true := by decide +kernel
theorem run2800 : chunk MML 2803 50 = true := by decide +kernel
theorem run2850 : chunk MML 2853 50 = true := by decide +kernel
theorem run2900 : chunk MML 2903 50 = true := by decide +kernel
theorem run2950 : chunk MML 2953 50 = true := by decide +kernel
theorem part2 (D : Nat) (h1 : 2003 ≤ D) (h2 : D < 3003) : chk MML D = true := by
  by_cases c0 : D < 2053
  · exact chunk_at run2000 (by omega) (by omega)
  by_cases c1 : D < 2103
  · exact chunk_at run2050 (by omega) (by omega)
  by_cases c2 : D < 2153
  · exact chunk_at run2100 (by omega) (by omega)
  by_cases c3 : D < 2203
  · exact chunk_at run2150 (by omega) (by omega)
  by_cases c4 : D < 2253
  · exact chunk_at run2200 (by omega) (by omega)
  by_cases c5 : D < 2303
  · exact chunk_at run2250 (by omega) (by omega)
  by_cases c6 : D < 2353
  · exact chunk_at run2300 (by omega) (by omega)
  by_cases c7 : D < 2403
  · exact chunk_at run2350 (by omega) (by omega)
  by_cases c8 : D < 2453
  · exact chunk_at run2400 (by omega) (by omega)
  by_cases c9 : D < 2503
  · exact chunk_at run2450 (by omega) (by omega)
  by_cases c10 : D < 2553
  · exact chunk_at run2500 (by omega) (by omega)
  by_cases c11 : D < 2603
  · exact chunk_at run2550 (by omega) (by omega)
  by_cases c12 : D < 2653
  · exact chunk_at run2600 (by omega) (by omega)
  by_cases c13 : D < 2703
  · exact chunk_at run2650 (by omega) (by omega)
  by_cases c14 : D < 2753
  · exact chunk_at run2700 (by omega) (by omega)
  by_cases c15 : D < 2803
  · exact chunk_at run2750 (by omega) (by omega)
  by_cases c16 : D < 2853
  · exact chunk_at run2800 (by omega) (by omega)
  by_cases c17 : D < 2903
  · exact chunk_at run2850 (by omega) (by omega)
  by_cases c18 : D < 2953
  · exact chunk_at run2900 (by omega) (by omega)
  exact chunk_at run2950 (by omega) (by omega)
end Go.Proofs.Ytppdaagiofcmkaa.Chk
