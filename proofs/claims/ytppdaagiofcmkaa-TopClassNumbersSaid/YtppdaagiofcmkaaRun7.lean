import Derived.Test.YtppdaagiofcmkaaChk3
/- The check, run by the kernel at the discriminants of a thousand. -/
namespace Go.Proofs.Ytppdaagiofcmkaa.Chk
set_option maxRecDepth 100000
theorem run7000 : chunk MML 7003 50 = true := by decide +kernel
theorem run7050 : chunk MML 7053 50 = true := by decide +kernel
theorem run7100 : chunk MML 7103 50 = true := by decide +kernel
theorem run7150 : chunk MML 7153 50 = true := by decide +kernel
theorem run7200 : chunk MML 7203 50 = true := by decide +kernel
theorem run7250 : chunk MML 7253 50 = true := by decide +kernel
theorem run7300 : chunk MML 7303 50 = true := by decide +kernel
theorem run7350 : chunk MML 7353 50 = true := by decide +kernel
theorem run7400 : chunk MML 7403 50 = true := by decide +kernel
theorem run7450 : chunk MML 7453 50 = true := by decide +kernel
theorem run7500 : chunk MML 7503 50 = true := by decide +kernel
theorem run7550 : chunk MML 7553 50 = true := by decide +kernel
theorem run7600 : chunk MML 7603 50 = true := by decide +kernel
theorem run7650 : chunk MML 7653 50 = true := by decide +kernel
theorem run7700 : chunk MML 7703 50 = true := by decide +kernel
theorem run7750 : chunk MML 7753 50 = true := by decide +kernel
theorem run7800 : chunk MML 7803 50 = true := by decide +kernel
theorem run7850 : chunk MML 7853 50 = true := by decide +kernel
theorem run7900 : chunk MML 7903 50 = true := by decide +kernel
theorem run7950 : chunk MML 7953 50 = true := by decide +kernel
theorem part7 (D : Nat) (h1 : 7003 ≤ D) (h2 : D < 8003) : chk MML D = true := by
  by_cases c0 : D < 7053
  · exact chunk_at run7000 (by omega) (by omega)
  by_cases c1 : D < 7103
  · exact chunk_at run7050 (by omega) (by omega)
  by_cases c2 : D < 7153
  · exact chunk_at run7100 (by omega) (by omega)
  by_cases c3 : D < 7203
  · exact chunk_at run7150 (by omega) (by omega)
  by_cases c4 : D < 7253
  · exact chunk_at run7200 (by omega) (by omega)
  by_cases c5 : D < 7303
  · exact chunk_at run7250 (by omega) (by omega)
  by_cases c6 : D < 7353
  · exact chunk_at run7300 (by omega) (by omega)
  by_cases c7 : D < 7403
  · exact chunk_at run7350 (by omega) (by omega)
  by_cases c8 : D < 7453
  · exact chunk_at run7400 (by omega) (by omega)
  by_cases c9 : D < 7503
  · exact chunk_at run7450 (by omega) (by omega)
  by_cases c10 : D < 7553
  · exact chunk_at run7500 (by omega) (by omega)
  by_cases c11 : D < 7603
  · exact chunk_at run7550 (by omega) (by omega)
  by_cases c12 : D < 7653
  · exact chunk_at run7600 (by omega) (by omega)
  by_cases c13 : D < 7703
  · exact chunk_at run7650 (by omega) (by omega)
  by_cases c14 : D < 7753
  · exact chunk_at run7700 (by omega) (by omega)
  by_cases c15 : D < 7803
  · exact chunk_at run7750 (by omega) (by omega)
  by_cases c16 : D < 7853
  · exact chunk_at run7800 (by omega) (by omega)
  by_cases c17 : D < 7903
  · exact chunk_at run7850 (by omega) (by omega)
  by_cases c18 : D < 7953
  · exact chunk_at run7900 (by omega) (by omega)
  exact chunk_at run7950 (by omega) (by omega)
end Go.Proofs.Ytppdaagiofcmkaa.Chk
