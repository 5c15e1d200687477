import Derived.Test.YtppdaagiofcmkaaChk3
/- The check, run by the kernel at the discriminants of a thousand. -/
namespace Go.Proofs.Ytppdaagiofcmkaa.Chk
set_option maxRecDepth 100000
theorem run9000 : chunk MML 9003 50 = true := by decide +kernel
theorem run9050 : chunk MML 9053 50 = true := by decide +kernel
theorem run9100 : chunk MML 9103 50 = true := by decide +kernel
theorem run9150 : chunk MML 9153 50 = true := by decide +kernel
theorem run9200 : chunk MML 9203 50 = true := by decide +kernel
theorem run9250 : chunk MML 9253 50 = true := by decide +kernel
theorem run9300 : chunk MML 9303 50 = true := by decide +kernel
theorem run9350 : chunk MML 9353 50 = true := by decide +kernel
theorem run9400 : chunk MML 9403 50 = true := by decide +kernel
theorem run9450 : chunk MML 9453 50 = true := by decide +kernel
theorem run9500 : chunk MML 9503 50 = true := by decide +kernel
theorem run9550 : chunk MML 9553 50 = true := by decide +kernel
theorem run9600 : chunk MML 9603 50 = true := by decide +kernel
theorem run9650 : chunk MML 9653 50 = true := by decide +kernel
theorem run9700 : chunk MML 9703 50 = true := by decide +kernel
theorem run9750 : chunk MML 9753 50 = true := by decide +kernel
theorem run9800 : chunk MML 9803 50 = true := by decide +kernel
theorem run9850 : chunk MML 9853 50 = true := by decide +kernel
theorem run9900 : chunk MML 9903 50 = true := by decide +kernel
theorem run9950 : chunk MML 9953 50 = true := by decide +kernel
theorem part9 (D : Nat) (h1 : 9003 ≤ D) (h2 : D < 10003) : chk MML D = true := by
  by_cases c0 : D < 9053
  · exact chunk_at run9000 (by omega) (by omega)
  by_cases c1 : D < 9103
  · exact chunk_at run9050 (by omega) (by omega)
  by_cases c2 : D < 9153
  · exact chunk_at run9100 (by omega) (by omega)
  by_cases c3 : D < 9203
  · exact chunk_at run9150 (by omega) (by omega)
  by_cases c4 : D < 9253
  · exact chunk_at run9200 (by omega) (by omega)
  by_cases c5 : D < 9303
  · exact chunk_at run9250 (by omega) (by omega)
  by_cases c6 : D < 9353
  · exact chunk_at run9300 (by omega) (by omega)
  by_cases c7 : D < 9403
  · exact chunk_at run9350 (by omega) (by omega)
  by_cases c8 : D < 9453
  · exact chunk_at run9400 (by omega) (by omega)
  by_cases c9 : D < 9503
  · exact chunk_at run9450 (by omega) (by omega)
  by_cases c10 : D < 9553
  · exact chunk_at run9500 (by omega) (by omega)
  by_cases c11 : D < 9603
  · exact chunk_at run9550 (by omega) (by omega)
  by_cases c12 : D < 9653
  · exact chunk_at run9600 (by omega) (by omega)
  by_cases c13 : D < 9703
  · exact chunk_at run9650 (by omega) (by omega)
  by_cases c14 : D < 9753
  · exact chunk_at run9700 (by omega) (by omega)
  by_cases c15 : D < 9803
  · exact chunk_at run9750 (by omega) (by omega)
  by_cases c16 : D < 9853
  · exact chunk_at run9800 (by omega) (by omega)
  by_cases c17 : D < 9903
  · exact chunk_at run9850 (by omega) (by omega)
  by_cases c18 : D < 9953
  · exact chunk_at run9900 (by omega) (by omega)
  exact chunk_at run9950 (by omega) (by omega)
end Go.Proofs.Ytppdaagiofcmkaa.Chk
