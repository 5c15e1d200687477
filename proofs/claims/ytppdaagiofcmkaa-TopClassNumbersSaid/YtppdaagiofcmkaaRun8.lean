import Derived.Test.YtppdaagiofcmkaaChk3
/- The check, run by the kernel at the discriminants of a thousand. -/
namespace Go.Proofs.Ytppdaagiofcmkaa.Chk
set_option maxRecDepth 100000
theorem run8000 : chunk MML 8003 50 = true := by decide +kernel
theorem run8050 : chunk MML 8053 50 = true := by decide +kernel
theorem run8100 : chunk MML 8103 50 = true := by decide +kernel
theorem run8150 : chunk MML 8153 50 = true := by decide +kernel
theorem run8200 : chunk MML 8203 50 = true := by decide +kernel
theorem run8250 : chunk MML 8253 50 = true := by decide +kernel
theorem run8300 : chunk MML 8303 50 = true := by decide +kernel
theorem run8350 : chunk MML 8353 50 = true := by decide +kernel
theorem run8400 : chunk MML 8403 50 = true := by decide +kernel
theorem run8450 : chunk MML 8453 50 = true := by decide +kernel
theorem run8500 : chunk MML 8503 50 = true := by decide +kernel
theorem run8550 : chunk MML 8553 50 = true := by decide +kernel
theorem run8600 : chunk MML 8603 50 = true := by decide +kernel
theorem run8650 : chunk MML 8653 50 = true := by decide +kernel
theorem run8700 : chunk MML 8703 50 = true := by decide +kernel
theorem run8750 : chunk MML 8753 50 = true := by decide +kernel
theorem run8800 : chunk MML 8803 50 = true := by decide +kernel
theorem run8850 : chunk MML 8853 50 = true := by decide +kernel
theorem run8900 : chunk MML 8903 50 = true := by decide +kernel
theorem run8950 : chunk MML 8953 50 = true := by decide +kernel
theorem part8 (D : Nat) (h1 : 8003 ≤ D) (h2 : D < 9003) : chk MML D = true := by
  by_cases c0 : D < 8053
  · exact chunk_at run8000 (by omega) (by omega)
  by_cases c1 : D < 8103
  · exact chunk_at run8050 (by omega) (by omega)
  by_cases c2 : D < 8153
  · exact chunk_at run8100 (by omega) (by omega)
  by_cases c3 : D < 8203
  · exact chunk_at run8150 (by omega) (by omega)
  by_cases c4 : D < 8253
  · exact chunk_at run8200 (by omega) (by omega)
  by_cases c5 : D < 8303
  · exact chunk_at run8250 (by omega) (by omega)
  by_cases c6 : D < 8353
  · exact chunk_at run8300 (by omega) (by omega)
  by_cases c7 : D < 8403
  · exact chunk_at run8350 (by omega) (by omega)
  by_cases c8 : D < 8453
  · exact chunk_at run8400 (by omega) (by omega)
  by_cases c9 : D < 8503
  · exact chunk_at run8450 (by omega) (by omega)
  by_cases c10 : D < 8553
  · exact chunk_at run8500 (by omega) (by omega)
  by_cases c11 : D < 8603
  · exact chunk_at run8550 (by omega) (by omega)
  by_cases c12 : D < 8653
  · exact chunk_at run8600 (by omega) (by omega)
  by_cases c13 : D < 8703
  · exact chunk_at run8650 (by omega) (by omega)
  by_cases c14 : D < 8753
  · exact chunk_at run8700 (by omega) (by omega)
  by_cases c15 : D < 8803
  · exact chunk_at run8750 (by omega) (by omega)
  by_cases c16 : D < 8853
  · exact chunk_at run8800 (by omega) (by omega)
  by_cases c17 : D < 8903
  · exact chunk_at run8850 (by omega) (by omega)
  by_cases c18 : D < 8953
  · exact chunk_at run8900 (by omega) (by omega)
  exact chunk_at run8950 (by omega) (by omega)
end Go.Proofs.Ytppdaagiofcmkaa.Chk
