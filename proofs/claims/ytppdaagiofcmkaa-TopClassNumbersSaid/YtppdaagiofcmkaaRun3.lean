import Derived.Test.YtppdaagiofcmkaaChk3
/- The check, run by the kernel at the discriminants of a thousand. -/
namespace Go.Proofs.Ytppdaagiofcmkaa.Chk
set_option maxRecDepth 100000
theorem run3000 : chunk MML 3003 50 = true := by decide +kernel
theorem run3050 : chunk MML 3053 50 = true := by decide +kernel
theorem run3100 : chunk MML 3103 50 = true := by decide +kernel
theorem run3150 : chunk MML 3153 50 = true := by decide +kernel
theorem run3200 : chunk MML 3203 50 = true := by decide +kernel
theorem run3250 : chunk MML 3253 50 = true := by decide +kernel
theorem run3300 : chunk MML 3303 50 = true := by decide +kernel
theorem run3350 : chunk MML 3353 50 = true := by decide +kernel
theorem run3400 : chunk MML 3403 50 = true := by decide +kernel
theorem run3450 : chunk MML 3453 50 = true := by decide +kernel
theorem run3500 : chunk MML 3503 50 = true := by decide +kernel
theorem run3550 : chunk MML 3553 50 = true := by decide +kernel
theorem run3600 : chunk MML 3603 50 = true := by decide +kernel
theorem run3650 : chunk MML 3653 50 = true := by decide +kernel
theorem run3700 : chunk MML 3703 50 = true := by decide +kernel
theorem run3750 : chunk MML 3753 50 = true := by decide +kernel
theorem run3800 : chunk MML 3803 50 = true := by decide +kernel
theorem run3850 : chunk MML 3853 50 = true := by decide +kernel
theorem run3900 : chunk MML 3903 50 = true := by decide +kernel
theorem run3950 : chunk MML 3953 50 = true := by decide +kernel
theorem part3 (D : Nat) (h1 : 3003 ≤ D) (h2 : D < 4003) : chk MML D = true := by
  by_cases c0 : D < 3053
  · exact chunk_at run3000 (by omega) (by omega)
  by_cases c1 : D < 3103
  · exact chunk_at run3050 (by omega) (by omega)
  by_cases c2 : D < 3153
  · exact chunk_at run3100 (by omega) (by omega)
  by_cases c3 : D < 3203
  · exact chunk_at run3150 (by omega) (by omega)
  by_cases c4 : D < 3253
  · exact chunk_at run3200 (by omega) (by omega)
  by_cases c5 : D < 3303
  · exact chunk_at run3250 (by omega) (by omega)
  by_cases c6 : D < 3353
  · exact chunk_at run3300 (by omega) (by omega)
  by_cases c7 : D < 3403
  · exact chunk_at run3350 (by omega) (by omega)
  by_cases c8 : D < 3453
  · exact chunk_at run3400 (by omega) (by omega)
  by_cases c9 : D < 3503
  · exact chunk_at run3450 (by omega) (by omega)
  by_cases c10 : D < 3553
  · exact chunk_at run3500 (by omega) (by omega)
  by_cases c11 : D < 3603
  · exact chunk_at run3550 (by omega) (by omega)
  by_cases c12 : D < 3653
  · exact chunk_at run3600 (by omega) (by omega)
  by_cases c13 : D < 3703
  · exact chunk_at run3650 (by omega) (by omega)
  by_cases c14 : D < 3753
  · exact chunk_at run3700 (by omega) (by omega)
  by_cases c15 : D < 3803
  · exact chunk_at run3750 (by omega) (by omega)
  by_cases c16 : D < 3853
  · exact chunk_at run3800 (by omega) (by omega)
  by_cases c17 : D < 3903
  · exact chunk_at run3850 (by omega) (by omega)
  by_cases c18 : D < 3953
  · exact chunk_at run3900 (by omega) (by omega)
  exact chunk_at run3950 (by omega) (by omega)
end Go.Proofs.Ytppdaagiofcmkaa.Chk
