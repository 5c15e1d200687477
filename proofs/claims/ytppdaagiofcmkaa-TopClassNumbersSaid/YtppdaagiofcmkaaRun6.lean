import Derived.Test.YtppdaagiofcmkaaChk3
/- The check, run by the kernel at the discriminants of a thousand. -/
namespace Go.Proofs.Ytppdaagiofcmkaa.Chk
set_option maxRecDepth 100000
theorem run6000 : chunk MML 6003 50 = true := by decide +kernel
theorem run6050 : chunk MML 6053 50 = true := by decide +kernel
theorem run6100 : chunk MML 6103 50 = true := by decide +kernel
theorem run6150 : chunk MML 6153 50 = true := by decide +kernel
theorem run6200 : chunk MML 6203 50 = true := by decide +kernel
theorem run6250 : chunk MML 6253 50 = true := by decide +kernel
theorem run6300 : chunk MML 6303 50 = true := by decide +kernel
theorem run6350 : chunk MML 6353 50 = true := by decide +kernel
theorem run6400 : chunk MML 6403 50 = true := by decide +kernel
theorem run6450 : chunk MML 6453 50 = true := by decide +kernel
theorem run6500 : chunk MML 6503 50 = true := by decide +kernel
theorem run6550 : chunk MML 6553 50 = true := by decide +kernel
theorem run6600 : chunk MML 6603 50 = true := by decide +kernel
theorem run6650 : chunk MML 6653 50 = true := by decide +kernel
theorem run6700 : chunk MML 6703 50 = true := by decide +kernel
theorem run6750 : chunk MML 6753 50 = true := by decide +kernel
theorem run6800 : chunk MML 6803 50 = true := by decide +kernel
theorem run6850 : chunk MML 6853 50 = true := by decide +kernel
theorem run6900 : chunk MML 6903 50 = true := by decide +kernel
theorem run6950 : chunk MML 6953 50 = true := by decide +kernel
theorem part6 (D : Nat) (h1 : 6003 ≤ D) (h2 : D < 7003) : chk MML D = true := by
  by_cases c0 : D < 6053
  · exact chunk_at run6000 (by omega) (by omega)
  by_cases c1 : D < 6103
  · exact chunk_at run6050 (by omega) (by omega)
  by_cases c2 : D < 6153
  · exact chunk_at run6100 (by omega) (by omega)
  by_cases c3 : D < 6203
  · exact chunk_at run6150 (by omega) (by omega)
  by_cases c4 : D < 6253
  · exact chunk_at run6200 (by omega) (by omega)
  by_cases c5 : D < 6303
  · exact chunk_at run6250 (by omega) (by omega)
  by_cases c6 : D < 6353
  · exact chunk_at run6300 (by omega) (by omega)
  by_cases c7 : D < 6403
  · exact chunk_at run6350 (by omega) (by omega)
  by_cases c8 : D < 6453
  · exact chunk_at run6400 (by omega) (by omega)
  by_cases c9 : D < 6503
  · exact chunk_at run6450 (by omega) (by omega)
  by_cases c10 : D < 6553
  · exact chunk_at run6500 (by omega) (by omega)
  by_cases c11 : D < 6603
  · exact chunk_at run6550 (by omega) (by omega)
  by_cases c12 : D < 6653
  · exact chunk_at run6600 (by omega) (by omega)
  by_cases c13 : D < 6703
  · exact chunk_at run6650 (by omega) (by omega)
  by_cases c14 : D < 6753
  · exact chunk_at run6700 (by omega) (by omega)
  by_cases c15 : D < 6803
  · exact chunk_at run6750 (by omega) (by omega)
  by_cases c16 : D < 6853
  · exact chunk_at run6800 (by omega) (by omega)
  by_cases c17 : D < 6903
  · exact chunk_at run6850 (by omega) (by omega)
  by_cases c18 : D < 6953
  · exact chunk_at run6900 (by omega) (by omega)
  exact chunk_at run6950 (by omega) (by omega)
end Go.Proofs.Ytppdaagiofcmkaa.Chk
