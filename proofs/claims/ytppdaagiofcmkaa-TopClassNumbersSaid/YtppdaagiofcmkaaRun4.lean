import Derived.Test.YtppdaagiofcmkaaChk3
/- The check, run by the kernel at the discriminants of a thousand. -/
namespace Go.Proofs.Ytppdaagiofcmkaa.Chk
set_option maxRecDepth 100000
theorem run4000 : chunk MML 4003 50 = true := by decide +kernel
theorem run4050 : chunk MML 4053 50 = true := by decide +kernel
theorem run4100 : chunk MML 4103 50 = true := by decide +kernel
theorem run4150 : chunk MML 4153 50 = true := by decide +kernel
theorem run4200 : chunk MML 4203 50 = true := by decide +kernel
theorem run4250 : chunk MML 4253 50 = true := by decide +kernel
theorem run4300 : chunk MML 4303 50 = true := by decide +kernel
theorem run4350 : chunk MML 4353 50 = true := by decide +kernel
theorem run4400 : chunk MML 4403 50 = true := by decide +kernel
theorem run4450 : chunk MML 4453 50 = true := by decide +kernel
theorem run4500 : chunk MML 4503 50 = true := by decide +kernel
theorem run4550 : chunk MML 4553 50 = true := by decide +kernel
theorem run4600 : chunk MML 4603 50 = true := by decide +kernel
theorem run4650 : chunk MML 4653 50 = true := by decide +kernel
theorem run4700 : chunk MML 4703 50 = true := by decide +kernel
theorem run4750 : chunk MML 4753 50 = true := by decide +kernel
theorem run4800 : chunk MML 4803 50 = true := by decide +kernel
theorem run4850 : chunk MML 4853 50 = true := by decide +kernel
theorem run4900 : chunk MML 4903 50 = true := by decide +kernel
theorem run4950 : chunk MML 4953 50 = true := by decide +kernel
theorem part4 (D : Nat) (h1 : 4003 ≤ D) (h2 : D < 5003) : chk MML D = true := by
  by_cases c0 : D < 4053
  · exact chunk_at run4000 (by omega) (by omega)
  by_cases c1 : D < 4103
  · exact chunk_at run4050 (by omega) (by omega)
  by_cases c2 : D < 4153
  · exact chunk_at run4100 (by omega) (by omega)
  by_cases c3 : D < 4203
  · exact chunk_at run4150 (by omega) (by omega)
  by_cases c4 : D < 4253
  · exact chunk_at run4200 (by omega) (by omega)
  by_cases c5 : D < 4303
  · exact chunk_at run4250 (by omega) (by omega)
  by_cases c6 : D < 4353
  · exact chunk_at run4300 (by omega) (by omega)
  by_cases c7 : D < 4403
  · exact chunk_at run4350 (by omega) (by omega)
  by_cases c8 : D < 4453
  · exact chunk_at run4400 (by omega) (by omega)
  by_cases c9 : D < 4503
  · exact chunk_at run4450 (by omega) (by omega)
  by_cases c10 : D < 4553
  · exact chunk_at run4500 (by omega) (by omega)
  by_cases c11 : D < 4603
  · exact chunk_at run4550 (by omega) (by omega)
  by_cases c12 : D < 4653
  · exact chunk_at run4600 (by omega) (by omega)
  by_cases c13 : D < 4703
  · exact chunk_at run4650 (by omega) (by omega)
  by_cases c14 : D < 4753
  · exact chunk_at run4700 (by omega) (by omega)
  by_cases c15 : D < 4803
  · exact chunk_at run4750 (by omega) (by omega)
  by_cases c16 : D < 4853
  · exact chunk_at run4800 (by omega) (by omega)
  by_cases c17 : D < 4903
  · exact chunk_at run4850 (by omega) (by omega)
  by_cases c18 : D < 4953
  · exact chunk_at run4900 (by omega) (by omega)
  exact chunk_at run4950 (by omega) (by omega)
end Go.Proofs.Ytppdaagiofcmkaa.Chk
