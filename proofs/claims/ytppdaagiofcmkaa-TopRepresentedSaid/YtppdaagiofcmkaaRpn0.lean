import Derived.Test.YtppdaagiofcmkaaRep1
/- The check of the representations, run by the kernel at the discriminants of a thousand. -/
namespace Go.Proofs.Ytppdaagiofcmkaa.Rep
set_option maxRecDepth 100000
theorem run0 : chunk 3 50 = true := by decide +kernel
theorem run50 : chunk 53 50 = true := by decide +kernel
theorem run100 : chunk 103 50 = true := by decide +kernel
theorem run150 : chunk 153 50 = true := by decide +kernel
theorem run200 : chunk 203 50 = true := by decide +kernel
theorem run250 : chunk 253 50 = true := by decide +kernel
theorem run300 : chunk 303 50 = true := by decide +kernel
theorem run350 : chunk 353 50 = true := by decide +kernel
theorem run400 : chunk 403 50 = true := by decide +kernel
theorem run450 : chunk 453 50 = true := by decide +kernel
theorem run500 : chunk 503 50 = true := by decide +kernel
theorem run550 : chunk 553 50 = true := by decide +kernel
theorem run600 : chunk 603 50 = true := by decide +kernel
theorem run650 : chunk 653 50 = true := by decide +kernel
theorem run700 : chunk 703 50 = true := by decide +kernel
theorem run750 : chunk 753 50 = true := by decide +kernel
theorem run800 : chunk 803 50 = true := by decide +kernel
theorem run850 : chunk 853 50 = true := by decide +kernel
theorem run900 : chunk 903 50 = true := by decide +kernel
theorem run950 : chunk 953 50 = true := by decide +kernel
theorem part0 (D : Nat) (h1 : 3 ≤ D) (h2 : D < 1003) : rep D = true := by
  by_cases c0 : D < 53
  · exact chunk_at run0 (by omega) (by omega)
  by_cases c1 : D < 103
  · exact chunk_at run50 (by omega) (by omega)
  by_cases c2 : D < 153
  · exact chunk_at run100 (by omega) (by omega)
  by_cases c3 : D < 203
  · exact chunk_at run150 (by omega) (by omega)
  by_cases c4 : D < 253
  · exact chunk_at run200 (by omega) (by omega)
  by_cases c5 : D < 303
  · exact chunk_at run250 (by omega) (by omega)
  by_cases c6 : D < 353
  · exact chunk_at run300 (by omega) (by omega)
  by_cases c7 : D < 403
  · exact chunk_at run350 (by omega) (by omega)
  by_cases c8 : D < 453
  · exact chunk_at run400 (by omega) (by omega)
  by_cases c9 : D < 503
  · exact chunk_at run450 (by omega) (by omega)
  by_cases c10 : D < 553
  · exact chunk_at run500 (by omega) (by omega)
  by_cases c11 : D < 603
  · exact chunk_at run550 (by omega) (by omega)
  by_cases c12 : D < 653
  · exact chunk_at run600 (by omega) (by omega)
  by_cases c13 : D < 703
  · exact chunk_at run650 (by omega) (by omega)
  by_cases c14 : D < 753
  · exact chunk_at run700 (by omega) (by omega)
  by_cases c15 : D < 803
  · exact chunk_at run750 (by omega) (by omega)
  by_cases c16 : D < 853
  · exact chunk_at run800 (by omega) (by omega)
  by_cases c17 : D < 903
  · exact chunk_at run850 (by omega) (by omega)
  by_cases c18 : D < 953
  · exact chunk_at run900 (by omega) (by omega)
  exact chunk_at run950 (by omega) (by omega)
end Go.Proofs.Ytppdaagiofcmkaa.Rep
