import Derived.Test.YtppdaagiofcmkaaRep1
/- The check of the representations, run by the kernel at the discriminants of a thousand. -/
namespace Go.Proofs.Ytppdaagiofcmkaa.Rep
set_option maxRecDepth 100000
theorem run1000 : chunk 1003 50 = true := by decide +kernel
theorem run1050 : chunk 1053 50 = true := by decide +kernel
theorem run1100 : chunk 1103 50 = true := by decide +kernel
theorem run1150 : chunk 1153 50 = true := by decide +kernel
theorem run1200 : chunk 1203 50 = true := by decide +kernel
theorem run1250 : chunk 1253 50 = true := by decide +kernel
theorem run1300 : chunk 1303 50 = true := by decide +kernel
theorem run1350 : chunk 1353 50 = true := by decide +kernel
theorem run1400 : chunk 1403 50 = true := by decide +kernel
theorem run1450 : chunk 1453 50 = true := by decide +kernel
theorem run1500 : chunk 1503 50 = true := by decide +kernel
theorem run1550 : chunk 1553 50 = true := by decide +kernel
theorem run1600 : chunk 1603 50 = true := by decide +kernel
theorem run1650 : chunk 1653 50 = true := by decide +kernel
theorem run1700 : chunk 1703 50 = true := by decide +kernel
theorem run1750 : chunk 1753 50 = true := by decide +kernel
theorem run1800 : chunk 1803 50 = true := by decide +kernel
theorem run1850 : chunk 1853 50 = true := by decide +kernel
theorem run1900 : chunk 1903 50 = true := by decide +kernel
theorem run1950 : chunk 1953 50 = true := by decide +kernel
theorem part1 (D : Nat) (h1 : 1003 ≤ D) (h2 : D < 2003) : rep D = true := by
  by_cases c0 : D < 1053
  · exact chunk_at run1000 (by omega) (by omega)
  by_cases c1 : D < 1103
  · exact chunk_at run1050 (by omega) (by omega)
  by_cases c2 : D < 1153
  · exact chunk_at run1100 (by omega) (by omega)
  by_cases c3 : D < 1203
  · exact chunk_at run1150 (by omega) (by omega)
  by_cases c4 : D < 1253
  · exact chunk_at run1200 (by omega) (by omega)
  by_cases c5 : D < 1303
  · exact chunk_at run1250 (by omega) (by omega)
  by_cases c6 : D < 1353
  · exact chunk_at run1300 (by omega) (by omega)
  by_cases c7 : D < 1403
  · exact chunk_at run1350 (by omega) (by omega)
  by_cases c8 : D < 1453
  · exact chunk_at run1400 (by omega) (by omega)
  by_cases c9 : D < 1503
  · exact chunk_at run1450 (by omega) (by omega)
  by_cases c10 : D < 1553
  · exact chunk_at run1500 (by omega) (by omega)
  by_cases c11 : D < 1603
  · exact chunk_at run1550 (by omega) (by omega)
  by_cases c12 : D < 1653
  · exact chunk_at run1600 (by omega) (by omega)
  by_cases c13 : D < 1703
  · exact chunk_at run1650 (by omega) (by omega)
  by_cases c14 : D < 1753
  · exact chunk_at run1700 (by omega) (by omega)
  by_cases c15 : D < 1803
  · exact chunk_at run1750 (by omega) (by omega)
  by_cases c16 : D < 1853
  · exact chunk_at run1800 (by omega) (by omega)
  by_cases c17 : D < 1903
  · exact chunk_at run1850 (by omega) (by omega)
  by_cases c18 : D < 1953
  · exact chunk_at run1900 (by omega) (by omega)
  exact chunk_at run1950 (by omega) (by omega)
end Go.Proofs.Ytppdaagiofcmkaa.Rep
