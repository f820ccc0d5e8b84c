/- A symbolic run of functions' texts, proved, and what it tells of the functions that the law InsBlanks reaches; no conditions. -/
import Derived.Test.YtjbnkdpeohbakaaDoorKInsBlanks2
import Derived.ProofKit
import Derived.Lib.SmallJoins
import Derived.OpenShut
set_option linter.unusedVariables false
set_option linter.unusedSimpArgs false
namespace Go.Proofs.YtjbnkdpeohbakaaDoor.X.Ip
open Go Go.RowKit Go.Proofs.YtjbnkdpeohbakaaDoorW.PrintWords Go.Proofs.YtjbnkdpeohbakaaDoor.Base Go.Proofs.YtjbnkdpeohbakaaDoor.X
section
variable {P : Program} {R : Root} {nt : Nat} {Rp : Ending → World → Prop} {t e : Tree}
theorem ok_brT (h : ok P R nt Rp t) : ok P R nt Rp (.br true t e) := ⟨fun _ => h, fun h => absurd h.symm Bool.false_ne_true⟩
theorem ok_brF (h : ok P R nt Rp e) : ok P R nt Rp (.br false t e) := ⟨fun h => absurd h Bool.false_ne_true, fun _ => h⟩
end
theorem far_eq (x : In) : farF x = !(decide (-999999999999999999 ≤ x.n) && decide (x.n ≤ 999999999999999999)) := by
  unfold farF
  by_cases h1 : x.n < -999999999999999999
  · have h2 : ¬ (-999999999999999999 ≤ x.n) := by omega
    simp [h1, h2]
  · have h2 : -999999999999999999 ≤ x.n := by omega
    simp only [h1, h2, decide_true, decide_false, cond_false, Bool.true_and]
    by_cases h3 : x.n > 999999999999999999
    · have h4 : ¬ (x.n ≤ 999999999999999999) := by omega
      simp [h3, h4]
    · have h4 : x.n ≤ 999999999999999999 := by omega
      simp [h3, h4]
theorem may_1 (a b c n : Int) : mayL ⟨1, a, b, c, n⟩ (hasS 1) (hasS 1).size 0 ⟨1, a, b, c, n⟩ = mayF ⟨1, a, b, c, n⟩ := by
  show (bif farF ⟨1, a, b, c, n⟩ then false else bif (bif (bif (true && (true && ((b == 0) && ((c == 0) && true)))) then inF a else false) then inF b else false) then inF c else false) = (true && true && !(false && decide (a > 13)) && inF a && inF b && inF c && (true || a == 0) && (false || b == 0) && (false || c == 0) && (decide (-999999999999999999 ≤ n) && decide (n ≤ 999999999999999999)))
  rw [far_eq]
  generalize inF a = ia
  generalize inF b = ib
  generalize inF c = ic
  generalize (decide (-999999999999999999 ≤ n) && decide (n ≤ 999999999999999999)) = nn
  generalize (a == 0) = a0
  generalize (b == 0) = b0
  generalize (c == 0) = c0
  generalize decide (a > 13) = a13
  cases ia <;> cases ib <;> cases ic <;> (revert nn a0 b0 c0 a13; decide)
theorem may_2 (a b c n : Int) : mayL ⟨2, a, b, c, n⟩ (hasS 2) (hasS 2).size 0 ⟨2, a, b, c, n⟩ = mayF ⟨2, a, b, c, n⟩ := by
  show (bif (bif (bif (true && (true && (true && ((c == 0) && (n == 0))))) then inF a else false) then inF b else false) then inF c else false) = (true && true && !(false && decide (a > 13)) && inF a && inF b && inF c && (true || a == 0) && (true || b == 0) && (false || c == 0) && (n == 0))
  generalize inF a = ia
  generalize inF b = ib
  generalize inF c = ic
  generalize (n == 0) = n0
  generalize (a == 0) = a0
  generalize (b == 0) = b0
  generalize (c == 0) = c0
  generalize decide (a > 13) = a13
  cases ia <;> cases ib <;> cases ic <;> (revert n0 a0 b0 c0 a13; decide)
theorem may_3 (a b c n : Int) : mayL ⟨3, a, b, c, n⟩ (hasS 3) (hasS 3).size 0 ⟨3, a, b, c, n⟩ = mayF ⟨3, a, b, c, n⟩ := by
  show (bif (bif (bif (true && (true && (true && (true && (n == 0))))) then inF a else false) then inF b else false) then inF c else false) = (true && true && !(false && decide (a > 13)) && inF a && inF b && inF c && (true || a == 0) && (true || b == 0) && (true || c == 0) && (n == 0))
  generalize inF a = ia
  generalize inF b = ib
  generalize inF c = ic
  generalize (n == 0) = n0
  generalize (a == 0) = a0
  generalize (b == 0) = b0
  generalize (c == 0) = c0
  generalize decide (a > 13) = a13
  cases ia <;> cases ib <;> cases ic <;> (revert n0 a0 b0 c0 a13; decide)
theorem may_4 (a b c n : Int) : mayL ⟨4, a, b, c, n⟩ (hasS 4) (hasS 4).size 0 ⟨4, a, b, c, n⟩ = mayF ⟨4, a, b, c, n⟩ := by
  show (bif farF ⟨4, a, b, c, n⟩ then false else bif (bif (bif (true && (true && (true && ((c == 0) && true)))) then inF a else false) then inF b else false) then inF c else false) = (true && true && !(false && decide (a > 13)) && inF a && inF b && inF c && (true || a == 0) && (true || b == 0) && (false || c == 0) && (decide (-999999999999999999 ≤ n) && decide (n ≤ 999999999999999999)))
  rw [far_eq]
  generalize inF a = ia
  generalize inF b = ib
  generalize inF c = ic
  generalize (decide (-999999999999999999 ≤ n) && decide (n ≤ 999999999999999999)) = nn
  generalize (a == 0) = a0
  generalize (b == 0) = b0
  generalize (c == 0) = c0
  generalize decide (a > 13) = a13
  cases ia <;> cases ib <;> cases ic <;> (revert nn a0 b0 c0 a13; decide)
theorem may_5 (a b c n : Int) : mayL ⟨5, a, b, c, n⟩ (hasS 5) (hasS 5).size 0 ⟨5, a, b, c, n⟩ = mayF ⟨5, a, b, c, n⟩ := by
  show (bif farF ⟨5, a, b, c, n⟩ then false else bif (bif (bif (true && (true && (true && ((c == 0) && true)))) then inF a else false) then inF b else false) then inF c else false) = (true && true && !(false && decide (a > 13)) && inF a && inF b && inF c && (true || a == 0) && (true || b == 0) && (false || c == 0) && (decide (-999999999999999999 ≤ n) && decide (n ≤ 999999999999999999)))
  rw [far_eq]
  generalize inF a = ia
  generalize inF b = ib
  generalize inF c = ic
  generalize (decide (-999999999999999999 ≤ n) && decide (n ≤ 999999999999999999)) = nn
  generalize (a == 0) = a0
  generalize (b == 0) = b0
  generalize (c == 0) = c0
  generalize decide (a > 13) = a13
  cases ia <;> cases ib <;> cases ic <;> (revert nn a0 b0 c0 a13; decide)
theorem may_6 (a b c n : Int) : mayL ⟨6, a, b, c, n⟩ (hasS 6) (hasS 6).size 0 ⟨6, a, b, c, n⟩ = mayF ⟨6, a, b, c, n⟩ := by
  show (bif farF ⟨6, a, b, c, n⟩ then false else bif (bif (bif (true && (true && (true && ((c == 0) && true)))) then inF a else false) then inF b else false) then inF c else false) = (true && true && !(false && decide (a > 13)) && inF a && inF b && inF c && (true || a == 0) && (true || b == 0) && (false || c == 0) && (decide (-999999999999999999 ≤ n) && decide (n ≤ 999999999999999999)))
  rw [far_eq]
  generalize inF a = ia
  generalize inF b = ib
  generalize inF c = ic
  generalize (decide (-999999999999999999 ≤ n) && decide (n ≤ 999999999999999999)) = nn
  generalize (a == 0) = a0
  generalize (b == 0) = b0
  generalize (c == 0) = c0
  generalize decide (a > 13) = a13
  cases ia <;> cases ib <;> cases ic <;> (revert nn a0 b0 c0 a13; decide)
theorem may_7 (a b c n : Int) (h7 : decide (a > 13) = false) : mayL ⟨7, a, b, c, n⟩ (hasS 7) (hasS 7).size 0 ⟨7, a, b, c, n⟩ = mayF ⟨7, a, b, c, n⟩ := by
  show (bif farF ⟨7, a, b, c, n⟩ then false else bif (bif (bif (true && (true && (true && ((c == 0) && true)))) then inF a else false) then inF b else false) then inF c else false) = (true && true && !(true && decide (a > 13)) && inF a && inF b && inF c && (true || a == 0) && (true || b == 0) && (false || c == 0) && (decide (-999999999999999999 ≤ n) && decide (n ≤ 999999999999999999)))
  rw [far_eq]
  rw [h7]
  generalize inF a = ia
  generalize inF b = ib
  generalize inF c = ic
  generalize (decide (-999999999999999999 ≤ n) && decide (n ≤ 999999999999999999)) = nn
  generalize (a == 0) = a0
  generalize (b == 0) = b0
  generalize (c == 0) = c0
  cases ia <;> cases ib <;> cases ic <;> (revert nn a0 b0 c0; decide)
theorem may_8 (a b c n : Int) : mayL ⟨8, a, b, c, n⟩ (hasS 8) (hasS 8).size 0 ⟨8, a, b, c, n⟩ = mayF ⟨8, a, b, c, n⟩ := by
  show (bif (bif (bif (true && ((a == 0) && ((b == 0) && ((c == 0) && true)))) then inF a else false) then inF b else false) then inF c else false) = (true && true && !(false && decide (a > 13)) && inF a && inF b && inF c && (false || a == 0) && (false || b == 0) && (false || c == 0) && (true))
  generalize inF a = ia
  generalize inF b = ib
  generalize inF c = ic
  generalize (a == 0) = a0
  generalize (b == 0) = b0
  generalize (c == 0) = c0
  generalize decide (a > 13) = a13
  cases ia <;> cases ib <;> cases ic <;> (revert a0 b0 c0 a13; decide)
theorem may_9 (a b c n : Int) : mayL ⟨9, a, b, c, n⟩ (hasS 9) (hasS 9).size 0 ⟨9, a, b, c, n⟩ = mayF ⟨9, a, b, c, n⟩ := by
  show (bif (bif (bif (true && (true && (true && ((c == 0) && true)))) then inF a else false) then inF b else false) then inF c else false) = (true && true && !(false && decide (a > 13)) && inF a && inF b && inF c && (true || a == 0) && (true || b == 0) && (false || c == 0) && (true))
  generalize inF a = ia
  generalize inF b = ib
  generalize inF c = ic
  generalize (a == 0) = a0
  generalize (b == 0) = b0
  generalize (c == 0) = c0
  generalize decide (a > 13) = a13
  cases ia <;> cases ib <;> cases ic <;> (revert a0 b0 c0 a13; decide)
theorem may_10 (a b c n : Int) : mayL ⟨10, a, b, c, n⟩ (hasS 10) (hasS 10).size 0 ⟨10, a, b, c, n⟩ = mayF ⟨10, a, b, c, n⟩ := by
  show (bif (bif (bif (true && (true && (true && ((c == 0) && true)))) then inF a else false) then inF b else false) then inF c else false) = (true && true && !(false && decide (a > 13)) && inF a && inF b && inF c && (true || a == 0) && (true || b == 0) && (false || c == 0) && (true))
  generalize inF a = ia
  generalize inF b = ib
  generalize inF c = ic
  generalize (a == 0) = a0
  generalize (b == 0) = b0
  generalize (c == 0) = c0
  generalize decide (a > 13) = a13
  cases ia <;> cases ib <;> cases ic <;> (revert a0 b0 c0 a13; decide)
theorem may_11 (a b c n : Int) : mayL ⟨11, a, b, c, n⟩ (hasS 11) (hasS 11).size 0 ⟨11, a, b, c, n⟩ = mayF ⟨11, a, b, c, n⟩ := by
  show (bif (bif (bif (true && (true && (true && ((c == 0) && true)))) then inF a else false) then inF b else false) then inF c else false) = (true && true && !(false && decide (a > 13)) && inF a && inF b && inF c && (true || a == 0) && (true || b == 0) && (false || c == 0) && (true))
  generalize inF a = ia
  generalize inF b = ib
  generalize inF c = ic
  generalize (a == 0) = a0
  generalize (b == 0) = b0
  generalize (c == 0) = c0
  generalize decide (a > 13) = a13
  cases ia <;> cases ib <;> cases ic <;> (revert a0 b0 c0 a13; decide)
theorem may_12 (a b c n : Int) : mayL ⟨12, a, b, c, n⟩ (hasS 12) (hasS 12).size 0 ⟨12, a, b, c, n⟩ = mayF ⟨12, a, b, c, n⟩ := by
  show (bif (bif (bif (true && ((a == 0) && ((b == 0) && ((c == 0) && true)))) then inF a else false) then inF b else false) then inF c else false) = (true && true && !(false && decide (a > 13)) && inF a && inF b && inF c && (false || a == 0) && (false || b == 0) && (false || c == 0) && (true))
  generalize inF a = ia
  generalize inF b = ib
  generalize inF c = ic
  generalize (a == 0) = a0
  generalize (b == 0) = b0
  generalize (c == 0) = c0
  generalize decide (a > 13) = a13
  cases ia <;> cases ib <;> cases ic <;> (revert a0 b0 c0 a13; decide)
theorem may_13 (a b c n : Int) : mayL ⟨13, a, b, c, n⟩ (hasS 13) (hasS 13).size 0 ⟨13, a, b, c, n⟩ = mayF ⟨13, a, b, c, n⟩ := by
  show (bif (bif (bif (true && ((a == 0) && ((b == 0) && ((c == 0) && (n == 0))))) then inF a else false) then inF b else false) then inF c else false) = (true && true && !(false && decide (a > 13)) && inF a && inF b && inF c && (false || a == 0) && (false || b == 0) && (false || c == 0) && (n == 0))
  generalize inF a = ia
  generalize inF b = ib
  generalize inF c = ic
  generalize (n == 0) = n0
  generalize (a == 0) = a0
  generalize (b == 0) = b0
  generalize (c == 0) = c0
  generalize decide (a > 13) = a13
  cases ia <;> cases ib <;> cases ic <;> (revert n0 a0 b0 c0 a13; decide)
theorem may_14 (a b c n : Int) : mayL ⟨14, a, b, c, n⟩ (hasS 14) (hasS 14).size 0 ⟨14, a, b, c, n⟩ = mayF ⟨14, a, b, c, n⟩ := by
  show (bif (bif (bif (true && (true && ((b == 0) && ((c == 0) && (n == 0))))) then inF a else false) then inF b else false) then inF c else false) = (true && true && !(false && decide (a > 13)) && inF a && inF b && inF c && (true || a == 0) && (false || b == 0) && (false || c == 0) && (n == 0))
  generalize inF a = ia
  generalize inF b = ib
  generalize inF c = ic
  generalize (n == 0) = n0
  generalize (a == 0) = a0
  generalize (b == 0) = b0
  generalize (c == 0) = c0
  generalize decide (a > 13) = a13
  cases ia <;> cases ib <;> cases ic <;> (revert n0 a0 b0 c0 a13; decide)
theorem may_15 (a b c n : Int) : mayL ⟨15, a, b, c, n⟩ (hasS 15) (hasS 15).size 0 ⟨15, a, b, c, n⟩ = mayF ⟨15, a, b, c, n⟩ := by
  show (bif (bif (bif (true && (true && ((b == 0) && ((c == 0) && (n == 0))))) then inF a else false) then inF b else false) then inF c else false) = (true && true && !(false && decide (a > 13)) && inF a && inF b && inF c && (true || a == 0) && (false || b == 0) && (false || c == 0) && (n == 0))
  generalize inF a = ia
  generalize inF b = ib
  generalize inF c = ic
  generalize (n == 0) = n0
  generalize (a == 0) = a0
  generalize (b == 0) = b0
  generalize (c == 0) = c0
  generalize decide (a > 13) = a13
  cases ia <;> cases ib <;> cases ic <;> (revert n0 a0 b0 c0 a13; decide)
theorem may_16 (a b c n : Int) : mayL ⟨16, a, b, c, n⟩ (hasS 16) (hasS 16).size 0 ⟨16, a, b, c, n⟩ = mayF ⟨16, a, b, c, n⟩ := by
  show (bif farF ⟨16, a, b, c, n⟩ then false else bif (bif (bif (true && (true && ((b == 0) && ((c == 0) && true)))) then inF a else false) then inF b else false) then inF c else false) = (true && true && !(false && decide (a > 13)) && inF a && inF b && inF c && (true || a == 0) && (false || b == 0) && (false || c == 0) && (decide (-999999999999999999 ≤ n) && decide (n ≤ 999999999999999999)))
  rw [far_eq]
  generalize inF a = ia
  generalize inF b = ib
  generalize inF c = ic
  generalize (decide (-999999999999999999 ≤ n) && decide (n ≤ 999999999999999999)) = nn
  generalize (a == 0) = a0
  generalize (b == 0) = b0
  generalize (c == 0) = c0
  generalize decide (a > 13) = a13
  cases ia <;> cases ib <;> cases ic <;> (revert nn a0 b0 c0 a13; decide)
theorem may_17 (a b c n : Int) : mayL ⟨17, a, b, c, n⟩ (hasS 17) (hasS 17).size 0 ⟨17, a, b, c, n⟩ = mayF ⟨17, a, b, c, n⟩ := by
  show (bif (bif (bif (true && (true && ((b == 0) && ((c == 0) && (n == 0))))) then inF a else false) then inF b else false) then inF c else false) = (true && true && !(false && decide (a > 13)) && inF a && inF b && inF c && (true || a == 0) && (false || b == 0) && (false || c == 0) && (n == 0))
  generalize inF a = ia
  generalize inF b = ib
  generalize inF c = ic
  generalize (n == 0) = n0
  generalize (a == 0) = a0
  generalize (b == 0) = b0
  generalize (c == 0) = c0
  generalize decide (a > 13) = a13
  cases ia <;> cases ib <;> cases ic <;> (revert n0 a0 b0 c0 a13; decide)
theorem may_18 (a b c n : Int) : mayL ⟨18, a, b, c, n⟩ (hasS 18) (hasS 18).size 0 ⟨18, a, b, c, n⟩ = mayF ⟨18, a, b, c, n⟩ := by
  show (bif (bif (bif (true && (true && ((b == 0) && ((c == 0) && (n == 0))))) then inF a else false) then inF b else false) then inF c else false) = (true && true && !(false && decide (a > 13)) && inF a && inF b && inF c && (true || a == 0) && (false || b == 0) && (false || c == 0) && (n == 0))
  generalize inF a = ia
  generalize inF b = ib
  generalize inF c = ic
  generalize (n == 0) = n0
  generalize (a == 0) = a0
  generalize (b == 0) = b0
  generalize (c == 0) = c0
  generalize decide (a > 13) = a13
  cases ia <;> cases ib <;> cases ic <;> (revert n0 a0 b0 c0 a13; decide)
theorem may_19 (a b c n : Int) : mayL ⟨19, a, b, c, n⟩ (hasS 19) (hasS 19).size 0 ⟨19, a, b, c, n⟩ = mayF ⟨19, a, b, c, n⟩ := by
  show (bif (bif (bif (true && (true && ((b == 0) && ((c == 0) && (n == 0))))) then inF a else false) then inF b else false) then inF c else false) = (true && true && !(false && decide (a > 13)) && inF a && inF b && inF c && (true || a == 0) && (false || b == 0) && (false || c == 0) && (n == 0))
  generalize inF a = ia
  generalize inF b = ib
  generalize inF c = ic
  generalize (n == 0) = n0
  generalize (a == 0) = a0
  generalize (b == 0) = b0
  generalize (c == 0) = c0
  generalize decide (a > 13) = a13
  cases ia <;> cases ib <;> cases ic <;> (revert n0 a0 b0 c0 a13; decide)
theorem may_20 (a b c n : Int) : mayL ⟨20, a, b, c, n⟩ (hasS 20) (hasS 20).size 0 ⟨20, a, b, c, n⟩ = mayF ⟨20, a, b, c, n⟩ := by
  show (bif (bif (bif (true && ((a == 0) && ((b == 0) && ((c == 0) && (n == 0))))) then inF a else false) then inF b else false) then inF c else false) = (true && true && !(false && decide (a > 13)) && inF a && inF b && inF c && (false || a == 0) && (false || b == 0) && (false || c == 0) && (n == 0))
  generalize inF a = ia
  generalize inF b = ib
  generalize inF c = ic
  generalize (n == 0) = n0
  generalize (a == 0) = a0
  generalize (b == 0) = b0
  generalize (c == 0) = c0
  generalize decide (a > 13) = a13
  cases ia <;> cases ib <;> cases ic <;> (revert n0 a0 b0 c0 a13; decide)
theorem may_21 (a b c n : Int) : mayL ⟨21, a, b, c, n⟩ (hasS 21) (hasS 21).size 0 ⟨21, a, b, c, n⟩ = mayF ⟨21, a, b, c, n⟩ := by
  show (bif farF ⟨21, a, b, c, n⟩ then false else bif (bif (bif (true && (true && ((b == 0) && ((c == 0) && true)))) then inF a else false) then inF b else false) then inF c else false) = (true && true && !(false && decide (a > 13)) && inF a && inF b && inF c && (true || a == 0) && (false || b == 0) && (false || c == 0) && (decide (-999999999999999999 ≤ n) && decide (n ≤ 999999999999999999)))
  rw [far_eq]
  generalize inF a = ia
  generalize inF b = ib
  generalize inF c = ic
  generalize (decide (-999999999999999999 ≤ n) && decide (n ≤ 999999999999999999)) = nn
  generalize (a == 0) = a0
  generalize (b == 0) = b0
  generalize (c == 0) = c0
  generalize decide (a > 13) = a13
  cases ia <;> cases ib <;> cases ic <;> (revert nn a0 b0 c0 a13; decide)
theorem may_22 (a b c n : Int) : mayL ⟨22, a, b, c, n⟩ (hasS 22) (hasS 22).size 0 ⟨22, a, b, c, n⟩ = mayF ⟨22, a, b, c, n⟩ := by
  show (bif (bif (bif (true && (true && ((b == 0) && ((c == 0) && (n == 0))))) then inF a else false) then inF b else false) then inF c else false) = (true && true && !(false && decide (a > 13)) && inF a && inF b && inF c && (true || a == 0) && (false || b == 0) && (false || c == 0) && (n == 0))
  generalize inF a = ia
  generalize inF b = ib
  generalize inF c = ic
  generalize (n == 0) = n0
  generalize (a == 0) = a0
  generalize (b == 0) = b0
  generalize (c == 0) = c0
  generalize decide (a > 13) = a13
  cases ia <;> cases ib <;> cases ic <;> (revert n0 a0 b0 c0 a13; decide)

theorem may_eq (x : In) (h1 : 1 ≤ x.op) (h2 : x.op ≤ 22) (h7 : (bif x.op == 7 then decide (x.a > 13) else false) = false) : mayL x (hasS x.op.toNat) (hasS x.op.toNat).size 0 x = mayF x := by
  obtain ⟨op, a, b, c, n⟩ := x
  have h1 : 1 ≤ op := h1
  have h2 : op ≤ 22 := h2
  obtain ⟨k, rfl⟩ : ∃ k : Nat, op = k := ⟨op.toNat, by omega⟩
  have hk : k ≤ 22 := by omega
  have hk1 : 1 ≤ k := by omega
  match k, hk, hk1, h7 with
  | 1, _, _, _ => exact may_1 a b c n
  | 2, _, _, _ => exact may_2 a b c n
  | 3, _, _, _ => exact may_3 a b c n
  | 4, _, _, _ => exact may_4 a b c n
  | 5, _, _, _ => exact may_5 a b c n
  | 6, _, _, _ => exact may_6 a b c n
  | 7, _, _, h7 => exact may_7 a b c n h7
  | 8, _, _, _ => exact may_8 a b c n
  | 9, _, _, _ => exact may_9 a b c n
  | 10, _, _, _ => exact may_10 a b c n
  | 11, _, _, _ => exact may_11 a b c n
  | 12, _, _, _ => exact may_12 a b c n
  | 13, _, _, _ => exact may_13 a b c n
  | 14, _, _, _ => exact may_14 a b c n
  | 15, _, _, _ => exact may_15 a b c n
  | 16, _, _, _ => exact may_16 a b c n
  | 17, _, _, _ => exact may_17 a b c n
  | 18, _, _, _ => exact may_18 a b c n
  | 19, _, _, _ => exact may_19 a b c n
  | 20, _, _, _ => exact may_20 a b c n
  | 21, _, _, _ => exact may_21 a b c n
  | 22, _, _, _ => exact may_22 a b c n
  | 0, _, h, _ => exact absurd h (by omega)
  | k + 23, h, _, _ => exact absurd h (by omega)

theorem ascii_has (k : Nat) : asciiB (hasS k) = true := by
  match k with
  | 0 => simp [asciiB, hasS, shapeF]
  | 1 => simp [asciiB, hasS, shapeF]
  | 2 => simp [asciiB, hasS, shapeF]
  | 3 => simp [asciiB, hasS, shapeF]
  | 4 => simp [asciiB, hasS, shapeF]
  | 5 => simp [asciiB, hasS, shapeF]
  | 6 => simp [asciiB, hasS, shapeF]
  | 7 => simp [asciiB, hasS, shapeF]
  | 8 => simp [asciiB, hasS, shapeF]
  | 9 => simp [asciiB, hasS, shapeF]
  | 10 => simp [asciiB, hasS, shapeF]
  | 11 => simp [asciiB, hasS, shapeF]
  | 12 => simp [asciiB, hasS, shapeF]
  | 13 => simp [asciiB, hasS, shapeF]
  | 14 => simp [asciiB, hasS, shapeF]
  | 15 => simp [asciiB, hasS, shapeF]
  | 16 => simp [asciiB, hasS, shapeF]
  | 17 => simp [asciiB, hasS, shapeF]
  | 18 => simp [asciiB, hasS, shapeF]
  | 19 => simp [asciiB, hasS, shapeF]
  | 20 => simp [asciiB, hasS, shapeF]
  | 21 => simp [asciiB, hasS, shapeF]
  | 22 => simp [asciiB, hasS, shapeF]
  | k + 23 => simp [asciiB, hasS, shapeF]
theorem in_call : Callable Tryd.prog 30 := ⟨_, Tryd.func30, by kernel_rfl, rfl⟩
theorem in_local (n : Int) : (inC n).Local Tryd.prog 30 := by
  refine local_of Tryd.func30 rfl (tin_eq n) fun ν w => ?_
  repeat refine ok_chk' (fun h => h) ?_
  exact ok_leaf (fun _ => 0) [] [] trivial rfl trivial rfl
theorem mayL_step {x : In} {s : ByteArray} {p : Nat × In} (h : mayL x s (s.size - p.1) p.1 p.2 = mayL x s s.size 0 x) (hp : p.1 < s.size) (hc : (bt' s p.1 == 78 && farF x) = false) {b : In} (hb : b = zeroF p.2 (bt' s p.1)) : mayL x s (s.size - (p.1 + 1)) (p.1 + 1) b = mayL x s s.size 0 x := by
  rw [← h]
  obtain ⟨g, hg⟩ : ∃ g, s.size - p.1 = g + 1 := ⟨s.size - p.1 - 1, by omega⟩
  rw [hg, show s.size - (p.1 + 1) = g by omega, hb]
  simp only [mayL, hc, cond_false]
theorem mayL_far {x : In} {s : ByteArray} {p : Nat × In} (h : mayL x s (s.size - p.1) p.1 p.2 = mayL x s s.size 0 x) (hp : p.1 < s.size) (hc : (bt' s p.1 == 78 && farF x) = true) : mayL x s s.size 0 x = false := by
  rw [← h]
  obtain ⟨g, hg⟩ : ∃ g, s.size - p.1 = g + 1 := ⟨s.size - p.1 - 1, by omega⟩
  rw [hg]
  simp only [mayL, hc, cond_true]
theorem mayL_end {x : In} {s : ByteArray} {p : Nat × In} (h : mayL x s (s.size - p.1) p.1 p.2 = mayL x s s.size 0 x) (hp : ¬ p.1 < s.size) : mayL x s s.size 0 x = endF x p.2 := by
  rw [← h, show s.size - p.1 = 0 by omega]
  rfl
set_option maxHeartbeats 2000000 in
theorem may_local (x : In) : (mayC x).Local Tryd.prog 13 := by
  refine local_of Tryd.func13 rfl (tmay_eq x) fun ν w => ?_
  refine ok_chk' (fun h => h) (ok_br' (fun h1 => ?_) fun h1 => ?_)
  · have h1' : 1 ≤ x.op := by simp at h1; omega
    refine ok_callf' shapes_call (fits_of rfl rfl trivial fun c _ => ⟨⟨Nat.zero_le _, rfl⟩, ⟨rfl, rfl⟩, ⟨⟨EntRel.rw rfl rfl (fun _ _ => rfl) fun _ _ => rfl, rfl, (fun h => by cases h), .inr rfl⟩, trivial⟩⟩) (shapes_local 1) fun c _ => ?_
    repeat refine ok_chk' (by first | rfl | exact fun h => h | exact fun _ => rfl | (exact fun h => by rw [h]; rfl) | assumption | exact EntRel.box' rfl rfl rfl rfl rfl | exact EntRel.rw rfl rfl (fun _ _ => rfl) fun _ _ => rfl | omega | (simp_all; done) | (simp_all; omega)) ?_
    refine ok_br' (fun h2 => ?_) fun h2 => ?_
    · have hres : mayF x = false := by
        unfold mayF
        cases h3 : decide (x.op ≤ 22) with
        | false => simp
        | true =>
          have h4 : x.op == 7 ∧ x.a > 13 := by simp at h2 h3; exact ⟨by simp; omega, by omega⟩
          simp [h4.1, h4.2]
      exact ok_leaf (fun _ => 0) [] [] trivial (by show _ = XV.nilz _ (XV.ren _ (bool (mayF x))); rw [hres]; rfl) trivial rfl
    · have h3 : x.op ≤ 22 := by simp at h2; omega
      have h7 : (bif x.op == 7 then decide (x.a > 13) else false) = false := by
        cases h4 : (bif x.op == 7 then decide (x.a > 13) else false) with
        | false => rfl
        | true => rw [show (bif x.op == 7 then decide (x.a > 13) else false) = true from h4] at h2; simp at h2
      have heq := may_eq x h1' h3 h7
      refine ok_callf' shapes_call (fits_of rfl rfl trivial fun c _ => ⟨⟨Nat.zero_le _, rfl⟩, ⟨rfl, rfl⟩, ⟨⟨EntRel.rw rfl rfl (fun _ _ => rfl) fun _ _ => rfl, rfl, (fun h => by cases h), .inr rfl⟩, trivial⟩⟩) (shapes_local 3) fun c _ => ?_
      repeat (refine ok_chk' rfl ?_)
      refine (ok_chk' ⟨by omega, by omega, by omega, Nat.one_pos⟩ (ok_chk' ⟨Nat.one_pos, by omega⟩ (ok_both' ?_ (ok_every' fun s => ?_))))
      · repeat (refine ok_chk' rfl ?_)
        exact ok_chk' (EntRel.box' rfl rfl rfl rfl rfl) (ok_chk' (EntRel.rw rfl rfl (fun _ _ => rfl) fun _ _ => rfl) (ok_chk' (EntRel.box' rfl rfl rfl rfl rfl) (ok_chk' (EntRel.rw rfl rfl (fun _ _ => rfl) fun _ _ => rfl) (ok_chk' (EntRel.box' rfl rfl rfl rfl rfl) trivial))))
      · have hp1 := s.2.1
        have hp := s.2.2
        refine ok_chk' ⟨Int.natCast_nonneg _, ascii_has _⟩ (ok_br' (fun hlt => ?_) fun hlt => ?_)
        · have hlt : s.1.1 < (hasS x.op.toNat).size := by simpa using hlt
          refine ok_br' (fun _ => ?_) fun h => by cases h
          refine ok_br' (fun c1 => ?_) fun c1 => ok_br' (fun c2 => ?_) fun c2 => ok_br' (fun c3 => ?_) fun c3 => ok_br' (fun c4 => ?_) fun c4 => ?_
          · have c1 : (bt' (hasS x.op.toNat) s.1.1 == 65) = true := by simpa using c1
            have hc : (bt' (hasS x.op.toNat) s.1.1 == 78 && farF x) = false := by simp at c1; simp [c1]
            (refine ok_some' ⟨(s.1.1 + 1, zeroF s.1.2 (bt' (hasS x.op.toNat) s.1.1)), hlt, mayL_step hp hlt hc rfl⟩ (ok_chk' (by show _ - (s.1.1 + 1) < _ - s.1.1; omega) ?_)); (repeat (refine ok_chk' rfl ?_)); (exact ok_chk' (EntRel.box' rfl rfl rfl rfl rfl) (ok_chk' (EntRel.rw rfl rfl (fun _ _ => rfl) fun _ _ => rfl) (ok_chk' (EntRel.box' (by simp only [zeroF, *, cond_true, cond_false]; rfl) rfl rfl rfl rfl) (ok_chk' (EntRel.rw rfl rfl (fun _ _ => rfl) fun _ _ => rfl) (ok_chk' (EntRel.box' rfl rfl rfl rfl rfl) trivial)))))
          · have c1 : (bt' (hasS x.op.toNat) s.1.1 == 65) = false := by simpa using c1
            have c2 : (bt' (hasS x.op.toNat) s.1.1 == 66) = true := by simpa using c2
            have hc : (bt' (hasS x.op.toNat) s.1.1 == 78 && farF x) = false := by simp at c2; simp [c2]
            (refine ok_some' ⟨(s.1.1 + 1, zeroF s.1.2 (bt' (hasS x.op.toNat) s.1.1)), hlt, mayL_step hp hlt hc rfl⟩ (ok_chk' (by show _ - (s.1.1 + 1) < _ - s.1.1; omega) ?_)); (repeat (refine ok_chk' rfl ?_)); (exact ok_chk' (EntRel.box' rfl rfl rfl rfl rfl) (ok_chk' (EntRel.rw rfl rfl (fun _ _ => rfl) fun _ _ => rfl) (ok_chk' (EntRel.box' (by simp only [zeroF, *, cond_true, cond_false]; rfl) rfl rfl rfl rfl) (ok_chk' (EntRel.rw rfl rfl (fun _ _ => rfl) fun _ _ => rfl) (ok_chk' (EntRel.box' rfl rfl rfl rfl rfl) trivial)))))
          · have c1 : (bt' (hasS x.op.toNat) s.1.1 == 65) = false := by simpa using c1
            have c2 : (bt' (hasS x.op.toNat) s.1.1 == 66) = false := by simpa using c2
            have c3 : (bt' (hasS x.op.toNat) s.1.1 == 67) = true := by simpa using c3
            have hc : (bt' (hasS x.op.toNat) s.1.1 == 78 && farF x) = false := by simp at c3; simp [c3]
            (refine ok_some' ⟨(s.1.1 + 1, zeroF s.1.2 (bt' (hasS x.op.toNat) s.1.1)), hlt, mayL_step hp hlt hc rfl⟩ (ok_chk' (by show _ - (s.1.1 + 1) < _ - s.1.1; omega) ?_)); (repeat (refine ok_chk' rfl ?_)); (exact ok_chk' (EntRel.box' rfl rfl rfl rfl rfl) (ok_chk' (EntRel.rw rfl rfl (fun _ _ => rfl) fun _ _ => rfl) (ok_chk' (EntRel.box' (by simp only [zeroF, *, cond_true, cond_false]; rfl) rfl rfl rfl rfl) (ok_chk' (EntRel.rw rfl rfl (fun _ _ => rfl) fun _ _ => rfl) (ok_chk' (EntRel.box' rfl rfl rfl rfl rfl) trivial)))))
          · have c1 : (bt' (hasS x.op.toNat) s.1.1 == 65) = false := by simpa using c1
            have c2 : (bt' (hasS x.op.toNat) s.1.1 == 66) = false := by simpa using c2
            have c3 : (bt' (hasS x.op.toNat) s.1.1 == 67) = false := by simpa using c3
            have c4 : (bt' (hasS x.op.toNat) s.1.1 == 78) = true := by simpa using c4
            repeat refine ok_chk' (by first | exact fun h => h | (exact fun h => by rw [h]; rfl)) ?_
            refine ok_br' (fun c5 => ?_) fun c5 => ?_
            · have c5 : farF x = true := c5
              have hres : mayF x = false := heq.symm.trans (mayL_far hp hlt (by rw [c4, c5]; rfl))
              exact ok_leaf (fun _ => 0) [] [] trivial (by show _ = XV.nilz _ (XV.ren _ (bool (mayF x))); rw [hres]; rfl) trivial rfl
            · have c5 : farF x = false := c5
              have hc : (bt' (hasS x.op.toNat) s.1.1 == 78 && farF x) = false := by rw [c5, Bool.and_false]
              (refine ok_some' ⟨(s.1.1 + 1, zeroF s.1.2 (bt' (hasS x.op.toNat) s.1.1)), hlt, mayL_step hp hlt hc rfl⟩ (ok_chk' (by show _ - (s.1.1 + 1) < _ - s.1.1; omega) ?_)); (repeat (refine ok_chk' rfl ?_)); (exact ok_chk' (EntRel.box' rfl rfl rfl rfl rfl) (ok_chk' (EntRel.rw rfl rfl (fun _ _ => rfl) fun _ _ => rfl) (ok_chk' (EntRel.box' (by simp only [zeroF, *, cond_true, cond_false]; rfl) rfl rfl rfl rfl) (ok_chk' (EntRel.rw rfl rfl (fun _ _ => rfl) fun _ _ => rfl) (ok_chk' (EntRel.box' rfl rfl rfl rfl rfl) trivial)))))
          · have c1 : (bt' (hasS x.op.toNat) s.1.1 == 65) = false := by simpa using c1
            have c2 : (bt' (hasS x.op.toNat) s.1.1 == 66) = false := by simpa using c2
            have c3 : (bt' (hasS x.op.toNat) s.1.1 == 67) = false := by simpa using c3
            have c4 : (bt' (hasS x.op.toNat) s.1.1 == 78) = false := by simpa using c4
            have hc : (bt' (hasS x.op.toNat) s.1.1 == 78 && farF x) = false := by rw [c4]; rfl
            (refine ok_some' ⟨(s.1.1 + 1, zeroF s.1.2 (bt' (hasS x.op.toNat) s.1.1)), hlt, mayL_step hp hlt hc rfl⟩ (ok_chk' (by show _ - (s.1.1 + 1) < _ - s.1.1; omega) ?_)); (repeat (refine ok_chk' rfl ?_)); (exact ok_chk' (EntRel.box' rfl rfl rfl rfl rfl) (ok_chk' (EntRel.rw rfl rfl (fun _ _ => rfl) fun _ _ => rfl) (ok_chk' (EntRel.box' (by simp only [zeroF, *, cond_true, cond_false]; rfl) rfl rfl rfl rfl) (ok_chk' (EntRel.rw rfl rfl (fun _ _ => rfl) fun _ _ => rfl) (ok_chk' (EntRel.box' rfl rfl rfl rfl rfl) trivial)))))
        · have hlt : ¬ s.1.1 < (hasS x.op.toNat).size := by simpa using hlt
          have hres : mayF x = endF x s.1.2 := heq.symm.trans (mayL_end hp hlt)
          refine ok_br' (fun h => by cases h) fun _ => ?_
          unfold endF at hres
          generalize (s.1.2.op == x.op && (s.1.2.a == 0 && (s.1.2.b == 0 && (s.1.2.c == 0 && s.1.2.n == 0)))) = E at hres ⊢
          generalize inF x.a = A at hres ⊢
          generalize inF x.b = B at hres ⊢
          generalize inF x.c = C at hres ⊢
          cases E <;> cases A <;> cases B <;> cases C <;> simp only [cond_true, cond_false] at hres <;>
            repeat' first | exact ok_leaf (fun _ => 0) [] [] trivial (by show _ = XV.nilz _ (XV.ren _ (bool (mayF x))); rw [hres]; rfl) trivial rfl | (refine ok_brT ?_) | (refine ok_brF ?_) | (refine ok_callf' in_call (fits_of rfl rfl trivial fun c _ => ⟨⟨Nat.le_refl _, rfl⟩, ⟨rfl, rfl⟩, trivial⟩) (in_local _) fun c _ => ?_) | (refine ok_chk' rfl ?_) | (refine ok_chk' (fun h => h) ?_) | (refine ok_chk' (fun h => absurd h Bool.false_ne_true) ?_)
  · have h1' : ¬ 1 ≤ x.op := by simp at h1; omega
    have hres : mayF x = false := by simp [mayF, h1']
    have h1b : decide (x.op < 1) = true := by simp; omega
    repeat refine ok_chk' (by first | exact fun h => h | exact h1b | exact (fun h => by rw [h1] at h; cases h) | exact (fun h => by cases h) | exact (fun h _ => by cases h)) ?_
    refine ok_br' (fun _ => ?_) fun h => by cases h
    exact ok_leaf (fun _ => 0) [] [] trivial (by show _ = XV.nilz _ (XV.ren _ (bool (mayF x))); rw [hres]; rfl) trivial rfl
theorem access_local (x : In) : (accessC x).Local Tryd.prog 12 := by
  refine local_ofP Tryd.func12 rfl (taccess_eq x) fun ν w => ?_
  repeat refine ok_chk' (fun h => h) ?_
  exact ok_leaf (fun _ => 0) [] [] trivial rfl trivial rfl
end Go.Proofs.YtjbnkdpeohbakaaDoor.X.Ip

set_option linter.unusedVariables false
set_option linter.unusedSimpArgs false
namespace Go.Proofs.YtjbnkdpeohbakaaDoor.Open
open Go.RowKit Go.Proofs.YtjbnkdpeohbakaaDoorW.PrintWords

structure Opens {α : Type} (P : Program) (t : TypeId) (k : Kd α) (wf : α → Prop) : Prop where
  out : ∀ {H : Type} (enc : TypeId × Value → H) (w : World) (spare : Nat → Bool) (held : Bool) (fuel : Nat) (cs : List Value) (r : DataW H × List MemPlace),
    DataW.trod enc P w 0 spare held fuel t cs = some r → ∃ x, k.K w x cs ∧ wf x

structure OpensF {α : Type} (P : Program) (fs : List Field) (off : Nat) (k : Kd α) (wf : α → Prop) : Prop where
  out : ∀ {H : Type} (enc : TypeId × Value → H) (w : World) (spare : Nat → Bool) (held : Bool) (fuel : Nat) (cs : List Value) (r : List (DataW H × List MemPlace)),
    off + k.sz ≤ cs.length → (fs.mapM fun f => DataW.trod enc P w 0 spare held fuel f.type ((cs.drop f.offset).take (P.cellsOf f.type))) = some r → ∃ x, k.K w x ((cs.drop off).take k.sz) ∧ wf x

end Go.Proofs.YtjbnkdpeohbakaaDoor.Open

set_option linter.unusedVariables false
set_option linter.unusedSimpArgs false
namespace Go.Proofs.YtjbnkdpeohbakaaDoor.X
open Go Go.RowKit Go.Proofs.YtjbnkdpeohbakaaDoorW.PrintWords Go.Proofs.YtjbnkdpeohbakaaDoor.Base Go.Proofs.YtjbnkdpeohbakaaDoor.Open
def CV.plB : CV → Bool
  | .v x => (CV.v x).one
  | _ => false
structure Rep {α : Type} (K : Kd α) (rep : α → List CV) : Prop where
  sz : ∀ x, (rep x).length = K.sz
  pos : 0 < K.sz
  pl : ∀ x, (rep x).all CV.plB = true
  den : ∀ W x cc, K.K W x cc → cc = (rep x).map (CV.den nov)
abbrev roRow {α : Type} (ty : Nat) (K : Kd α) (rep : α → List CV) (z : α) (cap : Nat) (xs : List α) : Ent := Ent.rw false ty K.sz xs.length cap fun i => rep (xs.getD i z)
def RoIn (W : World) (A : Option Addr) (e : Ent) : Prop := ∃ (α : Type) (ty cap : Nat) (K : Kd α) (rep : α → List CV) (z : α) (xs : List α), Rep K rep ∧ e = roRow ty K rep z cap xs ∧ K.C W A xs.length xs
theorem CV.plain_lt {N : Nat} {y : CV} (h : y.plB = true) : y.lt N = true ∧ y.one = true := by
  cases y with
  | v v => exact ⟨rfl, h⟩
  | _ => cases h
theorem den_plain {ν : Val} {y : CV} (h : y.plB = true) : y.den ν = y.den nov := by
  cases y with
  | v v => rfl
  | _ => cases h
theorem holds_ros {W : World} {ν : Val} {H : Hp} (hw : konD.ok W) (h : ∀ k e, H.get k = some e → RoIn W (ν k 0) e) : Holds (rootOf ν H W) ν H W := by
  have hno : ∀ g, ¬ ownF ν H g := fun g ⟨k, e, j, ad, h1, h2, _⟩ => by
    obtain ⟨α, ty, cap, K, rep, z, xs, R, rfl, -⟩ := h k e h1
    cases h2
  refine ⟨⟨hw, fun g _ => hno g⟩, Upd.refl _ _, fun k e he => ?_, fun k e j he ho => ?_, ⟨Nat.le_refl _, fun _ _ _ => rfl⟩⟩
  · obtain ⟨α, ty, cap, K, rep, z, xs, R, rfl, -, -, hr⟩ := h k e he
    refine ⟨⟨(fun h => by cases h), .inr (by show 0 < K.sz; exact R.pos)⟩, fun j hj i hi => ⟨R.sz _, fun x hx => CV.plain_lt (List.all_eq_true.1 (R.pl _) x hx)⟩, (fun h => by cases h), fun _ j hj hp => ?_⟩
    obtain rfl : j = 0 := by have : j < 1 := hj; omega
    have hp : 0 < xs.length := hp
    obtain ⟨ad, hA, hc⟩ := hr hp
    refine ⟨ad, hA, .inr (.inl ⟨k, _, 0, ad, he, rfl, Nat.one_pos, hp, hA, rfl⟩), fun i hi c x hx => ?_⟩
    have hi : i < xs.length := hi
    obtain ⟨cc, -, hK, hcell⟩ := hc i xs[i] (List.getElem?_eq_getElem hi)
    refine hcell c _ ?_
    have hg : xs.getD i z = xs[i] := by rw [List.getD_eq_getElem?_getD, List.getElem?_eq_getElem hi, Option.getD_some]
    have hx : (rep (xs.getD i z))[c]? = some x := hx
    rw [R.den W _ _ hK, List.getElem?_map, ← hg, hx, den_plain (List.all_eq_true.1 (R.pl _) x (List.mem_of_getElem? hx))]
    rfl
  · obtain ⟨α, ty, cap, K, rep, z, xs, R, rfl, -⟩ := h k e he
    cases ho
theorem below_of {ν ν' : Val} {H0 H : Hp} {W w' : World} (h : Holds (rootOf ν H0 W) ν' H w') (ho : ∀ k e, H0.get k = some e → e.own = false) : Below W.heap.size W w' :=
  h.upd.below (Nat.le_refl _) fun g ⟨k, e, j, ad, h1, h2, _⟩ => by rw [ho k e h1] at h2; cases h2
theorem ro_own {W : World} {ν : Val} {H : Hp} (h : ∀ k e, H.get k = some e → RoIn W (ν k 0) e) : ∀ k e, H.get k = some e → e.own = false := fun k e he => by
  obtain ⟨α, ty, cap, K, rep, z, xs, R, rfl, -⟩ := h k e he
  rfl
theorem walk_ros {P : Program} {f : FuncId} {C : CallSpec} {W : World} {ν : Val} (hw : konD.ok W) (hl : C.Local P f) (h : ∀ k e, C.H0.get k = some e → RoIn W (ν k 0) e) {v : Value} (hv : ∀ c ν', (C.x0 c).den ν' = v) : Calls P f (C.args0.map (AV.den ν)).toArray W fun e w' => e = .returned v ∧ Below W.heap.size W w' :=
  (hl ν W (holds_ros hw h)).mono fun e w' ⟨ν', c, _, h1, h2⟩ => ⟨by rw [h1, hv], below_of h2 (ro_own h)⟩
end Go.Proofs.YtjbnkdpeohbakaaDoor.X

set_option linter.unusedVariables false
set_option linter.unusedSimpArgs false
namespace Go.Proofs.YtjbnkdpeohbakaaDoor.X.Ip
open Go Go.RowKit Go.Proofs.YtjbnkdpeohbakaaDoorW.PrintWords Go.Proofs.YtjbnkdpeohbakaaDoor.Base Go.Proofs.YtjbnkdpeohbakaaDoor.X
theorem up_call : Callable Tryd.prog 8 := ⟨_, Tryd.func8, by kernel_rfl, rfl⟩
theorem may_call : Callable Tryd.prog 13 := ⟨_, Tryd.func13, by kernel_rfl, rfl⟩
theorem access_call : Callable Tryd.prog 12 := ⟨_, Tryd.func12, by kernel_rfl, rfl⟩
theorem parseD_local (s : ByteArray) (hs : s.size ≤ 100000) {o : Option Ln} (h : parseF s = o) : (parseD s o).Local Tryd.prog 9 := by
  subst h
  exact parse_local s hs
theorem up_local : upC.Local Tryd.prog 8 := by
  refine local_ofP Tryd.func8 rfl (tup_eq ()) fun ν w => ?_
  refine ok_callf' parse_call (fits_of rfl rfl trivial fun c _ => ⟨⟨Nat.zero_le _, rfl⟩, ⟨rfl, rfl⟩, trivial⟩) (parseD_local casS (by decide) (by kernel_rfl)) fun c _ => ?_
  repeat refine ok_chk' (by first | exact fun h => h | rfl | exact fun _ => rfl | (exact fun h => by rw [h]; rfl) | exact fun h => absurd h (by decide) | (intro h1 h2; rw [h1, h2]; rfl)) ?_
  refine ok_callf' parse_call (fits_of rfl rfl trivial fun c _ => ⟨⟨Nat.zero_le _, rfl⟩, ⟨rfl, rfl⟩, trivial⟩) (parseD_local casT (by decide) (by kernel_rfl)) fun c2 _ => ?_
  repeat refine ok_chk' (by first | exact fun h => h | rfl | exact fun _ => rfl | (exact fun h => by rw [h]; rfl) | exact fun h => absurd h (by decide) | (intro h1 h2; rw [h1, h2]; rfl)) ?_
  refine ok_callf' access_call (fits_of rfl rfl trivial fun c _ => ⟨⟨Nat.zero_le _, rfl⟩, ⟨rfl, rfl⟩, trivial⟩) (access_local _) fun c3 _ => ?_
  repeat refine ok_chk' (by first | exact fun h => h | rfl | exact fun _ => rfl | (exact fun h => by rw [h]; rfl) | exact fun h => absurd h (by decide) | (intro h1 h2; rw [h1, h2]; rfl)) ?_
  refine ok_callf' may_call (fits_of rfl rfl trivial fun c _ => ⟨⟨Nat.zero_le _, rfl⟩, ⟨rfl, rfl⟩, trivial⟩) (may_local _) fun c4 _ => ?_
  repeat refine ok_chk' (by first | exact fun h => h | rfl | exact fun _ => rfl | (exact fun h => by rw [h]; rfl) | exact fun h => absurd h (by decide) | (intro h1 h2; rw [h1, h2]; rfl)) ?_
  exact ok_leaf (fun _ => 0) [] [] trivial rfl trivial rfl
theorem trim_tail (l cs : List UInt8) (b : UInt8) (hb : cs.contains b = true) : Lib.trimS (l ++ [b]) cs = Lib.trimS l cs := by
  unfold Lib.trimS Lib.trimRightS
  rw [List.reverse_append]
  show Lib.trimLeftS ((b :: l.reverse).dropWhile _).reverse cs = _
  rw [List.dropWhile_cons, if_pos hb]
theorem trim_head (l cs : List UInt8) (b : UInt8) (hb : cs.contains b = true) : Lib.trimS (b :: l) cs = Lib.trimS l cs := by
  unfold Lib.trimS Lib.trimRightS
  rw [List.reverse_cons, List.dropWhile_append]
  split
  · rename_i h
    have h : l.reverse.dropWhile (cs.contains ·) = [] := by simpa using h
    rw [h, List.dropWhile_cons, if_pos hb]
    rfl
  · rw [List.reverse_append]
    show (b :: (l.reverse.dropWhile _).reverse).dropWhile _ = _
    rw [List.dropWhile_cons, if_pos hb]
    rfl
theorem app_data (a b : ByteArray) : (a ++ b).data.toList = a.data.toList ++ b.data.toList := by
  rw [ByteArray.data_append, Array.toList_append]
theorem trimW_bl (s : ByteArray) : ∀ n, trimW (blF s n) tabS = trimW s tabS
  | 0 => rfl
  | n + 1 => by
    rw [← trimW_bl s n]
    unfold trimW
    rw [show (blF s (n + 1)).data.toList = 32 :: (blF s n).data.toList from app_data _ _, trim_head _ _ _ (by decide)]
theorem trimW_br (s : ByteArray) : ∀ n, trimW (brF s n) tabS = trimW s tabS
  | 0 => rfl
  | n + 1 => by
    rw [← trimW_br s n]
    unfold trimW
    rw [show (brF s (n + 1)).data.toList = (brF s n).data.toList ++ [9] from app_data _ _, trim_tail _ _ _ (by decide)]
theorem parse_same {s t : ByteArray} (h : trimW s tabS = trimW t tabS) : parseF s = parseF t := by
  unfold parseF
  rw [h]
theorem ba_beq (a : ByteArray) : (a == a) = true := by
  cases a with
  | mk d => show (d == d) = true; exact beq_self_eq_true d
theorem blF_size (s : ByteArray) : ∀ n, (blF s n).size = s.size + n
  | 0 => rfl
  | n + 1 => by
    show ((⟨#[32]⟩ : ByteArray) ++ blF s n).size = _
    rw [ByteArray.size_append, blF_size s n]
    show 1 + _ = _
    omega
theorem brF_size (s : ByteArray) : ∀ n, (brF s n).size = s.size + n
  | 0 => rfl
  | n + 1 => by
    show (brF s n ++ (⟨#[9]⟩ : ByteArray)).size = _
    rw [ByteArray.size_append, brF_size s n]
    rfl
abbrev blankC (s : ByteArray) (m n : Int) : CallSpec := .plain [sv' s, iav m, iav n] (bool true)
theorem wrapn {i : Nat} (h : i ≤ 1000) : IntKind.wrap .i64 ((i : Int) + 1) = ((i + 1 : Nat) : Int) := (IntWalk.i64_in _ ⟨by omega, by omega⟩).trans (by omega)
theorem blank_ok (s : ByteArray) (m n : Int) (x : Ln) (hx : parseF s = some x) : (blankC s m n).Local Tryd.prog 4 := by
  refine local_ofP Tryd.func4 rfl (tblank_eq s m n x) fun ν w => ?_
  refine ok_callf' up_call (fits_of rfl rfl trivial fun c _ => ⟨⟨Nat.zero_le _, rfl⟩, ⟨rfl, rfl⟩, trivial⟩) up_local fun c _ => ?_
  repeat refine ok_chk' (by first | exact fun h => h | rfl | exact fun _ => rfl | (exact fun h => by rw [h]; rfl) | exact fun h => absurd h (by decide) | (intro h1 h2; rw [h1, h2]; rfl)) ?_
  refine ok_br' (fun _ => ok_leaf (fun _ => 0) [] [] trivial rfl trivial rfl) fun h => ?_
  have hb : s.size ≤ 1000 ∧ 0 ≤ m ∧ 0 ≤ n ∧ m ≤ 20 ∧ n ≤ 20 := by
    have h := h
    simp at h
    omega
  refine ok_callf' parse_call (fits_of rfl rfl trivial fun c _ => ⟨⟨Nat.zero_le _, rfl⟩, ⟨rfl, rfl⟩, trivial⟩) (parseD_local s (by omega) hx) fun c2 _ => ok_both' ?_ (ok_every' fun i => ok_br' (fun hi => ?_) fun hi => ok_both' ?_ (ok_every' fun j => ok_br' (fun hj => ?_) fun hj => ?_))
  · repeat' first | exact rfl | exact trivial | exact EntRel.box' rfl rfl rfl rfl rfl | exact EntRel.plain rfl rfl rfl rfl (fun h => by cases h) (fun _ _ => ⟨rfl, rfl⟩) (fun _ _ _ _ => ⟨rfl, rfl⟩) | refine ok_chk' ?_ ?_
  · have hi : (i.1 : Int) < m := of_decide_eq_true hi
    repeat refine ok_chk' (by first | exact fun h => h | rfl | exact fun _ => rfl | (exact fun h => by rw [h]; rfl) | exact fun h => absurd h (by decide) | (intro h1 h2; rw [h1, h2]; rfl)) ?_
    refine ok_chk' (by rw [blF_size]; show 1 + _ ≤ _; omega) ?_
    repeat refine ok_chk' (by first | exact fun h => h | rfl | exact fun _ => rfl | (exact fun h => by rw [h]; rfl) | exact fun h => absurd h (by decide) | (intro h1 h2; rw [h1, h2]; rfl)) ?_
    refine ok_some' ⟨i.1 + 1, by omega⟩ (ok_chk' (by show m.toNat - (i.1 + 1) < m.toNat - i.1; omega) (ok_chk' (by show XV.a (.c (.v (.int .i64 (IntKind.wrap .i64 ((i.1 : Int) + 1))))) = _; rw [wrapn (by omega)]) ?_))
    repeat' first | exact rfl | exact trivial | exact EntRel.box' rfl rfl rfl rfl rfl | exact EntRel.plain rfl rfl rfl rfl (fun h => by cases h) (fun _ _ => ⟨rfl, rfl⟩) (fun _ _ _ _ => ⟨rfl, rfl⟩) | refine ok_chk' ?_ ?_
  · have e : i.1 = m.toNat := by
      have h2 := i.2
      have h3 : ¬ ((i.1 : Int) < m) := of_decide_eq_false hi
      omega
    repeat' first | exact rfl | exact trivial | exact EntRel.box' rfl rfl rfl rfl rfl | exact EntRel.plain rfl rfl rfl rfl (fun h => by cases h) (fun _ _ => ⟨rfl, rfl⟩) (fun _ _ _ _ => ⟨rfl, rfl⟩) | refine ok_chk' ?_ ?_
    show XV.a (.c (.v (.string (blF s i.1)))) = XV.a (.c (.v (.string (blF s m.toNat))))
    rw [e]
  · have hj : (j.1 : Int) < n := of_decide_eq_true hj
    have := i.2
    repeat refine ok_chk' (by first | exact fun h => h | rfl | exact fun _ => rfl | (exact fun h => by rw [h]; rfl) | exact fun h => absurd h (by decide) | (intro h1 h2; rw [h1, h2]; rfl)) ?_
    refine ok_chk' (by rw [brF_size, blF_size]; show _ + 1 ≤ _; omega) ?_
    repeat refine ok_chk' (by first | exact fun h => h | rfl | exact fun _ => rfl | (exact fun h => by rw [h]; rfl) | exact fun h => absurd h (by decide) | (intro h1 h2; rw [h1, h2]; rfl)) ?_
    refine ok_some' ⟨j.1 + 1, by omega⟩ (ok_chk' (by show n.toNat - (j.1 + 1) < n.toNat - j.1; omega) (ok_chk' (by show XV.a (.c (.v (.int .i64 (IntKind.wrap .i64 ((j.1 : Int) + 1))))) = _; rw [wrapn (by omega)]) ?_))
    repeat' first | exact rfl | exact trivial | exact EntRel.box' rfl rfl rfl rfl rfl | exact EntRel.plain rfl rfl rfl rfl (fun h => by cases h) (fun _ _ => ⟨rfl, rfl⟩) (fun _ _ _ _ => ⟨rfl, rfl⟩) | refine ok_chk' ?_ ?_
  · have := j.2
    refine ok_callf' parse_call (fits_of rfl rfl trivial fun c _ => ⟨⟨Nat.zero_le _, rfl⟩, ⟨rfl, rfl⟩, trivial⟩) (parseD_local _ (by rw [brF_size, blF_size]; omega) ((parse_same (by rw [trimW_br, trimW_bl])).trans hx)) fun c3 _ => ?_
    repeat refine ok_chk' (by first | exact fun h => h | rfl | exact fun _ => rfl | (exact fun h => by rw [h]; rfl) | exact fun h => absurd h (by decide) | (intro h1 h2; rw [h1, h2]; rfl)) ?_
    exact ok_leaf (fun _ => 0) [] [] trivial (by simp only [beq_self_eq_true, ba_beq, Bool.and_true, cond_true]; rfl) trivial rfl
theorem blank_no (s : ByteArray) (m n : Int) (hx : parseF s = none) : (blankC s m n).Local Tryd.prog 4 := by
  refine local_ofP Tryd.func4 rfl (tblankE_eq s m n) fun ν w => ?_
  refine ok_callf' up_call (fits_of rfl rfl trivial fun c _ => ⟨⟨Nat.zero_le _, rfl⟩, ⟨rfl, rfl⟩, trivial⟩) up_local fun c _ => ?_
  repeat refine ok_chk' (by first | exact fun h => h | rfl | exact fun _ => rfl | (exact fun h => by rw [h]; rfl) | exact fun h => absurd h (by decide) | (intro h1 h2; rw [h1, h2]; rfl)) ?_
  refine ok_br' (fun _ => ok_leaf (fun _ => 0) [] [] trivial rfl trivial rfl) fun h => ?_
  have hb : s.size ≤ 1000 ∧ 0 ≤ m ∧ 0 ≤ n ∧ m ≤ 20 ∧ n ≤ 20 := by
    have h := h
    simp at h
    omega
  refine ok_callf' parse_call (fits_of rfl rfl trivial fun c _ => ⟨⟨Nat.zero_le _, rfl⟩, ⟨rfl, rfl⟩, trivial⟩) (parseD_local s (by omega) hx) fun c2 _ => ok_both' ?_ (ok_every' fun i => ok_br' (fun hi => ?_) fun hi => ok_both' ?_ (ok_every' fun j => ok_br' (fun hj => ?_) fun hj => ?_))
  · repeat' first | exact rfl | exact trivial | exact EntRel.box' rfl rfl rfl rfl rfl | exact EntRel.plain rfl rfl rfl rfl (fun h => by cases h) (fun _ _ => ⟨rfl, rfl⟩) (fun _ _ _ _ => ⟨rfl, rfl⟩) | refine ok_chk' ?_ ?_
  · have hi : (i.1 : Int) < m := of_decide_eq_true hi
    repeat refine ok_chk' (by first | exact fun h => h | rfl | exact fun _ => rfl | (exact fun h => by rw [h]; rfl) | exact fun h => absurd h (by decide) | (intro h1 h2; rw [h1, h2]; rfl)) ?_
    refine ok_chk' (by rw [blF_size]; show 1 + _ ≤ _; omega) ?_
    repeat refine ok_chk' (by first | exact fun h => h | rfl | exact fun _ => rfl | (exact fun h => by rw [h]; rfl) | exact fun h => absurd h (by decide) | (intro h1 h2; rw [h1, h2]; rfl)) ?_
    refine ok_some' ⟨i.1 + 1, by omega⟩ (ok_chk' (by show m.toNat - (i.1 + 1) < m.toNat - i.1; omega) (ok_chk' (by show XV.a (.c (.v (.int .i64 (IntKind.wrap .i64 ((i.1 : Int) + 1))))) = _; rw [wrapn (by omega)]) ?_))
    repeat' first | exact rfl | exact trivial | exact EntRel.box' rfl rfl rfl rfl rfl | exact EntRel.plain rfl rfl rfl rfl (fun h => by cases h) (fun _ _ => ⟨rfl, rfl⟩) (fun _ _ _ _ => ⟨rfl, rfl⟩) | refine ok_chk' ?_ ?_
  · have e : i.1 = m.toNat := by
      have h2 := i.2
      have h3 : ¬ ((i.1 : Int) < m) := of_decide_eq_false hi
      omega
    repeat' first | exact rfl | exact trivial | exact EntRel.box' rfl rfl rfl rfl rfl | exact EntRel.plain rfl rfl rfl rfl (fun h => by cases h) (fun _ _ => ⟨rfl, rfl⟩) (fun _ _ _ _ => ⟨rfl, rfl⟩) | refine ok_chk' ?_ ?_
    show XV.a (.c (.v (.string (blF s i.1)))) = XV.a (.c (.v (.string (blF s m.toNat))))
    rw [e]
  · have hj : (j.1 : Int) < n := of_decide_eq_true hj
    have := i.2
    repeat refine ok_chk' (by first | exact fun h => h | rfl | exact fun _ => rfl | (exact fun h => by rw [h]; rfl) | exact fun h => absurd h (by decide) | (intro h1 h2; rw [h1, h2]; rfl)) ?_
    refine ok_chk' (by rw [brF_size, blF_size]; show _ + 1 ≤ _; omega) ?_
    repeat refine ok_chk' (by first | exact fun h => h | rfl | exact fun _ => rfl | (exact fun h => by rw [h]; rfl) | exact fun h => absurd h (by decide) | (intro h1 h2; rw [h1, h2]; rfl)) ?_
    refine ok_some' ⟨j.1 + 1, by omega⟩ (ok_chk' (by show n.toNat - (j.1 + 1) < n.toNat - j.1; omega) (ok_chk' (by show XV.a (.c (.v (.int .i64 (IntKind.wrap .i64 ((j.1 : Int) + 1))))) = _; rw [wrapn (by omega)]) ?_))
    repeat' first | exact rfl | exact trivial | exact EntRel.box' rfl rfl rfl rfl rfl | exact EntRel.plain rfl rfl rfl rfl (fun h => by cases h) (fun _ _ => ⟨rfl, rfl⟩) (fun _ _ _ _ => ⟨rfl, rfl⟩) | refine ok_chk' ?_ ?_
  · have := j.2
    refine ok_callf' parse_call (fits_of rfl rfl trivial fun c _ => ⟨⟨Nat.zero_le _, rfl⟩, ⟨rfl, rfl⟩, trivial⟩) (parseD_local _ (by rw [brF_size, blF_size]; omega) ((parse_same (by rw [trimW_br, trimW_bl])).trans hx)) fun c3 _ => ?_
    repeat refine ok_chk' (by first | exact fun h => h | rfl | exact fun _ => rfl | (exact fun h => by rw [h]; rfl) | exact fun h => absurd h (by decide) | (intro h1 h2; rw [h1, h2]; rfl)) ?_
    exact ok_leaf (fun _ => 0) [] [] trivial rfl trivial rfl
theorem blank_walk (s : ByteArray) (m n : Int) (W : World) (hk : konD.ok W) (ws : s.size ≤ 140737488351232) (wm : (Lit.int .i64 m).wf = true) (wn : (Lit.int .i64 n).wf = true) :
    Calls Tryd.prog 4 #[.string s, .int .i64 m, .int .i64 n] W fun e w' => e = .returned (.bool true) ∧ Below W.heap.size W w' := by
  have hl : (blankC s m n).Local Tryd.prog 4 := by
    cases h : parseF s with
    | some x => exact blank_ok s m n x h
    | none => exact blank_no s m n h
  exact walk_ros hk hl (W := W) (ν := nov) (fun k e he => by cases k <;> cases he) (v := .bool true) fun _ _ => rfl
end Go.Proofs.YtjbnkdpeohbakaaDoor.X.Ip

