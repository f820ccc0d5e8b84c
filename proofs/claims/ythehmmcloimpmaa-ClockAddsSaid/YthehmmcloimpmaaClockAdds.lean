/- Clock: a later time, and a deadline, or what is amiss, as the statement says; no condition beyond the statement's own. -/
import Derived.Test.YthehmmcloimpmaaClock
import Derived.Test.YthehmmcloimpmaaPClockAddsx1
import Derived.OpenShut
import Derived.Outline
set_option linter.unusedVariables false
set_option linter.unusedSimpArgs false
namespace Go.Proofs.Ythehmmcloimpmaa.ClockAdds
open Go.RowKit Go.Proofs.YthehmmcloimpmaaW.PrintWords Go.Proofs.Ythehmmcloimpmaa.Base Go.Proofs.Ythehmmcloimpmaa.Clock

theorem up_calls (w : World) : Calls Try.prog 15 #[] w fun e w' => e = .returned (.bool true) ∧ Below w.heap.size w w' :=
  PClockAdds.tholelaw02_up.calls 20 true w (by decide +kernel)

attribute [local go_sem] eqlE eqlN eqlN' guardE guardN guardN'
theorem walk_bad (now n : Int) (w : World) (h : now < 0 ∨ n < -1) : Calls Try.prog 5 #[.int .i64 now, .int .i64 n] w fun e w' => e = .returned (.bool true) ∧ Below w.heap.size w w' := by
  have hbad : (decide (now < 0) || decide (n < -1)) = true := by simpa using h
  by_cases h0 : now < 0
  all_goals
    go_enter Try.func5, Try.ntmps5
    go_wp2_with fail
    refine (up_calls _).mono ?_; rintro e w1 ⟨rfl, hb⟩
    go_wp2_with fail
    refine (add_bad _ _ _ (by omega)).mono ?_; rintro e w' ⟨rfl, rfl⟩
    go_wp2_with fail
    refine (deadline_bad _ _ _ h).mono ?_; rintro e w' ⟨rfl, rfl⟩
  · go_wp2
    go_ret
    exact ⟨rfl, hb⟩
  · have h1 : n < -1 := by omega
    go_wp2
    go_ret
    exact ⟨rfl, hb⟩
theorem walk_ever (now : Int) (w : World) (h : 0 ≤ now) : Calls Try.prog 5 #[.int .i64 now, .int .i64 (-1)] w fun e w' => e = .returned (.bool true) ∧ Below w.heap.size w w' := by
  go_enter Try.func5, Try.ntmps5
  go_wp2_with fail
  refine (up_calls _).mono ?_; rintro e w1 ⟨rfl, hb⟩
  go_wp2_with fail
  refine (add_bad _ _ _ (by omega)).mono ?_; rintro e w' ⟨rfl, rfl⟩
  go_wp2_with fail
  refine (deadline_forever _ _ h).mono ?_; rintro e w' ⟨rfl, rfl⟩
  go_wp2
  go_ret
  exact ⟨rfl, hb⟩
theorem walk_good (now n : Int) (w : World) (h0 : 0 ≤ now) (h1 : 0 ≤ n) (h2 : now ≤ 9223372036854775807) (h3 : n ≤ 9223372036854775807) : Calls Try.prog 5 #[.int .i64 now, .int .i64 n] w fun e w' => e = .returned (.bool true) ∧ Below w.heap.size w w' := by
  have hn : (n == -1) = false := beq_eq_false_iff_ne.2 (by omega)
  have HL := Aside0.mk (show later now n = if n < 9223372036854775807 - now then now + n else 9223372036854775807 by unfold later; split <;> split <;> omega)
  by_cases hg : n < 9223372036854775807 - now
  · have e1 : decide (n < 9223372036854775807 - now) = true := by simpa using hg
    have e2 : (later now n == now + n) = true := by rw [HL.out, if_pos hg]; simp
    have hs : now + n ≤ 9223372036854775807 := by omega
    go_enter Try.func5, Try.ntmps5
    go_wp2_with fail
    refine (up_calls _).mono ?_; rintro e w1 ⟨rfl, hb⟩
    go_wp2_with fail
    refine (add_good _ _ _ h0 h1 h2 h3).mono ?_; rintro e w' ⟨rfl, rfl⟩
    go_wp2_with fail
    refine (deadline_good _ _ _ h0 h1 h2 h3).mono ?_; rintro e w' ⟨rfl, rfl⟩
    go_wp2
    go_ret
    exact ⟨by simp [*], hb⟩
  · have e1 : decide (n < 9223372036854775807 - now) = false := by simpa using hg
    have e2 : (later now n == 9223372036854775807) = true := by rw [HL.out, if_neg hg]; simp
    clear hg
    go_enter Try.func5, Try.ntmps5
    go_wp2_with fail
    refine (up_calls _).mono ?_; rintro e w1 ⟨rfl, hb⟩
    go_wp2_with fail
    refine (add_good _ _ _ h0 h1 h2 h3).mono ?_; rintro e w' ⟨rfl, rfl⟩
    go_wp2_with fail
    refine (deadline_good _ _ _ h0 h1 h2 h3).mono ?_; rintro e w' ⟨rfl, rfl⟩
    go_wp2
    go_ret
    exact ⟨by simp [*], hb⟩
theorem walk (now n : Int) (w : World) (w0 : (Lit.int .i64 now).wf = true) (w1 : (Lit.int .i64 n).wf = true) : Calls Try.prog 5 #[.int .i64 now, .int .i64 n] w fun e w' => e = .returned (.bool true) ∧ Below w.heap.size w w' := by
  have b0 := bounds_i64 w0
  have b1 := bounds_i64 w1
  by_cases h : now < 0 ∨ n < -1
  · exact walk_bad now n w h
  · by_cases h1 : n = -1
    · subst h1; exact walk_ever now w (by omega)
    · exact walk_good now n w (by omega) (by omega) b0.2 b1.2
end Go.Proofs.Ythehmmcloimpmaa.ClockAdds
