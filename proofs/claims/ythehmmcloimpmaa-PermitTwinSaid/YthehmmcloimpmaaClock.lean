import Derived.Test.YthehmmcloimpmaaBase
set_option linter.unusedVariables false
set_option linter.unusedSimpArgs false
namespace Go.Proofs.Ythehmmcloimpmaa.Clock
open Go.RowKit Go.Proofs.YthehmmcloimpmaaW.PrintWords Go.Proofs.Ythehmmcloimpmaa.Base

/-- A later time. -/
def later (now t : Int) : Int := if 9223372036854775807 - now < t then 9223372036854775807 else now + t
theorem later_le {now t : Int} (h0 : 0 ≤ now) (h1 : 0 ≤ t) (h2 : now ≤ 9223372036854775807) : now ≤ later now t ∧ later now t ≤ 9223372036854775807 := by unfold later; split <;> omega

theorem add_bad (w : World) (now t : Int) (h : now < 0 ∨ t < 0) :
    Calls Try.prog 18 #[.int .i64 now, .int .i64 t] w fun e w' => e = .returned (.tuple #[.int .i64 0, errC 1]) ∧ w = w' := by
  by_cases h0 : now < 0
  · go_enter Try.func18, Try.ntmps18
    go_wp2
    all_goals
      go_ret2
      exact ⟨rfl, rfl⟩
  · have h1 : t < 0 := by omega
    go_enter Try.func18, Try.ntmps18
    go_wp2
    all_goals
      go_ret2
      exact ⟨rfl, rfl⟩

theorem add_good (w : World) (now t : Int) (h0 : 0 ≤ now) (h1 : 0 ≤ t) (h2 : now ≤ 9223372036854775807) (h3 : t ≤ 9223372036854775807) :
    Calls Try.prog 18 #[.int .i64 now, .int .i64 t] w fun e w' => e = .returned (.tuple #[.int .i64 (later now t), .nilIface]) ∧ w = w' := by
  by_cases hg : 9223372036854775807 - now < t
  · have hg1 : decide (9223372036854775807 - now < t) = true := by simpa using hg
    have hl : later now t = 9223372036854775807 := by unfold later; rw [if_pos hg]
    rw [hl]
    clear hl hg
    go_enter Try.func18, Try.ntmps18
    go_wp2
    go_ret2
    exact ⟨rfl, rfl⟩
  · have hg1 : decide (9223372036854775807 - now < t) = false := by simpa using hg
    have hl : later now t = now + t := by unfold later; rw [if_neg hg]
    have hw2 : now + t ≤ 9223372036854775807 := by omega
    rw [hl]
    clear hl hg
    go_enter Try.func18, Try.ntmps18
    go_wp2
    go_ret2
    exact ⟨by simp, rfl⟩

theorem due_calls (w : World) (now d : Int) (b : Bool) (hb : (0 ≤ d ∧ d ≤ now) ↔ b = true) :
    Calls Try.prog 17 #[.int .i64 now, .int .i64 d] w fun e w' => e = .returned (.bool b) ∧ w = w' := by
  have hb' : (decide (0 ≤ d) && decide (d ≤ now)) = b := by cases b <;> simp_all
  subst hb'
  clear hb
  go_enter Try.func17, Try.ntmps17
  go_wp2
  all_goals
    go_ret
    exact ⟨by simp [*]; try omega, rfl⟩

theorem deadline_bad (w : World) (now t : Int) (h : now < 0 ∨ t < -1) :
    Calls Try.prog 19 #[.int .i64 now, .int .i64 t] w fun e w' => e = .returned (.tuple #[.int .i64 0, errC 1]) ∧ w = w' := by
  by_cases h0 : now < 0
  · go_enter Try.func19, Try.ntmps19
    go_wp2
    all_goals
      go_ret2
      exact ⟨rfl, rfl⟩
  · have h1 : t < -1 := by omega
    go_enter Try.func19, Try.ntmps19
    go_wp2
    all_goals
      go_ret2
      exact ⟨rfl, rfl⟩

theorem deadline_forever (w : World) (now : Int) (h : 0 ≤ now) :
    Calls Try.prog 19 #[.int .i64 now, .int .i64 (-1)] w fun e w' => e = .returned (.tuple #[.int .i64 (-1), .nilIface]) ∧ w = w' := by
  go_enter Try.func19, Try.ntmps19
  go_wp2
  go_ret2
  exact ⟨rfl, rfl⟩

theorem deadline_good (w : World) (now t : Int) (h0 : 0 ≤ now) (h1 : 0 ≤ t) (h2 : now ≤ 9223372036854775807) (h3 : t ≤ 9223372036854775807) :
    Calls Try.prog 19 #[.int .i64 now, .int .i64 t] w fun e w' => e = .returned (.tuple #[.int .i64 (later now t), .nilIface]) ∧ w = w' := by
  have hadd := Aside0.mk (fun w => add_good w now t h0 h1 h2 h3)
  have hne : (t == -1) = false := beq_eq_false_iff_ne.2 (by omega)
  go_enter Try.func19, Try.ntmps19
  go_wp2_with (go_at_call 18; refine (hadd.out _).mono ?_; rintro e w' ⟨rfl, rfl⟩)
  go_ret2
  exact ⟨rfl, rfl⟩
end Go.Proofs.Ythehmmcloimpmaa.Clock
