/- Clock: the time never goes back; a deadline of no wait is due at once; what is due stays so. No condition beyond the statement's own. -/
import Derived.Test.YthehmmcloimpmaaPClockOnx2
import Derived.OpenShut
set_option linter.unusedSimpArgs false
set_option linter.unusedVariables false
namespace Go.Proofs.Ythehmmcloimpmaa.Pure
open Go.RowKit Go.Proofs.Ythehmmcloimpmaa.PClockOn Go.Proofs.YthehmmcloimpmaaW.PrintWords Go.Proofs.YthehmmcloimpmaaW.PrintLast

theorem on_add (k : Nat) (a b : Int) : clock_Add.f (k + 1) a b = if a < 0 ∨ b < 0 then some (0, some 1) else if b > wrap64 (9223372036854775807 - a) then some (9223372036854775807, none) else some (wrap64 (a + b), none) := by
  unfold clock_Add.f
  by_cases h : a < 0
  · simp [h, clock_Add.j0]
  · by_cases h2 : b < 0 <;> simp [h, h2, clock_Add.j0]
theorem on_dead (k : Nat) (a b : Int) : clock_Deadline.f (k + 2) a b = if a < 0 ∨ b < -1 then some (0, some 1) else if b = -1 then some (-1, none) else clock_Add.f (k + 1) a b := by
  unfold clock_Deadline.f
  by_cases h : a < 0
  · simp [h, clock_Deadline.j0]
  · by_cases h2 : b < -1
    · simp [h, h2, clock_Deadline.j0]
    · by_cases h3 : b = -1
      · subst h3; simp [h, clock_Deadline.j0]
      · simp only [h, h2, h3, clock_Deadline.j0, if_false, decide_false, or_self, Bool.false_eq_true]
        cases hc : clock_Add.f (k + 1) a b <;> simp
theorem on_due (a b : Int) : clock_Due.f a b = some (decide (b ≥ 0) && decide (a ≥ b)) := by
  unfold clock_Due.f
  split <;> simp [*]
theorem on_up : tholelaw02_up.f 20 = some true := by decide +kernel

theorem ClockOn : tholelaw02_ClockOn.Pure := by
  intro a0 a1 a2 a3 w0 w1 w2 w3
  have b0 := bounds_i64 w0
  have b1 := bounds_i64 w1
  have b2 := bounds_i64 w2
  have b3 := bounds_i64 w3
  refine ⟨20, ?_⟩
  unfold tholelaw02_ClockOn.f
  rw [on_up]
  simp only [Option.bind_some]
  have wr : ∀ x : Int, 0 ≤ x → x ≤ 9223372036854775807 → wrap64 x = x := fun x h1 h2 => by unfold wrap64; omega
  rw [on_dead 18, on_add 19, on_add 18]
  by_cases n0 : a0 < 0
  · simp [n0, tholelaw02_ClockOn.j0]
  by_cases n1 : a1 < -1
  · by_cases n2 : a2 < 0
    · simp [n0, n1, n2, tholelaw02_ClockOn.j0]
    · by_cases g : a2 > wrap64 (9223372036854775807 - a0) <;> simp [n0, n1, n2, g, tholelaw02_ClockOn.j0]
  by_cases n2 : a2 < 0
  · by_cases e1 : a1 = -1
    · simp [n0, n1, n2, e1, tholelaw02_ClockOn.j0]
    · by_cases m1 : a1 < 0
      · omega
      · rw [wr (9223372036854775807 - a0) (by omega) (by omega)]
        by_cases g1 : a1 > 9223372036854775807 - a0 <;> simp [n0, n1, n2, e1, m1, g1, tholelaw02_ClockOn.j0]
  -- the deadline d and the later time x
  have hx : ∃ x : Int, (if a0 < 0 ∨ a2 < 0 then (some (0, some 1) : Option (Int × Option Int)) else if a2 > wrap64 (9223372036854775807 - a0) then some (9223372036854775807, none) else some (wrap64 (a0 + a2), none)) = some (x, none) ∧ a0 ≤ x ∧ x ≤ 9223372036854775807 := by
    rw [if_neg (by omega), wr (9223372036854775807 - a0) (by omega) (by omega)]
    by_cases g : a2 > 9223372036854775807 - a0
    · exact ⟨_, by rw [if_pos g], by omega, by omega⟩
    · exact ⟨_, by rw [if_neg g], by rw [wr _ (by omega) (by omega)]; omega, by rw [wr _ (by omega) (by omega)]; omega⟩
  obtain ⟨x, ex, x1, x2⟩ := hx
  have hd : ∃ d : Int, (if a0 < 0 ∨ a1 < -1 then (some (0, some 1) : Option (Int × Option Int)) else if a1 = -1 then some (-1, none) else if a0 < 0 ∨ a1 < 0 then some (0, some 1) else if a1 > wrap64 (9223372036854775807 - a0) then some (9223372036854775807, none) else some (wrap64 (a0 + a1), none)) = some (d, none) ∧ (a1 = -1 → d = -1) := by
    rw [if_neg (by omega), wr (9223372036854775807 - a0) (by omega) (by omega)]
    by_cases e1 : a1 = -1
    · exact ⟨-1, by rw [if_pos e1], fun _ => rfl⟩
    · rw [if_neg e1, if_neg (by omega)]
      by_cases g : a1 > 9223372036854775807 - a0
      · exact ⟨_, by rw [if_pos g], fun h => absurd h e1⟩
      · exact ⟨_, by rw [if_neg g], fun h => absurd h e1⟩
  obtain ⟨d, ed, hd1⟩ := hd
  rw [ex, ed]
  simp only [Option.bind_some, Option.isNone_none, if_true, tholelaw02_ClockOn.j0, Bool.false_eq_true, if_false]
  rw [on_add 18]
  by_cases n3 : a3 < 0
  · simp [n3, x1]
  have hy : ∃ y : Int, (if x < 0 ∨ a3 < 0 then (some (0, some 1) : Option (Int × Option Int)) else if a3 > wrap64 (9223372036854775807 - x) then some (9223372036854775807, none) else some (wrap64 (x + a3), none)) = some (y, none) ∧ x ≤ y := by
    rw [if_neg (by omega), wr (9223372036854775807 - x) (by omega) (by omega)]
    by_cases g : a3 > 9223372036854775807 - x
    · exact ⟨_, by rw [if_pos g], by omega⟩
    · exact ⟨_, by rw [if_neg g], by rw [wr _ (by omega) (by omega)]; omega⟩
  obtain ⟨y, ey, y1⟩ := hy
  rw [ey]
  have hz : clock_Deadline.f 18 a0 0 = some (a0, none) := by
    rw [on_dead 16, on_add 16, if_neg (by omega), if_neg (by omega), if_neg (by omega), wr (9223372036854775807 - a0) (by omega) (by omega), if_neg (by omega), wr _ (by omega) (by omega), Int.add_zero]
  simp only [Option.bind_some, Option.isNone_none, if_true, if_neg (show ¬ x < a0 by omega), if_neg (show ¬ y < x by omega), on_due, tholelaw02_ClockOn.j1, hz]
  have q : (decide (a0 ≥ 0) && decide (a0 ≥ a0)) = true := by simp; omega
  have hm : a1 = -1 → (decide (d ≥ 0) && decide (y ≥ d)) = false := fun e1 => by rw [hd1 e1]; simp
  by_cases q1 : (decide (d ≥ 0) && decide (x ≥ d)) = true
  · have q2 : (decide (d ≥ 0) && decide (y ≥ d)) = true := by
      simp at q1 ⊢
      omega
    have e1 : a1 ≠ -1 := fun e => by rw [hm e] at q2; cases q2
    simp [q1, q2, q, e1]; omega
  · have q1' : (decide (d ≥ 0) && decide (x ≥ d)) = false := by simpa using q1
    rw [q1', q]
    by_cases e1 : a1 = -1
    · rw [hm e1]; simp
    · simp [e1]

end Go.Proofs.Ythehmmcloimpmaa.Pure
