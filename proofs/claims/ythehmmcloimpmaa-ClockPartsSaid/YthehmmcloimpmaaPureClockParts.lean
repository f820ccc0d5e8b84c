/- Clock: the first of two lists is the first of their firsts. No condition beyond the statement's own. -/
import Derived.Test.YthehmmcloimpmaaPClockPartsx1
import Derived.OpenShut
set_option linter.unusedSimpArgs false
set_option linter.unusedVariables false
namespace Go.Proofs.Ythehmmcloimpmaa.Pure
open Go.RowKit Go.Proofs.Ythehmmcloimpmaa.PClockParts Go.Proofs.YthehmmcloimpmaaW.PrintWords Go.Proofs.YthehmmcloimpmaaW.PrintLast

def ff (acc d : Int) : Int := if d ≥ 0 then (if acc < 0 then d else if d < acc then d else acc) else acc
theorem first_l0 (l : List Int) (hl : l.length ≤ 17592186044416) (d : Nat) : ∀ (k i : Nat) (acc : Int), l.length - i = d → i ≤ l.length → d < k → clock_First.l0 k acc l (l.length : Int) i = some ((l.drop i).foldl ff acc) := by
  induction d with
  | zero =>
    intro k i acc hd hi hk
    obtain ⟨k, rfl⟩ : ∃ m, k = m + 1 := ⟨k - 1, by omega⟩
    simp only [clock_First.l0]
    rw [if_neg (by omega), List.drop_of_length_le (by omega)]
    rfl
  | succ d ih =>
    intro k i acc hd hi hk
    obtain ⟨k, rfl⟩ : ∃ m, k = m + 1 := ⟨k - 1, by omega⟩
    have hlt : i < l.length := by omega
    have hw : wrap64 ((i : Int) + 1) = ((i + 1 : Nat) : Int) := by unfold wrap64; omega
    have hr : rd l i = l[i] := by simp [rd, List.getD_eq_getElem?_getD, List.getElem?_eq_getElem hlt]
    rw [List.drop_eq_getElem_cons hlt, List.foldl_cons]
    simp only [clock_First.l0]
    rw [if_pos (by omega), if_pos (by omega), if_pos (by omega), hw, hr]
    by_cases h1 : l[i] ≥ 0
    · rw [if_pos h1]
      by_cases h2 : acc < 0
      · rw [if_pos h2, ih _ _ _ (by omega) (by omega) (by omega)]; simp only [ff, if_pos h1, if_pos h2]
      · rw [if_neg h2]
        by_cases h3 : l[i] < acc
        · rw [if_pos h3, ih _ _ _ (by omega) (by omega) (by omega)]; simp only [ff, if_pos h1, if_neg h2, if_pos h3]
        · rw [if_neg h3, ih _ _ _ (by omega) (by omega) (by omega)]; simp only [ff, if_pos h1, if_neg h2, if_neg h3]
    · rw [if_neg h1, ih _ _ _ (by omega) (by omega) (by omega)]; simp only [ff, if_neg h1]
theorem first_f (l : List Int) (hl : l.length ≤ 17592186044416) (k : Nat) (hk : l.length < k) : clock_First.f k l = some (l.foldl ff (-1)) := by
  have := first_l0 l hl l.length k 0 (-1) (by omega) (by omega) hk
  simpa [clock_First.f] using this
theorem ff_ge (l : List Int) : ∀ acc, -1 ≤ acc → -1 ≤ l.foldl ff acc := by
  induction l with
  | nil => exact fun _ h => h
  | cons d l ih => exact fun acc h => ih _ (by unfold ff; repeat' split <;> omega)

theorem ff_parts (b : List Int) : ∀ x, -1 ≤ x → b.foldl ff x = ff x (b.foldl ff (-1)) := by
  induction b with
  | nil => intro x hx; simp [ff]
  | cons d b ih =>
    intro x hx
    rw [List.foldl_cons, List.foldl_cons, ih (ff x d) (by unfold ff; repeat' split <;> omega), ih (ff (-1) d) (by unfold ff; repeat' split <;> omega)]
    have := ff_ge b (-1) (by omega)
    generalize b.foldl ff (-1) = y at *
    unfold ff
    repeat' split
    all_goals omega
theorem parts_up : tholelaw02_up.f 20 = some true := by decide +kernel

theorem ClockParts (a b : List Int) : ∃ k, tholelaw02_ClockParts.f k a b = some true := by
  refine ⟨2020, ?_⟩
  have hup : tholelaw02_up.f 2020 = some true := at_rounds (tholelaw02_up.mono) (by omega) parts_up
  unfold tholelaw02_ClockParts.f
  rw [hup]
  simp only [Option.bind_some]
  by_cases h1 : (a.length : Int) > 1000
  · rw [if_pos h1]; simp [tholelaw02_ClockParts.j0]
  rw [if_neg h1]
  by_cases h2 : (b.length : Int) > 1000
  · simp [h2, tholelaw02_ClockParts.j0]
  rw [show decide ((b.length : Int) > 1000) = false by simpa using h2]
  simp only [tholelaw02_ClockParts.j0, Bool.false_eq_true, if_false, Option.bind_some, if_true]
  rw [if_pos (by simp; omega), if_pos (by simp; omega)]
  simp only [List.nil_append]
  have la : (a ++ b).length = a.length + b.length := List.length_append
  rw [first_f (a ++ b) (by omega) 2019 (by omega), first_f a (by omega) 2019 (by omega), first_f b (by omega) 2019 (by omega)]
  simp only [Option.bind_some]
  rw [first_f _ (by simp) 2019 (by simp)]
  simp only [Option.bind_some, List.foldl_append, List.foldl_cons, List.foldl_nil]
  have g1 := ff_ge a (-1) (by omega)
  have g2 := ff_ge b (-1) (by omega)
  rw [ff_parts b _ g1]
  generalize a.foldl ff (-1) = x at *
  generalize b.foldl ff (-1) = y at *
  have e : ff (-1) x = x := by unfold ff; repeat' split <;> omega
  rw [e]; simp

theorem ClockParts_walk (A : Option Addr) (l : List Int) (c : Nat) (B : Option Addr) (m : List Int) (d : Nat) (w : World) (hl : l.length ≤ c) (hC : (Kd.int .i64).C w A l.length l) (hw : l.length ≤ maxLen ∧ ∀ x ∈ l, (Lit.int .i64 x).wf = true)
    (hm : m.length ≤ d) (hD : (Kd.int .i64).C w B m.length m) (hv : m.length ≤ maxLen ∧ ∀ x ∈ m, (Lit.int .i64 x).wf = true) :
    Calls Try.prog 3 #[.slice A l.length c, .slice B m.length d] w fun e w' => e = .returned (.bool true) ∧ Below w.heap.size w w' := by
  obtain ⟨k, h⟩ := ClockParts l m
  refine (tholelaw02_ClockParts.calls k _ _ l _ _ m true w hC hl hD hm h).mono ?_
  rintro e w' ⟨rfl, hd⟩
  exact ⟨rfl, hd⟩

end Go.Proofs.Ythehmmcloimpmaa.Pure
