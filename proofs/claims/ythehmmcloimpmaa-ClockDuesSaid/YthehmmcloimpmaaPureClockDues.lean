/- Clock: whether any deadline is due, and the first of any. No condition beyond the statement's own. -/
import Derived.Test.YthehmmcloimpmaaPClockDuesx2
import Derived.OpenShut
set_option linter.unusedSimpArgs false
set_option linter.unusedVariables false
namespace Go.Proofs.Ythehmmcloimpmaa.Pure
open Go.RowKit Go.Proofs.Ythehmmcloimpmaa.PClockDues Go.Proofs.YthehmmcloimpmaaW.PrintWords Go.Proofs.YthehmmcloimpmaaW.PrintLast

def ff (acc d : Int) : Int := if d ≥ 0 then (if acc < 0 then d else if d < acc then d else acc) else acc
theorem first_l0 (l : List Int) (hl : l.length ≤ 17592186044416) (d : Nat) : ∀ (k i : Nat) (acc : Int), l.length - i = d → i ≤ l.length → d < k → clock_First.l0 k acc l (l.length : Int) i = some ((l.drop i).foldl ff acc) := by
  induction d with
  | zero =>
    intro k i acc hd hi hk
    obtain ⟨k, rfl⟩ : ∃ m, k = m + 1 := ⟨k - 1, by omega⟩
    simp only [clock_First.l0]
    rw [if_neg (by omega), List.drop_of_length_le (by omega)]
    rfl
  | succ d ih =>
    intro k i acc hd hi hk
    obtain ⟨k, rfl⟩ : ∃ m, k = m + 1 := ⟨k - 1, by omega⟩
    have hlt : i < l.length := by omega
    have hw : wrap64 ((i : Int) + 1) = ((i + 1 : Nat) : Int) := by unfold wrap64; omega
    have hr : rd l i = l[i] := by simp [rd, List.getD_eq_getElem?_getD, List.getElem?_eq_getElem hlt]
    rw [List.drop_eq_getElem_cons hlt, List.foldl_cons]
    simp only [clock_First.l0]
    rw [if_pos (by omega), if_pos (by omega), if_pos (by omega), hw, hr]
    by_cases h1 : l[i] ≥ 0
    · rw [if_pos h1]
      by_cases h2 : acc < 0
      · rw [if_pos h2, ih _ _ _ (by omega) (by omega) (by omega)]; simp only [ff, if_pos h1, if_pos h2]
      · rw [if_neg h2]
        by_cases h3 : l[i] < acc
        · rw [if_pos h3, ih _ _ _ (by omega) (by omega) (by omega)]; simp only [ff, if_pos h1, if_neg h2, if_pos h3]
        · rw [if_neg h3, ih _ _ _ (by omega) (by omega) (by omega)]; simp only [ff, if_pos h1, if_neg h2, if_neg h3]
    · rw [if_neg h1, ih _ _ _ (by omega) (by omega) (by omega)]; simp only [ff, if_neg h1]
theorem first_f (l : List Int) (hl : l.length ≤ 17592186044416) (k : Nat) (hk : l.length < k) : clock_First.f k l = some (l.foldl ff (-1)) := by
  have := first_l0 l hl l.length k 0 (-1) (by omega) (by omega) hk
  simpa [clock_First.f] using this
theorem ff_ge (l : List Int) : ∀ acc, -1 ≤ acc → -1 ≤ l.foldl ff acc := by
  induction l with
  | nil => exact fun _ h => h
  | cons d l ih => exact fun acc h => ih _ (by unfold ff; repeat' split <;> omega)


theorem due_f (a b : Int) : clock_Due.f a b = some (decide (b ≥ 0) && decide (a ≥ b)) := by
  unfold clock_Due.f
  split <;> simp [*]
theorem ff_ge1 (acc d : Int) (h : -1 ≤ acc) : -1 ≤ ff acc d := by unfold ff; repeat' split <;> omega
theorem dues_l1 (l : List Int) (v : Int) (hl : l.length ≤ 1000) (d : Nat) : ∀ (k i : Nat), l.length - i = d → i ≤ l.length → d < k → tholelaw02_ClockDues.l1 k l true v l v i = some true := by
  induction d with
  | zero =>
    intro k i hd hi hk
    obtain ⟨k, rfl⟩ : ∃ m, k = m + 1 := ⟨k - 1, by omega⟩
    simp only [tholelaw02_ClockDues.l1]
    rw [if_neg (by omega)]
    simp
  | succ d ih =>
    intro k i hd hi hk
    obtain ⟨k, rfl⟩ : ∃ m, k = m + 1 := ⟨k - 1, by omega⟩
    have hw : wrap64 ((i : Int) + 1) = ((i + 1 : Nat) : Int) := by unfold wrap64; omega
    simp only [tholelaw02_ClockDues.l1]
    rw [if_pos (by omega), if_pos (by omega), if_pos (by omega), hw, if_pos trivial]
    exact ih k (i + 1) (by omega) (by omega) (by omega)
theorem dues_l0 (now : Int) (l : List Int) (hl : l.length ≤ 1000) (d : Nat) : ∀ (k i : Nat) (acc : Int), -1 ≤ acc → l.length - i = d → i ≤ l.length → 2 * d + 1200 < k → (l.drop i).foldl ff acc = l.foldl ff (-1) → tholelaw02_ClockDues.l0 k now l true acc i = some true := by
  induction d with
  | zero =>
    intro k i acc ha hd hi hk he
    obtain ⟨k, rfl⟩ : ∃ m, k = m + 1 := ⟨k - 1, by omega⟩
    rw [List.drop_of_length_le (by omega)] at he
    simp only [List.foldl_nil] at he
    simp only [tholelaw02_ClockDues.l0]
    rw [if_neg (by omega)]
    simp only [Option.bind_some, List.nil_append]
    rw [if_pos (by simp; omega), first_f l (by omega) k (by omega)]
    simp only [Option.bind_some]
    rw [← he]
    exact dues_l1 l acc hl l.length k 0 (by omega) (by omega) (by omega)
  | succ d ih =>
    intro k i acc ha hd hi hk he
    obtain ⟨k, rfl⟩ : ∃ m, k = m + 2 := ⟨k - 2, by omega⟩
    have hlt : i < l.length := by omega
    have hw : wrap64 ((i : Int) + 1) = ((i + 1 : Nat) : Int) := by unfold wrap64; omega
    have hr : rd l i = l[i] := by simp [rd, List.getD_eq_getElem?_getD, List.getElem?_eq_getElem hlt]
    rw [List.drop_eq_getElem_cons hlt, List.foldl_cons] at he
    have hg := ff_ge1 acc l[i] ha
    simp only [tholelaw02_ClockDues.l0]
    rw [if_pos (by omega), if_pos (by omega), hr, due_f]
    simp only [Option.bind_some]
    have hj : tholelaw02_ClockDues.j1 (k + 1) now l true acc i false = some true := by
      simp only [tholelaw02_ClockDues.j1, Bool.false_eq_true, if_false]
      rw [if_pos (by omega), if_pos (by omega), hw, hr]
      have hrec := ih k (i + 1) (ff acc l[i]) hg (by omega) (by omega) (by omega) he
      by_cases h1 : l[i] ≥ 0
      · rw [if_pos h1]
        by_cases h2 : acc = -1
        · rw [if_pos h2]; rw [show ff acc l[i] = l[i] by unfold ff; rw [if_pos h1, if_pos (by omega)]] at hrec; exact hrec
        · rw [if_neg h2]
          by_cases h3 : l[i] < acc
          · rw [if_pos h3]; rw [show ff acc l[i] = l[i] by unfold ff; rw [if_pos h1, if_neg (by omega), if_pos h3]] at hrec; exact hrec
          · rw [if_neg h3]; rw [show ff acc l[i] = acc by unfold ff; rw [if_pos h1, if_neg (by omega), if_neg h3]] at hrec; exact hrec
      · rw [if_neg h1]; rw [show ff acc l[i] = acc by unfold ff; rw [if_neg h1]] at hrec; exact hrec
    by_cases h1 : l[i] ≥ 0
    · rw [if_pos h1]
      rw [show ((decide (l[i] ≥ 0) && decide (now ≥ l[i])) != decide (now ≥ l[i])) = false by simp [h1]]
      exact hj
    · rw [if_neg h1]
      rw [show ((decide (l[i] ≥ 0) && decide (now ≥ l[i])) != false) = false by simp; omega]
      exact hj
theorem dues_up : tholelaw02_up.f 20 = some true := by decide +kernel

theorem ClockDues (now : Int) (l : List Int) : ∃ k, tholelaw02_ClockDues.f k now l = some true := by
  refine ⟨4000, ?_⟩
  have hup : tholelaw02_up.f 4000 = some true := at_rounds (tholelaw02_up.mono) (by omega) dues_up
  unfold tholelaw02_ClockDues.f
  rw [hup]
  simp only [Option.bind_some]
  by_cases h1 : (l.length : Int) > 1000
  · rw [if_pos h1]
  rw [if_neg h1]
  exact dues_l0 now l (by omega) l.length 4000 0 (-1) (by omega) (by omega) (by omega) (by omega) (by simp)

theorem ClockDues_walk (a0 : Int) (A : Option Addr) (l : List Int) (c : Nat) (w : World) (w0 : (Lit.int .i64 a0).wf = true) (hl : l.length ≤ c) (hC : (Kd.int .i64).C w A l.length l) (hw : l.length ≤ maxLen ∧ ∀ x ∈ l, (Lit.int .i64 x).wf = true) :
    Calls Try.prog 4 #[.int .i64 a0, .slice A l.length c] w fun e w' => e = .returned (.bool true) ∧ Below w.heap.size w w' := by
  obtain ⟨k, h⟩ := ClockDues a0 l
  refine (tholelaw02_ClockDues.calls k a0 _ _ l true w hC hl h).mono ?_
  rintro e w' ⟨rfl, hd⟩
  exact ⟨rfl, hd⟩

end Go.Proofs.Ythehmmcloimpmaa.Pure
