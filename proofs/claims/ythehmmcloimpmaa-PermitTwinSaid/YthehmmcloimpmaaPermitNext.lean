/- Permits: who was unparked, or interrupted, doesn't park next; two unparks are one permit; who is woken, without a reason, parks again. No condition beyond the statement's own. -/
import Derived.Test.YthehmmcloimpmaaPermitOne
set_option linter.unusedVariables false
set_option linter.unusedSimpArgs false
namespace Go.Proofs.Ythehmmcloimpmaa.Permit
open Go.RowKit Go.Proofs.YthehmmcloimpmaaW.PrintWords Go.Proofs.Ythehmmcloimpmaa.Base Go.Proofs.Ythehmmcloimpmaa.Clock
attribute [local go_sem] eqlE eqlN eqlN' guardE guardN guardN'

theorem below_upd {w0 w w' : World} (hb : Below w0.heap.size w0 w) (hu : Upd (fun k => w0.heap.size ≤ k) w w') : Below w0.heap.size w0 w' := hb.trans (hu.below hb.size (fun _ h => h))
theorem TableIn.from_ {T : TypeId} {B C : Nat} {w : World} {p : Nat} {l : List Park} {now : Int} (h : TableIn T (fun k => C ≤ k) w p l now) (hB : B ≤ C) : TableIn T (fun k => B ≤ k) w p l now := h.mono (fun k hk => by omega)

theorem up_calls (w : World) : Calls Try.prog 28 #[] w fun e w' => e = .returned (.bool true) ∧ Below w.heap.size w w' := by
  go_enter Try.func28, Try.ntmps28
  go_wp2_with fail
  refine (new_good _ 1 (by omega) (by omega)).mono ?_; rintro e w1 ⟨p, rfl, ht, hb⟩
  go_wp2_with fail
  refine (unpark_free _ p _ _ 0 0 (by simp) ht rfl).mono ?_; rintro e w2 ⟨rfl, ht2, hu2⟩
  have hb2 := below_upd hb hu2
  clear ht hb hu2
  go_wp2_with fail
  refine (unpark_free _ p _ _ 0 0 (by simp) ht2 rfl).mono ?_; rintro e w3 ⟨rfl, ht3, hu3⟩
  have hb3 := below_upd hb2 hu3
  clear ht2 hb2 hu3
  go_wp2_with fail
  refine (park_permit _ p _ _ 0 0 (-1) (by simp) ht3 rfl (by omega) rfl).mono ?_; rintro e w4 ⟨rfl, ht4, hu4⟩
  have hb4 := below_upd hb3 hu4
  clear ht3 hb3 hu4
  go_wp2_with fail
  refine (park_blocks _ p _ _ 0 0 (-1) (by simp) ht4 rfl (by omega) rfl rfl (by omega)).mono ?_; rintro e w5 ⟨rfl, ht5, hu5⟩
  have hb5 := below_upd hb4 hu5
  clear ht4 hb4 hu5 ht5
  go_wp2_with fail
  refine (new_bad _ 0 (by omega)).mono ?_; rintro e w6 ⟨rfl, rfl⟩
  go_wp2
  go_ret
  exact ⟨rfl, hb5⟩

theorem next_unpark (how D d : Int) (w : World) (hk : ∀ w, Calls Try.prog 31 #[.int .i64 how, .int .i64 3] w fun e w' => e = .returned (.int .i64 0) ∧ w = w') (hD : (D < 0 ∨ 1000 < D) ∧ d = -1 ∨ (0 ≤ D ∧ D ≤ 1000) ∧ d = D + 1) :
    Calls Try.prog 10 #[.int .i64 how, .int .i64 D] w fun e w' => e = .returned (.bool true) ∧ Below w.heap.size w w' := by
  have HK := Aside0.mk hk
  clear hk
  by_cases h0 : D < 0
  · obtain rfl : d = -1 := by omega
    clear hD
    go_enter Try.func10, Try.ntmps10
    go_wp2_with fail
    refine (up_calls _).mono ?_; rintro e w1 ⟨rfl, hb⟩
    go_wp2_with fail
    refine (new_good _ 1 (by omega) (by omega)).mono ?_; rintro e w2 ⟨p, rfl, ht, hb1⟩
    have hb2 := below_step hb hb1
    replace ht := ht.from_ hb.size
    clear hb hb1
    go_wp2_with fail
    refine (park_blocks _ p _ _ 0 0 _ (by simp) ht rfl (by omega) rfl rfl (by omega)).mono ?_; rintro e w3 ⟨rfl, ht3, hu3⟩
    have hb3 := below_upd hb2 hu3
    clear ht hb2 hu3
    go_wp2_with fail
    refine (HK.out _).mono ?_; rintro e w4 ⟨rfl, rfl⟩
    go_wp2_with fail
    refine (unpark_blocked _ p _ _ 0 0 (by simp) ht3 rfl).mono ?_; rintro e w4 ⟨rfl, ht4, hu4⟩
    have hb4 := below_upd hb3 hu4
    clear ht3 hb3 hu4
    go_wp2_with fail
    refine (unpark_free _ p _ _ 0 0 (by simp) ht4 rfl).mono ?_; rintro e w5 ⟨rfl, ht5, hu5⟩
    have hb5 := below_upd hb4 hu5
    clear ht4 hb4 hu5
    go_wp2_with fail
    refine (unpark_free _ p _ _ 0 0 (by simp) ht5 rfl).mono ?_; rintro e w6 ⟨rfl, ht6, hu6⟩
    have hb6 := below_upd hb5 hu6
    clear ht5 hb5 hu6
    go_wp2_with fail
    refine (park_permit _ p _ _ 0 0 _ (by simp) ht6 rfl (by omega) rfl).mono ?_; rintro e w7 ⟨rfl, ht7, hu7⟩
    have hb7 := below_upd hb6 hu7
    clear ht6 hb6 hu7
    go_wp2_with fail
    refine (park_blocks _ p _ _ 0 0 _ (by simp) ht7 rfl (by omega) rfl rfl (by omega)).mono ?_; rintro e w8 ⟨rfl, ht8, hu8⟩
    have hb8 := below_upd hb7 hu8
    clear ht7 hb7 hu8 ht8
    go_wp2
    go_ret
    exact ⟨rfl, hb8⟩
  · by_cases h1 : 1000 < D
    · obtain rfl : d = -1 := by omega
      clear hD
      go_enter Try.func10, Try.ntmps10
      go_wp2_with fail
      refine (up_calls _).mono ?_; rintro e w1 ⟨rfl, hb⟩
      go_wp2_with fail
      refine (new_good _ 1 (by omega) (by omega)).mono ?_; rintro e w2 ⟨p, rfl, ht, hb1⟩
      have hb2 := below_step hb hb1
      replace ht := ht.from_ hb.size
      clear hb hb1
      go_wp2_with fail
      refine (park_blocks _ p _ _ 0 0 _ (by simp) ht rfl (by omega) rfl rfl (by omega)).mono ?_; rintro e w3 ⟨rfl, ht3, hu3⟩
      have hb3 := below_upd hb2 hu3
      clear ht hb2 hu3
      go_wp2_with fail
      refine (HK.out _).mono ?_; rintro e w4 ⟨rfl, rfl⟩
      go_wp2_with fail
      refine (unpark_blocked _ p _ _ 0 0 (by simp) ht3 rfl).mono ?_; rintro e w4 ⟨rfl, ht4, hu4⟩
      have hb4 := below_upd hb3 hu4
      clear ht3 hb3 hu4
      go_wp2_with fail
      refine (unpark_free _ p _ _ 0 0 (by simp) ht4 rfl).mono ?_; rintro e w5 ⟨rfl, ht5, hu5⟩
      have hb5 := below_upd hb4 hu5
      clear ht4 hb4 hu5
      go_wp2_with fail
      refine (unpark_free _ p _ _ 0 0 (by simp) ht5 rfl).mono ?_; rintro e w6 ⟨rfl, ht6, hu6⟩
      have hb6 := below_upd hb5 hu6
      clear ht5 hb5 hu6
      go_wp2_with fail
      refine (park_permit _ p _ _ 0 0 _ (by simp) ht6 rfl (by omega) rfl).mono ?_; rintro e w7 ⟨rfl, ht7, hu7⟩
      have hb7 := below_upd hb6 hu7
      clear ht6 hb6 hu7
      go_wp2_with fail
      refine (park_blocks _ p _ _ 0 0 _ (by simp) ht7 rfl (by omega) rfl rfl (by omega)).mono ?_; rintro e w8 ⟨rfl, ht8, hu8⟩
      have hb8 := below_upd hb7 hu8
      clear ht7 hb7 hu8 ht8
      go_wp2
      go_ret
      exact ⟨rfl, hb8⟩
    · have hd : d = D + 1 := by omega
      subst hd
      clear hD
      go_enter Try.func10, Try.ntmps10
      go_wp2_with fail
      refine (up_calls _).mono ?_; rintro e w1 ⟨rfl, hb⟩
      go_wp2_with fail
      refine (new_good _ 1 (by omega) (by omega)).mono ?_; rintro e w2 ⟨p, rfl, ht, hb1⟩
      have hb2 := below_step hb hb1
      replace ht := ht.from_ hb.size
      clear hb hb1
      go_wp2_with fail
      refine (park_blocks _ p _ _ 0 0 _ (by simp) ht rfl (by omega) rfl rfl (by omega)).mono ?_; rintro e w3 ⟨rfl, ht3, hu3⟩
      have hb3 := below_upd hb2 hu3
      clear ht hb2 hu3
      go_wp2_with fail
      refine (HK.out _).mono ?_; rintro e w4 ⟨rfl, rfl⟩
      go_wp2_with fail
      refine (unpark_blocked _ p _ _ 0 0 (by simp) ht3 rfl).mono ?_; rintro e w4 ⟨rfl, ht4, hu4⟩
      have hb4 := below_upd hb3 hu4
      clear ht3 hb3 hu4
      go_wp2_with fail
      refine (unpark_free _ p _ _ 0 0 (by simp) ht4 rfl).mono ?_; rintro e w5 ⟨rfl, ht5, hu5⟩
      have hb5 := below_upd hb4 hu5
      clear ht4 hb4 hu5
      go_wp2_with fail
      refine (unpark_free _ p _ _ 0 0 (by simp) ht5 rfl).mono ?_; rintro e w6 ⟨rfl, ht6, hu6⟩
      have hb6 := below_upd hb5 hu6
      clear ht5 hb5 hu6
      go_wp2_with fail
      refine (park_permit _ p _ _ 0 0 _ (by simp) ht6 rfl (by omega) rfl).mono ?_; rintro e w7 ⟨rfl, ht7, hu7⟩
      have hb7 := below_upd hb6 hu7
      clear ht6 hb6 hu7
      go_wp2_with fail
      refine (park_blocks _ p _ _ 0 0 _ (by simp) ht7 rfl (by omega) rfl rfl (by omega)).mono ?_; rintro e w8 ⟨rfl, ht8, hu8⟩
      have hb8 := below_upd hb7 hu8
      clear ht7 hb7 hu8 ht8
      go_wp2
      go_ret
      exact ⟨rfl, hb8⟩

theorem next_interrupt (how D d : Int) (w : World) (hk : ∀ w, Calls Try.prog 31 #[.int .i64 how, .int .i64 3] w fun e w' => e = .returned (.int .i64 1) ∧ w = w') (hD : (D < 0 ∨ 1000 < D) ∧ d = -1 ∨ (0 ≤ D ∧ D ≤ 1000) ∧ d = D + 1) :
    Calls Try.prog 10 #[.int .i64 how, .int .i64 D] w fun e w' => e = .returned (.bool true) ∧ Below w.heap.size w w' := by
  have HK := Aside0.mk hk
  clear hk
  by_cases h0 : D < 0
  · obtain rfl : d = -1 := by omega
    clear hD
    go_enter Try.func10, Try.ntmps10
    go_wp2_with fail
    refine (up_calls _).mono ?_; rintro e w1 ⟨rfl, hb⟩
    go_wp2_with fail
    refine (new_good _ 1 (by omega) (by omega)).mono ?_; rintro e w2 ⟨p, rfl, ht, hb1⟩
    have hb2 := below_step hb hb1
    replace ht := ht.from_ hb.size
    clear hb hb1
    go_wp2_with fail
    refine (park_blocks _ p _ _ 0 0 _ (by simp) ht rfl (by omega) rfl rfl (by omega)).mono ?_; rintro e w3 ⟨rfl, ht3, hu3⟩
    have hb3 := below_upd hb2 hu3
    clear ht hb2 hu3
    go_wp2_with fail
    refine (HK.out _).mono ?_; rintro e w4 ⟨rfl, rfl⟩
    go_wp2_with fail
    refine (interrupt_calls _ p _ _ 0 0 (by simp) ht3).mono ?_; rintro e w4 ⟨rfl, ht4, hu4⟩
    have hb4 := below_upd hb3 hu4
    clear ht3 hb3 hu4
    go_wp2_with fail
    refine (park_flag _ p _ _ 0 0 _ (by simp) ht4 rfl (by omega) rfl rfl).mono ?_; rintro e w7 ⟨rfl, rfl⟩
    clear ht4
    go_wp2
    go_ret
    exact ⟨rfl, hb4⟩
  · by_cases h1 : 1000 < D
    · obtain rfl : d = -1 := by omega
      clear hD
      go_enter Try.func10, Try.ntmps10
      go_wp2_with fail
      refine (up_calls _).mono ?_; rintro e w1 ⟨rfl, hb⟩
      go_wp2_with fail
      refine (new_good _ 1 (by omega) (by omega)).mono ?_; rintro e w2 ⟨p, rfl, ht, hb1⟩
      have hb2 := below_step hb hb1
      replace ht := ht.from_ hb.size
      clear hb hb1
      go_wp2_with fail
      refine (park_blocks _ p _ _ 0 0 _ (by simp) ht rfl (by omega) rfl rfl (by omega)).mono ?_; rintro e w3 ⟨rfl, ht3, hu3⟩
      have hb3 := below_upd hb2 hu3
      clear ht hb2 hu3
      go_wp2_with fail
      refine (HK.out _).mono ?_; rintro e w4 ⟨rfl, rfl⟩
      go_wp2_with fail
      refine (interrupt_calls _ p _ _ 0 0 (by simp) ht3).mono ?_; rintro e w4 ⟨rfl, ht4, hu4⟩
      have hb4 := below_upd hb3 hu4
      clear ht3 hb3 hu4
      go_wp2_with fail
      refine (park_flag _ p _ _ 0 0 _ (by simp) ht4 rfl (by omega) rfl rfl).mono ?_; rintro e w7 ⟨rfl, rfl⟩
      clear ht4
      go_wp2
      go_ret
      exact ⟨rfl, hb4⟩
    · have hd : d = D + 1 := by omega
      subst hd
      clear hD
      go_enter Try.func10, Try.ntmps10
      go_wp2_with fail
      refine (up_calls _).mono ?_; rintro e w1 ⟨rfl, hb⟩
      go_wp2_with fail
      refine (new_good _ 1 (by omega) (by omega)).mono ?_; rintro e w2 ⟨p, rfl, ht, hb1⟩
      have hb2 := below_step hb hb1
      replace ht := ht.from_ hb.size
      clear hb hb1
      go_wp2_with fail
      refine (park_blocks _ p _ _ 0 0 _ (by simp) ht rfl (by omega) rfl rfl (by omega)).mono ?_; rintro e w3 ⟨rfl, ht3, hu3⟩
      have hb3 := below_upd hb2 hu3
      clear ht hb2 hu3
      go_wp2_with fail
      refine (HK.out _).mono ?_; rintro e w4 ⟨rfl, rfl⟩
      go_wp2_with fail
      refine (interrupt_calls _ p _ _ 0 0 (by simp) ht3).mono ?_; rintro e w4 ⟨rfl, ht4, hu4⟩
      have hb4 := below_upd hb3 hu4
      clear ht3 hb3 hu4
      go_wp2_with fail
      refine (park_flag _ p _ _ 0 0 _ (by simp) ht4 rfl (by omega) rfl rfl).mono ?_; rintro e w7 ⟨rfl, rfl⟩
      clear ht4
      go_wp2
      go_ret
      exact ⟨rfl, hb4⟩

theorem next_wake (how D d : Int) (w : World) (hk : ∀ w, Calls Try.prog 31 #[.int .i64 how, .int .i64 3] w fun e w' => e = .returned (.int .i64 2) ∧ w = w') (hD : (D < 0 ∨ 1000 < D) ∧ d = -1 ∨ (0 ≤ D ∧ D ≤ 1000) ∧ d = D + 1) :
    Calls Try.prog 10 #[.int .i64 how, .int .i64 D] w fun e w' => e = .returned (.bool true) ∧ Below w.heap.size w w' := by
  have HK := Aside0.mk hk
  clear hk
  by_cases h0 : D < 0
  · obtain rfl : d = -1 := by omega
    clear hD
    go_enter Try.func10, Try.ntmps10
    go_wp2_with fail
    refine (up_calls _).mono ?_; rintro e w1 ⟨rfl, hb⟩
    go_wp2_with fail
    refine (new_good _ 1 (by omega) (by omega)).mono ?_; rintro e w2 ⟨p, rfl, ht, hb1⟩
    have hb2 := below_step hb hb1
    replace ht := ht.from_ hb.size
    clear hb hb1
    go_wp2_with fail
    refine (park_blocks _ p _ _ 0 0 _ (by simp) ht rfl (by omega) rfl rfl (by omega)).mono ?_; rintro e w3 ⟨rfl, ht3, hu3⟩
    have hb3 := below_upd hb2 hu3
    clear ht hb2 hu3
    go_wp2_with fail
    refine (HK.out _).mono ?_; rintro e w4 ⟨rfl, rfl⟩
    go_wp2_with fail
    refine (wake_calls _ p _ _ 0 0 (by simp) ht3).mono ?_; rintro e w4 ⟨rfl, ht4, hu4⟩
    have hb4 := below_upd hb3 hu4
    clear ht3 hb3 hu4
    go_wp2_with fail
    refine (park_blocks _ p _ _ 0 0 _ (by simp) ht4 rfl (by omega) rfl rfl (by omega)).mono ?_; rintro e w7 ⟨rfl, ht7, hu7⟩
    have hb7 := below_upd hb4 hu7
    clear ht4 hb4 hu7 ht7
    go_wp2
    go_ret
    exact ⟨rfl, hb7⟩
  · by_cases h1 : 1000 < D
    · obtain rfl : d = -1 := by omega
      clear hD
      go_enter Try.func10, Try.ntmps10
      go_wp2_with fail
      refine (up_calls _).mono ?_; rintro e w1 ⟨rfl, hb⟩
      go_wp2_with fail
      refine (new_good _ 1 (by omega) (by omega)).mono ?_; rintro e w2 ⟨p, rfl, ht, hb1⟩
      have hb2 := below_step hb hb1
      replace ht := ht.from_ hb.size
      clear hb hb1
      go_wp2_with fail
      refine (park_blocks _ p _ _ 0 0 _ (by simp) ht rfl (by omega) rfl rfl (by omega)).mono ?_; rintro e w3 ⟨rfl, ht3, hu3⟩
      have hb3 := below_upd hb2 hu3
      clear ht hb2 hu3
      go_wp2_with fail
      refine (HK.out _).mono ?_; rintro e w4 ⟨rfl, rfl⟩
      go_wp2_with fail
      refine (wake_calls _ p _ _ 0 0 (by simp) ht3).mono ?_; rintro e w4 ⟨rfl, ht4, hu4⟩
      have hb4 := below_upd hb3 hu4
      clear ht3 hb3 hu4
      go_wp2_with fail
      refine (park_blocks _ p _ _ 0 0 _ (by simp) ht4 rfl (by omega) rfl rfl (by omega)).mono ?_; rintro e w7 ⟨rfl, ht7, hu7⟩
      have hb7 := below_upd hb4 hu7
      clear ht4 hb4 hu7 ht7
      go_wp2
      go_ret
      exact ⟨rfl, hb7⟩
    · have hd : d = D + 1 := by omega
      subst hd
      clear hD
      go_enter Try.func10, Try.ntmps10
      go_wp2_with fail
      refine (up_calls _).mono ?_; rintro e w1 ⟨rfl, hb⟩
      go_wp2_with fail
      refine (new_good _ 1 (by omega) (by omega)).mono ?_; rintro e w2 ⟨p, rfl, ht, hb1⟩
      have hb2 := below_step hb hb1
      replace ht := ht.from_ hb.size
      clear hb hb1
      go_wp2_with fail
      refine (park_blocks _ p _ _ 0 0 _ (by simp) ht rfl (by omega) rfl rfl (by omega)).mono ?_; rintro e w3 ⟨rfl, ht3, hu3⟩
      have hb3 := below_upd hb2 hu3
      clear ht hb2 hu3
      go_wp2_with fail
      refine (HK.out _).mono ?_; rintro e w4 ⟨rfl, rfl⟩
      go_wp2_with fail
      refine (wake_calls _ p _ _ 0 0 (by simp) ht3).mono ?_; rintro e w4 ⟨rfl, ht4, hu4⟩
      have hb4 := below_upd hb3 hu4
      clear ht3 hb3 hu4
      go_wp2_with fail
      refine (park_blocks _ p _ _ 0 0 _ (by simp) ht4 rfl (by omega) rfl rfl (by omega)).mono ?_; rintro e w7 ⟨rfl, ht7, hu7⟩
      have hb7 := below_upd hb4 hu7
      clear ht4 hb4 hu7 ht7
      go_wp2
      go_ret
      exact ⟨rfl, hb7⟩

theorem next_walk (how D : Int) (w : World) (w0 : (Lit.int .i64 how).wf = true) (w1 : (Lit.int .i64 D).wf = true) :
    Calls Try.prog 10 #[.int .i64 how, .int .i64 D] w fun e w' => e = .returned (.bool true) ∧ Below w.heap.size w w' := by
  have r := pickI_range how (n := 3) (by omega)
  have hpick := fun w => pick_calls w how 3 w0 (by omega) (by omega)
  have hD : ∃ d, (D < 0 ∨ 1000 < D) ∧ d = -1 ∨ (0 ≤ D ∧ D ≤ 1000) ∧ d = D + 1 := by
    by_cases h : D < 0 ∨ 1000 < D
    · exact ⟨-1, .inl ⟨h, rfl⟩⟩
    · exact ⟨D + 1, .inr ⟨by omega, rfl⟩⟩
  obtain ⟨d, hD⟩ := hD
  rcases (show pickI how 3 = 0 ∨ pickI how 3 = 1 ∨ pickI how 3 = 2 by omega) with hk | hk | hk
  · rw [hk] at hpick; exact next_unpark how D d w hpick hD
  · rw [hk] at hpick; exact next_interrupt how D d w hpick hD
  · rw [hk] at hpick; exact next_wake how D d w hpick hD
end Go.Proofs.Ythehmmcloimpmaa.Permit
