-- PRINTED BY print.sh 35421559b90ae4d0a3588c463048766b98c2df88dd9212a6774a882060cdf62d: not written by this session
import Derived.Test.YthehmmcloimpmaaPClockOnx0
import Derived.Test.YthehmmcloimpmaaPClockOnx1
namespace Go.Proofs.Ythehmmcloimpmaa.PClockOn
open Go.RowKit Go.Proofs.YthehmmcloimpmaaW.PrintWords Go.Proofs.YthehmmcloimpmaaW.PrintLast Go.Proofs.YthehmmcloimpmaaW.PrintMore
attribute [local go_sem] max2_int min2_int max_two min_two max_three min_three max_four min_four   -- for this text's walks alone
set_option linter.unusedVariables false
set_option linter.unusedSimpArgs false

/-! ### tholelaw02_ClockOn: function 6 -/
mutual
def tholelaw02_ClockOn.j0 : Nat → Int → Int → Int → Bool → Int → Int → Bool → Option (Bool)
  | 0, _, _, _, _, _, _, _ => none
  | k + 1, x0, x1, x3, x9, x10, x12, x36 => if x36 = true then (some x9) else ((clock_Add.f k x12 x3).bind fun bt119 => (if bt119.2.isNone = true then (if x12 < x0 then (tholelaw02_ClockOn.j1 k x0 x1 x9 x10 bt119.1 true) else (if bt119.1 < x12 then (tholelaw02_ClockOn.j1 k x0 x1 x9 x10 bt119.1 true) else ((clock_Due.f x12 x10).bind fun t122 => (if t122 = true then ((clock_Due.f bt119.1 x10).bind fun t123 => (tholelaw02_ClockOn.j1 k x0 x1 x9 x10 bt119.1 (!t123))) else (tholelaw02_ClockOn.j1 k x0 x1 x9 x10 bt119.1 false))))) else (if x9 = true then (some (decide (x12 ≥ x0))) else (some false))))
def tholelaw02_ClockOn.j1 : Nat → Int → Int → Bool → Int → Int → Bool → Option (Bool)
  | 0, _, _, _, _, _, _ => none
  | k + 1, x0, x1, x9, x10, x14, x70 => if x70 = true then (some false) else ((clock_Deadline.f k x0 0).bind fun bt124 => (if x9 = true then (if bt124.2.isNone = true then ((clock_Due.f x0 bt124.1).bind fun t127 => (if t127 = true then (if x1 = (-1) then ((clock_Due.f x14 x10).bind fun t128 => (some (!t128))) else (some true)) else (some false))) else (some false)) else (some false)))
end
def tholelaw02_ClockOn.f (k : Nat) (a0 : Int) (a1 : Int) (a2 : Int) (a3 : Int) : Option (Bool) := (tholelaw02_up.f k).bind fun t112 => ((clock_Deadline.f k a0 a1).bind fun bt113 => ((clock_Add.f k a0 a2).bind fun bt115 => (if bt113.2.isNone = true then (if bt115.2.isNone = true then (tholelaw02_ClockOn.j0 k a0 a1 a3 t112 bt113.1 bt115.1 false) else (tholelaw02_ClockOn.j0 k a0 a1 a3 t112 bt113.1 bt115.1 true)) else (tholelaw02_ClockOn.j0 k a0 a1 a3 t112 bt113.1 bt115.1 true))))
theorem tholelaw02_ClockOn.mono_l : ∀ k, (∀ y0 y1 y2 y3 y4 y5 y6, LeO (tholelaw02_ClockOn.j0 k y0 y1 y2 y3 y4 y5 y6) (tholelaw02_ClockOn.j0 (k + 1) y0 y1 y2 y3 y4 y5 y6)) ∧ (∀ y0 y1 y2 y3 y4 y5, LeO (tholelaw02_ClockOn.j1 k y0 y1 y2 y3 y4 y5) (tholelaw02_ClockOn.j1 (k + 1) y0 y1 y2 y3 y4 y5))
  | 0 => ⟨fun _ _ _ _ _ _ _ r h => by simp [tholelaw02_ClockOn.j0] at h, fun _ _ _ _ _ _ r h => by simp [tholelaw02_ClockOn.j1] at h⟩
  | k + 1 => by
    obtain ⟨ih0, ih1⟩ := tholelaw02_ClockOn.mono_l k
    refine ⟨?_, ?_⟩
    · intro y0 y1 y2 y3 y4 y5 y6
      unfold tholelaw02_ClockOn.j0
      repeat' first
      | (with_reducible exact ih0 _ _ _ _ _ _ _)
      | (with_reducible exact ih1 _ _ _ _ _ _)
      | (with_reducible exact clock_Add.mono _ _ _)
      | (with_reducible exact clock_Deadline.mono _ _ _)
      | (with_reducible exact tholelaw02_up.mono _)
      | (with_reducible exact LeO.refl _)
      | (with_reducible exact LeO.none _)
      | (with_reducible refine LeO.ite ?_ ?_)
      | (with_reducible refine LeO.bind ?_ (fun _ => ?_))
      | exact ih0 _ _ _ _ _ _ _
      | exact ih1 _ _ _ _ _ _
      | exact clock_Add.mono _ _ _
      | exact clock_Deadline.mono _ _ _
      | exact tholelaw02_up.mono _
      | exact LeO.none _
      | refine LeO.ite ?_ ?_
      | refine LeO.bind ?_ (fun _ => ?_)
    · intro y0 y1 y2 y3 y4 y5
      unfold tholelaw02_ClockOn.j1
      repeat' first
      | (with_reducible exact ih0 _ _ _ _ _ _ _)
      | (with_reducible exact ih1 _ _ _ _ _ _)
      | (with_reducible exact clock_Add.mono _ _ _)
      | (with_reducible exact clock_Deadline.mono _ _ _)
      | (with_reducible exact tholelaw02_up.mono _)
      | (with_reducible exact LeO.refl _)
      | (with_reducible exact LeO.none _)
      | (with_reducible refine LeO.ite ?_ ?_)
      | (with_reducible refine LeO.bind ?_ (fun _ => ?_))
      | exact ih0 _ _ _ _ _ _ _
      | exact ih1 _ _ _ _ _ _
      | exact clock_Add.mono _ _ _
      | exact clock_Deadline.mono _ _ _
      | exact tholelaw02_up.mono _
      | exact LeO.none _
      | refine LeO.ite ?_ ?_
      | refine LeO.bind ?_ (fun _ => ?_)
theorem tholelaw02_ClockOn.mono : ∀ a0 a1 a2 a3 k, LeO (tholelaw02_ClockOn.f k a0 a1 a2 a3) (tholelaw02_ClockOn.f (k + 1) a0 a1 a2 a3) := by
  intro a0 a1 a2 a3 k
  obtain ⟨ih0, ih1⟩ := tholelaw02_ClockOn.mono_l k
  unfold tholelaw02_ClockOn.f
  repeat' first
      | (with_reducible exact ih0 _ _ _ _ _ _ _)
      | (with_reducible exact ih1 _ _ _ _ _ _)
      | (with_reducible exact clock_Add.mono _ _ _)
      | (with_reducible exact clock_Deadline.mono _ _ _)
      | (with_reducible exact tholelaw02_up.mono _)
      | (with_reducible exact LeO.refl _)
      | (with_reducible exact LeO.none _)
      | (with_reducible refine LeO.ite ?_ ?_)
      | (with_reducible refine LeO.bind ?_ (fun _ => ?_))
      | exact ih0 _ _ _ _ _ _ _
      | exact ih1 _ _ _ _ _ _
      | exact clock_Add.mono _ _ _
      | exact clock_Deadline.mono _ _ _
      | exact tholelaw02_up.mono _
      | exact LeO.none _
      | refine LeO.ite ?_ ?_
      | refine LeO.bind ?_ (fun _ => ?_)
set_option maxHeartbeats 8000000 in
set_option maxRecDepth 100000 in
theorem tholelaw02_ClockOn.calls (k : Nat) (a0 : Int) (a1 : Int) (a2 : Int) (a3 : Int) (r : Bool) (w : World) (h : tholelaw02_ClockOn.f k a0 a1 a2 a3 = some r) :
    Calls Try.prog 6 #[.int .i64 a0, .int .i64 a1, .int .i64 a2, .int .i64 a3] w fun e w' => e = .returned (.bool r) ∧ Below w.heap.size w w' := by
  have hu29 := Try.underlying29
  have hu32 := Try.underlying32
  have HB := Aside0.mk (Below.refl w.heap.size w)
  have H : ((tholelaw02_up.f k).bind fun t112 => ((clock_Deadline.f k a0 a1).bind fun bt113 => ((clock_Add.f k a0 a2).bind fun bt115 => (if bt113.2.isNone = true then (if bt115.2.isNone = true then (tholelaw02_ClockOn.j0 k a0 a1 a3 t112 bt113.1 bt115.1 false) else (tholelaw02_ClockOn.j0 k a0 a1 a3 t112 bt113.1 bt115.1 true)) else (tholelaw02_ClockOn.j0 k a0 a1 a3 t112 bt113.1 bt115.1 true))))) = some r := h
  clear h
  replace H := Option.bind_eq_some_iff.mp H
  obtain ⟨t112, A50, H⟩ := H
  replace H : ((clock_Deadline.f k a0 a1).bind fun bt113 => ((clock_Add.f k a0 a2).bind fun bt115 => (if bt113.2.isNone = true then (if bt115.2.isNone = true then (tholelaw02_ClockOn.j0 k a0 a1 a3 t112 bt113.1 bt115.1 false) else (tholelaw02_ClockOn.j0 k a0 a1 a3 t112 bt113.1 bt115.1 true)) else (tholelaw02_ClockOn.j0 k a0 a1 a3 t112 bt113.1 bt115.1 true)))) = some r := H
  have A5 := Aside0.mk A50
  clear A50
  replace H := Option.bind_eq_some_iff.mp H
  obtain ⟨⟨t113, t114⟩, A60, H⟩ := H
  replace H : ((clock_Add.f k a0 a2).bind fun bt115 => (if t114.isNone = true then (if bt115.2.isNone = true then (tholelaw02_ClockOn.j0 k a0 a1 a3 t112 t113 bt115.1 false) else (tholelaw02_ClockOn.j0 k a0 a1 a3 t112 t113 bt115.1 true)) else (tholelaw02_ClockOn.j0 k a0 a1 a3 t112 t113 bt115.1 true))) = some r := H
  have A6 := Aside0.mk A60
  clear A60
  replace H := Option.bind_eq_some_iff.mp H
  obtain ⟨⟨t115, t116⟩, A70, H⟩ := H
  replace H : (if t114.isNone = true then (if t116.isNone = true then (tholelaw02_ClockOn.j0 k a0 a1 a3 t112 t113 t115 false) else (tholelaw02_ClockOn.j0 k a0 a1 a3 t112 t113 t115 true)) else (tholelaw02_ClockOn.j0 k a0 a1 a3 t112 t113 t115 true)) = some r := H
  have A7 := Aside0.mk A70
  clear A70
  have HC8 := Aside0.mk H
  clear H
  go_enter Try.func6, Try.ntmps6
  go_upto_region 4 with (first | ((with_reducible refine gate_callee (f := 15) rfl ?_); refine goesL_ (some 18) rfl rfl Try.func15 (by kernel_rfl) rfl #[] rfl (by (try simp only [List.map_toArray, List.map_cons, List.map_nil]); first | done | rfl | (simp only [List.length_drop, List.length_take]; rfl)) ?_; (with_reducible refine (tholelaw02_up.calls k  t112 _ A5.out).mono ?_); rintro e w9 ⟨rfl, hb⟩; refine ⟨_, rfl, ?_⟩; have n0_ := Aside0.mk (below_step (by repeat (first | (with_reducible first | exact HB.out | apply below_alloc | apply pw_below_drewN | apply below_drew1) | exact HB.out)) hb); clear HB; have HB := n0_; clear n0_; (try clear hb); (try clear hb2); (try clear hk); (try clear hi)) | ((with_reducible refine gate_callee (f := 19) rfl ?_); refine goesL_ (some 22) rfl rfl Try.func19 (by kernel_rfl) rfl #[.int .i64 a0, .int .i64 a1] rfl (by (try simp only [List.map_toArray, List.map_cons, List.map_nil]); first | done | rfl | (simp only [List.length_drop, List.length_take]; rfl)) ?_; (with_reducible refine (clock_Deadline.calls k a0 a1 t113 t114 _ A6.out).mono ?_); rintro e w' ⟨rfl, ⟨nd, rfl⟩⟩; refine ⟨_, rfl, ?_⟩; (try simp only [errW_none, errW_some])) | ((with_reducible refine gate_callee (f := 18) rfl ?_); refine goesL_ (some 28) rfl rfl Try.func18 (by kernel_rfl) rfl #[.int .i64 a0, .int .i64 a2] rfl (by (try simp only [List.map_toArray, List.map_cons, List.map_nil]); first | done | rfl | (simp only [List.length_drop, List.length_take]; rfl)) ?_; (with_reducible refine (clock_Add.calls k a0 a2 t115 t116 _ A7.out).mono ?_); rintro e w' ⟨rfl, ⟨nd, rfl⟩⟩; refine ⟨_, rfl, ?_⟩; (try simp only [errW_none, errW_some])))
  (try simp only [Act.put, List.setIfInBounds_toArray, List.set_cons_zero, List.set_cons_succ])
  go_cut [36] (fun v36 wc => ∃ (kq : Nat) (x36_7 : Bool), v36 = .bool x36_7 ∧ Aside0 (tholelaw02_ClockOn.j0 kq a0 a1 a3 t112 t113 t115 x36_7 = some r) ∧ Aside0 (kq ≤ k) ∧ Aside0 (Below w.heap.size w wc))
  case first =>
    have H := HC8.out
    clear HC8
    rcases t114 with _ | q117
    · have H1 : (if t116.isNone = true then (tholelaw02_ClockOn.j0 k a0 a1 a3 t112 t113 t115 false) else (tholelaw02_ClockOn.j0 k a0 a1 a3 t112 t113 t115 true)) = some r := by rw [if_pos (show (none : Option Int).isNone = true by rfl)] at H; exact H
      clear H
      have H := H1
      clear H1
      try simp only [errW_none, errW_some]
      rcases t116 with _ | q118
      · have H1 : (tholelaw02_ClockOn.j0 k a0 a1 a3 t112 t113 t115 false) = some r := by rw [if_pos (show (none : Option Int).isNone = true by rfl)] at H; exact H
        clear H
        have H := H1
        clear H1
        try simp only [errW_none, errW_some]
        have H' := Aside0.mk H
        clear H
        go_wp2
        go_meet
        case rel => exact ⟨_, (false), (by first | rfl | (simp; done) | (simp [*]; done)), H', ⟨by first | omega | exact Nat.le_refl _⟩, ⟨by repeat (first | (with_reducible first | exact HB.out | apply below_alloc | apply pw_below_drewN | apply below_drew1) | exact HB.out)⟩⟩
      · have H1 : (tholelaw02_ClockOn.j0 k a0 a1 a3 t112 t113 t115 true) = some r := by rw [if_neg (show ¬ (some q118).isNone = true by simp)] at H; exact H
        clear H
        have H := H1
        clear H1
        try simp only [errW_none, errW_some]
        have H' := Aside0.mk H
        clear H
        go_wp2
        go_meet
        case rel => exact ⟨_, (true), (by first | rfl | (simp; done) | (simp [*]; done)), H', ⟨by first | omega | exact Nat.le_refl _⟩, ⟨by repeat (first | (with_reducible first | exact HB.out | apply below_alloc | apply pw_below_drewN | apply below_drew1) | exact HB.out)⟩⟩
    · have H1 : (tholelaw02_ClockOn.j0 k a0 a1 a3 t112 t113 t115 true) = some r := by rw [if_neg (show ¬ (some q117).isNone = true by simp)] at H; exact H
      clear H
      have H := H1
      clear H1
      try simp only [errW_none, errW_some]
      have H' := Aside0.mk H
      clear H
      go_wp2
      go_meet
      case rel => exact ⟨_, (true), (by first | rfl | (simp; done) | (simp [*]; done)), H', ⟨by first | omega | exact Nat.le_refl _⟩, ⟨by repeat (first | (with_reducible first | exact HB.out | apply below_alloc | apply pw_below_drewN | apply below_drew1) | exact HB.out)⟩⟩
  case rest =>
    clear HC8
    try clear c1
    try clear q1
    try clear p2
    try clear c6
    try clear q117
    try clear q118
    obtain ⟨kq, x36_7, rfl, HA, HJ7, HB⟩ := hcut
    cases kq with
    | zero => exact absurd HA.out (by simp [tholelaw02_ClockOn.j0])
    | succ kj7 =>
      have H := HA.out
      clear HA
      simp only [tholelaw02_ClockOn.j0] at H
      by_cases c10 : x36_7 = true
      · subst c10
        have H1 : (some t112) = some r := by rw [if_pos rfl] at H; exact H
        clear H
        have H := H1
        clear H1
        obtain rfl := Option.some.inj H
        go_wp2
        go_ret
        exact ⟨by first | rfl | (simp [errW_none, errW_some] <;> rfl) | (simp [*, errW_none, errW_some] <;> rfl), by repeat (first | (with_reducible first | exact HB.out | apply below_alloc | apply pw_below_drewN | apply below_drew1) | exact HB.out)⟩
      · replace c10 := Bool.eq_false_iff.mpr c10
        subst c10
        have H1 : ((clock_Add.f kj7 t115 a3).bind fun bt119 => (if bt119.2.isNone = true then (if t115 < a0 then (tholelaw02_ClockOn.j1 kj7 a0 a1 t112 t113 bt119.1 true) else (if bt119.1 < t115 then (tholelaw02_ClockOn.j1 kj7 a0 a1 t112 t113 bt119.1 true) else ((clock_Due.f t115 t113).bind fun t122 => (if t122 = true then ((clock_Due.f bt119.1 t113).bind fun t123 => (tholelaw02_ClockOn.j1 kj7 a0 a1 t112 t113 bt119.1 (!t123))) else (tholelaw02_ClockOn.j1 kj7 a0 a1 t112 t113 bt119.1 false))))) else (if t112 = true then (some (decide (t115 ≥ a0))) else (some false)))) = some r := by rw [if_neg (show ¬ (false = true) by decide)] at H; exact H
        clear H
        have H := H1
        clear H1
        replace H := Option.bind_eq_some_iff.mp H
        obtain ⟨⟨t119, t120⟩, A110, H⟩ := H
        replace H : (if t120.isNone = true then (if t115 < a0 then (tholelaw02_ClockOn.j1 kj7 a0 a1 t112 t113 t119 true) else (if t119 < t115 then (tholelaw02_ClockOn.j1 kj7 a0 a1 t112 t113 t119 true) else ((clock_Due.f t115 t113).bind fun t122 => (if t122 = true then ((clock_Due.f t119 t113).bind fun t123 => (tholelaw02_ClockOn.j1 kj7 a0 a1 t112 t113 t119 (!t123))) else (tholelaw02_ClockOn.j1 kj7 a0 a1 t112 t113 t119 false))))) else (if t112 = true then (some (decide (t115 ≥ a0))) else (some false))) = some r := H
        have A11 := Aside0.mk A110
        clear A110
        rcases t120 with _ | q121
        · have H1 : (if t115 < a0 then (tholelaw02_ClockOn.j1 kj7 a0 a1 t112 t113 t119 true) else (if t119 < t115 then (tholelaw02_ClockOn.j1 kj7 a0 a1 t112 t113 t119 true) else ((clock_Due.f t115 t113).bind fun t122 => (if t122 = true then ((clock_Due.f t119 t113).bind fun t123 => (tholelaw02_ClockOn.j1 kj7 a0 a1 t112 t113 t119 (!t123))) else (tholelaw02_ClockOn.j1 kj7 a0 a1 t112 t113 t119 false))))) = some r := by rw [if_pos (show (none : Option Int).isNone = true by rfl)] at H; exact H
          clear H
          have H := H1
          clear H1
          try simp only [errW_none, errW_some]
          have HC12 := Aside0.mk H
          clear H
          go_upto_region 9 with (first | ((with_reducible refine gate_callee (f := 18) rfl ?_); refine goesL_ (some 41) rfl rfl Try.func18 (by kernel_rfl) rfl #[.int .i64 t115, .int .i64 a3] rfl (by (try simp only [List.map_toArray, List.map_cons, List.map_nil]); first | done | rfl | (simp only [List.length_drop, List.length_take]; rfl)) ?_; (with_reducible refine (clock_Add.calls kj7 t115 a3 t119 none _ A11.out).mono ?_); rintro e w' ⟨rfl, ⟨nd, rfl⟩⟩; refine ⟨_, rfl, ?_⟩; (try simp only [errW_none, errW_some])))
          (try simp only [Act.put, List.setIfInBounds_toArray, List.set_cons_zero, List.set_cons_succ])
          go_cut [70] (fun v70 wc => ∃ (kq : Nat) (x70_11 : Bool), v70 = .bool x70_11 ∧ Aside0 (tholelaw02_ClockOn.j1 kq a0 a1 t112 t113 t119 x70_11 = some r) ∧ Aside0 (kq ≤ kj7) ∧ Aside0 (Below w.heap.size w wc))
          case first =>
            have H := HC12.out
            clear HC12
            by_cases c13 : t115 < a0
            · rw [if_pos c13] at H
              have c13b0 : decide (t115 < a0) = true := decide_eq_true c13
              clear c13
              (first | rw [c13b0] | (simp only [i64_w, i32_w]; rw [c13b0]) | skip)
              have H' := Aside0.mk H
              clear H
              go_wp2
              go_meet
              case rel => exact ⟨_, (true), (by first | rfl | (simp; done) | (simp [*]; done)), H', ⟨by have := HJ7.out; first | omega | exact Nat.le_refl _⟩, ⟨by repeat (first | (with_reducible first | exact HB.out | apply below_alloc | apply pw_below_drewN | apply below_drew1) | exact HB.out)⟩⟩
            · rw [if_neg c13] at H
              have c13b0 : decide (t115 < a0) = false := decide_eq_false c13
              clear c13
              (first | rw [c13b0] | (simp only [i64_w, i32_w]; rw [c13b0]) | skip)
              by_cases c14 : t119 < t115
              · rw [if_pos c14] at H
                have c14b0 : decide (t119 < t115) = true := decide_eq_true c14
                clear c14
                have H' := Aside0.mk H
                clear H
                go_wp2
                go_meet
                case rel => exact ⟨_, (true), (by first | rfl | (simp; done) | (simp [*]; done)), H', ⟨by have := HJ7.out; first | omega | exact Nat.le_refl _⟩, ⟨by repeat (first | (with_reducible first | exact HB.out | apply below_alloc | apply pw_below_drewN | apply below_drew1) | exact HB.out)⟩⟩
              · rw [if_neg c14] at H
                have c14b0 : decide (t119 < t115) = false := decide_eq_false c14
                clear c14
                replace H := Option.bind_eq_some_iff.mp H
                obtain ⟨t122, A150, H⟩ := H
                replace H : (if t122 = true then ((clock_Due.f t119 t113).bind fun t123 => (tholelaw02_ClockOn.j1 kj7 a0 a1 t112 t113 t119 (!t123))) else (tholelaw02_ClockOn.j1 kj7 a0 a1 t112 t113 t119 false)) = some r := H
                have A15 := Aside0.mk A150
                clear A150
                by_cases c16 : t122 = true
                · subst c16
                  have H1 : ((clock_Due.f t119 t113).bind fun t123 => (tholelaw02_ClockOn.j1 kj7 a0 a1 t112 t113 t119 (!t123))) = some r := by rw [if_pos rfl] at H; exact H
                  clear H
                  have H := H1
                  clear H1
                  replace H := Option.bind_eq_some_iff.mp H
                  obtain ⟨t123, A170, H⟩ := H
                  replace H : (tholelaw02_ClockOn.j1 kj7 a0 a1 t112 t113 t119 (!t123)) = some r := H
                  have A17 := Aside0.mk A170
                  clear A170
                  have H' := Aside0.mk H
                  clear H
                  go_wp2_with (first | (go_at_call 17; (with_reducible refine (clock_Due.calls t115 t113 true _ A15.out).mono ?_); rintro e w' ⟨rfl, ⟨nd, rfl⟩⟩) | (go_at_call 17; (with_reducible refine (clock_Due.calls t119 t113 t123 _ A17.out).mono ?_); rintro e w' ⟨rfl, ⟨nd, rfl⟩⟩))
                  go_meet
                  case rel => exact ⟨_, (!t123), (by first | rfl | (simp; done) | (simp [*]; done)), H', ⟨by have := HJ7.out; first | omega | exact Nat.le_refl _⟩, ⟨by repeat (first | (with_reducible first | exact HB.out | apply below_alloc | apply pw_below_drewN | apply below_drew1) | exact HB.out)⟩⟩
                · replace c16 := Bool.eq_false_iff.mpr c16
                  subst c16
                  have H1 : (tholelaw02_ClockOn.j1 kj7 a0 a1 t112 t113 t119 false) = some r := by rw [if_neg (show ¬ (false = true) by decide)] at H; exact H
                  clear H
                  have H := H1
                  clear H1
                  have H' := Aside0.mk H
                  clear H
                  go_wp2_with (first | (go_at_call 17; (with_reducible refine (clock_Due.calls t115 t113 false _ A15.out).mono ?_); rintro e w' ⟨rfl, ⟨nd, rfl⟩⟩))
                  go_meet
                  case rel => exact ⟨_, (false), (by first | rfl | (simp; done) | (simp [*]; done)), H', ⟨by have := HJ7.out; first | omega | exact Nat.le_refl _⟩, ⟨by repeat (first | (with_reducible first | exact HB.out | apply below_alloc | apply pw_below_drewN | apply below_drew1) | exact HB.out)⟩⟩
          case rest =>
            clear HC12
            try clear c1
            try clear q1
            try clear p2
            try clear c6
            try clear c10
            try clear q11
            try clear q12
            try clear c13
            try clear c13b0
            try clear c14
            try clear c14b0
            try clear c15
            try clear c16
            try clear p2
            try clear q1
            try clear q117
            try clear q118
            try clear q121
            obtain ⟨kq, x70_11, rfl, HA, HJ11, HB⟩ := hcut
            cases kq with
            | zero => exact absurd HA.out (by simp [tholelaw02_ClockOn.j1])
            | succ kj11 =>
              have H := HA.out
              clear HA
              simp only [tholelaw02_ClockOn.j1] at H
              by_cases c18 : x70_11 = true
              · subst c18
                have H1 : (some false) = some r := by rw [if_pos rfl] at H; exact H
                clear H
                have H := H1
                clear H1
                obtain rfl := Option.some.inj H
                go_wp2
                go_ret
                exact ⟨by first | rfl | (simp [errW_none, errW_some] <;> rfl) | (simp [*, errW_none, errW_some] <;> rfl), by repeat (first | (with_reducible first | exact HB.out | apply below_alloc | apply pw_below_drewN | apply below_drew1) | exact HB.out)⟩
              · replace c18 := Bool.eq_false_iff.mpr c18
                subst c18
                have H1 : ((clock_Deadline.f kj11 a0 0).bind fun bt124 => (if t112 = true then (if bt124.2.isNone = true then ((clock_Due.f a0 bt124.1).bind fun t127 => (if t127 = true then (if a1 = (-1) then ((clock_Due.f t119 t113).bind fun t128 => (some (!t128))) else (some true)) else (some false))) else (some false)) else (some false))) = some r := by rw [if_neg (show ¬ (false = true) by decide)] at H; exact H
                clear H
                have H := H1
                clear H1
                replace H := Option.bind_eq_some_iff.mp H
                obtain ⟨⟨t124, t125⟩, A190, H⟩ := H
                replace H : (if t112 = true then (if t125.isNone = true then ((clock_Due.f a0 t124).bind fun t127 => (if t127 = true then (if a1 = (-1) then ((clock_Due.f t119 t113).bind fun t128 => (some (!t128))) else (some true)) else (some false))) else (some false)) else (some false)) = some r := H
                have A19 := Aside0.mk A190
                clear A190
                by_cases c20 : t112 = true
                · subst c20
                  have H1 : (if t125.isNone = true then ((clock_Due.f a0 t124).bind fun t127 => (if t127 = true then (if a1 = (-1) then ((clock_Due.f t119 t113).bind fun t128 => (some (!t128))) else (some true)) else (some false))) else (some false)) = some r := by rw [if_pos rfl] at H; exact H
                  clear H
                  have H := H1
                  clear H1
                  rcases t125 with _ | q126
                  · have H1 : ((clock_Due.f a0 t124).bind fun t127 => (if t127 = true then (if a1 = (-1) then ((clock_Due.f t119 t113).bind fun t128 => (some (!t128))) else (some true)) else (some false))) = some r := by rw [if_pos (show (none : Option Int).isNone = true by rfl)] at H; exact H
                    clear H
                    have H := H1
                    clear H1
                    try simp only [errW_none, errW_some]
                    replace H := Option.bind_eq_some_iff.mp H
                    obtain ⟨t127, A210, H⟩ := H
                    replace H : (if t127 = true then (if a1 = (-1) then ((clock_Due.f t119 t113).bind fun t128 => (some (!t128))) else (some true)) else (some false)) = some r := H
                    have A21 := Aside0.mk A210
                    clear A210
                    by_cases c22 : t127 = true
                    · subst c22
                      have H1 : (if a1 = (-1) then ((clock_Due.f t119 t113).bind fun t128 => (some (!t128))) else (some true)) = some r := by rw [if_pos rfl] at H; exact H
                      clear H
                      have H := H1
                      clear H1
                      by_cases c23 : a1 = (-1)
                      · rw [if_pos c23] at H
                        have c23b0 : (a1 == (-1)) = true := beq_iff_eq.mpr c23
                        have c23b1 : (a1 != (-1)) = false := bne_eq_false_iff_eq.mpr c23
                        clear c23
                        replace H := Option.bind_eq_some_iff.mp H
                        obtain ⟨t128, A240, H⟩ := H
                        replace H : (some (!t128)) = some r := H
                        have A24 := Aside0.mk A240
                        clear A240
                        obtain rfl := Option.some.inj H
                        go_wp2_with (first | ((with_reducible refine gate_callee (f := 19) rfl ?_); refine goesL_ (some 73) rfl rfl Try.func19 (by kernel_rfl) rfl #[.int .i64 a0, .int .i64 0] rfl (by (try simp only [List.map_toArray, List.map_cons, List.map_nil]); first | done | rfl | (simp only [List.length_drop, List.length_take]; rfl)) ?_; (with_reducible refine (clock_Deadline.calls kj11 a0 0 t124 none _ A19.out).mono ?_); rintro e w' ⟨rfl, ⟨nd, rfl⟩⟩; refine ⟨_, rfl, ?_⟩; (try simp only [errW_none, errW_some])) | (go_at_call 17; (with_reducible refine (clock_Due.calls a0 t124 true _ A21.out).mono ?_); rintro e w' ⟨rfl, ⟨nd, rfl⟩⟩) | (go_at_call 17; (with_reducible refine (clock_Due.calls t119 t113 t128 _ A24.out).mono ?_); rintro e w' ⟨rfl, ⟨nd, rfl⟩⟩))
                        go_ret
                        exact ⟨by first | rfl | (simp [errW_none, errW_some] <;> rfl) | (simp [*, errW_none, errW_some] <;> rfl), by repeat (first | (with_reducible first | exact HB.out | apply below_alloc | apply pw_below_drewN | apply below_drew1) | exact HB.out)⟩
                      · rw [if_neg c23] at H
                        have c23b0 : (a1 == (-1)) = false := beq_eq_false_iff_ne.mpr c23
                        have c23b1 : (a1 != (-1)) = true := bne_iff_ne.mpr c23
                        obtain rfl := Option.some.inj H
                        go_wp2_with (first | ((with_reducible refine gate_callee (f := 19) rfl ?_); refine goesL_ (some 73) rfl rfl Try.func19 (by kernel_rfl) rfl #[.int .i64 a0, .int .i64 0] rfl (by (try simp only [List.map_toArray, List.map_cons, List.map_nil]); first | done | rfl | (simp only [List.length_drop, List.length_take]; rfl)) ?_; (with_reducible refine (clock_Deadline.calls kj11 a0 0 t124 none _ A19.out).mono ?_); rintro e w' ⟨rfl, ⟨nd, rfl⟩⟩; refine ⟨_, rfl, ?_⟩; (try simp only [errW_none, errW_some])) | (go_at_call 17; (with_reducible refine (clock_Due.calls a0 t124 true _ A21.out).mono ?_); rintro e w' ⟨rfl, ⟨nd, rfl⟩⟩))
                        go_ret
                        exact ⟨by first | rfl | (simp [errW_none, errW_some] <;> rfl) | (simp [*, errW_none, errW_some] <;> rfl), by repeat (first | (with_reducible first | exact HB.out | apply below_alloc | apply pw_below_drewN | apply below_drew1) | exact HB.out)⟩
                    · replace c22 := Bool.eq_false_iff.mpr c22
                      subst c22
                      have H1 : (some false) = some r := by rw [if_neg (show ¬ (false = true) by decide)] at H; exact H
                      clear H
                      have H := H1
                      clear H1
                      obtain rfl := Option.some.inj H
                      go_wp2_with (first | ((with_reducible refine gate_callee (f := 19) rfl ?_); refine goesL_ (some 73) rfl rfl Try.func19 (by kernel_rfl) rfl #[.int .i64 a0, .int .i64 0] rfl (by (try simp only [List.map_toArray, List.map_cons, List.map_nil]); first | done | rfl | (simp only [List.length_drop, List.length_take]; rfl)) ?_; (with_reducible refine (clock_Deadline.calls kj11 a0 0 t124 none _ A19.out).mono ?_); rintro e w' ⟨rfl, ⟨nd, rfl⟩⟩; refine ⟨_, rfl, ?_⟩; (try simp only [errW_none, errW_some])) | (go_at_call 17; (with_reducible refine (clock_Due.calls a0 t124 false _ A21.out).mono ?_); rintro e w' ⟨rfl, ⟨nd, rfl⟩⟩))
                      go_ret
                      exact ⟨by first | rfl | (simp [errW_none, errW_some] <;> rfl) | (simp [*, errW_none, errW_some] <;> rfl), by repeat (first | (with_reducible first | exact HB.out | apply below_alloc | apply pw_below_drewN | apply below_drew1) | exact HB.out)⟩
                  · have H1 : (some false) = some r := by rw [if_neg (show ¬ (some q126).isNone = true by simp)] at H; exact H
                    clear H
                    have H := H1
                    clear H1
                    try simp only [errW_none, errW_some]
                    obtain rfl := Option.some.inj H
                    go_wp2_with (first | ((with_reducible refine gate_callee (f := 19) rfl ?_); refine goesL_ (some 73) rfl rfl Try.func19 (by kernel_rfl) rfl #[.int .i64 a0, .int .i64 0] rfl (by (try simp only [List.map_toArray, List.map_cons, List.map_nil]); first | done | rfl | (simp only [List.length_drop, List.length_take]; rfl)) ?_; (with_reducible refine (clock_Deadline.calls kj11 a0 0 t124 (some q126) _ A19.out).mono ?_); rintro e w' ⟨rfl, ⟨nd, rfl⟩⟩; refine ⟨_, rfl, ?_⟩; (try simp only [errW_none, errW_some])))
                    go_ret
                    exact ⟨by first | rfl | (simp [errW_none, errW_some] <;> rfl) | (simp [*, errW_none, errW_some] <;> rfl), by repeat (first | (with_reducible first | exact HB.out | apply below_alloc | apply pw_below_drewN | apply below_drew1) | exact HB.out)⟩
                · replace c20 := Bool.eq_false_iff.mpr c20
                  subst c20
                  have H1 : (some false) = some r := by rw [if_neg (show ¬ (false = true) by decide)] at H; exact H
                  clear H
                  have H := H1
                  clear H1
                  obtain rfl := Option.some.inj H
                  go_wp2_with (first | ((with_reducible refine gate_callee (f := 19) rfl ?_); refine goesL_ (some 73) rfl rfl Try.func19 (by kernel_rfl) rfl #[.int .i64 a0, .int .i64 0] rfl (by (try simp only [List.map_toArray, List.map_cons, List.map_nil]); first | done | rfl | (simp only [List.length_drop, List.length_take]; rfl)) ?_; (with_reducible refine (clock_Deadline.calls kj11 a0 0 t124 t125 _ A19.out).mono ?_); rintro e w' ⟨rfl, ⟨nd, rfl⟩⟩; refine ⟨_, rfl, ?_⟩; (try simp only [errW_none, errW_some])))
                  go_ret
                  exact ⟨by first | rfl | (simp [errW_none, errW_some] <;> rfl) | (simp [*, errW_none, errW_some] <;> rfl), by repeat (first | (with_reducible first | exact HB.out | apply below_alloc | apply pw_below_drewN | apply below_drew1) | exact HB.out)⟩
        · have H1 : (if t112 = true then (some (decide (t115 ≥ a0))) else (some false)) = some r := by rw [if_neg (show ¬ (some q121).isNone = true by simp)] at H; exact H
          clear H
          have H := H1
          clear H1
          try simp only [errW_none, errW_some]
          by_cases c25 : t112 = true
          · subst c25
            have H1 : (some (decide (t115 ≥ a0))) = some r := by rw [if_pos rfl] at H; exact H
            clear H
            have H := H1
            clear H1
            obtain rfl := Option.some.inj H
            go_wp2_with (first | ((with_reducible refine gate_callee (f := 18) rfl ?_); refine goesL_ (some 41) rfl rfl Try.func18 (by kernel_rfl) rfl #[.int .i64 t115, .int .i64 a3] rfl (by (try simp only [List.map_toArray, List.map_cons, List.map_nil]); first | done | rfl | (simp only [List.length_drop, List.length_take]; rfl)) ?_; (with_reducible refine (clock_Add.calls kj7 t115 a3 t119 (some q121) _ A11.out).mono ?_); rintro e w' ⟨rfl, ⟨nd, rfl⟩⟩; refine ⟨_, rfl, ?_⟩; (try simp only [errW_none, errW_some])))
            go_ret
            exact ⟨by first | rfl | (simp [errW_none, errW_some] <;> rfl) | (simp [*, errW_none, errW_some] <;> rfl), by repeat (first | (with_reducible first | exact HB.out | apply below_alloc | apply pw_below_drewN | apply below_drew1) | exact HB.out)⟩
          · replace c25 := Bool.eq_false_iff.mpr c25
            subst c25
            have H1 : (some false) = some r := by rw [if_neg (show ¬ (false = true) by decide)] at H; exact H
            clear H
            have H := H1
            clear H1
            obtain rfl := Option.some.inj H
            go_wp2_with (first | ((with_reducible refine gate_callee (f := 18) rfl ?_); refine goesL_ (some 41) rfl rfl Try.func18 (by kernel_rfl) rfl #[.int .i64 t115, .int .i64 a3] rfl (by (try simp only [List.map_toArray, List.map_cons, List.map_nil]); first | done | rfl | (simp only [List.length_drop, List.length_take]; rfl)) ?_; (with_reducible refine (clock_Add.calls kj7 t115 a3 t119 (some q121) _ A11.out).mono ?_); rintro e w' ⟨rfl, ⟨nd, rfl⟩⟩; refine ⟨_, rfl, ?_⟩; (try simp only [errW_none, errW_some])))
            go_ret
            exact ⟨by first | rfl | (simp [errW_none, errW_some] <;> rfl) | (simp [*, errW_none, errW_some] <;> rfl), by repeat (first | (with_reducible first | exact HB.out | apply below_alloc | apply pw_below_drewN | apply below_drew1) | exact HB.out)⟩

/-- THE ONE PURE STATEMENT of tholelaw02_ClockOn: yours. -/
def tholelaw02_ClockOn.Pure : Prop := ∀ (a0 : Int) (a1 : Int) (a2 : Int) (a3 : Int), (Lit.int .i64 a0).wf = true → (Lit.int .i64 a1).wf = true → (Lit.int .i64 a2).wf = true → (Lit.int .i64 a3).wf = true → ∃ k, tholelaw02_ClockOn.f k a0 a1 a2 a3 = some true
theorem tholelaw02_ClockOn.walk (P : tholelaw02_ClockOn.Pure) (a0 : Int) (a1 : Int) (a2 : Int) (a3 : Int) (w : World) (w0 : (Lit.int .i64 a0).wf = true) (w1 : (Lit.int .i64 a1).wf = true) (w2 : (Lit.int .i64 a2).wf = true) (w3 : (Lit.int .i64 a3).wf = true) :
    Calls Try.prog 6 #[.int .i64 a0, .int .i64 a1, .int .i64 a2, .int .i64 a3] w fun e w' => e = .returned (.bool true) ∧ Below w.heap.size w w' := by
  obtain ⟨k, h⟩ := P a0 a1 a2 a3 w0 w1 w2 w3
  refine (tholelaw02_ClockOn.calls k a0 a1 a2 a3 true w h).mono ?_
  rintro e w' ⟨rfl, hd⟩
  exact ⟨rfl, hd⟩

end Go.Proofs.Ythehmmcloimpmaa.PClockOn
