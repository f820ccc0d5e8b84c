/- Permits: a table stands as its model does. -/
import Derived.Test.YthehmmcloimpmaaPermitBlocked
set_option linter.unusedVariables false
set_option linter.unusedSimpArgs false
namespace Go.Proofs.Ythehmmcloimpmaa.Permit
open Go.RowKit Go.Proofs.YthehmmcloimpmaaW.PrintWords Go.Proofs.Ythehmmcloimpmaa.Base Go.Proofs.Ythehmmcloimpmaa.Clock
attribute [local go_sem] eqlE eqlN eqlN' guardE guardN guardN' neqE neqN' nguardE nguardN' eqlPark4 neqPark4 guardPark4

set_option maxRecDepth 100000 in
set_option maxHeartbeats 1000000 in
theorem alike_calls (w : World) (p q : Nat) (F G : Nat → Prop) (l : List Park) (now : Int) (hl : 0 < l.length) (h8 : l.length ≤ 8) (ht : TableIn PT F w p l now) (hm : TableIn RT G w q l now) :
    Calls Try.prog 42 #[.pointer (some ⟨p, 0, none⟩), .pointer (some ⟨q, 0, none⟩)] w fun e w' => e = .returned (.bool true) ∧ Below w.heap.size w w' := by
  have HT := Aside0.mk ht
  have HM := Aside0.mk hm
  clear ht hm
  go_enter Try.func42, Try.ntmps42
  go_wp2_with fail
  go_loopw [5] (fun v5 wr => ∃ k : Int, -1 ≤ k ∧ k ≤ l.length + 1 ∧ v5 = .int .i64 k ∧ Aside0 (Below w.heap.size w wr)) (fun v5 _ => (l.length + 1 - intOf v5).toNat)
  case atStart => exact ⟨-1, by omega, by omega, rfl, Aside0.mk (Below.refl _ _)⟩
  case round =>
    obtain ⟨k, hk1, hk2, rfl, HB⟩ := hrel
    obtain ⟨g, c, -, -, hGg, hne, -, mr, m0, m1, -⟩ := (HM.out.below HB.out).open_ hl (by decide)
    have q1 := World.block_lt_of_cell? wr _ m0
    by_cases hin : 0 ≤ k ∧ k < l.length
    · obtain ⟨j, rfl⟩ := Int.eq_ofNat_of_zero_le hin.1
      have hj : j < l.length := by omega
      have hj1 : ((j : Int)) ≤ l.length := by omega
      have hj2 : ¬ (j : Int) < 0 := by omega
      have hj3 : ¬ (l.length : Int) ≤ (j : Int) := by omega
      clear mr
      go_wp2_with fail
      refine (at_calls _ p _ _ _ j hj (HT.out.below HB.out)).mono ?_; rintro e w6 ⟨rfl, hb6⟩
      have HB6 := Aside0.mk (HB.out.trans (hb6.mono HB.out.size))
      obtain ⟨g', c', -, -, -, -, -, mr, m0', m1', -⟩ := (HM.out.below HB6.out).open_ hl (by decide)
      obtain ⟨d0, d1, d2, d3, ff, f00⟩ := park_cells mr j hj
      have ff1 := ff 1
      have ff2 := ff 2
      have ff3 := ff 3
      have q2 := World.block_lt_of_cell? w6 _ m0'
      have q3 := World.block_lt_of_cell? w6 _ d0
      clear mr m0 m1 ff hb6 HB
      unfold parkAgg
      generalize l[j].permit = x0 at *
      generalize l[j].flag = x1 at *
      generalize l[j].blocked = x2 at *
      generalize l[j].deadline = x3 at *
      go_wp2_with fail
      go_quiet (fail)
      go_wp2_with fail
      go_roundw
      case rel => exact ⟨(j : Int) + 1, by omega, by omega, by go_num, Aside0.mk (pw_below_drewN (HB6.out.alloc (HB6.out.size) _) _)⟩
      case measure => simp [intOf]; omega
    · by_cases hlow : k < 0
      · obtain rfl : k = -1 := by omega
        clear mr
        go_wp2_with fail
        refine (at_none _ p _ _ _ (-1) hl (by omega) (HT.out.below HB.out)).mono ?_; rintro e w6 ⟨rfl, hb6⟩
        have HB6 := Aside0.mk (HB.out.trans (hb6.mono HB.out.size))
        unfold parkAgg Park.zero
        go_wp2_with fail
        exact ⟨⟨0, by omega, by omega, rfl, Aside0.mk (HB6.out.alloc (HB6.out.size) _)⟩, by simp [intOf]; omega⟩
      · by_cases hout : k = l.length
        · subst hout
          have h4 : ¬ (l.length : Int) < 0 := by omega
          go_wp2_with fail
          refine (at_none _ p _ _ _ (l.length : Int) hl (by omega) (HT.out.below HB.out)).mono ?_; rintro e w6 ⟨rfl, hb6⟩
          have HB6 := Aside0.mk (HB.out.trans (hb6.mono HB.out.size))
          obtain ⟨g', c', -, -, -, -, -, -, m0', -, -⟩ := (HM.out.below HB6.out).open_ hl (by decide)
          have q2 := World.block_lt_of_cell? w6 _ m0'
          clear m0 m1 mr hb6
          unfold parkAgg Park.zero
          go_wp2_with fail
          go_roundw
          case rel => exact ⟨(l.length : Int) + 1, by omega, by omega, by go_num, Aside0.mk (HB6.out.alloc (HB6.out.size) _)⟩
          case measure => simp [intOf]
        · have h3 : (l.length : Int) < k := by omega
          go_wp2_with fail
          go_quiet ((go_at_call 39; exact Calls.quiet_of_same ((now_calls _ p _ _ _ ((HT.out.below HB.out).drewN _)).mono fun _ _ h => ⟨h.1, h.2.symm⟩)))
          go_wp2
          go_ret
          exact ⟨by simp, pw_below_drewN HB.out _⟩
end Go.Proofs.Ythehmmcloimpmaa.Permit
