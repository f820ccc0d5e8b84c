/- Cells: what was stored is loaded, other cells stay, a clone goes its own ways. No condition beyond the statements' own. -/
import Derived.Test.YthehmmcloimpmaaCellLaw
import Derived.OpenShut
set_option linter.unusedVariables false
set_option linter.unusedSimpArgs false
namespace Go.Proofs.Ythehmmcloimpmaa.CellLaw
open Go.RowKit Go.Proofs.YthehmmcloimpmaaW.PrintWords Go.Proofs.Ythehmmcloimpmaa.Base Go.Proofs.Ythehmmcloimpmaa.Cell
attribute [local go_sem] eqlE eqlN eqlN' guardE guardN guardN'


structure Keeping (w wr : World) (p n k : Nat) (L : List Int) : Prop where
  ar : ArenaIn (fun k => w.heap.size ≤ k) wr p L 60
  bel : Below w.heap.size w wr
  len : L.length = n + 2
  get : ∀ j : Int, 1 ≤ j → j < (k : Int) → rd L j = 1000 + j
theorem Keeping.put {w wr w' : World} {p n k : Nat} {L : List Int} (h : Keeping w wr p n k L) (ha : ArenaIn (fun k => w.heap.size ≤ k) w' p (L.set (k : Int).toNat (1000 + (k : Int))) 60) (hu : Upd (fun k => w.heap.size ≤ k) wr w') (h1 : 1 ≤ k) (hk : k < n + 2) :
    Keeping w w' p n (k + 1) (L.set (k : Int).toNat (1000 + (k : Int))) := by
  refine ⟨ha, Upd.since h.bel hu (fun k hk => hk), by rw [List.length_set, h.len], fun j j1 j2 => ?_⟩
  by_cases e : j = (k : Int)
  · subst e; exact rd_set_eq _ _ _ (by omega) (by rw [h.len]; omega)
  · rw [rd_set_ne _ _ _ _ (by omega) (by omega) (Ne.symm e)]
    exact h.get j j1 (by omega)

set_option maxRecDepth 100000 in
theorem keeps_in (n : Nat) (a at_ v z : Int) (w : World) (hn : n < 60) (hp : ∀ w, Calls Try.prog 23 #[.int .i64 a, .int .i64 60] w fun e w' => e = .returned (.int .i64 (n : Int)) ∧ w = w') (a1 : 1 ≤ at_) (a2 : at_ ≤ 1 + (n : Int)) :
    Calls Try.prog 11 #[.int .i64 a, .int .i64 at_, .int .i64 v, .int .i64 z] w fun e w' => e = .returned (.bool true) ∧ Below w.heap.size w w' := by
  have HP := Aside0.mk hp
  clear hp
  go_enter Try.func11, Try.ntmps11
  go_wp2_with fail
  refine (up_calls _).mono ?_; rintro e w1 ⟨rfl, hb⟩
  go_wp2_with fail
  refine (HP.out _).mono ?_; rintro e w2 ⟨rfl, rfl⟩
  clear HP
  go_wp2_with fail
  refine (new_good _ 60 (by omega) (by omega)).mono ?_; rintro e w2 ⟨p, rfl, ha, hb1⟩
  have hb2 := below_step hb hb1
  replace ha := ha.fromB hb.size
  clear hb hb1
  go_wp2_with fail
  refine (alloc_good _ p _ _ 60 (1 + (n : Int)) (by omega) (by omega) (by omega) (by simp) (by simp) (by simp; omega) ha).mono ?_; rintro e w3 ⟨rfl, ha3, hu3⟩
  have hb3 := Upd.since hb2 hu3 (fun k hk => hk)
  replace ha3 := ha3.keepB hb2.size
  clear ha hb2 hu3
  have l3 : (([0] : List Int) ++ List.replicate (1 + (n : Int)).toNat 0).length = n + 2 := by simp; omega
  generalize ([0] : List Int) ++ List.replicate (1 + (n : Int)).toNat 0 = L at *
  have HA := Aside0.mk (Keeping.mk ha3 hb3 l3 (show ∀ j : Int, 1 ≤ j → j < ((1 : Nat) : Int) → rd L j = 1000 + j from fun j h1 h2 => by omega))
  clear ha3 hb3 l3
  go_wp2_with fail
  go_loopw [14] (fun i wr => ∃ (k : Nat) (L : List Int), 1 ≤ k ∧ k ≤ n + 2 ∧ i = .int .i64 k ∧ Aside0 (Keeping w wr p n k L)) (fun i _ => n + 2 - (intOf i).toNat)
  case atStart => exact ⟨1, L, by omega, by omega, by go_num, HA⟩
  case round =>
    clear HA
    obtain ⟨k, L, hk1, hk2, rfl, HA⟩ := hrel
    by_cases hlt : k < n + 2
    · have hle : (k : Int) ≤ 1 + (n : Int) := by omega
      have hs : (1000 : Int) + k ≤ 9223372036854775807 := by omega
      go_wp2_with fail
      refine (store_in _ p _ L 60 (k : Int) (1000 + (k : Int)) HA.out.ar (by rw [HA.out.len]; omega)).mono ?_; rintro e w5 ⟨rfl, ha5, hu5⟩
      have H5 := Aside0.mk (HA.out.put ha5 hu5 hk1 hlt)
      clear HA ha5 hu5
      go_wp2
      go_roundw
      case rel => exact ⟨k + 1, _, by omega, by omega, by go_num, H5⟩
      case measure => simp [intOf]; omega
    · have hle : ¬ (k : Int) ≤ 1 + (n : Int) := by omega
      obtain rfl : k = n + 2 := by omega
      obtain ⟨ha3, hb3, l3, r3⟩ := HA.out
      clear HA
      go_wp2_with fail
      refine (clone_calls _ p _ L 60 (by omega) (by omega) ha3).mono ?_; rintro e w4 ⟨q, rfl, hq4, hb⟩
      have hs3 := hb3.size
      have ha4 := (ha3.lt).below hb
      have hb4 := below_step hb3 hb
      clear ha3 hb3 hb
      go_wp2_with fail
      refine (store_in _ p _ L 60 at_ v ha4 (by omega)).mono ?_; rintro e w5 ⟨rfl, ha5, hu5⟩
      have hb5 := Upd.since hb4 hu5 (fun k hk => hk.1)
      have hq5 := hq4.upd hu5 (fun k hk hk2 => by omega)
      clear ha4 hq4 hb4 hu5
      have l5 : (L.set at_.toNat v).length = n + 2 := by rw [List.length_set, l3]
      have r5 : rd (L.set at_.toNat v) at_ = v := rd_set_eq _ _ _ (by omega) (by omega)
      have r6 : ∀ j : Int, 1 ≤ j → j < ((n + 2 : Nat) : Int) → j ≠ at_ → rd (L.set at_.toNat v) j = 1000 + j := fun j h1 h2 h3 => by rw [rd_set_ne _ _ _ _ (by omega) (by omega) (Ne.symm h3)]; exact r3 j h1 h2
      generalize L.set at_.toNat v = M at *
      go_wp2_with fail
      refine (load_in _ p _ M 60 at_ ha5 (by omega)).mono ?_; rintro e w6 ⟨rfl, rfl⟩
      rw [r5]
      have HA := Aside0.mk ha5
      have HQ := Aside0.mk hq5
      have R3 := Aside0.mk r3
      have R5 := Aside0.mk r5
      have R6 := Aside0.mk r6
      have HL := Aside0.mk l3
      have HM := Aside0.mk l5
      clear ha5 hq5 r3 r5 r6 l3 l5
      go_wp2_with fail
      go_loop [20] (fun i => ∃ k : Nat, 1 ≤ k ∧ k ≤ n + 2 ∧ i = .int .i64 k) (fun i => n + 2 - (intOf i).toNat)
      case atStart => exact ⟨1, by omega, by omega, by go_num⟩
      case round =>
        obtain ⟨k, hk1, hk2, rfl⟩ := hrel
        by_cases hlt : k < n + 2
        · have hle : (k : Int) ≤ 1 + (n : Int) := by omega
          have hs : (1000 : Int) + k ≤ 9223372036854775807 := by omega
          go_wp2_with fail
          refine (load_in _ p _ M 60 (k : Int) HA.out (by rw [HM.out]; omega)).mono ?_; rintro e w6 ⟨rfl, rfl⟩
          go_wp2_with fail
          refine (load_in _ q _ L 60 (k : Int) HQ.out (by rw [HL.out]; omega)).mono ?_; rintro e w6 ⟨rfl, rfl⟩
          rw [R3.out k (by omega) (by omega)]
          by_cases he : (k : Int) = at_
          · have e1 : ((k : Int) != at_) = false := by rw [bne_eq_false_iff_eq]; exact he
            clear he
            go_wp2
            go_round
            case rel => exact ⟨k + 1, by omega, by omega, by go_num⟩
            case measure => simp [intOf]; omega
          · have e1 : ((k : Int) != at_) = true := by rw [bne_iff_ne]; exact he
            rw [R6.out k (by omega) (by omega) he]
            clear he
            go_wp2
            go_round
            case rel => exact ⟨k + 1, by omega, by omega, by go_num⟩
            case measure => simp [intOf]; omega
        · have hle : ¬ (k : Int) ≤ 1 + (n : Int) := by omega
          have e1 : (rd M at_ == v) = true := by rw [R5.out]; simp
          go_wp2_with fail
          refine (swap_in _ p _ M 60 at_ v z HA.out (by rw [HM.out]; omega)).mono ?_; rintro e w7 ⟨rfl, ha7, hu7⟩
          have hb7 := Upd.since hb5 hu7 (fun k hk => hk.1)
          rw [if_pos R5.out] at ha7
          go_wp2_with fail
          refine (load_in _ p _ _ 60 at_ ha7 (by rw [List.length_set, HM.out]; omega)).mono ?_; rintro e w8 ⟨rfl, rfl⟩
          rw [rd_set_eq _ _ _ (by omega) (by rw [HM.out]; omega)]
          clear ha7 hu7
          go_wp2
          go_ret
          exact ⟨by simp [e1], hb7⟩

set_option maxRecDepth 100000 in
theorem keeps_low (n : Nat) (a at_ v z : Int) (w : World) (hn : n < 60) (hp : ∀ w, Calls Try.prog 23 #[.int .i64 a, .int .i64 60] w fun e w' => e = .returned (.int .i64 (n : Int)) ∧ w = w') (a1 : at_ < 1) :
    Calls Try.prog 11 #[.int .i64 a, .int .i64 at_, .int .i64 v, .int .i64 z] w fun e w' => e = .returned (.bool true) ∧ Below w.heap.size w w' := by
  have HP := Aside0.mk hp
  clear hp
  go_enter Try.func11, Try.ntmps11
  go_wp2_with fail
  refine (up_calls _).mono ?_; rintro e w1 ⟨rfl, hb⟩
  go_wp2_with fail
  refine (HP.out _).mono ?_; rintro e w2 ⟨rfl, rfl⟩
  clear HP
  go_wp2_with fail
  refine (new_good _ 60 (by omega) (by omega)).mono ?_; rintro e w2 ⟨p, rfl, ha, hb1⟩
  have hb2 := below_step hb hb1
  replace ha := ha.fromB hb.size
  clear hb hb1
  go_wp2_with fail
  refine (alloc_good _ p _ _ 60 (1 + (n : Int)) (by omega) (by omega) (by omega) (by simp) (by simp) (by simp; omega) ha).mono ?_; rintro e w3 ⟨rfl, ha3, hu3⟩
  have hb3 := Upd.since hb2 hu3 (fun k hk => hk)
  replace ha3 := ha3.keepB hb2.size
  clear ha hb2 hu3
  have l3 : (([0] : List Int) ++ List.replicate (1 + (n : Int)).toNat 0).length = n + 2 := by simp; omega
  generalize ([0] : List Int) ++ List.replicate (1 + (n : Int)).toNat 0 = L at *
  have HA := Aside0.mk (Keeping.mk ha3 hb3 l3 (show ∀ j : Int, 1 ≤ j → j < ((1 : Nat) : Int) → rd L j = 1000 + j from fun j h1 h2 => by omega))
  clear ha3 hb3 l3
  go_wp2_with fail
  go_loopw [14] (fun i wr => ∃ (k : Nat) (L : List Int), 1 ≤ k ∧ k ≤ n + 2 ∧ i = .int .i64 k ∧ Aside0 (Keeping w wr p n k L)) (fun i _ => n + 2 - (intOf i).toNat)
  case atStart => exact ⟨1, L, by omega, by omega, by go_num, HA⟩
  case round =>
    clear HA
    obtain ⟨k, L, hk1, hk2, rfl, HA⟩ := hrel
    by_cases hlt : k < n + 2
    · have hle : (k : Int) ≤ 1 + (n : Int) := by omega
      have hs : (1000 : Int) + k ≤ 9223372036854775807 := by omega
      go_wp2_with fail
      refine (store_in _ p _ L 60 (k : Int) (1000 + (k : Int)) HA.out.ar (by rw [HA.out.len]; omega)).mono ?_; rintro e w5 ⟨rfl, ha5, hu5⟩
      have H5 := Aside0.mk (HA.out.put ha5 hu5 hk1 hlt)
      clear HA ha5 hu5
      go_wp2
      go_roundw
      case rel => exact ⟨k + 1, _, by omega, by omega, by go_num, H5⟩
      case measure => simp [intOf]; omega
    · have hle : ¬ (k : Int) ≤ 1 + (n : Int) := by omega
      obtain rfl : k = n + 2 := by omega
      obtain ⟨ha3, hb3, l3, r3⟩ := HA.out
      clear HA
      go_wp2_with fail
      refine (clone_calls _ p _ L 60 (by omega) (by omega) ha3).mono ?_; rintro e w4 ⟨q, rfl, hq4, hb⟩
      have hs3 := hb3.size
      have ha4 := (ha3.lt).below hb
      have hb4 := below_step hb3 hb
      clear ha3 hb3 hb
      go_wp2_with fail
      refine (store_out _ p _ L 60 at_ v ha4 (by omega)).mono ?_; rintro e w5 ⟨rfl, rfl⟩
      go_wp2_with fail
      refine (load_out _ p _ L 60 at_ ha4 (by omega)).mono ?_; rintro e w5 ⟨rfl, rfl⟩
      clear ha4 hq4
      go_wp2
      go_ret
      exact ⟨by first | rfl | simp, hb4⟩

set_option maxRecDepth 100000 in
theorem keeps_high (n : Nat) (a at_ v z : Int) (w : World) (hn : n < 60) (hp : ∀ w, Calls Try.prog 23 #[.int .i64 a, .int .i64 60] w fun e w' => e = .returned (.int .i64 (n : Int)) ∧ w = w') (a1 : 1 ≤ at_) (a2 : 1 + (n : Int) < at_) :
    Calls Try.prog 11 #[.int .i64 a, .int .i64 at_, .int .i64 v, .int .i64 z] w fun e w' => e = .returned (.bool true) ∧ Below w.heap.size w w' := by
  have HP := Aside0.mk hp
  clear hp
  go_enter Try.func11, Try.ntmps11
  go_wp2_with fail
  refine (up_calls _).mono ?_; rintro e w1 ⟨rfl, hb⟩
  go_wp2_with fail
  refine (HP.out _).mono ?_; rintro e w2 ⟨rfl, rfl⟩
  clear HP
  go_wp2_with fail
  refine (new_good _ 60 (by omega) (by omega)).mono ?_; rintro e w2 ⟨p, rfl, ha, hb1⟩
  have hb2 := below_step hb hb1
  replace ha := ha.fromB hb.size
  clear hb hb1
  go_wp2_with fail
  refine (alloc_good _ p _ _ 60 (1 + (n : Int)) (by omega) (by omega) (by omega) (by simp) (by simp) (by simp; omega) ha).mono ?_; rintro e w3 ⟨rfl, ha3, hu3⟩
  have hb3 := Upd.since hb2 hu3 (fun k hk => hk)
  replace ha3 := ha3.keepB hb2.size
  clear ha hb2 hu3
  have l3 : (([0] : List Int) ++ List.replicate (1 + (n : Int)).toNat 0).length = n + 2 := by simp; omega
  generalize ([0] : List Int) ++ List.replicate (1 + (n : Int)).toNat 0 = L at *
  have HA := Aside0.mk (Keeping.mk ha3 hb3 l3 (show ∀ j : Int, 1 ≤ j → j < ((1 : Nat) : Int) → rd L j = 1000 + j from fun j h1 h2 => by omega))
  clear ha3 hb3 l3
  go_wp2_with fail
  go_loopw [14] (fun i wr => ∃ (k : Nat) (L : List Int), 1 ≤ k ∧ k ≤ n + 2 ∧ i = .int .i64 k ∧ Aside0 (Keeping w wr p n k L)) (fun i _ => n + 2 - (intOf i).toNat)
  case atStart => exact ⟨1, L, by omega, by omega, by go_num, HA⟩
  case round =>
    clear HA
    obtain ⟨k, L, hk1, hk2, rfl, HA⟩ := hrel
    by_cases hlt : k < n + 2
    · have hle : (k : Int) ≤ 1 + (n : Int) := by omega
      have hs : (1000 : Int) + k ≤ 9223372036854775807 := by omega
      go_wp2_with fail
      refine (store_in _ p _ L 60 (k : Int) (1000 + (k : Int)) HA.out.ar (by rw [HA.out.len]; omega)).mono ?_; rintro e w5 ⟨rfl, ha5, hu5⟩
      have H5 := Aside0.mk (HA.out.put ha5 hu5 hk1 hlt)
      clear HA ha5 hu5
      go_wp2
      go_roundw
      case rel => exact ⟨k + 1, _, by omega, by omega, by go_num, H5⟩
      case measure => simp [intOf]; omega
    · have hle : ¬ (k : Int) ≤ 1 + (n : Int) := by omega
      obtain rfl : k = n + 2 := by omega
      obtain ⟨ha3, hb3, l3, r3⟩ := HA.out
      clear HA
      go_wp2_with fail
      refine (clone_calls _ p _ L 60 (by omega) (by omega) ha3).mono ?_; rintro e w4 ⟨q, rfl, hq4, hb⟩
      have hs3 := hb3.size
      have ha4 := (ha3.lt).below hb
      have hb4 := below_step hb3 hb
      clear ha3 hb3 hb
      go_wp2_with fail
      refine (store_out _ p _ L 60 at_ v ha4 (by omega)).mono ?_; rintro e w5 ⟨rfl, rfl⟩
      go_wp2_with fail
      refine (load_out _ p _ L 60 at_ ha4 (by omega)).mono ?_; rintro e w5 ⟨rfl, rfl⟩
      clear ha4 hq4
      go_wp2
      go_ret
      exact ⟨by first | rfl | simp, hb4⟩

theorem keeps_walk (a at_ v z : Int) (w : World) (w0 : (Lit.int .i64 a).wf = true) (w1 : (Lit.int .i64 at_).wf = true) (w2 : (Lit.int .i64 v).wf = true) (w3 : (Lit.int .i64 z).wf = true) :
    Calls Try.prog 11 #[.int .i64 a, .int .i64 at_, .int .i64 v, .int .i64 z] w fun e w' => e = .returned (.bool true) ∧ Below w.heap.size w w' := by
  have ra := pickI_range a (n := 60) (by omega)
  have hpa := fun w => pick_calls w a 60 w0 (by omega) (by omega)
  generalize pickI a 60 = A at *
  obtain ⟨n, rfl⟩ := Int.eq_ofNat_of_zero_le ra.1
  by_cases a1 : at_ < 1
  · exact keeps_low n a at_ v z w (by omega) hpa a1
  · by_cases a2 : at_ ≤ 1 + (n : Int)
    · exact keeps_in n a at_ v z w (by omega) hpa (by omega) a2
    · exact keeps_high n a at_ v z w (by omega) hpa (by omega) (by omega)
end Go.Proofs.Ythehmmcloimpmaa.CellLaw
