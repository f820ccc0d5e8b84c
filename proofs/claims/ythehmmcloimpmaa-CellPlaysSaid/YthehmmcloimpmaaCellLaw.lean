/- Cells: what the statements of layer 1 say of new arenas, new cells, kept cells and twins. No condition beyond the statements' own. -/
import Derived.Test.YthehmmcloimpmaaCell
import Derived.OpenShut
set_option linter.unusedVariables false
set_option linter.unusedSimpArgs false
namespace Go.Proofs.Ythehmmcloimpmaa.CellLaw
open Go.RowKit Go.Proofs.YthehmmcloimpmaaW.PrintWords Go.Proofs.Ythehmmcloimpmaa.Base Go.Proofs.Ythehmmcloimpmaa.Cell
attribute [local go_sem] eqlE eqlN eqlN' guardE guardN guardN'

theorem up_calls (w : World) : Calls Try.prog 20 #[] w fun e w' => e = .returned (.bool true) ∧ Below w.heap.size w w' := by
  go_enter Try.func20, Try.ntmps20
  go_wp2_with fail
  refine (new_good _ 3 (by omega) (by omega)).mono ?_; rintro e w1 ⟨p, rfl, ha, hb⟩
  go_wp2_with fail
  refine (alloc_good _ p _ _ 3 2 (by omega) (by omega) (by omega) (by simp) (by simp) (by simp) ha).mono ?_; rintro e w2 ⟨rfl, ha2, hu2⟩
  have hb2 := Upd.since hb hu2 (fun k hk => hk)
  replace ha2 := ha2.keepB hb.size
  clear ha hb hu2
  go_wp2_with fail
  refine (swap_in _ p _ _ 3 2 0 7 ha2 (by simp)).mono ?_; rintro e w3 ⟨rfl, ha3, hu3⟩
  have hb3 := Upd.since hb2 hu3 (fun k hk => hk)
  clear ha2 hu3
  rw [if_pos (by decide)] at ha3
  have e1 : (rd ([0] ++ List.replicate (2 : Int).toNat 0) 2 == 0) = true := by decide
  go_wp2_with fail
  refine (load_in _ p _ _ 3 2 ha3 (by simp)).mono ?_; rintro e w4 ⟨rfl, rfl⟩
  go_wp2_with fail
  refine (alloc_full _ p _ _ 3 2 (by omega) (by omega) (by omega) (by simp) (by simp) (by simp) ha3).mono ?_; rintro e w5 ⟨rfl, ⟨n5, rfl⟩⟩
  have e2 : rd ((([0] : List Int) ++ List.replicate (2 : Int).toNat (0 : Int)).set (2 : Int).toNat 7) 2 = 7 := by decide
  clear ha3
  go_wp2
  go_ret
  exact ⟨by simp, pw_below_drewN hb3 _⟩

theorem new_walk (most : Int) (w : World) (w0 : (Lit.int .i64 most).wf = true) : Calls Try.prog 7 #[.int .i64 most] w fun e w' => e = .returned (.bool true) ∧ Below w.heap.size w w' := by
  by_cases hm : most < 1 ∨ 4096 < most
  · have hm2 : (decide (most < 1) || decide (4096 < most)) = true := by simpa using hm
    by_cases h1 : most < 1
    all_goals
      go_enter Try.func7, Try.ntmps7
      go_wp2_with fail
      refine (up_calls _).mono ?_; rintro e w1 ⟨rfl, hb⟩
      go_wp2_with fail
      refine (new_bad _ most (by omega)).mono ?_; rintro e w2 ⟨rfl, rfl⟩
    · go_wp2
      go_ret
      exact ⟨rfl, hb⟩
    · have h2 : 4096 < most := by omega
      go_wp2
      go_ret
      exact ⟨rfl, hb⟩
  · have h1 : 1 ≤ most := by omega
    have h2 : most ≤ 4096 := by omega
    go_enter Try.func7, Try.ntmps7
    go_wp2_with fail
    refine (up_calls _).mono ?_; rintro e w1 ⟨rfl, hb⟩
    go_wp2_with fail
    refine (new_good _ most h1 h2).mono ?_; rintro e w2 ⟨p, rfl, ha, hb2⟩
    have hb3 := below_step hb hb2
    go_wp2_with fail
    refine (len_calls _ p _ _ most ha).mono ?_; rintro e w3 ⟨rfl, rfl⟩
    go_wp2
    go_ret
    exact ⟨by simp [wrap64], hb3⟩

/-- Which of n things the raw number c speaks of. -/
def pickI (c n : Int) : Int := if c < 0 then (-(c + 1)) % n else c % n
theorem pickI_range (c : Int) {n : Int} (h : 1 ≤ n) : 0 ≤ pickI c n ∧ pickI c n < n := by
  unfold pickI
  split
  · exact ⟨Int.emod_nonneg _ (by omega), Int.emod_lt_of_pos _ (by omega)⟩
  · exact ⟨Int.emod_nonneg _ (by omega), Int.emod_lt_of_pos _ (by omega)⟩
theorem pick_calls (w : World) (c n : Int) (hc : (Lit.int .i64 c).wf = true) (h0 : 1 ≤ n) (hn : n ≤ 9223372036854775807) :
    Calls Try.prog 23 #[.int .i64 c, .int .i64 n] w fun e w' => e = .returned (.int .i64 (pickI c n)) ∧ w = w' := by
  have bc := bounds_i64 hc
  by_cases h : c < 0
  · have e1 : pickI c n = -((c + 1).tmod n) := by
      unfold pickI
      rw [if_pos h, ← Int.neg_tmod, Int.tmod_eq_emod_of_nonneg (by omega)]
    rw [e1]
    clear e1
    go_enter Try.func23, Try.ntmps23
    go_wp2
    go_ret
    exact ⟨rfl, rfl⟩
  · have e1 : pickI c n = c % n := by unfold pickI; rw [if_neg h]
    rw [e1]
    clear e1
    go_enter Try.func23, Try.ntmps23
    go_wp2
    go_ret
    exact ⟨rfl, rfl⟩

theorem rd_app_l (l m : List Int) (i : Int) (h0 : 0 ≤ i) (h : i < l.length) : rd (l ++ m) i = rd l i := by
  unfold rd
  rw [List.getD_eq_getElem?_getD, List.getD_eq_getElem?_getD, List.getElem?_append_left (by omega)]
theorem rd_app_r (l m : List Int) (i : Int) (h : l.length ≤ i) : rd (l ++ m) i = rd m (i - l.length) := by
  unfold rd
  rw [List.getD_eq_getElem?_getD, List.getD_eq_getElem?_getD, List.getElem?_append_right (by omega)]
  congr 2
  omega
theorem rd_zero (l : List Int) (i : Int) (h : ∀ x ∈ l, x = 0) : rd l i = 0 := by
  unfold rd
  rw [List.getD_eq_getElem?_getD]
  cases hx : l[i.toNat]? with
  | none => rfl
  | some x => exact h x (List.mem_of_getElem? hx)
theorem rd_set_eq (l : List Int) (i x : Int) (h0 : 0 ≤ i) (h : i < l.length) : rd (l.set i.toNat x) i = x := by
  unfold rd
  rw [List.getD_eq_getElem?_getD, List.getElem?_set_self (by omega)]
  rfl
theorem rd_set_ne (l : List Int) (i j x : Int) (h0 : 0 ≤ i) (hj : 0 ≤ j) (h : i ≠ j) : rd (l.set i.toNat x) j = rd l j := by
  unfold rd
  rw [List.getD_eq_getElem?_getD, List.getD_eq_getElem?_getD, List.getElem?_set_ne (by omega)]

theorem news_walk (a b v : Int) (w : World) (w0 : (Lit.int .i64 a).wf = true) (w1 : (Lit.int .i64 b).wf = true) (w2 : (Lit.int .i64 v).wf = true) :
    Calls Try.prog 9 #[.int .i64 a, .int .i64 b, .int .i64 v] w fun e w' => e = .returned (.bool true) ∧ Below w.heap.size w w' := by
  have ra := pickI_range a (n := 100) (by omega)
  have rb := pickI_range b (n := 100) (by omega)
  have hpa := Aside0.mk (fun w => pick_calls w a 100 w0 (by omega) (by omega))
  have hpb := Aside0.mk (fun w => pick_calls w b 100 w1 (by omega) (by omega))
  generalize pickI a 100 = A at *
  generalize pickI b 100 = B at *
  obtain ⟨A, rfl⟩ := Int.eq_ofNat_of_zero_le ra.1
  obtain ⟨B, rfl⟩ := Int.eq_ofNat_of_zero_le rb.1
  obtain ⟨-, ra⟩ := ra
  obtain ⟨-, rb⟩ := rb
  have eA : (1 + (A : Int)).toNat = A + 1 := by omega
  have eB : (1 + (B : Int)).toNat = B + 1 := by omega
  have EA := Aside0.mk eA
  have EB := Aside0.mk eB
  clear eA eB
  go_enter Try.func9, Try.ntmps9
  go_wp2_with fail
  refine (up_calls _).mono ?_; rintro e w1 ⟨rfl, hb⟩
  go_wp2_with fail
  refine (hpa.out _).mono ?_; rintro e w2 ⟨rfl, rfl⟩
  go_wp2_with fail
  refine (hpb.out _).mono ?_; rintro e w2 ⟨rfl, rfl⟩
  clear hpa hpb
  go_wp2_with fail
  refine (new_good _ 200 (by omega) (by omega)).mono ?_; rintro e w2 ⟨p, rfl, ha, hb1⟩
  have hb2 := below_step hb hb1
  replace ha := ha.fromB hb.size
  clear hb hb1
  go_wp2_with fail
  refine (alloc_good _ p _ _ 200 (1 + (A : Int)) (by omega) (by omega) (by omega) (by simp) (by simp) (by simp; omega) ha).mono ?_; rintro e w3 ⟨rfl, ha3, hu3⟩
  have hb3 := Upd.since hb2 hu3 (fun k hk => hk)
  replace ha3 := ha3.keepB hb2.size
  clear ha hb2 hu3
  rw [EA.out] at ha3
  have l3 : (([0] : List Int) ++ List.replicate (A + 1) 0).length = A + 2 := by simp
  go_wp2_with fail
  refine (store_in _ p _ _ 200 (1 + (A : Int)) v ha3 (by rw [l3]; omega)).mono ?_; rintro e w4 ⟨rfl, ha4, hu4⟩
  have hb4 := Upd.since hb3 hu4 (fun k hk => hk)
  clear ha3 hb3 hu4
  have r1 : rd ((([0] : List Int) ++ List.replicate (A + 1) 0).set (1 + (A : Int)).toNat v) (1 + (A : Int)) = v := rd_set_eq _ _ _ (by omega) (by rw [l3]; omega)
  have l4 : ((([0] : List Int) ++ List.replicate (A + 1) 0).set (1 + (A : Int)).toNat v).length = A + 2 := by rw [List.length_set, l3]
  generalize (([0] : List Int) ++ List.replicate (A + 1) 0).set (1 + (A : Int)).toNat v = L at *
  clear l3
  have HL := Aside0.mk l4
  go_wp2_with fail
  refine (alloc_good _ p _ L 200 (1 + (B : Int)) (by omega) (by omega) (by omega) (by omega) (by omega) (by omega) ha4).mono ?_; rintro e w5 ⟨rfl, ha5, hu5⟩
  have hb5 := Upd.since hb4 hu5 (fun k hk => hk)
  replace ha5 := ha5.keepB hb4.size
  clear ha4 hb4 hu5
  rw [EB.out] at ha5
  have q1 : rd (L ++ List.replicate (B + 1) 0) (1 + (A : Int)) = v := by rw [rd_app_l _ _ _ (by omega) (by omega)]; exact r1
  have q2 : ∀ i : Int, (A : Int) + 2 ≤ i → rd (L ++ List.replicate (B + 1) 0) i = 0 := fun i hi => by
    rw [rd_app_r _ _ _ (by omega)]; exact rd_zero _ _ (fun x hx => List.eq_of_mem_replicate hx)
  have l5 : (L ++ List.replicate (B + 1) 0).length = A + B + 3 := by rw [List.length_append, l4, List.length_replicate]; omega
  generalize L ++ List.replicate (B + 1) 0 = M at *
  rw [show ((L.length : Nat) : Int) = (A : Int) + 2 by omega]
  have HM := Aside0.mk l5
  have Q1 := Aside0.mk q1
  have Q2 := Aside0.mk q2
  have HA := Aside0.mk ha5
  clear l4 r1 HL q1 q2 l5 ha5
  have e2 : ((A : Int) + 2 != 1 + (A : Int) + 1) = false := by rw [bne_eq_false_iff_eq]; omega
  have e3 : ((A : Int) + B + 2 != 1 + (A : Int) + (1 + (B : Int))) = false := by rw [bne_eq_false_iff_eq]; omega
  have E3 := Aside0.mk (show wrap64 ((M.length : Int) - 1) = (A : Int) + B + 2 by rw [HM.out]; unfold wrap64; omega)
  go_wp2_with (go_at_call 22; refine (len_calls _ p _ _ 200 HA.out).mono ?_; rintro e w' ⟨rfl, rfl⟩; rw [E3.out])
  go_loop [15] (fun i => ∃ k : Nat, A + 2 ≤ k ∧ k ≤ A + B + 3 ∧ i = .int .i64 k) (fun i => A + B + 3 - (intOf i).toNat)
  case atStart => exact ⟨A + 2, by omega, by omega, by go_num⟩
  case round =>
    obtain ⟨k, hk1, hk2, rfl⟩ := hrel
    by_cases hlt : k < A + B + 3
    · have hle : (k : Int) ≤ 1 + (A : Int) + (1 + (B : Int)) := by omega
      go_wp2_with (go_at_call 27; refine (load_in _ p _ _ 200 (k : Int) HA.out (by rw [HM.out]; omega)).mono ?_; rintro e w' ⟨rfl, rfl⟩; rw [Q2.out _ (by omega)])
      go_round
      case rel => exact ⟨k + 1, by omega, by omega, by go_num⟩
      case measure => simp [intOf]; omega
    · have hle : ¬ (k : Int) ≤ 1 + (A : Int) + (1 + (B : Int)) := by omega
      go_wp2_with (go_at_call 27; refine (load_in _ p _ _ 200 (1 + (A : Int)) HA.out (by rw [HM.out]; omega)).mono ?_; rintro e w' ⟨rfl, rfl⟩; rw [Q1.out])
      go_ret
      exact ⟨by simp, hb5⟩

theorem twin_in (n : Nat) (at_ v : Int) (w : World) (h1 : 1 ≤ n) (h2 : n ≤ 100) (a1 : 1 ≤ at_) (a2 : at_ ≤ n) :
    Calls Try.prog 12 #[.int .i64 (n : Int), .int .i64 at_, .int .i64 v] w fun e w' => e = .returned (.bool true) ∧ Below w.heap.size w w' := by
  go_enter Try.func12, Try.ntmps12
  go_wp2_with fail
  refine (up_calls _).mono ?_; rintro e w1 ⟨rfl, hb⟩
  go_wp2_with fail
  refine (new_good _ 200 (by omega) (by omega)).mono ?_; rintro e w2 ⟨p, rfl, ha, hb1⟩
  have hb2 := below_step hb hb1
  replace ha := ha.fromB hb.size
  clear hb hb1
  go_wp2_with fail
  refine (alloc_good _ p _ _ 200 (n : Int) (by omega) (by omega) (by omega) (by simp) (by simp) (by simp; omega) ha).mono ?_; rintro e w3 ⟨rfl, ha3, hu3⟩
  have hb3 := Upd.since hb2 hu3 (fun k hk => hk)
  replace ha3 := ha3.keepB hb2.size
  clear ha hb2 hu3
  rw [Int.toNat_natCast] at ha3
  have l3 : (([0] : List Int) ++ List.replicate n 0).length = n + 1 := by simp
  have z3 : ∀ x ∈ (([0] : List Int) ++ List.replicate n 0), x = 0 := by simp [List.mem_append, List.mem_replicate]
  generalize ([0] : List Int) ++ List.replicate n 0 = L at *
  have HL := Aside0.mk l3
  go_wp2_with fail
  refine (clone_calls _ p _ L 200 (by omega) (by omega) ha3).mono ?_; rintro e w4 ⟨q, rfl, hq4, hb⟩
  have hs3 := hb3.size
  have ha4 := (ha3.lt).below hb
  have hb4 := below_step hb3 hb
  clear ha3 hb3 hb
  go_wp2_with fail
  refine (store_in _ p _ L 200 at_ v ha4 (by omega)).mono ?_; rintro e w5 ⟨rfl, ha5, hu5⟩
  have hb5 := Upd.since hb4 hu5 (fun k hk => hk.1)
  have hq5 := hq4.upd hu5 (fun k hk hk2 => by omega)
  clear ha4 hq4 hb4 hu5
  have l3' : (L.set at_.toNat v).length = n + 1 := by rw [List.length_set, l3]
  go_wp2_with fail
  refine (alloc_good _ q _ L 200 1 (by omega) (by omega) (by omega) (by omega) (by omega) (by omega) hq5).mono ?_; rintro e w6 ⟨rfl, hq6, hu6⟩
  have hb6 := Upd.since hb5 hu6 (fun k hk => by omega)
  have ha6 := (ha5.lt).upd hu6 (fun k hk hk2 => by omega)
  clear hq5 ha5 hb5 hu6
  have l6 : (L ++ List.replicate (1 : Int).toNat 0).length = n + 2 := by simp [l3]
  have z6 : ∀ i : Int, rd (L ++ List.replicate (1 : Int).toNat 0) i = 0 := fun i => rd_zero _ _ (fun x hx => by
    rcases List.mem_append.1 hx with h | h
    · exact z3 x h
    · exact List.eq_of_mem_replicate h)
  generalize L ++ List.replicate (1 : Int).toNat 0 = N at *
  have HN := Aside0.mk l6
  go_wp2_with fail
  refine (load_in _ q _ N 200 at_ hq6 (by omega)).mono ?_; rintro e w7 ⟨rfl, rfl⟩
  rw [z6]
  have E1 := Aside0.mk (show wrap64 (((L.set at_.toNat v).length : Int) - 1) = n by rw [l3']; unfold wrap64; omega)
  have E2 := Aside0.mk (show wrap64 ((N.length : Int) - 1) = (n : Int) + 1 by rw [l6]; unfold wrap64; omega)
  have HA := Aside0.mk ha6
  have HQ := Aside0.mk hq6
  clear ha6 hq6 l3 l3' l6 z3 z6
  go_wp2_with (first | (go_at_call_of 22 (Value.pointer (some ⟨p, 0, none⟩)); refine (len_calls _ p _ _ 200 HA.out).mono ?_; rintro e w' ⟨rfl, rfl⟩; rw [E1.out]) | (go_at_call_of 22 (Value.pointer (some ⟨q, 0, none⟩)); refine (len_calls _ q _ _ 200 HQ.out).mono ?_; rintro e w' ⟨rfl, rfl⟩; rw [E2.out]))
  go_ret
  exact ⟨by simp, hb6⟩

theorem twin_low (n : Nat) (at_ v : Int) (w : World) (h1 : 1 ≤ n) (h2 : n ≤ 100) (a1 : at_ < 1) :
    Calls Try.prog 12 #[.int .i64 (n : Int), .int .i64 at_, .int .i64 v] w fun e w' => e = .returned (.bool true) ∧ Below w.heap.size w w' := by
  go_enter Try.func12, Try.ntmps12
  go_wp2_with fail
  refine (up_calls _).mono ?_; rintro e w1 ⟨rfl, hb⟩
  go_wp2_with fail
  refine (new_good _ 200 (by omega) (by omega)).mono ?_; rintro e w2 ⟨p, rfl, ha, hb1⟩
  have hb2 := below_step hb hb1
  replace ha := ha.fromB hb.size
  clear hb hb1
  go_wp2_with fail
  refine (alloc_good _ p _ _ 200 (n : Int) (by omega) (by omega) (by omega) (by simp) (by simp) (by simp; omega) ha).mono ?_; rintro e w3 ⟨rfl, ha3, hu3⟩
  have hb3 := Upd.since hb2 hu3 (fun k hk => hk)
  replace ha3 := ha3.keepB hb2.size
  clear ha hb2 hu3
  rw [Int.toNat_natCast] at ha3
  have l3 : (([0] : List Int) ++ List.replicate n 0).length = n + 1 := by simp
  have z3 : ∀ x ∈ (([0] : List Int) ++ List.replicate n 0), x = 0 := by simp [List.mem_append, List.mem_replicate]
  generalize ([0] : List Int) ++ List.replicate n 0 = L at *
  have HL := Aside0.mk l3
  go_wp2_with fail
  refine (clone_calls _ p _ L 200 (by omega) (by omega) ha3).mono ?_; rintro e w4 ⟨q, rfl, hq4, hb⟩
  have hs3 := hb3.size
  have ha4 := (ha3.lt).below hb
  have hb4 := below_step hb3 hb
  clear ha3 hb3 hb
  go_wp2_with fail
  refine (store_out _ p _ L 200 at_ v ha4 (by omega)).mono ?_; rintro e w5 ⟨rfl, rfl⟩
  have hb5 := hb4
  have ha5 := ha4
  have hq5 := hq4
  clear ha4 hq4 hb4
  go_wp2_with fail
  refine (alloc_good _ q _ L 200 1 (by omega) (by omega) (by omega) (by omega) (by omega) (by omega) hq5).mono ?_; rintro e w6 ⟨rfl, hq6, hu6⟩
  have hb6 := Upd.since hb5 hu6 (fun k hk => by omega)
  have ha6 := (ha5.lt).upd hu6 (fun k hk hk2 => by omega)
  clear hq5 ha5 hb5 hu6
  have l6 : (L ++ List.replicate (1 : Int).toNat 0).length = n + 2 := by simp [l3]
  have z6 : ∀ i : Int, rd (L ++ List.replicate (1 : Int).toNat 0) i = 0 := fun i => rd_zero _ _ (fun x hx => by
    rcases List.mem_append.1 hx with h | h
    · exact z3 x h
    · exact List.eq_of_mem_replicate h)
  generalize L ++ List.replicate (1 : Int).toNat 0 = N at *
  have HN := Aside0.mk l6
  go_wp2_with fail
  refine (load_out _ q _ N 200 at_ hq6 (by omega)).mono ?_; rintro e w7 ⟨rfl, rfl⟩
  have E1 := Aside0.mk (show wrap64 ((L.length : Int) - 1) = n by rw [l3]; unfold wrap64; omega)
  have E2 := Aside0.mk (show wrap64 ((N.length : Int) - 1) = (n : Int) + 1 by rw [l6]; unfold wrap64; omega)
  have HA := Aside0.mk ha6
  have HQ := Aside0.mk hq6
  clear ha6 hq6 l3 l6 z3 z6
  go_wp2_with (first | (go_at_call_of 22 (Value.pointer (some ⟨p, 0, none⟩)); refine (len_calls _ p _ _ 200 HA.out).mono ?_; rintro e w' ⟨rfl, rfl⟩; rw [E1.out]) | (go_at_call_of 22 (Value.pointer (some ⟨q, 0, none⟩)); refine (len_calls _ q _ _ 200 HQ.out).mono ?_; rintro e w' ⟨rfl, rfl⟩; rw [E2.out]))
  go_ret
  exact ⟨by simp, hb6⟩

theorem twin_next (n : Nat) (at_ v : Int) (w : World) (h1 : 1 ≤ n) (h2 : n ≤ 100) (a1 : (n : Int) < at_) (a2 : at_ ≤ n + 1) :
    Calls Try.prog 12 #[.int .i64 (n : Int), .int .i64 at_, .int .i64 v] w fun e w' => e = .returned (.bool true) ∧ Below w.heap.size w w' := by
  go_enter Try.func12, Try.ntmps12
  go_wp2_with fail
  refine (up_calls _).mono ?_; rintro e w1 ⟨rfl, hb⟩
  go_wp2_with fail
  refine (new_good _ 200 (by omega) (by omega)).mono ?_; rintro e w2 ⟨p, rfl, ha, hb1⟩
  have hb2 := below_step hb hb1
  replace ha := ha.fromB hb.size
  clear hb hb1
  go_wp2_with fail
  refine (alloc_good _ p _ _ 200 (n : Int) (by omega) (by omega) (by omega) (by simp) (by simp) (by simp; omega) ha).mono ?_; rintro e w3 ⟨rfl, ha3, hu3⟩
  have hb3 := Upd.since hb2 hu3 (fun k hk => hk)
  replace ha3 := ha3.keepB hb2.size
  clear ha hb2 hu3
  rw [Int.toNat_natCast] at ha3
  have l3 : (([0] : List Int) ++ List.replicate n 0).length = n + 1 := by simp
  have z3 : ∀ x ∈ (([0] : List Int) ++ List.replicate n 0), x = 0 := by simp [List.mem_append, List.mem_replicate]
  generalize ([0] : List Int) ++ List.replicate n 0 = L at *
  have HL := Aside0.mk l3
  go_wp2_with fail
  refine (clone_calls _ p _ L 200 (by omega) (by omega) ha3).mono ?_; rintro e w4 ⟨q, rfl, hq4, hb⟩
  have hs3 := hb3.size
  have ha4 := (ha3.lt).below hb
  have hb4 := below_step hb3 hb
  clear ha3 hb3 hb
  go_wp2_with fail
  refine (store_out _ p _ L 200 at_ v ha4 (by omega)).mono ?_; rintro e w5 ⟨rfl, rfl⟩
  have hb5 := hb4
  have ha5 := ha4
  have hq5 := hq4
  clear ha4 hq4 hb4
  go_wp2_with fail
  refine (alloc_good _ q _ L 200 1 (by omega) (by omega) (by omega) (by omega) (by omega) (by omega) hq5).mono ?_; rintro e w6 ⟨rfl, hq6, hu6⟩
  have hb6 := Upd.since hb5 hu6 (fun k hk => by omega)
  have ha6 := (ha5.lt).upd hu6 (fun k hk hk2 => by omega)
  clear hq5 ha5 hb5 hu6
  have l6 : (L ++ List.replicate (1 : Int).toNat 0).length = n + 2 := by simp [l3]
  have z6 : ∀ i : Int, rd (L ++ List.replicate (1 : Int).toNat 0) i = 0 := fun i => rd_zero _ _ (fun x hx => by
    rcases List.mem_append.1 hx with h | h
    · exact z3 x h
    · exact List.eq_of_mem_replicate h)
  generalize L ++ List.replicate (1 : Int).toNat 0 = N at *
  have HN := Aside0.mk l6
  go_wp2_with fail
  refine (load_in _ q _ N 200 at_ hq6 (by omega)).mono ?_; rintro e w7 ⟨rfl, rfl⟩
  rw [z6]
  have E1 := Aside0.mk (show wrap64 ((L.length : Int) - 1) = n by rw [l3]; unfold wrap64; omega)
  have E2 := Aside0.mk (show wrap64 ((N.length : Int) - 1) = (n : Int) + 1 by rw [l6]; unfold wrap64; omega)
  have HA := Aside0.mk ha6
  have HQ := Aside0.mk hq6
  clear ha6 hq6 l3 l6 z3 z6
  go_wp2_with (first | (go_at_call_of 22 (Value.pointer (some ⟨p, 0, none⟩)); refine (len_calls _ p _ _ 200 HA.out).mono ?_; rintro e w' ⟨rfl, rfl⟩; rw [E1.out]) | (go_at_call_of 22 (Value.pointer (some ⟨q, 0, none⟩)); refine (len_calls _ q _ _ 200 HQ.out).mono ?_; rintro e w' ⟨rfl, rfl⟩; rw [E2.out]))
  go_ret
  exact ⟨by simp, hb6⟩

theorem twin_far (n : Nat) (at_ v : Int) (w : World) (h1 : 1 ≤ n) (h2 : n ≤ 100) (a1 : (n : Int) + 1 < at_) :
    Calls Try.prog 12 #[.int .i64 (n : Int), .int .i64 at_, .int .i64 v] w fun e w' => e = .returned (.bool true) ∧ Below w.heap.size w w' := by
  go_enter Try.func12, Try.ntmps12
  go_wp2_with fail
  refine (up_calls _).mono ?_; rintro e w1 ⟨rfl, hb⟩
  go_wp2_with fail
  refine (new_good _ 200 (by omega) (by omega)).mono ?_; rintro e w2 ⟨p, rfl, ha, hb1⟩
  have hb2 := below_step hb hb1
  replace ha := ha.fromB hb.size
  clear hb hb1
  go_wp2_with fail
  refine (alloc_good _ p _ _ 200 (n : Int) (by omega) (by omega) (by omega) (by simp) (by simp) (by simp; omega) ha).mono ?_; rintro e w3 ⟨rfl, ha3, hu3⟩
  have hb3 := Upd.since hb2 hu3 (fun k hk => hk)
  replace ha3 := ha3.keepB hb2.size
  clear ha hb2 hu3
  rw [Int.toNat_natCast] at ha3
  have l3 : (([0] : List Int) ++ List.replicate n 0).length = n + 1 := by simp
  have z3 : ∀ x ∈ (([0] : List Int) ++ List.replicate n 0), x = 0 := by simp [List.mem_append, List.mem_replicate]
  generalize ([0] : List Int) ++ List.replicate n 0 = L at *
  have HL := Aside0.mk l3
  go_wp2_with fail
  refine (clone_calls _ p _ L 200 (by omega) (by omega) ha3).mono ?_; rintro e w4 ⟨q, rfl, hq4, hb⟩
  have hs3 := hb3.size
  have ha4 := (ha3.lt).below hb
  have hb4 := below_step hb3 hb
  clear ha3 hb3 hb
  go_wp2_with fail
  refine (store_out _ p _ L 200 at_ v ha4 (by omega)).mono ?_; rintro e w5 ⟨rfl, rfl⟩
  have hb5 := hb4
  have ha5 := ha4
  have hq5 := hq4
  clear ha4 hq4 hb4
  go_wp2_with fail
  refine (alloc_good _ q _ L 200 1 (by omega) (by omega) (by omega) (by omega) (by omega) (by omega) hq5).mono ?_; rintro e w6 ⟨rfl, hq6, hu6⟩
  have hb6 := Upd.since hb5 hu6 (fun k hk => by omega)
  have ha6 := (ha5.lt).upd hu6 (fun k hk hk2 => by omega)
  clear hq5 ha5 hb5 hu6
  have l6 : (L ++ List.replicate (1 : Int).toNat 0).length = n + 2 := by simp [l3]
  have z6 : ∀ i : Int, rd (L ++ List.replicate (1 : Int).toNat 0) i = 0 := fun i => rd_zero _ _ (fun x hx => by
    rcases List.mem_append.1 hx with h | h
    · exact z3 x h
    · exact List.eq_of_mem_replicate h)
  generalize L ++ List.replicate (1 : Int).toNat 0 = N at *
  have HN := Aside0.mk l6
  go_wp2_with fail
  refine (load_out _ q _ N 200 at_ hq6 (by omega)).mono ?_; rintro e w7 ⟨rfl, rfl⟩
  have E1 := Aside0.mk (show wrap64 ((L.length : Int) - 1) = n by rw [l3]; unfold wrap64; omega)
  have E2 := Aside0.mk (show wrap64 ((N.length : Int) - 1) = (n : Int) + 1 by rw [l6]; unfold wrap64; omega)
  have HA := Aside0.mk ha6
  have HQ := Aside0.mk hq6
  clear ha6 hq6 l3 l6 z3 z6
  go_wp2_with (first | (go_at_call_of 22 (Value.pointer (some ⟨p, 0, none⟩)); refine (len_calls _ p _ _ 200 HA.out).mono ?_; rintro e w' ⟨rfl, rfl⟩; rw [E1.out]) | (go_at_call_of 22 (Value.pointer (some ⟨q, 0, none⟩)); refine (len_calls _ q _ _ 200 HQ.out).mono ?_; rintro e w' ⟨rfl, rfl⟩; rw [E2.out]))
  go_ret
  exact ⟨by simp, hb6⟩

theorem twin_walk (n at_ v : Int) (w : World) (w0 : (Lit.int .i64 n).wf = true) (w1 : (Lit.int .i64 at_).wf = true) (w2 : (Lit.int .i64 v).wf = true) :
    Calls Try.prog 12 #[.int .i64 n, .int .i64 at_, .int .i64 v] w fun e w' => e = .returned (.bool true) ∧ Below w.heap.size w w' := by
  by_cases h : n < 1 ∨ 100 < n
  · have hb : (decide (n < 1) || decide (100 < n)) = true := by simpa using h
    by_cases h1 : n < 1
    all_goals
      go_enter Try.func12, Try.ntmps12
      go_wp2_with fail
      refine (up_calls _).mono ?_; rintro e w1 ⟨rfl, hb⟩
    · go_wp2
      go_ret
      exact ⟨rfl, hb⟩
    · have h2 : 100 < n := by omega
      go_wp2
      go_ret
      exact ⟨rfl, hb⟩
  · obtain ⟨n, rfl⟩ := Int.eq_ofNat_of_zero_le (show 0 ≤ n by omega)
    by_cases a1 : at_ < 1
    · exact twin_low n at_ v w (by omega) (by omega) a1
    · by_cases a2 : at_ ≤ n
      · exact twin_in n at_ v w (by omega) (by omega) (by omega) a2
      · by_cases a3 : at_ ≤ (n : Int) + 1
        · exact twin_next n at_ v w (by omega) (by omega) (by omega) a3
        · exact twin_far n at_ v w (by omega) (by omega) (by omega)
end Go.Proofs.Ythehmmcloimpmaa.CellLaw
