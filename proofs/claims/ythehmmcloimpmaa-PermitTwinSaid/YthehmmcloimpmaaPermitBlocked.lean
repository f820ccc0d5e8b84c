/- Permits: who is blocked has neither a permit, nor a flag, nor a deadline that is due; a clone goes its own ways. No condition beyond the statement's own. -/
import Derived.Test.YthehmmcloimpmaaPermitPlay
set_option linter.unusedVariables false
set_option linter.unusedSimpArgs false
namespace Go.Proofs.Ythehmmcloimpmaa.Permit
open Go.RowKit Go.Proofs.YthehmmcloimpmaaW.PrintWords Go.Proofs.Ythehmmcloimpmaa.Base Go.Proofs.Ythehmmcloimpmaa.Clock
attribute [local go_sem] eqlE eqlN eqlN' guardE guardN guardN' neqE neqN' nguardE nguardN'

theorem equalPark4 (a b c a' b' c' : Bool) (d d' : Int) (w : World) : (Op.equalIn 10000 71 (.agg #[.bool a, .bool b, .bool c, .int .i64 d]) (.agg #[.bool a', .bool b', .bool c', .int .i64 d'])).run Try.prog w = .ok ((a == a') && ((b == b') && ((c == c') && (d == d')))) w := equalPark ⟨a, b, c, d⟩ ⟨a', b', c', d'⟩ w
theorem eqlPark4 (a b c : Bool) (d : Int) (w : World) : (binOp .eql 71 (.agg #[.bool a, .bool b, .bool c, .int .i64 d]) (.agg #[.bool a, .bool b, .bool c, .int .i64 d])).run Try.prog w = .ok (.bool true) w := eqlPark ⟨a, b, c, d⟩ w
theorem neqPark4 (a b c : Bool) (d : Int) (w : World) : (binOp .neq 71 (.agg #[.bool a, .bool b, .bool c, .int .i64 d]) (.agg #[.bool a, .bool b, .bool c, .int .i64 d])).run Try.prog w = .ok (.bool false) w := neqPark ⟨a, b, c, d⟩ w
theorem guardPark4 (op : BinOp) (x y : Operand) (a b c a' b' c' : Bool) (d d' : Int) (w : World) : (eqGuard op 71 x y (.agg #[.bool a, .bool b, .bool c, .int .i64 d]) (.agg #[.bool a', .bool b', .bool c', .int .i64 d'])).run Try.prog w = .ok () w := guardPark op x y ⟨a, b, c, d⟩ ⟨a', b', c', d'⟩ w
attribute [local go_sem] eqlPark4 neqPark4 guardPark4

def start (n : Nat) : List Park × Int := (List.replicate n .zero, 0)
theorem start_good (n : Nat) (h1 : 1 ≤ n) (h8 : n ≤ 8) : Good (start n) :=
  ⟨by simpa [start] using h1, by simpa [start] using h8, by simp [start], by simp [start], fun x hx => by
    rw [List.eq_of_mem_replicate hx]
    exact ⟨fun h => by simp [Park.zero] at h, fun _ => rfl⟩⟩
/-- A model, as the laws make it. -/
theorem model_new (w : World) (n : Nat) (h1 : 1 ≤ n) (h8 : n ≤ 8) (cs : Array Value) (hcs : cs = (flat Park.cells (List.replicate n .zero)).toArray) :
    TableIn RT (fun k => w.heap.size ≤ k) ((w.alloc (.cells cs 71)).alloc (.cells #[.slice (some ⟨w.heap.size, 0, none⟩) n n, .int .i64 0] RT)) (w.heap.size + 1) (List.replicate n .zero) 0 := by
  have hrow : (w.alloc (.cells cs 71)).ownsRow 0 71 4 (.slice (some ⟨w.heap.size, 0, none⟩) n n) n (flat Park.cells (List.replicate n .zero)) := by
    have := own_flat Park.len w 0 71 (List.replicate n Park.zero) (Nat.zero_le _) (by simp; omega)
    rw [hcs]
    simpa using this
  refine ⟨_, ⟨by simpa using blk_new (w.alloc (Obj.cells cs 71)) _, by simpa using own_alloc hrow _⟩, by simp, fun k hk => ?_⟩
  simp [Value.ownBlock] at hk
  omega
theorem make_parks (n : Nat) (h8 : n ≤ 8) : ∃ cs : Array Value, cs = (flat Park.cells (List.replicate n .zero)).toArray ∧ ∀ w : World, (Instr.makeSlice 64 (.int .i64 (n : Int)) (.int .i64 (n : Int))).run Try.prog w = .ok (.slice (some ⟨w.heap.size, 0, none⟩) n n) (w.alloc (.cells cs 71)) :=
  ⟨_, rfl, fun w => run_make_flat (P := Try.prog) Park.len (by decide) 64 71 _ Park.zero 16 Try.underlying64 infoPark rfl (by decide) n (by omega) w⟩
theorem Pair.first {w0 w1 w2 : World} {p q : Nat} {l : List Park} {now : Int} {B : Nat} (hB : B ≤ w0.heap.size) (ht : TableIn PT (fun k => w0.heap.size ≤ k) w1 p l now) (hm : TableIn RT (fun k => w1.heap.size ≤ k) w2 q l now) (hb : Below w1.heap.size w1 w2) :
    Pair B w2 p q l now (fun k => w0.heap.size ≤ k ∧ k < w1.heap.size) (fun k => w1.heap.size ≤ k ∧ k < w2.heap.size) :=
  ⟨(ht.lt).below hb, hm.lt, fun k hk hg => by omega, fun k hk => by have := hb.size; omega, fun k hk => ⟨by have := ht.lt; obtain ⟨v, ⟨a, _⟩, _⟩ := ht; have := blk_lt a; omega, hk.2⟩⟩

structure Played (B : Nat) (w wr : World) (p q n : Nat) (xs : List Deed) (k : Nat) (F G : Nat → Prop) : Prop where
  pair : Pair B wr p q (playS (xs.take k) (start n)).1 (playS (xs.take k) (start n)).2 F G
  bel : Below B w wr
  B1 : B ≤ wr.heap.size
theorem Played.deed {B : Nat} {w wr w' : World} {p q n k : Nat} {xs : List Deed} {F G : Nat → Prop} (h : Played B w wr p q n xs k F G) (hk : k < xs.length) {e : Ending}
    (hp : PP B wr p q F G (stepS xs[k].1 xs[k].2.1 xs[k].2.2 (playS (xs.take k) (start n))).1 (stepS xs[k].1 xs[k].2.1 xs[k].2.2 (playS (xs.take k) (start n))).2 e w') : Played B w w' p q n xs (k + 1) F G := by
  refine ⟨by rw [playS_snoc xs k hk]; exact hp.2.1, h.bel.trans (hp.2.2.below h.B1 (fun j hj => ?_)), Nat.le_trans h.B1 hp.2.2.size⟩
  rcases hj with hj | hj
  · exact (h.pair.lowF j hj).1
  · exact (h.pair.lowG j hj).1
theorem Played.on_ {B : Nat} {w wr w' : World} {p q n k : Nat} {xs : List Deed} {F G : Nat → Prop} (h : Played B w wr p q n xs k F G) (hb : Below wr.heap.size wr w') : Played B w w' p q n xs k F G :=
  ⟨h.pair.later hb, h.bel.trans (hb.mono h.B1), Nat.le_trans h.B1 hb.size⟩

set_option maxRecDepth 100000 in
set_option maxHeartbeats 2000000 in
theorem blocked_walk (threads : Int) (A : Option Addr) (xs : List Deed) (c : Nat) (w : World) (wm : (Lit.int .i64 threads).wf = true) (hl : xs.length ≤ c) (hC : kdDeed.C w A xs.length xs) (hwf : xs.length ≤ maxLen ∧ ∀ x ∈ xs, Deed.wf x) :
    Calls Try.prog 13 #[.int .i64 threads, .slice A xs.length c] w fun e w' => e = .returned (.bool true) ∧ Below w.heap.size w w' := by
  have ra := pickI_range threads (n := 8) (by omega)
  have hpa := Aside0.mk (fun w => pick_calls w threads 8 wm (by omega) (by omega))
  generalize pickI threads 8 = M at *
  obtain ⟨m, rfl⟩ := Int.eq_ofNat_of_zero_le ra.1
  obtain ⟨-, m1⟩ := ra
  obtain ⟨cs, hcs, hmk⟩ := make_parks (m + 1) (by omega)
  have em : (1 : Int) + (m : Int) = ((m + 1 : Nat) : Int) := by omega
  rw [← em] at hmk
  have hnew := Aside0.mk (fun w => by have := new_good w (m + 1) (by omega) (by omega); rwa [← em] at this)
  have HCS := Aside0.mk hcs
  have HC := Aside0.mk hC
  have HW := Aside0.mk hwf
  have EM := Aside0.mk em
  clear hC hwf hcs em
  go_enter Try.func13, Try.ntmps13
  go_wp2_with fail
  refine (up_calls _).mono ?_; rintro e w1 ⟨rfl, hb⟩
  go_wp2_with fail
  refine (hpa.out _).mono ?_; rintro e w2 ⟨rfl, rfl⟩
  go_wp2_with fail
  refine (hnew.out _).mono ?_; rintro e w2 ⟨p, rfl, ht, hb1⟩
  have hb2 := below_step hb hb1
  have H0 := Aside0.mk (Played.mk (B := w.heap.size) (w := w) (xs := xs) (k := 0) (n := m + 1) (Pair.first hb.size ht (model_new w2 (m + 1) (by omega) (by omega) cs HCS.out) (((Below.refl _ _).alloc (Nat.le_refl _) _).alloc (by simp) _)) ((hb2.alloc hb2.size _).alloc (by have := hb2.size; simp; omega) _) (by have := hb2.size; simp; omega))
  clear ht hb hb1 hb2 hpa
  go_wp2_with fail
  go_loopw [9] (fun v9 wr => ∃ k : Nat, k ≤ 100 ∧ k ≤ xs.length ∧ v9 = .int .i64 k ∧ Aside0 (Played w.heap.size w wr p (w2.heap.size + 1) (m + 1) xs k (fun k => w1.heap.size ≤ k ∧ k < w2.heap.size) (fun k => w2.heap.size ≤ k ∧ k < w2.heap.size + 2))) (fun v9 _ => 100 - (intOf v9).toNat)
  case atStart => exact ⟨0, by omega, by omega, rfl, by simpa using H0⟩
  case round =>
    clear H0
    obtain ⟨k, hk, hkl, rfl, H⟩ := hrel
    by_cases h1 : k < xs.length
    · by_cases h2 : k < 100
      · have h2' : (k : Int) < 100 := by omega
        obtain ⟨ad, rfl, d0, d1, d2⟩ := deed_at (kdDeed.C_below HC.out H.out.bel) k h1
        have hx := HW.out.2 xs[k] (List.getElem_mem h1)
        have hg := playS_good (xs.take k) (fun x hx => HW.out.2 x (List.mem_of_mem_take hx)) _ (start_good (m + 1) (by omega) (by omega))
        go_wp2_with fail
        refine (one_calls xs[k].1 xs[k].2.1 xs[k].2.2 w.heap.size wr p (w2.heap.size + 1) _ _ _ hx.1 hx.2.1 hx.2.2 H.out.pair hg).mono ?_
        rintro e w5 hp
        have H5 := Aside0.mk (H.out.deed h1 hp)
        obtain rfl := hp.1
        clear H hp d0 d1 d2 hx hg
        go_wp2_with fail
        go_loopw [10] (fun v10 wr => ∃ j : Nat, j ≤ m + 1 ∧ v10 = .int .i64 j ∧ Aside0 (Played w.heap.size w wr p (w2.heap.size + 1) (m + 1) xs (k + 1) (fun k => w1.heap.size ≤ k ∧ k < w2.heap.size) (fun k => w2.heap.size ≤ k ∧ k < w2.heap.size + 2))) (fun v10 _ => m + 1 - (intOf v10).toNat)
        case atStart => exact ⟨0, by omega, rfl, H5⟩
        case round =>
          clear H5
          obtain ⟨j, hj, rfl, H5⟩ := hrel
          by_cases hj1 : j < m + 1
          · have hjm : (j : Int) < 1 + (m : Int) := by omega
            have hg := playS_good (xs.take (k + 1)) (fun x hx => HW.out.2 x (List.mem_of_mem_take hx)) _ (start_good (m + 1) (by omega) (by omega))
            have hjl : j < (playS (xs.take (k + 1)) (start (m + 1))).1.length := by rw [playS_length]; simpa [start] using hj1
            have hinv := hg.inv _ (List.getElem_mem hjl)
            go_wp2_with fail
            refine (at_calls _ p _ _ _ j hjl H5.out.pair.t).mono ?_; rintro e w6 ⟨rfl, hb6⟩
            have H6 := Aside0.mk ((H5.out.on_ hb6).on_ (below_alloc (Below.refl _ _) (.cells #[.bool (playS (xs.take (k + 1)) (start (m + 1))).1[j].permit, .bool (playS (xs.take (k + 1)) (start (m + 1))).1[j].flag, .bool (playS (xs.take (k + 1)) (start (m + 1))).1[j].blocked, .int .i64 (playS (xs.take (k + 1)) (start (m + 1))).1[j].deadline] 71)))
            unfold parkAgg
            generalize (playS (xs.take (k + 1)) (start (m + 1))).1[j] = x at *
            clear hb6 H5 hg hjl
            obtain ⟨xp, xf, xb, xd⟩ := x
            cases xb
            · obtain rfl : xd = 0 := hinv.2 rfl
              go_wp2_with fail
              go_quiet (fail)
              go_wp2_with fail
              go_roundw
              case rel => exact ⟨j + 1, by omega, by go_num, Aside0.mk (H6.out.on_ (pw_below_drewN (Below.refl _ _) _))⟩
              case measure => simp [intOf]; omega
            · obtain ⟨rfl, rfl, hd⟩ := hinv.1 rfl
              by_cases hd0 : 0 ≤ xd
              · have hn : ¬ xd ≤ (playS (xs.take (k + 1)) (start (m + 1))).2 := fun h => hd ⟨hd0, h⟩
                go_wp2_with fail
                go_quiet ((go_at_call 39; exact Calls.quiet_of_same ((now_calls _ p _ _ _ (H6.out.pair.t.drewN _)).mono fun _ _ h => ⟨h.1, h.2.symm⟩)))
                go_wp2_with fail
                go_roundw
                case rel => exact ⟨j + 1, by omega, by go_num, Aside0.mk (H6.out.on_ (pw_below_drewN (Below.refl _ _) _))⟩
                case measure => simp [intOf]; omega
              · have hd1 : xd < 0 := by omega
                have hd2 : decide (0 ≤ xd) = false := by simpa using hd0
                go_wp2_with fail
                go_quiet (fail)
                go_wp2_with fail
                go_roundw
                case rel => exact ⟨j + 1, by omega, by go_num, Aside0.mk (H6.out.on_ (pw_below_drewN (Below.refl _ _) _))⟩
                case measure => simp [intOf]; omega
          · have hjm : ¬ (j : Int) < 1 + (m : Int) := by omega
            go_wp2
            go_roundw
            case rel => exact ⟨k + 1, by omega, by omega, by go_num, H5⟩
            case measure => simp [intOf]; omega
      · have h2' : ¬ (k : Int) < 100 := by omega
        have hg := playS_good (xs.take k) (fun x hx => HW.out.2 x (List.mem_of_mem_take hx)) _ (start_good (m + 1) (by omega) (by omega))
        have HT := H.out.pair.t
        have HM := H.out.pair.m
        have HB := Aside0.mk (And.intro H.out.bel H.out.B1)
        clear H
        generalize playS (xs.take k) (start (m + 1)) = S at *
        have HT := Aside0.mk HT
        have HM := Aside0.mk HM
        have hl := hg.l1
        have hl8 := hg.l8
        have HG := Aside0.mk hg
        clear hg
        go_wp2_with fail
        refine (clone_calls _ p _ _ _ (by omega) hl HT.out).mono ?_; rintro e w5 ⟨q, rfl, hq, hb5⟩
        have HQ := Aside0.mk hq.lt
        have HB5 := Aside0.mk hb5
        clear hq hb5
        go_wp2_with fail
        refine (at_calls _ p _ _ _ 0 hl (HT.out.below HB5.out)).mono ?_; rintro e w6 ⟨rfl, hb6⟩
        have HBA := Aside0.mk (hb6.trans ((below_alloc (Below.refl _ _) (.cells #[.bool S.1[0].permit, .bool S.1[0].flag, .bool S.1[0].blocked, .int .i64 S.1[0].deadline] 71)).mono hb6.size))
        have s6 := hb6.size
        clear hb6
        unfold parkAgg
        go_wp2_with fail
        refine (interrupt_calls _ q _ _ _ 0 hl (HQ.out.below HBA.out)).mono ?_; rintro e w7 ⟨rfl, hq7, hu7⟩
        go_wp2_with fail
        refine (tick_good _ q _ _ _ 5 hq7 (by simp only [List.length_set]; exact hl) (by simp only [List.length_set]; omega) (by omega) (by omega) HG.out.n0 HG.out.n1).mono ?_; rintro e w8 ⟨rfl, -, hu8⟩
        have hu := hu7.trans hu8 (fun i hi => .inl hi)
        have b1 := hu.blk (blk_new w6 _) (fun h => by have := h.2; omega)
        have HB8 := Aside0.mk ((HB5.out.trans (HBA.out.mono HB5.out.size)).trans (hu.below (by have := HB5.out.size; simp; omega) (fun k hk => hk.1)))
        clear hq7 hu7 hu8 hu
        go_wp2_with fail
        refine (at_calls _ p _ _ _ 0 hl (HT.out.below HB8.out)).mono ?_; rintro e w9 ⟨rfl, hb9⟩
        replace b1 := (hb9.block _ (blk_lt b1)).trans b1
        have HB9 := Aside0.mk ((HB8.out.trans (hb9.mono HB8.out.size)).trans ((below_alloc (Below.refl _ _) (.cells #[.bool S.1[0].permit, .bool S.1[0].flag, .bool S.1[0].blocked, .int .i64 S.1[0].deadline] 71)).mono (Nat.le_trans HB8.out.size hb9.size)))
        obtain ⟨g, cc, -, -, -, -, -, -, -, mnow, -⟩ := (HM.out.below ((HB8.out.trans (hb9.mono HB8.out.size)))).open_ hl (by decide)
        have k0 : w9.cell? ⟨w6.heap.size, 0, none⟩ = some (.bool S.1[0].permit) := by simpa using blk_cell b1 0
        have k1 : w9.cell? ⟨w6.heap.size, 1, none⟩ = some (.bool S.1[0].flag) := by simpa using blk_cell b1 1
        have k2 : w9.cell? ⟨w6.heap.size, 2, none⟩ = some (.bool S.1[0].blocked) := by simpa using blk_cell b1 2
        have k3 : w9.cell? ⟨w6.heap.size, 3, none⟩ = some (.int .i64 S.1[0].deadline) := by simpa using blk_cell b1 3
        have s9 := World.block_lt_of_cell? w9 _ k0
        have s10 := World.block_lt_of_cell? w9 _ mnow
        clear b1 hb9
        unfold parkAgg
        generalize S.1[0].permit = x0 at *
        generalize S.1[0].flag = x1 at *
        generalize S.1[0].blocked = x2 at *
        generalize S.1[0].deadline = x3 at *
        go_wp2_with fail
        go_quiet ((go_at_call 39; exact Calls.quiet_of_same ((now_calls _ p _ _ _ ((HT.out.below HB9.out).drewN _)).mono fun _ _ h => ⟨h.1, h.2.symm⟩)))
        go_wp2
        go_ret
        exact ⟨rfl, pw_below_drewN (HB.out.1.trans (HB9.out.mono HB.out.2)) _⟩
    · have h1' : ¬ (k : Int) < (xs.length : Int) := by omega
      have hg := playS_good (xs.take k) (fun x hx => HW.out.2 x (List.mem_of_mem_take hx)) _ (start_good (m + 1) (by omega) (by omega))
      have HT := H.out.pair.t
      have HM := H.out.pair.m
      have HB := Aside0.mk (And.intro H.out.bel H.out.B1)
      clear H
      generalize playS (xs.take k) (start (m + 1)) = S at *
      have HT := Aside0.mk HT
      have HM := Aside0.mk HM
      have hl := hg.l1
      have hl8 := hg.l8
      have HG := Aside0.mk hg
      clear hg
      go_wp2_with fail
      refine (clone_calls _ p _ _ _ (by omega) hl HT.out).mono ?_; rintro e w5 ⟨q, rfl, hq, hb5⟩
      have HQ := Aside0.mk hq.lt
      have HB5 := Aside0.mk hb5
      clear hq hb5
      go_wp2_with fail
      refine (at_calls _ p _ _ _ 0 hl (HT.out.below HB5.out)).mono ?_; rintro e w6 ⟨rfl, hb6⟩
      have HBA := Aside0.mk (hb6.trans ((below_alloc (Below.refl _ _) (.cells #[.bool S.1[0].permit, .bool S.1[0].flag, .bool S.1[0].blocked, .int .i64 S.1[0].deadline] 71)).mono hb6.size))
      have s6 := hb6.size
      clear hb6
      unfold parkAgg
      go_wp2_with fail
      refine (interrupt_calls _ q _ _ _ 0 hl (HQ.out.below HBA.out)).mono ?_; rintro e w7 ⟨rfl, hq7, hu7⟩
      go_wp2_with fail
      refine (tick_good _ q _ _ _ 5 hq7 (by simp only [List.length_set]; exact hl) (by simp only [List.length_set]; omega) (by omega) (by omega) HG.out.n0 HG.out.n1).mono ?_; rintro e w8 ⟨rfl, -, hu8⟩
      have hu := hu7.trans hu8 (fun i hi => .inl hi)
      have b1 := hu.blk (blk_new w6 _) (fun h => by have := h.2; omega)
      have HB8 := Aside0.mk ((HB5.out.trans (HBA.out.mono HB5.out.size)).trans (hu.below (by have := HB5.out.size; simp; omega) (fun k hk => hk.1)))
      clear hq7 hu7 hu8 hu
      go_wp2_with fail
      refine (at_calls _ p _ _ _ 0 hl (HT.out.below HB8.out)).mono ?_; rintro e w9 ⟨rfl, hb9⟩
      replace b1 := (hb9.block _ (blk_lt b1)).trans b1
      have HB9 := Aside0.mk ((HB8.out.trans (hb9.mono HB8.out.size)).trans ((below_alloc (Below.refl _ _) (.cells #[.bool S.1[0].permit, .bool S.1[0].flag, .bool S.1[0].blocked, .int .i64 S.1[0].deadline] 71)).mono (Nat.le_trans HB8.out.size hb9.size)))
      obtain ⟨g, cc, -, -, -, -, -, -, -, mnow, -⟩ := (HM.out.below ((HB8.out.trans (hb9.mono HB8.out.size)))).open_ hl (by decide)
      have k0 : w9.cell? ⟨w6.heap.size, 0, none⟩ = some (.bool S.1[0].permit) := by simpa using blk_cell b1 0
      have k1 : w9.cell? ⟨w6.heap.size, 1, none⟩ = some (.bool S.1[0].flag) := by simpa using blk_cell b1 1
      have k2 : w9.cell? ⟨w6.heap.size, 2, none⟩ = some (.bool S.1[0].blocked) := by simpa using blk_cell b1 2
      have k3 : w9.cell? ⟨w6.heap.size, 3, none⟩ = some (.int .i64 S.1[0].deadline) := by simpa using blk_cell b1 3
      have s9 := World.block_lt_of_cell? w9 _ k0
      have s10 := World.block_lt_of_cell? w9 _ mnow
      clear b1 hb9
      unfold parkAgg
      generalize S.1[0].permit = x0 at *
      generalize S.1[0].flag = x1 at *
      generalize S.1[0].blocked = x2 at *
      generalize S.1[0].deadline = x3 at *
      go_wp2_with fail
      go_quiet ((go_at_call 39; exact Calls.quiet_of_same ((now_calls _ p _ _ _ ((HT.out.below HB9.out).drewN _)).mono fun _ _ h => ⟨h.1, h.2.symm⟩)))
      go_wp2
      go_ret
      exact ⟨rfl, pw_below_drewN (HB.out.1.trans (HB9.out.mono HB.out.2)) _⟩
end Go.Proofs.Ythehmmcloimpmaa.Permit
