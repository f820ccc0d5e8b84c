/- Permits: a table and its twin go their own ways. No condition beyond the statement's own. -/
import Derived.Test.YthehmmcloimpmaaPermitAlike
set_option linter.unusedVariables false
set_option linter.unusedSimpArgs false
namespace Go.Proofs.Ythehmmcloimpmaa.Permit
open Go.RowKit Go.Proofs.YthehmmcloimpmaaW.PrintWords Go.Proofs.Ythehmmcloimpmaa.Base Go.Proofs.Ythehmmcloimpmaa.Clock
attribute [local go_sem] eqlE eqlN eqlN' guardE guardN guardN' neqE neqN' nguardE nguardN'

/-- The twin with the model, after k more deeds. -/
structure Twined (B : Nat) (w0 wr : World) (p q : Nat) (S : List Park × Int) (ys : List Deed) (k : Nat) (F G : Nat → Prop) : Prop where
  pair : Pair B wr p q (playS (ys.take k) S).1 (playS (ys.take k) S).2 F G
  upd : Upd (fun k => F k ∨ G k) w0 wr
  B1 : B ≤ wr.heap.size
theorem Twined.deed {B : Nat} {w wr w' : World} {p q k : Nat} {S : List Park × Int} {xs : List Deed} {F G : Nat → Prop} (h : Twined B w wr p q S xs k F G) (hk : k < xs.length) {e : Ending}
    (hp : PP B wr p q F G (stepS xs[k].1 xs[k].2.1 xs[k].2.2 (playS (xs.take k) S)).1 (stepS xs[k].1 xs[k].2.1 xs[k].2.2 (playS (xs.take k) S)).2 e w') : Twined B w w' p q S xs (k + 1) F G :=
  ⟨by rw [playS_snoc xs k hk]; exact hp.2.1, h.upd.trans hp.2.2 (fun i hi => .inl hi), Nat.le_trans h.B1 hp.2.2.size⟩

set_option maxRecDepth 100000 in
set_option maxHeartbeats 8000000 in
theorem twin_walk (threads : Int) (A : Option Addr) (xs : List Deed) (c : Nat) (A2 : Option Addr) (ys : List Deed) (c2 : Nat) (w : World) (wm : (Lit.int .i64 threads).wf = true) (hl : xs.length ≤ c) (hC : kdDeed.C w A xs.length xs) (hwf : xs.length ≤ maxLen ∧ ∀ x ∈ xs, Deed.wf x)
    (hl2 : ys.length ≤ c2) (hC2 : kdDeed.C w A2 ys.length ys) (hwf2 : ys.length ≤ maxLen ∧ ∀ x ∈ ys, Deed.wf x) :
    Calls Try.prog 14 #[.int .i64 threads, .slice A xs.length c, .slice A2 ys.length c2] w fun e w' => e = .returned (.bool true) ∧ Below w.heap.size w w' := by
  have ra := pickI_range threads (n := 8) (by omega)
  have hpa := Aside0.mk (fun w => pick_calls w threads 8 wm (by omega) (by omega))
  generalize pickI threads 8 = M at *
  obtain ⟨m, rfl⟩ := Int.eq_ofNat_of_zero_le ra.1
  obtain ⟨-, m1⟩ := ra
  obtain ⟨cs, hcs, hmk⟩ := make_parks (m + 1) (by omega)
  have em : (1 : Int) + (m : Int) = ((m + 1 : Nat) : Int) := by omega
  rw [← em] at hmk
  have hnew := Aside0.mk (fun w => by have := new_good w (m + 1) (by omega) (by omega); rwa [← em] at this)
  have HCS := Aside0.mk hcs
  have HC := Aside0.mk hC
  have HC2 := Aside0.mk hC2
  have HW2 := Aside0.mk hwf2
  have HW := Aside0.mk hwf
  have EM := Aside0.mk em
  clear hC hwf hC2 hwf2 hcs em
  go_enter Try.func14, Try.ntmps14
  go_wp2_with fail
  refine (up_calls _).mono ?_; rintro e w1 ⟨rfl, hb⟩
  go_wp2_with fail
  refine (hpa.out _).mono ?_; rintro e w2 ⟨rfl, rfl⟩
  go_wp2_with fail
  refine (hnew.out _).mono ?_; rintro e w2 ⟨p, rfl, ht, hb1⟩
  have hb2 := below_step hb hb1
  have H0 := Aside0.mk (Played.mk (B := w.heap.size) (w := w) (xs := xs) (k := 0) (n := m + 1) (Pair.first hb.size ht (model_new w2 (m + 1) (by omega) (by omega) cs HCS.out) (((Below.refl _ _).alloc (Nat.le_refl _) _).alloc (by simp) _)) ((hb2.alloc hb2.size _).alloc (by have := hb2.size; simp; omega) _) (by have := hb2.size; simp; omega))
  have sA := hb2.size
  clear ht hb hb1 hb2 hpa
  go_wp2_with fail
  go_loopw [11] (fun v wr => ∃ k : Nat, k ≤ 40 ∧ k ≤ xs.length ∧ v = .int .i64 k ∧ Aside0 (Played w.heap.size w wr p (w2.heap.size + 1) (m + 1) xs k (fun k => w1.heap.size ≤ k ∧ k < w2.heap.size) (fun k => w2.heap.size ≤ k ∧ k < w2.heap.size + 2))) (fun v _ => 40 - (intOf v).toNat)
  case atStart => exact ⟨0, by omega, by omega, rfl, by simpa using H0⟩
  case round =>
    clear H0
    obtain ⟨k, hk, hkl, rfl, H⟩ := hrel
    by_cases hgo : k < xs.length ∧ k < 40
    · have h1 := hgo.1
      have h2' : (k : Int) < 40 := by omega
      obtain ⟨ad, rfl, d0, d1, d2⟩ := deed_at (kdDeed.C_below HC.out H.out.bel) k h1
      have hx := HW.out.2 xs[k] (List.getElem_mem h1)
      have hg := playS_good (xs.take k) (fun x hx => HW.out.2 x (List.mem_of_mem_take hx)) _ (start_good (m + 1) (by omega) (by omega))
      go_wp2_with fail
      refine (one_calls xs[k].1 xs[k].2.1 xs[k].2.2 _ wr _ _ _ _ _ hx.1 hx.2.1 hx.2.2 H.out.pair hg).mono ?_
      rintro e w5' hp
      have H5 := Aside0.mk (H.out.deed h1 hp)
      obtain rfl := hp.1
      clear H hp d0 d1 d2 hx hg
      go_wp2_with fail
      go_roundw
      case rel => exact ⟨k + 1, by omega, by omega, by go_num, H5⟩
      case measure => simp [intOf]; omega
    · have hk0 : k = min xs.length 40 := by omega
      rcases (show (¬ (k : Int) < xs.length) ∨ ((k : Int) < xs.length ∧ ¬ (k : Int) < 40) by omega) with h1 | ⟨h1, h2⟩
      all_goals (try (exfalso; omega))
      all_goals
        rename World => wr1
        subst hk0
        obtain ⟨S, hS⟩ : ∃ S, S = playS (xs.take (min xs.length 40)) (start (m + 1)) := ⟨_, rfl⟩
        have hg : Good S := hS ▸ playS_good (xs.take (min xs.length 40)) (fun x hx => HW.out.2 x (List.mem_of_mem_take hx)) _ (start_good (m + 1) (by omega) (by omega))
        have HT := Aside0.mk (show TableIn PT (fun k => w1.heap.size ≤ k ∧ k < w2.heap.size) wr1 p S.1 S.2 from hS ▸ H.out.pair.t)
        have HM := Aside0.mk (show TableIn RT (fun k => w2.heap.size ≤ k ∧ k < w2.heap.size + 2) wr1 (w2.heap.size + 1) S.1 S.2 from hS ▸ H.out.pair.m)
        have HB := Aside0.mk (And.intro H.out.bel H.out.B1)
        have s2 : w2.heap.size + 1 < wr1.heap.size := (H.out.pair.lowG (w2.heap.size + 1) (by omega)).2
        have HS := Aside0.mk hS
        have HG := Aside0.mk hg
        have hl := hg.l1
        have hl8 := hg.l8
        clear H hS hg
        go_wp2_with fail
        refine (clone_calls _ p _ _ _ (by omega) hl HT.out).mono ?_; rintro e w5 ⟨u, rfl, hq, hb5⟩
        have HU := Aside0.mk hq.lt
        have HB5 := Aside0.mk hb5
        have s5 := hb5.size
        have HBW := Aside0.mk (And.intro (HB.out.1.trans (hb5.mono HB.out.2)) (Nat.le_trans HB.out.2 hb5.size))
        clear hq hb5
        go_wp2_with fail
        refine (hnew.out _).mono ?_; rintro e w6 ⟨p2, rfl, ht, hb1⟩
        have s6 := hb1.size
        have H0 := Aside0.mk (Played.mk (B := w5.heap.size) (w := w5) (xs := xs) (k := 0) (n := m + 1) (Pair.first (Nat.le_refl _) ht (model_new w6 (m + 1) (by omega) (by omega) cs HCS.out) (((Below.refl _ _).alloc (Nat.le_refl _) _).alloc (by simp) _)) ((hb1.alloc hb1.size _).alloc (by simp; omega) _) (by simp; omega))
        clear ht hb1
        go_wp2_with fail
        go_loopw [17] (fun v wr2 => ∃ k : Nat, k ≤ 40 ∧ k ≤ xs.length ∧ v = .int .i64 k ∧ Aside0 (Played w5.heap.size w5 wr2 p2 (w6.heap.size + 1) (m + 1) xs k (fun k => w5.heap.size ≤ k ∧ k < w6.heap.size) (fun k => w6.heap.size ≤ k ∧ k < w6.heap.size + 2))) (fun v _ => 40 - (intOf v).toNat)
        case atStart => exact ⟨0, by omega, by omega, rfl, by simpa using H0⟩
        case round =>
          clear H0
          obtain ⟨k, hk, hkl, rfl, H⟩ := hrel
          by_cases hgo : k < xs.length ∧ k < 40
          · have h1 := hgo.1
            have h2' : (k : Int) < 40 := by omega
            obtain ⟨ad, rfl, d0, d1, d2⟩ := deed_at (kdDeed.C_below HC.out (HBW.out.1.trans (H.out.bel.mono HBW.out.2))) k h1
            have hx := HW.out.2 xs[k] (List.getElem_mem h1)
            have hg := playS_good (xs.take k) (fun x hx => HW.out.2 x (List.mem_of_mem_take hx)) _ (start_good (m + 1) (by omega) (by omega))
            go_wp2_with fail
            refine (one_calls xs[k].1 xs[k].2.1 xs[k].2.2 _ wr _ _ _ _ _ hx.1 hx.2.1 hx.2.2 H.out.pair hg).mono ?_
            rintro e w5' hp
            have H5 := Aside0.mk (H.out.deed h1 hp)
            obtain rfl := hp.1
            clear H hp d0 d1 d2 hx hg
            go_wp2_with fail
            go_roundw
            case rel => exact ⟨k + 1, by omega, by omega, by go_num, H5⟩
            case measure => simp [intOf]; omega
          · have hk0 : k = min xs.length 40 := by omega
            rcases (show (¬ (k : Int) < xs.length) ∨ ((k : Int) < xs.length ∧ ¬ (k : Int) < 40) by omega) with h1 | ⟨h1, h2⟩
            all_goals (try (exfalso; omega))
            all_goals
              rename World => wr2
              subst hk0
              have HTX := Aside0.mk ((HT.out.below HB5.out).below H.out.bel)
              have HNX := Aside0.mk (show TableIn RT (fun k => w6.heap.size ≤ k ∧ k < w6.heap.size + 2) wr2 (w6.heap.size + 1) S.1 S.2 from HS.out ▸ H.out.pair.m)
              have HBX := Aside0.mk (HBW.out.1.trans (H.out.bel.mono HBW.out.2))
              have s7 := H.out.bel.size
              have HSX := Aside0.mk (show w.heap.size ≤ wr2.heap.size from HBX.out.size)
              have H0 := Aside0.mk (Twined.mk (B := w.heap.size) (w0 := wr2) (S := S) (ys := ys) (k := 0) (F := (fun k => wr1.heap.size ≤ k ∧ k < w5.heap.size)) (G := (fun k => w2.heap.size ≤ k ∧ k < w2.heap.size + 2)) ⟨HU.out.below H.out.bel, (HM.out.below HB5.out).below H.out.bel, fun k hk hg => by omega, fun k hk => by have := HB.out.2; omega, fun k hk => by omega⟩ (Upd.refl _ _) HSX.out)
              clear H
              go_wp2_with fail
              go_loopw [19] (fun v wr3 => ∃ k : Nat, k ≤ 40 ∧ k ≤ ys.length ∧ v = .int .i64 k ∧ Aside0 (Twined w.heap.size wr2 wr3 u (w2.heap.size + 1) S ys k (fun k => wr1.heap.size ≤ k ∧ k < w5.heap.size) (fun k => w2.heap.size ≤ k ∧ k < w2.heap.size + 2))) (fun v _ => 40 - (intOf v).toNat)
              case atStart => exact ⟨0, by omega, by omega, rfl, by simpa using H0⟩
              case round =>
                clear H0
                obtain ⟨k, hk, hkl, rfl, H⟩ := hrel
                by_cases hgo : k < ys.length ∧ k < 40
                · have h1 := hgo.1
                  have h2' : (k : Int) < 40 := by omega
                  obtain ⟨ad, rfl, d0, d1, d2⟩ := deed_at (kdDeed.C_below HC2.out (HBX.out.trans (H.out.upd.below HSX.out (fun k hk => by have := HB.out.2; omega)))) k h1
                  have hx := HW2.out.2 ys[k] (List.getElem_mem h1)
                  have hg := playS_good (ys.take k) (fun x hx => HW2.out.2 x (List.mem_of_mem_take hx)) _ HG.out
                  go_wp2_with fail
                  refine (one_calls ys[k].1 ys[k].2.1 ys[k].2.2 _ wr _ _ _ _ _ hx.1 hx.2.1 hx.2.2 H.out.pair hg).mono ?_
                  rintro e w5' hp
                  have H5 := Aside0.mk (H.out.deed h1 hp)
                  obtain rfl := hp.1
                  clear H hp d0 d1 d2 hx hg
                  go_wp2_with fail
                  go_roundw
                  case rel => exact ⟨k + 1, by omega, by omega, by go_num, H5⟩
                  case measure => simp [intOf]; omega
                · have hk0 : k = min ys.length 40 := by omega
                  rcases (show (¬ (k : Int) < ys.length) ∨ ((k : Int) < ys.length ∧ ¬ (k : Int) < 40) by omega) with h1 | ⟨h1, h2⟩
                  all_goals (try (exfalso; omega))
                  all_goals
                    have HTZ := Aside0.mk (HTX.out.upd H.out.upd (fun k hk hk' => by omega))
                    have HNZ := Aside0.mk (HNX.out.upd H.out.upd (fun k hk hk' => by omega))
                    have HBZ := Aside0.mk (HBX.out.trans (H.out.upd.below HSX.out (fun k hk => by have := HB.out.2; omega)))
                    clear H
                    go_wp2_with fail
                    refine (alike_calls _ p (w6.heap.size + 1) _ _ S.1 S.2 hl hl8 HTZ.out HNZ.out).mono ?_; rintro e w9 ⟨rfl, hb9⟩
                    go_wp2
                    go_ret
                    exact ⟨rfl, HBZ.out.trans (hb9.mono (by have := HBZ.out.size; exact this))⟩
end Go.Proofs.Ythehmmcloimpmaa.Permit
