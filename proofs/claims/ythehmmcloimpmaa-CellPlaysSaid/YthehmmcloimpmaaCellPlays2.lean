/- Cells: what is allocated, loaded, stored and swapped, whatever is done, one behind the other. No condition beyond the statement's own. -/
import Derived.Test.YthehmmcloimpmaaCellPlays
import Derived.Test.YthehmmcloimpmaaOpen
set_option linter.unusedVariables false
set_option linter.unusedSimpArgs false
namespace Go.Proofs.Ythehmmcloimpmaa.CellPlays
open Go.RowKit Go.Proofs.YthehmmcloimpmaaW.PrintWords Go.Proofs.Ythehmmcloimpmaa.Base Go.Proofs.Ythehmmcloimpmaa.Cell Go.Proofs.Ythehmmcloimpmaa.CellLaw
attribute [local go_sem] eqlE eqlN eqlN' guardE guardN guardN'

theorem one_calls (what n at_ old x : Int) (B : Nat) (w : World) (p : Nat) (l : List Int) (most : Int) (v : Value) (F : Nat → Prop) (hw : (Lit.int .i64 what).wf = true) (h : Two B w p l most v F) (hB : B ≤ w.heap.size) :
    Calls Try.prog 24 #[.pointer (some ⟨p, 0, none⟩), v, .int .i64 most, deedAgg what n at_ old x] w (Post B w p most) := by
  have r := pickI_range what (n := 4) (by omega)
  by_cases hin : 1 ≤ at_ ∧ at_ ≤ l.length
  · obtain ⟨i1, i2⟩ := hin
    rcases (show pickI what 4 = 0 ∨ pickI what 4 = 1 ∨ pickI what 4 = 2 ∨ pickI what 4 = 3 by omega) with hk | hk | hk | hk
    · by_cases hn : n < 1 ∨ most - l.length < n
      · exact one_alloc_no what n at_ old x B w p l most v F hw hk h hn
      · exact one_alloc what n at_ old x B w p l most v F hw hk h hB (by omega) (by omega)
    · exact one_load what n at_ old x B w p l most v F hw hk h i1 i2
    · exact one_store what n at_ old x B w p l most v F hw hk h i1 i2
    · by_cases hs : rd l (at_ - 1) = old
      · exact one_swap what n at_ old x B w p l most v F hw hk h i1 i2 hs
      · exact one_swap_not what n at_ old x B w p l most v F hw hk h i1 i2 hs
  · have hout : at_ < 1 ∨ (l.length : Int) < at_ := by omega
    rcases (show pickI what 4 = 0 ∨ pickI what 4 = 1 ∨ pickI what 4 = 2 ∨ pickI what 4 = 3 by omega) with hk | hk | hk | hk
    · by_cases hn : n < 1 ∨ most - l.length < n
      · exact one_alloc_no what n at_ old x B w p l most v F hw hk h hn
      · exact one_alloc what n at_ old x B w p l most v F hw hk h hB (by omega) (by omega)
    · exact one_load_no what n at_ old x B w p l most v F hw hk h hout
    · exact one_store_no what n at_ old x B w p l most v F hw hk h hout
    · exact one_swap_no what n at_ old x B w p l most v F hw hk h hout

abbrev Deed := Int × Int × Int × Int × Int
abbrev kdDeed : Kd Deed := Kd.pair (Kd.int .i64) (Kd.pair (Kd.int .i64) (Kd.pair (Kd.int .i64) (Kd.pair (Kd.int .i64) (Kd.int .i64))))

/-- An element's cells. -/
theorem deed_at {w : World} {A : Option Addr} {xs : List Deed} (h : kdDeed.C w A xs.length xs) (k : Nat) (hk : k < xs.length) :
    ∃ ad, A = some ad ∧ w.cell? (ad.add (k * 5)) = some (.int .i64 xs[k].1) ∧ w.cell? ⟨(ad.add (k * 5)).block, (ad.add (k * 5)).off + 1, none⟩ = some (.int .i64 xs[k].2.1) ∧ w.cell? ⟨(ad.add (k * 5)).block, (ad.add (k * 5)).off + 2, none⟩ = some (.int .i64 xs[k].2.2.1) ∧
      w.cell? ⟨(ad.add (k * 5)).block, (ad.add (k * 5)).off + 3, none⟩ = some (.int .i64 xs[k].2.2.2.1) ∧ w.cell? ⟨(ad.add (k * 5)).block, (ad.add (k * 5)).off + 4, none⟩ = some (.int .i64 xs[k].2.2.2.2) := by
  obtain ⟨ad, hA, hc⟩ := h.2.2 (by omega)
  obtain ⟨c, hl, ⟨c0, c1, rfl, rfl, ⟨c2, c3, rfl, rfl, ⟨c4, c5, rfl, rfl, ⟨c6, c7, rfl, rfl, rfl⟩⟩⟩⟩, hcell⟩ := hc k _ (List.getElem?_eq_getElem hk)
  have f := fun j (hj : 0 < j) => add_field ad (k * 5) j hj
  exact ⟨ad, hA, hcell 0 _ rfl, f 1 (by omega) ▸ hcell 1 _ rfl, f 2 (by omega) ▸ hcell 2 _ rfl, f 3 (by omega) ▸ hcell 3 _ rfl, f 4 (by omega) ▸ hcell 4 _ rfl⟩

structure Going (w wr : World) (p : Nat) (most : Int) (v : Value) : Prop where
  two : ∃ l F, Two w.heap.size wr p l most v F
  bel : Below w.heap.size w wr

theorem plays_walk (most : Int) (A : Option Addr) (xs : List Deed) (c : Nat) (w : World) (wm : (Lit.int .i64 most).wf = true) (hl : xs.length ≤ c) (hC : kdDeed.C w A xs.length xs) (hwf : xs.length ≤ maxLen ∧ ∀ x ∈ xs, (Lit.int .i64 x.1).wf = true) :
    Calls Try.prog 8 #[.int .i64 most, .slice A xs.length c] w fun e w' => e = .returned (.bool true) ∧ Below w.heap.size w w' := by
  have ra := pickI_range most (n := 4096) (by omega)
  have hpa := Aside0.mk (fun w => pick_calls w most 4096 wm (by omega) (by omega))
  generalize pickI most 4096 = M at *
  obtain ⟨m0, m1⟩ := ra
  have HC := Aside0.mk hC
  have HW := Aside0.mk hwf
  clear hC hwf
  go_enter Try.func8, Try.ntmps8
  go_wp2_with fail
  refine (up_calls _).mono ?_; rintro e w1 ⟨rfl, hb⟩
  go_wp2_with fail
  refine (hpa.out _).mono ?_; rintro e w2 ⟨rfl, rfl⟩
  go_wp2_with fail
  refine (new_good _ (1 + M) (by omega) (by omega)).mono ?_; rintro e w2 ⟨p, rfl, ha, hb1⟩
  have hb2 := below_step hb hb1
  replace ha := (ha.fromB hb.size).lt
  have H0 := Aside0.mk (Going.mk ⟨[], _, Two.mk ha (fun k hk => hk) (own_nil w2 0 2 1) (by simp [Value.ownBlock]) (by simp; omega) (show (1 : Int) ≤ 1 + M by omega) (by omega)⟩ hb2)
  clear ha hb hb1 hb2 hpa
  go_wp2_with fail
  go_loopw [8, 9] (fun v8 v9 wr => ∃ k : Nat, k ≤ 100 ∧ v9 = .int .i64 k ∧ Aside0 (Going w wr p (1 + M) v8)) (fun _ v9 _ => 100 - (intOf v9).toNat)
  case atStart => exact ⟨0, by omega, rfl, H0⟩
  case round =>
    clear H0
    obtain ⟨k, hk, rfl, HG⟩ := hrel
    by_cases h1 : k < xs.length
    · by_cases h2 : k < 100
      · have h2' : (k : Int) < 100 := by omega
        obtain ⟨ad, rfl, d0, d1, d2, d3, d4⟩ := deed_at (Kd.C_below HC.out HG.out.bel) k h1
        have hx := HW.out.2 xs[k] (List.getElem_mem h1)
        obtain ⟨⟨l, F, HT⟩, HB⟩ := HG.out
        go_wp2_with fail
        refine (one_calls xs[k].1 xs[k].2.1 xs[k].2.2.1 xs[k].2.2.2.1 xs[k].2.2.2.2 w.heap.size wr p l (1 + M) _ F hx HT HB.size).mono ?_
        rintro e w5 ⟨v', l', F', rfl, HT', HU⟩
        have HB' := Upd.since HB HU (fun k hk => hk)
        have HG' := Aside0.mk (Going.mk ⟨l', F', HT'⟩ HB')
        obtain ⟨A', c', rfl⟩ := own_slice HT'.row
        have HA' := Aside0.mk HT'.ar
        have El := Aside0.mk (show wrap64 (((0 :: l').length : Int) - 1) = l'.length by have := HT'.le; have := HT'.m1; simp [wrap64]; omega)
        clear HT HB HT' HU HB' HG d0 d1 d2 d3 d4 hx
        go_wp2_with (go_at_call 22; refine (len_calls _ p _ _ _ HA'.out).mono ?_; rintro e w' ⟨rfl, rfl⟩; rw [El.out])
        go_roundw
        case rel => exact ⟨k + 1, by omega, by go_num, HG'⟩
        case measure => simp [intOf]; omega
      · have h2' : ¬ (k : Int) < 100 := by omega
        go_wp2
        go_ret
        exact ⟨rfl, HG.out.bel⟩
    · have h1' : ¬ (k : Int) < (xs.length : Int) := by omega
      go_wp2
      go_ret
      exact ⟨rfl, HG.out.bel⟩

open Go.Proofs.Ythehmmcloimpmaa.Open in
theorem opensDeed : Opens Try.prog 44 kdDeed (fun x => (Lit.int .i64 x.1).wf = true) :=
  opens_wf (opens_struct Try.underlying44 (by kernel_rfl) (opensF_cons (opens_int Try.underlying3) rfl (by kernel_rfl) (opensF_cons (opens_int Try.underlying3) rfl (by kernel_rfl) (opensF_cons (opens_int Try.underlying2) rfl (by kernel_rfl)
    (opensF_cons (opens_int Try.underlying2) rfl (by kernel_rfl) (opensF_one (opens_int Try.underlying2) rfl (by kernel_rfl))))))) (fun x h => h.1)
open Go.Proofs.Ythehmmcloimpmaa.Open in
theorem opensDeeds : Opens Try.prog 39 (Kd.slice 44 kdDeed) (fun xs => xs.length ≤ maxLen ∧ ∀ x ∈ xs, (Lit.int .i64 x.1).wf = true) := opens_slice Try.underlying39 (by kernel_rfl) opensDeed
end Go.Proofs.Ythehmmcloimpmaa.CellPlays
