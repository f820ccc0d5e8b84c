/- Permits: what any deeds make of a table, and of its model. -/
import Derived.Test.YthehmmcloimpmaaPermitNext
import Derived.Test.YthehmmcloimpmaaWEqStruct
import Derived.Test.YthehmmcloimpmaaOpen
set_option linter.unusedVariables false
set_option linter.unusedSimpArgs false
namespace Go.Proofs.Ythehmmcloimpmaa.Permit
open Go.RowKit Go.Proofs.YthehmmcloimpmaaW.PrintWords Go.Proofs.Ythehmmcloimpmaa.Base Go.Proofs.Ythehmmcloimpmaa.Clock
attribute [local go_sem] eqlE eqlN eqlN' guardE guardN guardN' neqE neqN' nguardE nguardN'

def Park.act (k n now : Int) (x : Park) : Park :=
  if k = 0 then (if x.blocked = true ∨ n < -1 then x else if x.permit = true then { x with permit := false } else if x.flag = true ∨ (0 ≤ n ∧ n ≤ now) then x else { x with blocked := true, deadline := n })
  else if k = 1 then (if x.blocked = true then x.on else { x with permit := true })
  else if k = 2 then ({ x with flag := true } : Park).on
  else if k = 3 then { x with flag := false }
  else x.on
/-- What a deed makes of the threads and the time. -/
def stepS (what i n : Int) (s : List Park × Int) : List Park × Int :=
  if pickI what 6 = 5 then (if n < 0 then s else (s.1.map (Park.tick (later s.2 n)), later s.2 n))
  else if h : 0 ≤ i ∧ i.toNat < s.1.length then (s.1.set i.toNat (Park.act (pickI what 6) n s.2 (s.1[i.toNat]'h.2)), s.2) else s
def Park.Inv (now : Int) (x : Park) : Prop := (x.blocked = true → x.permit = false ∧ x.flag = false ∧ ¬ (0 ≤ x.deadline ∧ x.deadline ≤ now)) ∧ (x.blocked = false → x.deadline = 0)
structure Good (s : List Park × Int) : Prop where
  l1 : 1 ≤ s.1.length
  l8 : s.1.length ≤ 8
  n0 : 0 ≤ s.2
  n1 : s.2 ≤ 9223372036854775807
  inv : ∀ x ∈ s.1, x.Inv s.2
theorem Park.on_inv (now : Int) (x : Park) : x.on.Inv now := ⟨fun h => by simp [Park.on] at h, fun _ => rfl⟩
theorem Park.act_inv (k n now : Int) (x : Park) (h : x.Inv now) : (x.act k n now).Inv now := by
  unfold Park.act
  split
  · split
    · exact h
    · rename_i h1
      have hb : x.blocked = false := by cases hb : x.blocked with
        | true => exact absurd (.inl hb) h1
        | false => rfl
      split
      · exact ⟨fun hb' => by simp [hb] at hb', fun _ => h.2 hb⟩
      · rename_i hp
        split
        · exact h
        · rename_i hf
          refine ⟨fun _ => ⟨by simpa using hp, by cases hx : x.flag with
            | true => exact absurd (.inl hx) hf
            | false => rfl, fun hd => hf (.inr hd)⟩, fun hb' => by simp at hb'⟩
  · split
    · split
      · exact Park.on_inv _ _
      · rename_i hb
        exact ⟨fun hb' => absurd hb' hb, fun hb' => h.2 hb'⟩
    · split
      · exact Park.on_inv _ _
      · split
        · exact ⟨fun hb => ⟨(h.1 hb).1, rfl, (h.1 hb).2.2⟩, h.2⟩
        · exact Park.on_inv _ _
theorem Park.tick_inv (now N : Int) (x : Park) (h : x.Inv now) : (Park.tick N x).Inv N := by
  unfold Park.tick
  split
  · exact Park.on_inv _ _
  · rename_i hn
    exact ⟨fun hb => ⟨(h.1 hb).1, (h.1 hb).2.1, fun hd => hn ⟨hb, hd⟩⟩, h.2⟩
theorem stepS_good (what i n : Int) (s : List Park × Int) (hn : n ≤ 9223372036854775807) (h : Good s) : Good (stepS what i n s) := by
  unfold stepS
  split
  · split
    · exact h
    · have := later_le h.n0 (show 0 ≤ n by omega) h.n1
      refine ⟨by simpa using h.l1, by simpa using h.l8, by show 0 ≤ later s.2 n; have := h.n0; omega, this.2, fun x hx => ?_⟩
      obtain ⟨y, hy, rfl⟩ := List.mem_map.1 hx
      exact Park.tick_inv _ _ _ (h.inv y hy)
  · split
    · rename_i hi
      refine ⟨by simpa using h.l1, by simpa using h.l8, h.n0, h.n1, fun x hx => ?_⟩
      rcases List.mem_or_eq_of_mem_set hx with hx | rfl
      · exact h.inv x hx
      · exact Park.act_inv _ _ _ _ (h.inv _ (List.getElem_mem hi.2))
    · exact h

theorem one_calls (what i n : Int) (B : Nat) (w : World) (p q : Nat) (s : List Park × Int) (F G : Nat → Prop) (hw : (Lit.int .i64 what).wf = true) (hi : (Lit.int .i64 i).wf = true) (hn : (Lit.int .i64 n).wf = true) (h : Pair B w p q s.1 s.2 F G) (hg : Good s) :
    Calls Try.prog 37 #[.pointer (some ⟨p, 0, none⟩), .pointer (some ⟨q, 0, none⟩), deedAgg what i n] w (PP B w p q F G (stepS what i n s).1 (stepS what i n s).2) := by
  obtain ⟨l, now⟩ := s
  have bn := bounds_i64 hn
  have r := pickI_range what (n := 6) (by omega)
  have hl : 0 < l.length := hg.l1
  by_cases h5 : pickI what 6 = 5
  · by_cases hneg : n < 0
    · rw [show stepS what i n (l, now) = (l, now) by unfold stepS; rw [if_pos h5, if_pos hneg]]
      exact one_tick_bad what i n B w p q l now F G hw h5 h hl hneg
    · rw [show stepS what i n (l, now) = (l.map (Park.tick (later now n)), later now n) by unfold stepS; rw [if_pos h5, if_neg hneg]]
      exact one_tick what i n B w p q l now F G hw h5 h hl (by omega) bn.2 hg.n0 hg.n1 hg.l8
  · by_cases hin : 0 ≤ i ∧ i.toNat < l.length
    · obtain ⟨j, rfl⟩ := Int.eq_ofNat_of_zero_le hin.1
      have hj : j < l.length := by simpa using hin.2
      have hs : stepS what (j : Int) n (l, now) = (l.set j (Park.act (pickI what 6) n now l[j]), now) := by
        unfold stepS
        rw [if_neg h5, dif_pos hin]
        simp
      rw [hs]
      show Calls _ _ _ _ (PP B w p q F G (l.set j (Park.act (pickI what 6) n now l[j])) now)
      have hinv := hg.inv l[j] (List.getElem_mem hj)
      have hok : l[j].Ok := hinv.2
      have hself : l.set j l[j] = l := List.set_getElem_self hj
      rcases (show pickI what 6 = 0 ∨ pickI what 6 = 1 ∨ pickI what 6 = 2 ∨ pickI what 6 = 3 ∨ pickI what 6 = 4 by omega) with hk | hk | hk | hk | hk
      · by_cases hbl : l[j].blocked = true
        · rw [show Park.act (pickI what 6) n now l[j] = l[j] by unfold Park.act; rw [if_pos hk, if_pos (.inl hbl)], hself]
          exact one_park_blocked what n j B w p q l now F G hw hk h hj hbl
        · have hbl' : l[j].blocked = false := by simpa using hbl
          by_cases hlow : n < -1
          · rw [show Park.act (pickI what 6) n now l[j] = l[j] by unfold Park.act; rw [if_pos hk, if_pos (.inr hlow)], hself]
            exact one_park_low what n j B w p q l now F G hw hk h hj hbl' hlow
          · have hnn : ¬ (l[j].blocked = true ∨ n < -1) := fun hh => hh.elim hbl hlow
            by_cases hp : l[j].permit = true
            · rw [show Park.act (pickI what 6) n now l[j] = { l[j] with permit := false } by unfold Park.act; rw [if_pos hk, if_neg hnn, if_pos hp]]
              exact one_park_permit what n j B w p q l now F G hw hk h hj hbl' (by omega) hp
            · have hp' : l[j].permit = false := by simpa using hp
              by_cases hf : l[j].flag = true
              · rw [show Park.act (pickI what 6) n now l[j] = l[j] by unfold Park.act; rw [if_pos hk, if_neg hnn, if_neg hp, if_pos (.inl hf)], hself]
                exact one_park_flag what n j B w p q l now F G hw hk h hj hbl' (by omega) hp' hf
              · have hf' : l[j].flag = false := by simpa using hf
                by_cases hd : 0 ≤ n ∧ n ≤ now
                · rw [show Park.act (pickI what 6) n now l[j] = l[j] by unfold Park.act; rw [if_pos hk, if_neg hnn, if_neg hp, if_pos (.inr hd)], hself]
                  exact one_park_due what n j B w p q l now F G hw hk h hj hbl' hd.1 hp' hf' hd.2
                · rw [show Park.act (pickI what 6) n now l[j] = { l[j] with blocked := true, deadline := n } by unfold Park.act; rw [if_pos hk, if_neg hnn, if_neg hp, if_neg (fun hh => hh.elim hf hd)]]
                  exact one_park_blocks what n j B w p q l now F G hw hk h hj hbl' (by omega) hp' hf' hd
      · have h0 : ¬ pickI what 6 = 0 := by omega
        by_cases hbl : l[j].blocked = true
        · rw [show Park.act (pickI what 6) n now l[j] = l[j].on by unfold Park.act; rw [if_neg h0, if_pos hk, if_pos hbl]]
          exact one_unpark_blocked what n j B w p q l now F G hw hk h hj hbl
        · rw [show Park.act (pickI what 6) n now l[j] = { l[j] with permit := true } by unfold Park.act; rw [if_neg h0, if_pos hk, if_neg hbl]]
          exact one_unpark_free what n j B w p q l now F G hw hk h hj (by simpa using hbl) hok
      · rw [show Park.act (pickI what 6) n now l[j] = ({ l[j] with flag := true } : Park).on by unfold Park.act; rw [if_neg (by omega), if_neg (by omega), if_pos hk]]
        exact one_interrupt what n j B w p q l now F G hw hk h hj
      · rw [show Park.act (pickI what 6) n now l[j] = { l[j] with flag := false } by unfold Park.act; rw [if_neg (by omega), if_neg (by omega), if_neg (by omega), if_pos hk]]
        exact one_clear what n j B w p q l now F G hw hk h hj
      · rw [show Park.act (pickI what 6) n now l[j] = l[j].on by unfold Park.act; rw [if_neg (by omega), if_neg (by omega), if_neg (by omega), if_neg (by omega)]]
        exact one_wake what n j B w p q l now F G hw hk h hj
    · have hout : ¬ (0 ≤ i ∧ i < l.length) := fun hh => hin ⟨hh.1, by omega⟩
      rw [show stepS what i n (l, now) = (l, now) by unfold stepS; rw [if_neg h5, dif_neg hin]]
      rcases (show pickI what 6 = 0 ∨ pickI what 6 = 1 ∨ pickI what 6 = 2 ∨ pickI what 6 = 3 ∨ pickI what 6 = 4 by omega) with hk | hk | hk | hk | hk
      · exact one_park_out what i n B w p q l now F G hw hk h hl hout
      · exact one_unpark_out what i n B w p q l now F G hw hk h hl hout
      · exact one_interrupt_out what i n B w p q l now F G hw hk h hl hout
      · exact one_clear_out what i n B w p q l now F G hw hk h hl hout
      · exact one_wake_out what i n B w p q l now F G hw hk h hl hout

abbrev Deed := Int × Int × Int
abbrev kdDeed : Kd Deed := Kd.pair (Kd.int .i64) (Kd.pair (Kd.int .i64) (Kd.int .i64))
def Deed.wf (x : Deed) : Prop := (Lit.int .i64 x.1).wf = true ∧ (Lit.int .i64 x.2.1).wf = true ∧ (Lit.int .i64 x.2.2).wf = true
theorem deed_at {w : World} {A : Option Addr} {xs : List Deed} (h : kdDeed.C w A xs.length xs) (k : Nat) (hk : k < xs.length) :
    ∃ ad, A = some ad ∧ w.cell? (ad.add (k * 3)) = some (.int .i64 xs[k].1) ∧ w.cell? ⟨(ad.add (k * 3)).block, (ad.add (k * 3)).off + 1, none⟩ = some (.int .i64 xs[k].2.1) ∧ w.cell? ⟨(ad.add (k * 3)).block, (ad.add (k * 3)).off + 2, none⟩ = some (.int .i64 xs[k].2.2) := by
  obtain ⟨ad, hA, hc⟩ := h.2.2 (by omega)
  obtain ⟨c, hl, ⟨c0, c1, rfl, rfl, ⟨c2, c3, rfl, rfl, rfl⟩⟩, hcell⟩ := hc k _ (List.getElem?_eq_getElem hk)
  have f := fun j (hj : 0 < j) => add_field ad (k * 3) j hj
  exact ⟨ad, hA, hcell 0 _ rfl, f 1 (by omega) ▸ hcell 1 _ rfl, f 2 (by omega) ▸ hcell 2 _ rfl⟩
open Go.Proofs.Ythehmmcloimpmaa.Open in
theorem opensDeed : Opens Try.prog 69 kdDeed Deed.wf :=
  opens_wf (opens_struct Try.underlying69 (by kernel_rfl) (opensF_cons (opens_int Try.underlying3) rfl (by kernel_rfl) (opensF_cons (opens_int Try.underlying3) rfl (by kernel_rfl) (opensF_one (opens_int Try.underlying2) rfl (by kernel_rfl))))) (fun x h => h)
open Go.Proofs.Ythehmmcloimpmaa.Open in
theorem opensDeeds : Opens Try.prog 62 (Kd.slice 69 kdDeed) (fun xs => xs.length ≤ maxLen ∧ ∀ x ∈ xs, Deed.wf x) := opens_slice Try.underlying62 (by kernel_rfl) opensDeed

/-- What the first k deeds make. -/
def playS (xs : List Deed) (s : List Park × Int) : List Park × Int := xs.foldl (fun s d => stepS d.1 d.2.1 d.2.2 s) s
theorem playS_snoc (xs : List Deed) (k : Nat) (hk : k < xs.length) (s : List Park × Int) : playS (xs.take (k + 1)) s = stepS xs[k].1 xs[k].2.1 xs[k].2.2 (playS (xs.take k) s) := by
  unfold playS
  rw [List.take_succ_eq_append_getElem hk, List.foldl_append]
  rfl
theorem stepS_length (what i n : Int) (s : List Park × Int) : (stepS what i n s).1.length = s.1.length := by
  unfold stepS
  split
  · split <;> simp
  · split <;> simp
theorem playS_good (xs : List Deed) (hx : ∀ x ∈ xs, Deed.wf x) : ∀ s, Good s → Good (playS xs s) := by
  induction xs with
  | nil => exact fun s h => h
  | cons d xs ih => exact fun s h => ih (fun x hx' => hx x (List.mem_cons_of_mem _ hx')) _ (stepS_good _ _ _ _ (bounds_i64 (hx d (List.mem_cons_self ..)).2.2).2 h)
theorem playS_length (xs : List Deed) : ∀ s, (playS xs s).1.length = s.1.length := by
  induction xs with
  | nil => exact fun s => rfl
  | cons d xs ih => exact fun s => (ih _).trans (stepS_length _ _ _ _)

theorem stoodPark : Try.prog.stoodInHeld 71 = false := by kernel_rfl
theorem guardPark (op : BinOp) (x y : Operand) (a b : Park) (w : World) : (eqGuard op 71 x y (parkAgg a) (parkAgg b)).run Try.prog w = .ok () w := run_eqGuard_agg (P := Try.prog) w op 71 x y _ _ (by kernel_rfl)
theorem equalPark (a b : Park) (w : World) : (Op.equalIn 10000 71 (parkAgg a) (parkAgg b)).run Try.prog w = .ok ((a.permit == b.permit) && ((a.flag == b.flag) && ((a.blocked == b.blocked) && (a.deadline == b.deadline)))) w :=
  eqA_of (d := 9999) Try.underlying71 stoodPark (eqf_cons rfl rfl rfl (run_equalIn_bool' (P := Try.prog) w 9998 4 _ _ Try.underlying4) (eqf_cons rfl rfl rfl (run_equalIn_bool' (P := Try.prog) w 9998 4 _ _ Try.underlying4) (eqf_cons rfl rfl rfl (run_equalIn_bool' (P := Try.prog) w 9998 4 _ _ Try.underlying4)
    (eqf_last rfl rfl rfl (run_equalIn_int (P := Try.prog) w 9998 2 .i64 .i64 _ _ Try.underlying2)))))
theorem eqlPark (a : Park) (w : World) : (binOp .eql 71 (parkAgg a) (parkAgg a)).run Try.prog w = .ok (.bool true) w := by
  unfold parkAgg
  rw [run_eql_struct, show Value.agg #[.bool a.permit, .bool a.flag, .bool a.blocked, .int .i64 a.deadline] = parkAgg a from rfl, equalPark]
  simp
theorem neqPark (a : Park) (w : World) : (binOp .neq 71 (parkAgg a) (parkAgg a)).run Try.prog w = .ok (.bool false) w := by
  unfold parkAgg
  rw [run_neq_struct, show Value.agg #[.bool a.permit, .bool a.flag, .bool a.blocked, .int .i64 a.deadline] = parkAgg a from rfl, equalPark]
  simp
end Go.Proofs.Ythehmmcloimpmaa.Permit
