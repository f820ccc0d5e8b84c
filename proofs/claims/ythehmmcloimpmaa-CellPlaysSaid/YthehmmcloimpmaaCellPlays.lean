/- Cells: what is allocated, loaded, stored and swapped, whatever is done, one behind the other. No condition beyond the statement's own. -/
import Derived.Test.YthehmmcloimpmaaCellLaw
import Derived.Outline
set_option linter.unusedVariables false
set_option linter.unusedSimpArgs false
namespace Go.Proofs.Ythehmmcloimpmaa.CellPlays
open Go.RowKit Go.Proofs.YthehmmcloimpmaaW.PrintWords Go.Proofs.Ythehmmcloimpmaa.Base Go.Proofs.Ythehmmcloimpmaa.Cell Go.Proofs.Ythehmmcloimpmaa.CellLaw
attribute [local go_sem] eqlE eqlN eqlN' guardE guardN guardN'

/-- An arena, and the row of its cells, each in blocks of its own from B on. -/
structure Two (B : Nat) (w : World) (p : Nat) (l : List Int) (most : Int) (v : Value) (F : Nat → Prop) : Prop where
  ar : ArenaIn F w p (0 :: l) most
  low : ∀ k, F k → B ≤ k ∧ k < w.heap.size
  row : w.ownsRow 0 2 1 v l.length (nums .i64 l)
  own : ∀ k, v.ownBlock = some k → B ≤ k ∧ ¬ F k
  le : (l.length : Int) ≤ most
  m0 : 1 ≤ most
  m1 : most ≤ 4096

def deedAgg (what n at_ old v : Int) : Value := .agg #[.int .i64 what, .int .i64 n, .int .i64 at_, .int .i64 old, .int .i64 v]

set_option maxRecDepth 100000 in
set_option maxHeartbeats 1600000 in
theorem one_alloc (what n at_ old x : Int) (B : Nat) (w : World) (p : Nat) (l : List Int) (most : Int) (v : Value) (F : Nat → Prop) (hw : (Lit.int .i64 what).wf = true) (hk : pickI what 4 = 0) (h : Two B w p l most v F) (hB : B ≤ w.heap.size)
    (h1 : 1 ≤ n) (h2 : n ≤ most - l.length) :
    Calls Try.prog 24 #[.pointer (some ⟨p, 0, none⟩), v, .int .i64 most, deedAgg what n at_ old x] w fun e w' => ∃ v' l' F', e = .returned (.tuple #[v', .bool true]) ∧ Two B w' p l' most v' F' ∧ Upd (fun k => B ≤ k) w w' := by
  obtain ⟨ha, hlow, hr, hown, hle, m0, m1⟩ := h
  obtain ⟨A, c, rfl⟩ := own_slice hr
  have hpick := Aside0.mk (fun w => by have := pick_calls w what 4 hw (by omega) (by omega); rwa [hk] at this)
  clear hk
  obtain ⟨W1, hW1⟩ : ∃ W1 : World, W1 = w.alloc (.cells #[.int .i64 what, .int .i64 n, .int .i64 at_, .int .i64 old, .int .i64 x] 44) := ⟨_, rfl⟩
  have ha1 : ArenaIn F W1 p (0 :: l) most := by rw [hW1]; exact ha.below (below_alloc (Below.refl _ _) _)
  have hal := Aside0.mk (alloc_good W1 p F (0 :: l) most n h1 (by omega) m1 (by simp) (by simp; omega) (by simp; omega) ha1)
  rw [hW1] at hal
  unfold deedAgg
  clear ha ha1 hW1
  go_enter Try.func24, Try.ntmps24
  go_wp2_with fail
  all_goals
    refine (hpick.out _).mono ?_; rintro e w' ⟨rfl, rfl⟩
    go_wp2_with fail
    refine hal.out.mono ?_; rintro e w2 ⟨rfl, ha2, hu2⟩
    have b2 : w2.heap[w.heap.size]? = some (.cells #[.int .i64 what, .int .i64 n, .int .i64 at_, .int .i64 old, .int .i64 x] 44) := hu2.blk (blk_new w _) (fun hf => by have := hlow _ hf; omega)
    have c1 := blk_cell b2 1
    have hr2 := hu2.own (own_alloc hr (.cells #[.int .i64 what, .int .i64 n, .int .i64 at_, .int .i64 old, .int .i64 x] 44)) (fun k hk => (hown k hk).2)
    simp at c1
    have HB2 := Aside0.mk b2
    have HA2 := Aside0.mk ha2
    have HU2 := Aside0.mk hu2
    have HR2 := Aside0.mk hr2
    have HO := Aside0.mk (own_lit w2 w2.heap.size 2 .i64 [] (Nat.le_refl _) (by simp))
    have z2 := blk_lt b2
    clear b2 ha2 hu2 hr2 hr hal hpick
    go_wp2_with fail
    have hne : some w.heap.size ≠ (Value.slice (some ⟨w2.heap.size, 0, none⟩) 0 0).ownBlock := by simp [Value.ownBlock]; omega
    have n0 : 0 ≤ n := by omega
    have hl1 : (([] : List Int).length + l.length) * 8 ≤ 140737488355328 := by simp; omega
    have hl2 : (l.length + n.toNat) * 8 ≤ 140737488355328 := by omega
    go_region_held3 (fun w' => w'.cell? ⟨w.heap.size, 1, none⟩ = some (.int .i64 n))
      (first | go_keep | (rw [hg1.cell_far _ (by simp; omega) hne]; assumption) | (rw [hg2.cell_far _ s3 n3]; assumption))
      (first
        | (refine step_append_nums (by rfl) w2.heap.size _ _ 22 2 .i64 8 (by rfl) Try.underlying22 info64 (by decide) (.slice (some ⟨w2.heap.size, 0, none⟩) 0 0) [] l A l.length c (by rfl) (by rfl) HO.out ((own_reads' HR2.out).allocS _) (by simp) hl1 ?_; intro v1 w3 ho1 hg1 hat1; have s3 : w.heap.size < w3.heap.size := Nat.lt_of_lt_of_le z2 (Nat.le_trans (by simp) hg1.size); have n3 : some w.heap.size ≠ v1.ownBlock := at_ne hat1 hne (Nat.lt_of_lt_of_le z2 (by simp)))
        | (refine step_append_zeros (by rfl) w2.heap.size _ _ 22 3 2 .i64 8 (by rfl) Try.underlying22 Try.underlying3 info64 (by decide) v1 l n (by rfl) (by rfl) n0 ho1 (Nat.le_trans (by simp) hg1.size) hl2 ?_; intro v2 w4 ho2 hg2 hat2))
    go_wp2
    go_ret2
    have hb4 : Below w2.heap.size w2 w4 := by
      refine ((((Below.refl _ w2).alloc (Nat.le_refl _) _).drew).grown hg1 (by simp) ?_).grown hg2 (by have := hg1.size; simp at this; omega) ?_
      · intro k hk; simp [Value.ownBlock] at hk; omega
      · intro k hk
        rcases hat1 with h | ⟨b, h, hb⟩
        · rw [h] at hk; simp [Value.ownBlock] at hk; omega
        · rw [h] at hk; simp at hk hb; omega
    have hs4 := hb4.size
    have HT : Two B w4 p (l ++ List.replicate n.toNat 0) most v2 (fun k => (F k ∨ w.heap.size ≤ k) ∧ k < w2.heap.size) := by
      refine ⟨?_, ?_, ?_, ?_, ?_, m0, m1⟩
      · have := (HA2.out.lt).below hb4
        have h5 : ArenaIn (fun k => (F k ∨ w.heap.size + 1 ≤ k) ∧ k < w2.heap.size) w4 p (0 :: (l ++ List.replicate n.toNat 0)) most := by simpa using this
        exact h5.mono (fun k hk => ⟨hk.1.imp id (fun h => by omega), hk.2⟩)
      · intro k hk; rcases hk with ⟨h | h, h2⟩
        · have := hlow k h; omega
        · omega
      · exact own_weaken ho2 (Nat.zero_le _)
      · intro k hk
        rcases hat2 with h | h
        · rw [h] at hk
          rcases hat1 with h | ⟨b, h, hb⟩
          · rw [h] at hk; simp [Value.ownBlock] at hk; exact ⟨by omega, fun hf => by omega⟩
          · rw [h] at hk; simp at hk hb; exact ⟨by omega, fun hf => by omega⟩
        · rw [h] at hk; simp at hk; have := hg1.size; simp at this; exact ⟨by omega, fun hf => by omega⟩
      · rw [List.length_append, List.length_replicate]; omega
    exact ⟨v2, _, _, by simp, HT, (((Upd.refl (fun k => B ≤ k) w).alloc _).trans HU2.out (fun i hf => .inl (hlow i hf).1)).trans (Upd.of_below (F := fun _ => False) hb4) (fun _ hf => hf.elim)⟩

theorem Two.alloc {B : Nat} {w : World} {p : Nat} {l : List Int} {most : Int} {v : Value} {F : Nat → Prop} (h : Two B w p l most v F) (o : Obj) (n : Nat) : Two B ((w.alloc o).drewN n) p l most v F :=
  ⟨(h.ar.below (below_alloc (Below.refl _ _) o)).drewN n, fun k hk => ⟨(h.low k hk).1, by have := (h.low k hk).2; simp; omega⟩, own_alloc h.row o, h.own, h.le, h.m0, h.m1⟩

def Post (B : Nat) (w : World) (p : Nat) (most : Int) (e : Ending) (w' : World) : Prop :=
  ∃ v' l' F', e = .returned (.tuple #[v', .bool true]) ∧ Two B w' p l' most v' F' ∧ Upd (fun k => B ≤ k) w w'
theorem Post.same {B : Nat} {w : World} {p : Nat} {l : List Int} {most : Int} {v : Value} {F : Nat → Prop} (h : Two B w p l most v F) (o : Obj) (n : Nat) : Post B w p most (.returned (.tuple #[v, .bool true])) ((w.alloc o).drewN n) :=
  ⟨v, l, F, rfl, h.alloc o n, ((Upd.refl _ w).alloc o).drewN n⟩

set_option maxRecDepth 100000 in
theorem one_alloc_no (what n at_ old x : Int) (B : Nat) (w : World) (p : Nat) (l : List Int) (most : Int) (v : Value) (F : Nat → Prop) (hw : (Lit.int .i64 what).wf = true) (hk : pickI what 4 = 0) (h : Two B w p l most v F)
    (h2 : n < 1 ∨ most - l.length < n) :
    Calls Try.prog 24 #[.pointer (some ⟨p, 0, none⟩), v, .int .i64 most, deedAgg what n at_ old x] w (Post B w p most) := by
  have HP := Aside0.mk h
  obtain ⟨ha, hlow, hr, hown, hle, m0, m1⟩ := h
  obtain ⟨A, c, rfl⟩ := own_slice hr
  have hpick := Aside0.mk (fun w => by have := pick_calls w what 4 hw (by omega) (by omega); rwa [hk] at this)
  clear hk
  have ha1 := ha.below (below_alloc (Below.refl _ w) (.cells #[.int .i64 what, .int .i64 n, .int .i64 at_, .int .i64 old, .int .i64 x] 44))
  have HA := Aside0.mk ha1
  unfold deedAgg
  clear ha ha1
  by_cases h1 : n < 1
  · go_enter Try.func24, Try.ntmps24
    go_wp2_with fail
    all_goals
      refine (hpick.out _).mono ?_; rintro e w' ⟨rfl, rfl⟩
      go_wp2_with fail
      refine (alloc_bad _ p F (0 :: l) most n h1 HA.out).mono ?_; rintro e w2 ⟨rfl, rfl⟩
      go_wp2
      go_ret2
      exact Post.same HP.out _ 0
  · have h3 : most - l.length < n := by omega
    go_enter Try.func24, Try.ntmps24
    go_wp2_with fail
    all_goals
      refine (hpick.out _).mono ?_; rintro e w' ⟨rfl, rfl⟩
      go_wp2_with fail
      refine (alloc_full _ p F (0 :: l) most n (by omega) (by omega) m1 (by simp) (by simp; omega) (by simp; omega) HA.out).mono ?_; rintro e w2 ⟨rfl, ⟨n2, rfl⟩⟩
      go_wp2
      go_ret2
      exact Post.same HP.out _ _

set_option maxRecDepth 100000 in
theorem one_load (what n at_ old x : Int) (B : Nat) (w : World) (p : Nat) (l : List Int) (most : Int) (v : Value) (F : Nat → Prop) (hw : (Lit.int .i64 what).wf = true) (hk : pickI what 4 = 1) (h : Two B w p l most v F) (h1 : 1 ≤ at_) (h2 : at_ ≤ l.length) :
    Calls Try.prog 24 #[.pointer (some ⟨p, 0, none⟩), v, .int .i64 most, deedAgg what n at_ old x] w (Post B w p most) := by
  have HP := Aside0.mk h
  obtain ⟨ha, hlow, hr, hown, hle, m0, m1⟩ := h
  obtain ⟨A, c, rfl⟩ := own_slice hr
  have hpick := Aside0.mk (fun w => by have := pick_calls w what 4 hw (by omega) (by omega); rwa [hk] at this)
  clear hk
  have ha1 := ha.below (below_alloc (Below.refl _ w) (.cells #[.int .i64 what, .int .i64 n, .int .i64 at_, .int .i64 old, .int .i64 x] 44))
  have hld := Aside0.mk (load_in _ p F (0 :: l) most at_ ha1 (by simp; omega))
  obtain ⟨j, ej⟩ : ∃ j, at_ - 1 = j := ⟨_, rfl⟩
  have e0 : rd (0 :: l) at_ = rd l j := by
    unfold rd
    rw [List.getD_eq_getElem?_getD, List.getD_eq_getElem?_getD, show at_.toNat = j.toNat + 1 by omega, List.getElem?_cons_succ]
  rw [e0] at hld
  obtain ⟨g, c', he, -, -⟩ := hr.form (by omega)
  cases he
  have hcell := (own_at hr j (by omega) (by omega)).1
  have glt : g < w.heap.size := World.block_lt_of_cell? w _ hcell
  have iw : IntKind.i64.wrap j = j := by rw [IntKind.wrap_i64]; omega
  have i0 : (0 : Int) ≤ j := by omega
  have i1 : j < (l.length : Int) := by omega
  unfold deedAgg
  clear ha ha1 hr
  go_enter Try.func24, Try.ntmps24
  go_wp2_with fail
  refine (hpick.out _).mono ?_; rintro e w' ⟨rfl, rfl⟩
  go_wp2_with fail
  refine hld.out.mono ?_; rintro e w2 ⟨rfl, rfl⟩
  go_wp2_with fail
  go_region_held3 (fun w' => w'.cell? ⟨g, j.toNat, none⟩ = some (.int .i64 (rd l j)) ∧ w'.cell? ⟨w.heap.size, 2, none⟩ = some (.int .i64 at_)) (go_keep) (fail)
  go_wp2
  go_ret2
  exact Post.same HP.out _ _

set_option maxRecDepth 100000 in
theorem one_load_no (what n at_ old x : Int) (B : Nat) (w : World) (p : Nat) (l : List Int) (most : Int) (v : Value) (F : Nat → Prop) (hw : (Lit.int .i64 what).wf = true) (hk : pickI what 4 = 1) (h : Two B w p l most v F) (h0 : at_ < 1 ∨ (l.length : Int) < at_) :
    Calls Try.prog 24 #[.pointer (some ⟨p, 0, none⟩), v, .int .i64 most, deedAgg what n at_ old x] w (Post B w p most) := by
  have HP := Aside0.mk h
  obtain ⟨ha, hlow, hr, hown, hle, m0, m1⟩ := h
  obtain ⟨A, c, rfl⟩ := own_slice hr
  have hpick := Aside0.mk (fun w => by have := pick_calls w what 4 hw (by omega) (by omega); rwa [hk] at this)
  clear hk
  have ha1 := ha.below (below_alloc (Below.refl _ w) (.cells #[.int .i64 what, .int .i64 n, .int .i64 at_, .int .i64 old, .int .i64 x] 44))
  have HA := Aside0.mk ha1
  unfold deedAgg
  clear ha ha1
  by_cases h1 : at_ < 1
  · go_enter Try.func24, Try.ntmps24
    go_wp2_with fail
    refine (hpick.out _).mono ?_; rintro e w' ⟨rfl, rfl⟩
    go_wp2_with fail
    refine (load_out _ p F (0 :: l) most at_ HA.out (by simp; omega)).mono ?_; rintro e w2 ⟨rfl, rfl⟩
    go_wp2
    go_ret2
    exact Post.same HP.out _ 0
  · have h2 : (l.length : Int) < at_ := by omega
    have hlt : ¬ at_ ≤ (l.length : Int) := by omega
    go_enter Try.func24, Try.ntmps24
    go_wp2_with fail
    refine (hpick.out _).mono ?_; rintro e w' ⟨rfl, rfl⟩
    go_wp2_with fail
    refine (load_out _ p F (0 :: l) most at_ HA.out (by simp; omega)).mono ?_; rintro e w2 ⟨rfl, rfl⟩
    go_wp2
    go_ret2
    exact Post.same HP.out _ 0

set_option maxRecDepth 100000 in
theorem one_store_no (what n at_ old x : Int) (B : Nat) (w : World) (p : Nat) (l : List Int) (most : Int) (v : Value) (F : Nat → Prop) (hw : (Lit.int .i64 what).wf = true) (hk : pickI what 4 = 2) (h : Two B w p l most v F) (h0 : at_ < 1 ∨ (l.length : Int) < at_) :
    Calls Try.prog 24 #[.pointer (some ⟨p, 0, none⟩), v, .int .i64 most, deedAgg what n at_ old x] w (Post B w p most) := by
  have HP := Aside0.mk h
  obtain ⟨ha, hlow, hr, hown, hle, m0, m1⟩ := h
  obtain ⟨A, c, rfl⟩ := own_slice hr
  have hpick := Aside0.mk (fun w => by have := pick_calls w what 4 hw (by omega) (by omega); rwa [hk] at this)
  clear hk
  have ha1 := ha.below (below_alloc (Below.refl _ w) (.cells #[.int .i64 what, .int .i64 n, .int .i64 at_, .int .i64 old, .int .i64 x] 44))
  have HA := Aside0.mk ha1
  unfold deedAgg
  clear ha ha1
  by_cases h1 : at_ < 1
  · go_enter Try.func24, Try.ntmps24
    go_wp2_with fail
    refine (hpick.out _).mono ?_; rintro e w' ⟨rfl, rfl⟩
    go_wp2_with fail
    refine (store_out _ p F (0 :: l) most at_ x HA.out (by simp; omega)).mono ?_; rintro e w2 ⟨rfl, rfl⟩
    go_wp2_with fail
    go_quiet (fail)
    go_wp2
    go_ret2
    exact Post.same HP.out _ _
  · have h2 : (l.length : Int) < at_ := by omega
    have hlt : ¬ at_ ≤ (l.length : Int) := by omega
    go_enter Try.func24, Try.ntmps24
    go_wp2_with fail
    refine (hpick.out _).mono ?_; rintro e w' ⟨rfl, rfl⟩
    go_wp2_with fail
    refine (store_out _ p F (0 :: l) most at_ x HA.out (by simp; omega)).mono ?_; rintro e w2 ⟨rfl, rfl⟩
    go_wp2_with fail
    go_quiet (fail)
    go_wp2
    go_ret2
    exact Post.same HP.out _ _

set_option maxRecDepth 100000 in
theorem one_swap_no (what n at_ old x : Int) (B : Nat) (w : World) (p : Nat) (l : List Int) (most : Int) (v : Value) (F : Nat → Prop) (hw : (Lit.int .i64 what).wf = true) (hk : pickI what 4 = 3) (h : Two B w p l most v F) (h0 : at_ < 1 ∨ (l.length : Int) < at_) :
    Calls Try.prog 24 #[.pointer (some ⟨p, 0, none⟩), v, .int .i64 most, deedAgg what n at_ old x] w (Post B w p most) := by
  have HP := Aside0.mk h
  obtain ⟨ha, hlow, hr, hown, hle, m0, m1⟩ := h
  obtain ⟨A, c, rfl⟩ := own_slice hr
  have hpick := Aside0.mk (fun w => by have := pick_calls w what 4 hw (by omega) (by omega); rwa [hk] at this)
  clear hk
  have ha1 := ha.below (below_alloc (Below.refl _ w) (.cells #[.int .i64 what, .int .i64 n, .int .i64 at_, .int .i64 old, .int .i64 x] 44))
  have HA := Aside0.mk ha1
  unfold deedAgg
  clear ha ha1
  by_cases h1 : at_ < 1
  · go_enter Try.func24, Try.ntmps24
    go_wp2_with fail
    refine (hpick.out _).mono ?_; rintro e w' ⟨rfl, rfl⟩
    go_wp2_with fail
    refine (swap_out _ p F (0 :: l) most at_ old x HA.out (by simp; omega)).mono ?_; rintro e w2 ⟨rfl, rfl⟩
    go_wp2
    go_ret2
    exact Post.same HP.out _ 0
  · have h2 : (l.length : Int) < at_ := by omega
    have hlt : ¬ at_ ≤ (l.length : Int) := by omega
    go_enter Try.func24, Try.ntmps24
    go_wp2_with fail
    refine (hpick.out _).mono ?_; rintro e w' ⟨rfl, rfl⟩
    go_wp2_with fail
    refine (swap_out _ p F (0 :: l) most at_ old x HA.out (by simp; omega)).mono ?_; rintro e w2 ⟨rfl, rfl⟩
    go_wp2
    go_ret2
    exact Post.same HP.out _ 0
/-- The row follows the arena: a store into both. -/
theorem Two.stored {B : Nat} {w w2 : World} {o : Obj} {p g c : Nat} {l : List Int} {most y i : Int} {F : Nat → Prop} (ha : ArenaIn F w2 p (0 :: l.set i.toNat y) most) (hu : Upd F (w.alloc o) w2) (hr : w2.ownsRow 0 2 1 (.slice (some ⟨g, 0, none⟩) l.length c) l.length (nums .i64 l))
    (hlow : ∀ k, F k → B ≤ k ∧ k < w.heap.size) (hown : ∀ k, (Value.slice (some ⟨g, 0, none⟩) l.length c).ownBlock = some k → B ≤ k ∧ ¬ F k) (hle : (l.length : Int) ≤ most) (m0 : 1 ≤ most) (m1 : most ≤ 4096) (n : Nat) :
    Post B w p most (.returned (.tuple #[.slice (some ⟨g, 0, none⟩) l.length c, .bool true])) ((w2.setCell ⟨g, i.toNat, none⟩ (.int .i64 y)).drewN n) := by
  have hg := hown g rfl
  have hs := hu.size
  have hset := own_store hr i y
  refine ⟨.slice (some ⟨g, 0, none⟩) l.length c, l.set i.toNat y, F, rfl, ⟨?_, fun k hk => ⟨(hlow k hk).1, ?_⟩, ?_, hown, by rw [List.length_set]; exact hle, m0, m1⟩, ?_⟩
  · exact ArenaIn.drewN (ha.upd (G := fun k => k = g) ((Upd.refl (fun k => k = g) w2).setCell (p := ⟨g, i.toNat, none⟩) (.inl rfl) _) (fun k hk he => hg.2 (he ▸ hk))) n
  · have := (hlow k hk).2; simp at hs; simp [World.setCell]; omega
  · have := hset.1; rw [List.length_set]; exact this
  · exact (((((Upd.refl (fun k => B ≤ k) w).alloc o).trans hu (fun k hk => .inl (hlow k hk).1)).setCell (.inl hg.1) _)).drewN n
theorem Two.kept {B : Nat} {w w2 : World} {o : Obj} {p g c : Nat} {l : List Int} {most : Int} {F : Nat → Prop} (ha : ArenaIn F w2 p (0 :: l) most) (hu : Upd F (w.alloc o) w2) (hr : w2.ownsRow 0 2 1 (.slice (some ⟨g, 0, none⟩) l.length c) l.length (nums .i64 l))
    (hlow : ∀ k, F k → B ≤ k ∧ k < w.heap.size) (hown : ∀ k, (Value.slice (some ⟨g, 0, none⟩) l.length c).ownBlock = some k → B ≤ k ∧ ¬ F k) (hle : (l.length : Int) ≤ most) (m0 : 1 ≤ most) (m1 : most ≤ 4096) (n : Nat) :
    Post B w p most (.returned (.tuple #[.slice (some ⟨g, 0, none⟩) l.length c, .bool true])) (w2.drewN n) := by
  have hs := hu.size
  exact ⟨.slice (some ⟨g, 0, none⟩) l.length c, l, F, rfl, ⟨ha.drewN n, fun k hk => ⟨(hlow k hk).1, by have := (hlow k hk).2; simp at hs; show k < w2.heap.size; omega⟩, hr, hown, hle, m0, m1⟩,
    ((((Upd.refl (fun k => B ≤ k) w).alloc o).trans hu (fun k hk => .inl (hlow k hk).1))).drewN n⟩

set_option maxRecDepth 100000 in
theorem one_store (what n at_ old x : Int) (B : Nat) (w : World) (p : Nat) (l : List Int) (most : Int) (v : Value) (F : Nat → Prop) (hw : (Lit.int .i64 what).wf = true) (hk : pickI what 4 = 2) (h : Two B w p l most v F) (h1 : 1 ≤ at_) (h2 : at_ ≤ l.length) :
    Calls Try.prog 24 #[.pointer (some ⟨p, 0, none⟩), v, .int .i64 most, deedAgg what n at_ old x] w (Post B w p most) := by
  have HP := Aside0.mk h
  obtain ⟨ha, hlow, hr, hown, hle, m0, m1⟩ := h
  obtain ⟨A, c, rfl⟩ := own_slice hr
  have hpick := Aside0.mk (fun w => by have := pick_calls w what 4 hw (by omega) (by omega); rwa [hk] at this)
  clear hk
  have ha1 := ha.below (below_alloc (Below.refl _ w) (.cells #[.int .i64 what, .int .i64 n, .int .i64 at_, .int .i64 old, .int .i64 x] 44))
  have HA := Aside0.mk ha1
  obtain ⟨g, c', he, -, -⟩ := hr.form (by omega)
  cases he
  obtain ⟨j, ej⟩ : ∃ j, at_ - 1 = j := ⟨_, rfl⟩
  have hcell := (own_at hr j (by omega) (by omega)).1
  have glt : g < w.heap.size := World.block_lt_of_cell? w _ hcell
  have hng : ¬ F g := (hown g rfl).2
  have hfw : ∀ k, F k → k < w.heap.size := fun k hk => (hlow k hk).2
  have e0 : rd (0 :: l) at_ = rd l j := by
    unfold rd
    rw [List.getD_eq_getElem?_getD, List.getD_eq_getElem?_getD, show at_.toNat = j.toNat + 1 by omega, List.getElem?_cons_succ]
  have e2 : ∀ y : Int, (0 :: l).set at_.toNat y = 0 :: l.set j.toNat y := fun y => by rw [show at_.toNat = j.toNat + 1 by omega, List.set_cons_succ]
  have E0 := Aside0.mk e0
  have E2 := Aside0.mk e2
  have iw : IntKind.i64.wrap j = j := by rw [IntKind.wrap_i64]; omega
  have i0 : (0 : Int) ≤ j := by omega
  have i1 : j < (l.length : Int) := by omega
  have HR := Aside0.mk hr
  have HOWN := Aside0.mk hown
  have HLOW := Aside0.mk hlow
  have HFW := Aside0.mk hfw
  unfold deedAgg
  clear ha ha1 hr e0 e2 hown hlow hfw
  go_enter Try.func24, Try.ntmps24
  go_wp2_with fail
  refine (hpick.out _).mono ?_; rintro e w' ⟨rfl, rfl⟩
  go_wp2_with fail
  refine (store_in _ p F (0 :: l) most at_ x HA.out (by simp; omega)).mono ?_; rintro e w2 ⟨rfl, ha2, hu2⟩
  rw [E2.out] at ha2
  have b2 : w2.heap[w.heap.size]? = some (.cells #[.int .i64 what, .int .i64 n, .int .i64 at_, .int .i64 old, .int .i64 x] 44) := hu2.blk (blk_new w _) (fun hf => by have := HFW.out _ hf; omega)
  have c2 := blk_cell b2 2
  have c3 := blk_cell b2 3
  have c4 := blk_cell b2 4
  simp at c2 c3 c4
  have hr2 := hu2.own (own_alloc HR.out (.cells #[.int .i64 what, .int .i64 n, .int .i64 at_, .int .i64 old, .int .i64 x] 44)) (fun k hk => by simp [Value.ownBlock] at hk; subst hk; exact hng)
  obtain ⟨hd1, hf1⟩ := own_at hr2 j (by omega) (by omega)
  have hs2 := hu2.size
  have HU2 := Aside0.mk hu2
  have HA2 := Aside0.mk ha2
  have HR2 := Aside0.mk hr2
  clear b2 hr2 hu2 ha2
  go_wp2_with fail
  go_quiet (fail)
  go_wp2
  go_ret2
  exact Two.stored HA2.out HU2.out HR2.out HLOW.out HOWN.out hle m0 m1 _

set_option maxRecDepth 100000 in
theorem one_swap (what n at_ old x : Int) (B : Nat) (w : World) (p : Nat) (l : List Int) (most : Int) (v : Value) (F : Nat → Prop) (hw : (Lit.int .i64 what).wf = true) (hk : pickI what 4 = 3) (h : Two B w p l most v F) (h1 : 1 ≤ at_) (h2 : at_ ≤ l.length) (hsw : rd l (at_ - 1) = old) :
    Calls Try.prog 24 #[.pointer (some ⟨p, 0, none⟩), v, .int .i64 most, deedAgg what n at_ old x] w (Post B w p most) := by
  have HP := Aside0.mk h
  obtain ⟨ha, hlow, hr, hown, hle, m0, m1⟩ := h
  obtain ⟨A, c, rfl⟩ := own_slice hr
  have hpick := Aside0.mk (fun w => by have := pick_calls w what 4 hw (by omega) (by omega); rwa [hk] at this)
  clear hk
  have ha1 := ha.below (below_alloc (Below.refl _ w) (.cells #[.int .i64 what, .int .i64 n, .int .i64 at_, .int .i64 old, .int .i64 x] 44))
  have HA := Aside0.mk ha1
  obtain ⟨g, c', he, -, -⟩ := hr.form (by omega)
  cases he
  obtain ⟨j, ej⟩ : ∃ j, at_ - 1 = j := ⟨_, rfl⟩
  have hcell := (own_at hr j (by omega) (by omega)).1
  have glt : g < w.heap.size := World.block_lt_of_cell? w _ hcell
  have hng : ¬ F g := (hown g rfl).2
  have hfw : ∀ k, F k → k < w.heap.size := fun k hk => (hlow k hk).2
  have e0 : rd (0 :: l) at_ = rd l j := by
    unfold rd
    rw [List.getD_eq_getElem?_getD, List.getD_eq_getElem?_getD, show at_.toNat = j.toNat + 1 by omega, List.getElem?_cons_succ]
  have e2 : ∀ y : Int, (0 :: l).set at_.toNat y = 0 :: l.set j.toNat y := fun y => by rw [show at_.toNat = j.toNat + 1 by omega, List.set_cons_succ]
  have E0 := Aside0.mk e0
  have E2 := Aside0.mk e2
  have iw : IntKind.i64.wrap j = j := by rw [IntKind.wrap_i64]; omega
  have i0 : (0 : Int) ≤ j := by omega
  have i1 : j < (l.length : Int) := by omega
  have HR := Aside0.mk hr
  have HOWN := Aside0.mk hown
  have HLOW := Aside0.mk hlow
  have HFW := Aside0.mk hfw
  unfold deedAgg
  clear ha ha1 hr e0 e2 hown hlow hfw
  rw [ej] at hsw
  have q1 : (rd l j == old) = true := by simp [hsw]
  have HSW := Aside0.mk hsw
  clear hsw
  go_enter Try.func24, Try.ntmps24
  go_wp2_with fail
  refine (hpick.out _).mono ?_; rintro e w' ⟨rfl, rfl⟩
  go_wp2_with fail
  refine (swap_in _ p F (0 :: l) most at_ old x HA.out (by simp; omega)).mono ?_; rintro e w2 ⟨rfl, ha2, hu2⟩
  rw [E0.out, if_pos HSW.out, E2.out] at ha2
  rw [E0.out, q1]
  have b2 : w2.heap[w.heap.size]? = some (.cells #[.int .i64 what, .int .i64 n, .int .i64 at_, .int .i64 old, .int .i64 x] 44) := hu2.blk (blk_new w _) (fun hf => by have := HFW.out _ hf; omega)
  have c2 := blk_cell b2 2
  have c3 := blk_cell b2 3
  have c4 := blk_cell b2 4
  simp at c2 c3 c4
  have hr2 := hu2.own (own_alloc HR.out (.cells #[.int .i64 what, .int .i64 n, .int .i64 at_, .int .i64 old, .int .i64 x] 44)) (fun k hk => by simp [Value.ownBlock] at hk; subst hk; exact hng)
  obtain ⟨hd1, hf1⟩ := own_at hr2 j (by omega) (by omega)
  have hs2 := hu2.size
  have HU2 := Aside0.mk hu2
  have HA2 := Aside0.mk ha2
  have HR2 := Aside0.mk hr2
  clear b2 hr2 hu2 ha2
  go_wp2_with fail
  go_region_held3 (fun w' => w'.cell? ⟨g, j.toNat, none⟩ = some (.int .i64 (rd l j)) ∧ w'.cell? ⟨w.heap.size, 2, none⟩ = some (.int .i64 at_) ∧ w'.cell? ⟨w.heap.size, 3, none⟩ = some (.int .i64 old)) (go_keep) (fail)
  go_wp2
  go_ret2
  exact Two.stored HA2.out HU2.out HR2.out HLOW.out HOWN.out hle m0 m1 _

set_option maxRecDepth 100000 in
theorem one_swap_not (what n at_ old x : Int) (B : Nat) (w : World) (p : Nat) (l : List Int) (most : Int) (v : Value) (F : Nat → Prop) (hw : (Lit.int .i64 what).wf = true) (hk : pickI what 4 = 3) (h : Two B w p l most v F) (h1 : 1 ≤ at_) (h2 : at_ ≤ l.length) (hsw : rd l (at_ - 1) ≠ old) :
    Calls Try.prog 24 #[.pointer (some ⟨p, 0, none⟩), v, .int .i64 most, deedAgg what n at_ old x] w (Post B w p most) := by
  have HP := Aside0.mk h
  obtain ⟨ha, hlow, hr, hown, hle, m0, m1⟩ := h
  obtain ⟨A, c, rfl⟩ := own_slice hr
  have hpick := Aside0.mk (fun w => by have := pick_calls w what 4 hw (by omega) (by omega); rwa [hk] at this)
  clear hk
  have ha1 := ha.below (below_alloc (Below.refl _ w) (.cells #[.int .i64 what, .int .i64 n, .int .i64 at_, .int .i64 old, .int .i64 x] 44))
  have HA := Aside0.mk ha1
  obtain ⟨g, c', he, -, -⟩ := hr.form (by omega)
  cases he
  obtain ⟨j, ej⟩ : ∃ j, at_ - 1 = j := ⟨_, rfl⟩
  have hcell := (own_at hr j (by omega) (by omega)).1
  have glt : g < w.heap.size := World.block_lt_of_cell? w _ hcell
  have hng : ¬ F g := (hown g rfl).2
  have hfw : ∀ k, F k → k < w.heap.size := fun k hk => (hlow k hk).2
  have e0 : rd (0 :: l) at_ = rd l j := by
    unfold rd
    rw [List.getD_eq_getElem?_getD, List.getD_eq_getElem?_getD, show at_.toNat = j.toNat + 1 by omega, List.getElem?_cons_succ]
  have e2 : ∀ y : Int, (0 :: l).set at_.toNat y = 0 :: l.set j.toNat y := fun y => by rw [show at_.toNat = j.toNat + 1 by omega, List.set_cons_succ]
  have E0 := Aside0.mk e0
  have E2 := Aside0.mk e2
  have iw : IntKind.i64.wrap j = j := by rw [IntKind.wrap_i64]; omega
  have i0 : (0 : Int) ≤ j := by omega
  have i1 : j < (l.length : Int) := by omega
  have HR := Aside0.mk hr
  have HOWN := Aside0.mk hown
  have HLOW := Aside0.mk hlow
  have HFW := Aside0.mk hfw
  unfold deedAgg
  clear ha ha1 hr e0 e2 hown hlow hfw
  rw [ej] at hsw
  have q1 : (rd l j == old) = false := by simp [hsw]
  have HSW := Aside0.mk hsw
  clear hsw
  go_enter Try.func24, Try.ntmps24
  go_wp2_with fail
  refine (hpick.out _).mono ?_; rintro e w' ⟨rfl, rfl⟩
  go_wp2_with fail
  refine (swap_in _ p F (0 :: l) most at_ old x HA.out (by simp; omega)).mono ?_; rintro e w2 ⟨rfl, ha2, hu2⟩
  rw [E0.out, if_neg HSW.out] at ha2
  rw [E0.out, q1]
  have b2 : w2.heap[w.heap.size]? = some (.cells #[.int .i64 what, .int .i64 n, .int .i64 at_, .int .i64 old, .int .i64 x] 44) := hu2.blk (blk_new w _) (fun hf => by have := HFW.out _ hf; omega)
  have c2 := blk_cell b2 2
  have c3 := blk_cell b2 3
  have c4 := blk_cell b2 4
  simp at c2 c3 c4
  have hr2 := hu2.own (own_alloc HR.out (.cells #[.int .i64 what, .int .i64 n, .int .i64 at_, .int .i64 old, .int .i64 x] 44)) (fun k hk => by simp [Value.ownBlock] at hk; subst hk; exact hng)
  obtain ⟨hd1, hf1⟩ := own_at hr2 j (by omega) (by omega)
  have hs2 := hu2.size
  have HU2 := Aside0.mk hu2
  have HA2 := Aside0.mk ha2
  have HR2 := Aside0.mk hr2
  clear b2 hr2 hu2 ha2
  go_wp2_with fail
  go_region_held3 (fun w' => w'.cell? ⟨g, j.toNat, none⟩ = some (.int .i64 (rd l j)) ∧ w'.cell? ⟨w.heap.size, 2, none⟩ = some (.int .i64 at_) ∧ w'.cell? ⟨w.heap.size, 3, none⟩ = some (.int .i64 old)) (go_keep) (fail)
  go_wp2
  go_ret2
  exact Two.kept HA2.out HU2.out HR2.out HLOW.out HOWN.out hle m0 m1 _

end Go.Proofs.Ythehmmcloimpmaa.CellPlays
