/- A table and its model, deed by deed. -/
import Derived.Test.YthehmmcloimpmaaPermitRef
import Derived.OpenShut
set_option linter.unusedVariables false
set_option linter.unusedSimpArgs false
namespace Go.Proofs.Ythehmmcloimpmaa.Permit
open Go.RowKit Go.Proofs.YthehmmcloimpmaaW.PrintWords Go.Proofs.Ythehmmcloimpmaa.Base Go.Proofs.Ythehmmcloimpmaa.Clock
attribute [local go_sem] eqlE eqlN eqlN' guardE guardN guardN'

structure Pair (B : Nat) (w : World) (p q : Nat) (l : List Park) (now : Int) (F G : Nat → Prop) : Prop where
  t : TableIn PT F w p l now
  m : TableIn RT G w q l now
  dis : ∀ k, F k → ¬ G k
  lowF : ∀ k, F k → B ≤ k ∧ k < w.heap.size
  lowG : ∀ k, G k → B ≤ k ∧ k < w.heap.size
theorem Pair.later {B : Nat} {w w' : World} {p q : Nat} {l : List Park} {now : Int} {F G : Nat → Prop} (h : Pair B w p q l now F G) (hb : Below w.heap.size w w') : Pair B w' p q l now F G :=
  ⟨h.t.below hb, h.m.below hb, h.dis, fun k hk => ⟨(h.lowF k hk).1, Nat.lt_of_lt_of_le (h.lowF k hk).2 hb.size⟩, fun k hk => ⟨(h.lowG k hk).1, Nat.lt_of_lt_of_le (h.lowG k hk).2 hb.size⟩⟩
/-- What a deed ends in. -/
def PP (B : Nat) (w : World) (p q : Nat) (F G : Nat → Prop) (l : List Park) (now : Int) (e : Ending) (w' : World) : Prop :=
  e = .returned (.bool true) ∧ Pair B w' p q l now F G ∧ Upd (fun k => F k ∨ G k) w w'
theorem PP.same {B : Nat} {w w' : World} {p q : Nat} {l : List Park} {now : Int} {F G : Nat → Prop} (h : Pair B w p q l now F G) (hb : Below w.heap.size w w') : PP B w p q F G l now (.returned (.bool true)) w' := ⟨rfl, h.later hb, Upd.of_below hb⟩
/-- Both did something. -/
theorem PP.both {B : Nat} {w w1 w2 w3 w4 : World} {p q : Nat} {l l' : List Park} {now now' : Int} {F G : Nat → Prop} (h : Pair B w p q l now F G) (hb : Below w.heap.size w w1) (ht : TableIn PT F w2 p l' now') (hu : Upd F w1 w2) (hm : TableIn RT G w3 q l' now') (hv : Upd G w2 w3) (hc : Below w3.heap.size w3 w4) :
    PP B w p q F G l' now' (.returned (.bool true)) w4 := by
  have s1 := hb.size
  have s2 := hu.size
  have s3 := hv.size
  have s4 := hc.size
  refine ⟨rfl, ⟨((ht.upd hv h.dis).below hc), hm.below hc, h.dis, fun k hk => ⟨(h.lowF k hk).1, by have := (h.lowF k hk).2; omega⟩, fun k hk => ⟨(h.lowG k hk).1, by have := (h.lowG k hk).2; omega⟩⟩, ?_⟩
  exact (((Upd.of_below hb).trans hu (fun i hi => .inl (.inl hi))).trans hv (fun i hi => .inl (.inr hi))).trans (Upd.of_below (F := fun _ => False) hc) (fun _ h => h.elim)
theorem Pair.mid {B : Nat} {w w1 w2 : World} {p q : Nat} {l : List Park} {now : Int} {F G : Nat → Prop} (h : Pair B w p q l now F G) (hb : Below w.heap.size w w1) (hu : Upd F w1 w2) : TableIn RT G w2 q l now := (h.m.below hb).upd hu (fun k hk hf => h.dis k hf hk)

def deedAgg (what i n : Int) : Value := .agg #[.int .i64 what, .int .i64 i, .int .i64 n]
abbrev deedBox (what i n : Int) : Obj := .cells #[.int .i64 what, .int .i64 i, .int .i64 n] 69

theorem parks_out (what i n : Int) (B : Nat) (w : World) (p q : Nat) (l : List Park) (now : Int) (F G : Nat → Prop) (h : Pair B w p q l now F G) (hl : 0 < l.length) (hi : ¬ (0 ≤ i ∧ i < l.length)) :
    Calls Try.prog 47 #[.pointer (some ⟨p, 0, none⟩), .pointer (some ⟨q, 0, none⟩), deedAgg what i n] w (PP B w p q F G l now) := by
  have HP := Aside0.mk h
  have hb1 : Below w.heap.size w (w.alloc (deedBox what i n)) := below_alloc (Below.refl _ _) _
  have H1 := Aside0.mk (h.later hb1)
  obtain ⟨g, c, -, -, hGg, -, -, -, mh0, -⟩ := h.m.open_ hl (by decide)
  have q1 : q < w.heap.size := World.block_lt_of_cell? w _ mh0
  have HB1 := Aside0.mk hb1
  unfold deedAgg
  clear h hb1
  by_cases h0 : i < 0
  · have q0 : decide (i < 0) = true := by simpa using h0
    go_enter Try.func47, Try.ntmps47
    go_wp2_with fail
    refine (park_none _ p F l now i n hl hi H1.out.t).mono ?_; rintro e w2 ⟨rfl, rfl⟩
    go_wp2_with fail
    go_quiet (fail)
    go_wp2
    go_ret
    exact PP.same HP.out (pw_below_drewN HB1.out _)
  · have q0 : decide (i < 0) = false := by simpa using h0
    have q2 : (l.length : Int) ≤ i := by omega
    go_enter Try.func47, Try.ntmps47
    go_wp2_with fail
    refine (park_none _ p F l now i n hl hi H1.out.t).mono ?_; rintro e w2 ⟨rfl, rfl⟩
    go_wp2_with fail
    go_quiet (fail)
    go_wp2
    go_ret
    exact PP.same HP.out (pw_below_drewN HB1.out _)
theorem parks_blocked (what n : Int) (i : Nat) (B : Nat) (w : World) (p q : Nat) (l : List Park) (now : Int) (F G : Nat → Prop) (h : Pair B w p q l now F G) (hi : i < l.length) (hbl : l[i].blocked = true) :
    Calls Try.prog 47 #[.pointer (some ⟨p, 0, none⟩), .pointer (some ⟨q, 0, none⟩), deedAgg what (i : Int) n] w (PP B w p q F G l now) := by
  have hl : 0 < l.length := by omega
  have HP := Aside0.mk h
  have hb1 : Below w.heap.size w (w.alloc (deedBox what (i : Int) n)) := below_alloc (Below.refl _ _) _
  have H1 := Aside0.mk (h.later hb1)
  obtain ⟨g, c, -, -, hGg, -, -, mr, mh0, -⟩ := h.m.open_ hl (by decide)
  obtain ⟨d0, d1, d2, d3, -, -⟩ := park_cells mr i hi
  have g1 : g < w.heap.size := World.block_lt_of_cell? w _ d0
  have hi' : (i : Int) < l.length := by omega
  have hi0 : (0 : Int) ≤ (i : Int) := by omega
  have hin : ¬ (l.length : Int) ≤ (i : Int) := by omega
  have q1 : q < w.heap.size := World.block_lt_of_cell? w _ mh0
  have HB1 := Aside0.mk hb1
  unfold deedAgg
  clear h hb1 mr
  have HBL := Aside0.mk hbl
  rw [hbl] at d2
  clear hbl
  go_enter Try.func47, Try.ntmps47
  go_wp2_with fail
  refine (park_bad _ p F l now i n hi H1.out.t (.inl HBL.out)).mono ?_; rintro e w2 ⟨rfl, rfl⟩
  go_wp2_with fail
  go_quiet (fail)
  go_wp2_with fail
  go_quiet (fail)
  go_wp2
  go_ret
  first | exact PP.same HP.out (pw_below_drewN HB1.out _) | exact PP.same HP.out (pw_below_drewN (pw_below_drewN HB1.out _) _)

theorem parks_low (what n : Int) (i : Nat) (B : Nat) (w : World) (p q : Nat) (l : List Park) (now : Int) (F G : Nat → Prop) (h : Pair B w p q l now F G) (hi : i < l.length) (hbl : l[i].blocked = false) (hn : n < -1) :
    Calls Try.prog 47 #[.pointer (some ⟨p, 0, none⟩), .pointer (some ⟨q, 0, none⟩), deedAgg what (i : Int) n] w (PP B w p q F G l now) := by
  have hl : 0 < l.length := by omega
  have HP := Aside0.mk h
  have hb1 : Below w.heap.size w (w.alloc (deedBox what (i : Int) n)) := below_alloc (Below.refl _ _) _
  have H1 := Aside0.mk (h.later hb1)
  obtain ⟨g, c, -, -, hGg, -, -, mr, mh0, -⟩ := h.m.open_ hl (by decide)
  obtain ⟨d0, d1, d2, d3, -, -⟩ := park_cells mr i hi
  have g1 : g < w.heap.size := World.block_lt_of_cell? w _ d0
  have hi' : (i : Int) < l.length := by omega
  have hi0 : (0 : Int) ≤ (i : Int) := by omega
  have hin : ¬ (l.length : Int) ≤ (i : Int) := by omega
  have q1 : q < w.heap.size := World.block_lt_of_cell? w _ mh0
  have HB1 := Aside0.mk hb1
  unfold deedAgg
  clear h hb1 mr
  rw [hbl] at d2
  clear hbl
  go_enter Try.func47, Try.ntmps47
  go_wp2_with fail
  refine (park_bad _ p F l now i n hi H1.out.t (.inr hn)).mono ?_; rintro e w2 ⟨rfl, rfl⟩
  go_wp2_with fail
  go_quiet (fail)
  go_wp2_with fail
  go_quiet (fail)
  go_wp2
  go_ret
  first | exact PP.same HP.out (pw_below_drewN HB1.out _) | exact PP.same HP.out (pw_below_drewN (pw_below_drewN HB1.out _) _)

theorem parks_flag (what n : Int) (i : Nat) (B : Nat) (w : World) (p q : Nat) (l : List Park) (now : Int) (F G : Nat → Prop) (h : Pair B w p q l now F G) (hi : i < l.length) (hbl : l[i].blocked = false) (hn : -1 ≤ n) (hp : l[i].permit = false) (hf : l[i].flag = true) :
    Calls Try.prog 47 #[.pointer (some ⟨p, 0, none⟩), .pointer (some ⟨q, 0, none⟩), deedAgg what (i : Int) n] w (PP B w p q F G l now) := by
  have hl : 0 < l.length := by omega
  have HP := Aside0.mk h
  have hb1 : Below w.heap.size w (w.alloc (deedBox what (i : Int) n)) := below_alloc (Below.refl _ _) _
  have H1 := Aside0.mk (h.later hb1)
  obtain ⟨g, c, -, -, hGg, -, -, mr, mh0, -⟩ := h.m.open_ hl (by decide)
  obtain ⟨d0, d1, d2, d3, -, -⟩ := park_cells mr i hi
  have g1 : g < w.heap.size := World.block_lt_of_cell? w _ d0
  have hi' : (i : Int) < l.length := by omega
  have hi0 : (0 : Int) ≤ (i : Int) := by omega
  have hin : ¬ (l.length : Int) ≤ (i : Int) := by omega
  have q1 : q < w.heap.size := World.block_lt_of_cell? w _ mh0
  have HB1 := Aside0.mk hb1
  unfold deedAgg
  clear h hb1 mr
  rw [hbl] at d2
  have H2 := Aside0.mk hbl
  have H3 := Aside0.mk hp
  have H4 := Aside0.mk hf
  clear hbl hp hf
  go_enter Try.func47, Try.ntmps47
  go_wp2_with fail
  refine (park_flag _ p F l now i n hi H1.out.t H2.out hn H3.out H4.out).mono ?_; rintro e w2 ⟨rfl, rfl⟩
  go_wp2_with fail
  go_quiet (fail)
  go_wp2_with fail
  go_quiet (fail)
  go_wp2_with fail
  refine (rpark_flag _ q G l now i n hi (H1.out.m.drewN _) H3.out H4.out).mono ?_; rintro e w3 ⟨rfl, rfl⟩
  go_wp2
  go_ret
  first | exact PP.same HP.out (pw_below_drewN HB1.out _) | exact PP.same HP.out (pw_below_drewN (pw_below_drewN HB1.out _) _)

theorem parks_due (what n : Int) (i : Nat) (B : Nat) (w : World) (p q : Nat) (l : List Park) (now : Int) (F G : Nat → Prop) (h : Pair B w p q l now F G) (hi : i < l.length) (hbl : l[i].blocked = false) (hn : 0 ≤ n) (hp : l[i].permit = false) (hf : l[i].flag = false) (hd : n ≤ now) :
    Calls Try.prog 47 #[.pointer (some ⟨p, 0, none⟩), .pointer (some ⟨q, 0, none⟩), deedAgg what (i : Int) n] w (PP B w p q F G l now) := by
  have hl : 0 < l.length := by omega
  have HP := Aside0.mk h
  have hb1 : Below w.heap.size w (w.alloc (deedBox what (i : Int) n)) := below_alloc (Below.refl _ _) _
  have H1 := Aside0.mk (h.later hb1)
  obtain ⟨g, c, -, -, hGg, -, -, mr, mh0, -⟩ := h.m.open_ hl (by decide)
  obtain ⟨d0, d1, d2, d3, -, -⟩ := park_cells mr i hi
  have g1 : g < w.heap.size := World.block_lt_of_cell? w _ d0
  have hi' : (i : Int) < l.length := by omega
  have hi0 : (0 : Int) ≤ (i : Int) := by omega
  have hin : ¬ (l.length : Int) ≤ (i : Int) := by omega
  have q1 : q < w.heap.size := World.block_lt_of_cell? w _ mh0
  have HB1 := Aside0.mk hb1
  unfold deedAgg
  clear h hb1 mr
  rw [hbl] at d2
  have H2 := Aside0.mk hbl
  have H3 := Aside0.mk hp
  have H4 := Aside0.mk hf
  have H5 := Aside0.mk hd
  clear hbl hp hf hd
  go_enter Try.func47, Try.ntmps47
  go_wp2_with fail
  refine (park_due _ p F l now i n hi H1.out.t H2.out hn H3.out H4.out H5.out).mono ?_; rintro e w2 ⟨rfl, rfl⟩
  go_wp2_with fail
  go_quiet (fail)
  go_wp2_with fail
  go_quiet (fail)
  go_wp2_with fail
  refine (rpark_due _ q G l now i n hi (H1.out.m.drewN _) H3.out H4.out ⟨hn, H5.out⟩).mono ?_; rintro e w3 ⟨rfl, rfl⟩
  go_wp2
  go_ret
  first | exact PP.same HP.out (pw_below_drewN HB1.out _) | exact PP.same HP.out (pw_below_drewN (pw_below_drewN HB1.out _) _)

theorem parks_permit (what n : Int) (i : Nat) (B : Nat) (w : World) (p q : Nat) (l : List Park) (now : Int) (F G : Nat → Prop) (h : Pair B w p q l now F G) (hi : i < l.length) (hbl : l[i].blocked = false) (hn : -1 ≤ n) (hp : l[i].permit = true) :
    Calls Try.prog 47 #[.pointer (some ⟨p, 0, none⟩), .pointer (some ⟨q, 0, none⟩), deedAgg what (i : Int) n] w (PP B w p q F G (l.set i { l[i] with permit := false }) now) := by
  have hl : 0 < l.length := by omega
  have HP := Aside0.mk h
  have hb1 : Below w.heap.size w (w.alloc (deedBox what (i : Int) n)) := below_alloc (Below.refl _ _) _
  have H1 := Aside0.mk (h.later hb1)
  obtain ⟨g, c, -, -, hGg, -, -, mr, mh0, -⟩ := h.m.open_ hl (by decide)
  obtain ⟨d0, d1, d2, d3, -, -⟩ := park_cells mr i hi
  have g1 : g < w.heap.size := World.block_lt_of_cell? w _ d0
  have hi' : (i : Int) < l.length := by omega
  have hi0 : (0 : Int) ≤ (i : Int) := by omega
  have hin : ¬ (l.length : Int) ≤ (i : Int) := by omega
  have q1 : q < w.heap.size := World.block_lt_of_cell? w _ mh0
  have HB1 := Aside0.mk hb1
  unfold deedAgg
  clear h hb1 mr
  rw [hbl] at d2
  have H2 := Aside0.mk hbl
  have H3 := Aside0.mk hp
  clear hbl hp
  go_enter Try.func47, Try.ntmps47
  go_wp2_with fail
  refine (park_permit _ p F l now i n hi H1.out.t H2.out hn H3.out).mono ?_; rintro e w2 ⟨rfl, ht2, hu2⟩
  have hm2 := HP.out.mid HB1.out hu2
  have b2 : w2.heap[w.heap.size]? = some (deedBox what (i : Int) n) := hu2.blk (blk_new w _) (fun hf => by have := (HP.out.lowF _ hf).2; omega)
  have c1 := blk_cell b2 1
  have c2 := blk_cell b2 2
  simp at c1 c2
  have e0 : w2.cell? ⟨q, 0, none⟩ = some (.slice (some ⟨g, 0, none⟩) l.length c) := by
    have hq : ¬ F q := fun hf => HP.out.dis q hf (by obtain ⟨_, _, hh, _⟩ := HP.out.m; exact hh)
    exact (World.cell?_of_block (w := w.alloc (deedBox what (i : Int) n)) (hu2.block q (by simp; omega) hq)).trans ((World.cell?_alloc_lt w _ ⟨q, 0, none⟩ q1).trans mh0)
  have e2 : w2.cell? ⟨g, i * 4 + 2, none⟩ = some (.bool false) := by
    have hg : ¬ F g := fun hf => HP.out.dis g hf hGg
    exact (World.cell?_of_block (w := w.alloc (deedBox what (i : Int) n)) (hu2.block g (by simp; omega) hg)).trans ((World.cell?_alloc_lt w _ ⟨g, i * 4 + 2, none⟩ g1).trans d2)
  have HT2 := Aside0.mk ht2
  have HU2 := Aside0.mk hu2
  have HM2 := Aside0.mk hm2
  clear b2 ht2 hu2 hm2 mh0 d0 d1 d2 d3
  go_wp2_with fail
  go_quiet (fail)
  go_wp2_with fail
  go_quiet (fail)
  go_wp2_with fail
  refine (rpark_permit _ q G l now i n hi (HM2.out.drewN _) H3.out).mono ?_; rintro e w3 ⟨rfl, hm3, hv3⟩
  go_wp2
  go_ret
  exact PP.both HP.out HB1.out (HT2.out.drewN _) (HU2.out.drewN _) hm3 hv3 (Below.refl _ _)

theorem parks_blocks (what n : Int) (i : Nat) (B : Nat) (w : World) (p q : Nat) (l : List Park) (now : Int) (F G : Nat → Prop) (h : Pair B w p q l now F G) (hi : i < l.length) (hbl : l[i].blocked = false) (hn : -1 ≤ n) (hp : l[i].permit = false) (hf : l[i].flag = false) (hd : ¬ (0 ≤ n ∧ n ≤ now)) :
    Calls Try.prog 47 #[.pointer (some ⟨p, 0, none⟩), .pointer (some ⟨q, 0, none⟩), deedAgg what (i : Int) n] w (PP B w p q F G (l.set i { l[i] with blocked := true, deadline := n }) now) := by
  have hl : 0 < l.length := by omega
  have HP := Aside0.mk h
  have hb1 : Below w.heap.size w (w.alloc (deedBox what (i : Int) n)) := below_alloc (Below.refl _ _) _
  have H1 := Aside0.mk (h.later hb1)
  obtain ⟨g, c, -, -, hGg, -, -, mr, mh0, -⟩ := h.m.open_ hl (by decide)
  obtain ⟨d0, d1, d2, d3, -, -⟩ := park_cells mr i hi
  have g1 : g < w.heap.size := World.block_lt_of_cell? w _ d0
  have hi' : (i : Int) < l.length := by omega
  have hi0 : (0 : Int) ≤ (i : Int) := by omega
  have hin : ¬ (l.length : Int) ≤ (i : Int) := by omega
  have q1 : q < w.heap.size := World.block_lt_of_cell? w _ mh0
  have HB1 := Aside0.mk hb1
  unfold deedAgg
  clear h hb1 mr
  rw [hbl] at d2
  have H2 := Aside0.mk hbl
  have H3 := Aside0.mk hp
  have H4 := Aside0.mk hf
  have H5 := Aside0.mk hd
  clear hbl hp hf hd
  go_enter Try.func47, Try.ntmps47
  go_wp2_with fail
  refine (park_blocks _ p F l now i n hi H1.out.t H2.out hn H3.out H4.out H5.out).mono ?_; rintro e w2 ⟨rfl, ht2, hu2⟩
  have hm2 := HP.out.mid HB1.out hu2
  have b2 : w2.heap[w.heap.size]? = some (deedBox what (i : Int) n) := hu2.blk (blk_new w _) (fun hf => by have := (HP.out.lowF _ hf).2; omega)
  have c1 := blk_cell b2 1
  have c2 := blk_cell b2 2
  simp at c1 c2
  have e0 : w2.cell? ⟨q, 0, none⟩ = some (.slice (some ⟨g, 0, none⟩) l.length c) := by
    have hq : ¬ F q := fun hf => HP.out.dis q hf (by obtain ⟨_, _, hh, _⟩ := HP.out.m; exact hh)
    exact (World.cell?_of_block (w := w.alloc (deedBox what (i : Int) n)) (hu2.block q (by simp; omega) hq)).trans ((World.cell?_alloc_lt w _ ⟨q, 0, none⟩ q1).trans mh0)
  have e2 : w2.cell? ⟨g, i * 4 + 2, none⟩ = some (.bool false) := by
    have hg : ¬ F g := fun hf => HP.out.dis g hf hGg
    exact (World.cell?_of_block (w := w.alloc (deedBox what (i : Int) n)) (hu2.block g (by simp; omega) hg)).trans ((World.cell?_alloc_lt w _ ⟨g, i * 4 + 2, none⟩ g1).trans d2)
  have HT2 := Aside0.mk ht2
  have HU2 := Aside0.mk hu2
  have HM2 := Aside0.mk hm2
  clear b2 ht2 hu2 hm2 mh0 d0 d1 d2 d3
  go_wp2_with fail
  go_quiet (fail)
  go_wp2_with fail
  go_quiet (fail)
  go_wp2_with fail
  refine (rpark_blocks _ q G l now i n hi (HM2.out.drewN _) H3.out H4.out H5.out).mono ?_; rintro e w3 ⟨rfl, hm3, hv3⟩
  go_wp2
  go_ret
  exact PP.both HP.out HB1.out (HT2.out.drewN _) (HU2.out.drewN _) hm3 hv3 (Below.refl _ _)

end Go.Proofs.Ythehmmcloimpmaa.Permit
