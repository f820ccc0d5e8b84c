/- A table and its model: any deed is done alike. -/
import Derived.Test.YthehmmcloimpmaaPermitLaw
import Derived.OpenShut
set_option linter.unusedVariables false
set_option linter.unusedSimpArgs false
namespace Go.Proofs.Ythehmmcloimpmaa.Permit
open Go.RowKit Go.Proofs.YthehmmcloimpmaaW.PrintWords Go.Proofs.Ythehmmcloimpmaa.Base Go.Proofs.Ythehmmcloimpmaa.Clock
attribute [local go_sem] eqlE eqlN eqlN' guardE guardN guardN'

theorem pick_calls (w : World) (c n : Int) (hc : (Lit.int .i64 c).wf = true) (h0 : 1 ≤ n) (hn : n ≤ 9223372036854775807) :
    Calls Try.prog 31 #[.int .i64 c, .int .i64 n] w fun e w' => e = .returned (.int .i64 (pickI c n)) ∧ w = w' := by
  have bc := bounds_i64 hc
  by_cases h : c < 0
  · rw [pickI_neg h]
    go_enter Try.func31, Try.ntmps31
    go_wp2
    go_ret
    exact ⟨rfl, rfl⟩
  · rw [pickI_pos h]
    go_enter Try.func31, Try.ntmps31
    go_wp2
    go_ret
    exact ⟨rfl, rfl⟩

/-- Who isn't blocked has no deadline. -/
def Park.Ok (x : Park) : Prop := x.blocked = false → x.deadline = 0
theorem PP.after {B : Nat} {w : World} {o : Obj} {p q : Nat} {l : List Park} {now : Int} {F G : Nat → Prop} {e : Ending} {w' : World} (h : PP B (w.alloc o) p q F G l now e w') : PP B w p q F G l now e w' :=
  ⟨h.1, h.2.1, ((Upd.refl _ w).alloc o).trans h.2.2 (fun _ hk => .inl hk)⟩

set_option maxRecDepth 100000 in
theorem one_wake (what n : Int) (i : Nat) (B : Nat) (w : World) (p q : Nat) (l : List Park) (now : Int) (F G : Nat → Prop) (hw : (Lit.int .i64 what).wf = true) (hk : pickI what 6 = 4) (h : Pair B w p q l now F G) (hi : i < l.length) :
    Calls Try.prog 37 #[.pointer (some ⟨p, 0, none⟩), .pointer (some ⟨q, 0, none⟩), deedAgg what (i : Int) n] w (PP B w p q F G (l.set i l[i].on) now) := by
  have hl : 0 < l.length := by omega
  have HP := Aside0.mk h
  have hpick := Aside0.mk (fun w => by have := pick_calls w what 6 hw (by omega) (by omega); rwa [hk] at this)
  have hb1 : Below w.heap.size w (w.alloc (deedBox what (i : Int) n)) := below_alloc (Below.refl _ _) _
  have H1 := Aside0.mk (h.later hb1)
  obtain ⟨g, c, hlc, hGq, hGg, hqg, -, mr, mh0, -⟩ := h.m.open_ hl (by decide)
  have q1 : q < w.heap.size := World.block_lt_of_cell? w _ mh0
  have qne : q ≠ w.heap.size := by omega
  have hgq := Ne.symm hqg
  obtain ⟨d0, d1, d2, d3, mf, -⟩ := park_cells mr i hi
  have mf1 := mf 1
  have g1 : g < w.heap.size := World.block_lt_of_cell? w _ d0
  have gne : g ≠ w.heap.size := by omega
  have hi' : (i : Int) < l.length := by omega
  have hi0 : (0 : Int) ≤ (i : Int) := by omega
  have HB1 := Aside0.mk hb1
  have c1 : (w.alloc (deedBox what (i : Int) n)).cell? ⟨w.heap.size, 1, none⟩ = some (.int .i64 (i : Int)) := by rw [World.cell?_alloc_new]; rfl
  unfold deedAgg
  clear h hb1 hk
  go_enter Try.func37, Try.ntmps37
  go_wp2_with fail
  go_quiet (fail)
  go_wp2_with fail
  refine (hpick.out _).mono ?_; rintro e w1 ⟨rfl, rfl⟩
  go_wp2_with fail
  refine (wake_calls _ p F l now i hi (H1.out.t.drewN _)).mono ?_; rintro e w2 ⟨rfl, ht2, hu2⟩
  have b2 : w2.heap[w.heap.size]? = some (deedBox what (i : Int) n) := hu2.blk (blk_drewN (blk_new w _) _) (fun hf => by have := (HP.out.lowF _ hf).2; omega)
  have c1 := blk_cell b2 1
  have c2 := blk_cell b2 2
  simp at c1 c2
  have hu2' : Upd F w w2 := (((Upd.refl F w).alloc (deedBox what (i : Int) n)).drewN _).trans hu2 (fun _ h => .inl h)
  have hm2 : TableIn RT G w2 q l now := HP.out.m.upd hu2' (fun k hk hf => HP.out.dis k hf hk)
  have e0 : w2.cell? ⟨q, 0, none⟩ = some (.slice (some ⟨g, 0, none⟩) l.length c) := (World.cell?_of_block (w := w) (hu2'.block q q1 (fun hf => HP.out.dis q hf hGq))).trans mh0
  have eg := hu2'.block g g1 (fun hf => HP.out.dis g hf hGg)
  have e1 : w2.cell? ⟨g, i * 4 + 1, none⟩ = some (.bool l[i].flag) := (World.cell?_of_block (w := w) eg).trans d1
  have ef : w2.frozen? ⟨g, i * 4 + 1, none⟩ = false := (World.frozen?_of_block (w := w) eg).trans mf1
  have zz : w.heap.size < w2.heap.size := blk_lt b2
  have HT2 := Aside0.mk ht2
  have HU2 := Aside0.mk hu2'
  have HM2 := Aside0.mk hm2
  clear b2 ht2 hu2 hu2' hm2 mh0 d0 d1 d2 d3 eg mf mf1
  go_wp2_with fail
  refine (ron_calls _ q G l now i hi HM2.out).mono ?_; rintro e w3 ⟨rfl, hm3, hv3⟩
  go_wp2
  go_ret
  exact PP.both HP.out (Below.refl _ w) HT2.out HU2.out hm3 hv3 (Below.refl _ _)

set_option maxRecDepth 100000 in
theorem one_unpark_blocked (what n : Int) (i : Nat) (B : Nat) (w : World) (p q : Nat) (l : List Park) (now : Int) (F G : Nat → Prop) (hw : (Lit.int .i64 what).wf = true) (hk : pickI what 6 = 1) (h : Pair B w p q l now F G) (hi : i < l.length) (hbl : l[i].blocked = true) :
    Calls Try.prog 37 #[.pointer (some ⟨p, 0, none⟩), .pointer (some ⟨q, 0, none⟩), deedAgg what (i : Int) n] w (PP B w p q F G (l.set i l[i].on) now) := by
  have hl : 0 < l.length := by omega
  have HP := Aside0.mk h
  have hpick := Aside0.mk (fun w => by have := pick_calls w what 6 hw (by omega) (by omega); rwa [hk] at this)
  have hb1 : Below w.heap.size w (w.alloc (deedBox what (i : Int) n)) := below_alloc (Below.refl _ _) _
  have H1 := Aside0.mk (h.later hb1)
  obtain ⟨g, c, hlc, hGq, hGg, hqg, -, mr, mh0, -⟩ := h.m.open_ hl (by decide)
  have q1 : q < w.heap.size := World.block_lt_of_cell? w _ mh0
  have qne : q ≠ w.heap.size := by omega
  have hgq := Ne.symm hqg
  obtain ⟨d0, d1, d2, d3, mf, -⟩ := park_cells mr i hi
  have mf1 := mf 1
  have g1 : g < w.heap.size := World.block_lt_of_cell? w _ d0
  have gne : g ≠ w.heap.size := by omega
  have hi' : (i : Int) < l.length := by omega
  have hi0 : (0 : Int) ≤ (i : Int) := by omega
  have HB1 := Aside0.mk hb1
  have c1 : (w.alloc (deedBox what (i : Int) n)).cell? ⟨w.heap.size, 1, none⟩ = some (.int .i64 (i : Int)) := by rw [World.cell?_alloc_new]; rfl
  unfold deedAgg
  clear h hb1 hk
  have HBL := Aside0.mk hbl
  clear hbl
  go_enter Try.func37, Try.ntmps37
  go_wp2_with fail
  go_quiet (fail)
  go_wp2_with fail
  refine (hpick.out _).mono ?_; rintro e w1 ⟨rfl, rfl⟩
  go_wp2_with fail
  refine (unpark_blocked _ p F l now i hi (H1.out.t.drewN _) HBL.out).mono ?_; rintro e w2 ⟨rfl, ht2, hu2⟩
  have b2 : w2.heap[w.heap.size]? = some (deedBox what (i : Int) n) := hu2.blk (blk_drewN (blk_new w _) _) (fun hf => by have := (HP.out.lowF _ hf).2; omega)
  have c1 := blk_cell b2 1
  have c2 := blk_cell b2 2
  simp at c1 c2
  have hu2' : Upd F w w2 := (((Upd.refl F w).alloc (deedBox what (i : Int) n)).drewN _).trans hu2 (fun _ h => .inl h)
  have hm2 : TableIn RT G w2 q l now := HP.out.m.upd hu2' (fun k hk hf => HP.out.dis k hf hk)
  have e0 : w2.cell? ⟨q, 0, none⟩ = some (.slice (some ⟨g, 0, none⟩) l.length c) := (World.cell?_of_block (w := w) (hu2'.block q q1 (fun hf => HP.out.dis q hf hGq))).trans mh0
  have eg := hu2'.block g g1 (fun hf => HP.out.dis g hf hGg)
  have e1 : w2.cell? ⟨g, i * 4 + 1, none⟩ = some (.bool l[i].flag) := (World.cell?_of_block (w := w) eg).trans d1
  have ef : w2.frozen? ⟨g, i * 4 + 1, none⟩ = false := (World.frozen?_of_block (w := w) eg).trans mf1
  have zz : w.heap.size < w2.heap.size := blk_lt b2
  have HT2 := Aside0.mk ht2
  have HU2 := Aside0.mk hu2'
  have HM2 := Aside0.mk hm2
  clear b2 ht2 hu2 hu2' hm2 mh0 d0 d1 d2 d3 eg mf mf1
  go_wp2_with fail
  refine (runpark_blocked _ q G l now i hi HM2.out HBL.out).mono ?_; rintro e w3 ⟨rfl, hm3, hv3⟩
  go_wp2
  go_ret
  exact PP.both HP.out (Below.refl _ w) HT2.out HU2.out hm3 hv3 (Below.refl _ _)

set_option maxRecDepth 100000 in
theorem one_unpark_free (what n : Int) (i : Nat) (B : Nat) (w : World) (p q : Nat) (l : List Park) (now : Int) (F G : Nat → Prop) (hw : (Lit.int .i64 what).wf = true) (hk : pickI what 6 = 1) (h : Pair B w p q l now F G) (hi : i < l.length) (hbl : l[i].blocked = false) (hok : l[i].Ok) :
    Calls Try.prog 37 #[.pointer (some ⟨p, 0, none⟩), .pointer (some ⟨q, 0, none⟩), deedAgg what (i : Int) n] w (PP B w p q F G (l.set i { l[i] with permit := true }) now) := by
  have hl : 0 < l.length := by omega
  have HP := Aside0.mk h
  have hpick := Aside0.mk (fun w => by have := pick_calls w what 6 hw (by omega) (by omega); rwa [hk] at this)
  have hb1 : Below w.heap.size w (w.alloc (deedBox what (i : Int) n)) := below_alloc (Below.refl _ _) _
  have H1 := Aside0.mk (h.later hb1)
  obtain ⟨g, c, hlc, hGq, hGg, hqg, -, mr, mh0, -⟩ := h.m.open_ hl (by decide)
  have q1 : q < w.heap.size := World.block_lt_of_cell? w _ mh0
  have qne : q ≠ w.heap.size := by omega
  have hgq := Ne.symm hqg
  obtain ⟨d0, d1, d2, d3, mf, -⟩ := park_cells mr i hi
  have mf1 := mf 1
  have g1 : g < w.heap.size := World.block_lt_of_cell? w _ d0
  have gne : g ≠ w.heap.size := by omega
  have hi' : (i : Int) < l.length := by omega
  have hi0 : (0 : Int) ≤ (i : Int) := by omega
  have HB1 := Aside0.mk hb1
  have c1 : (w.alloc (deedBox what (i : Int) n)).cell? ⟨w.heap.size, 1, none⟩ = some (.int .i64 (i : Int)) := by rw [World.cell?_alloc_new]; rfl
  unfold deedAgg
  clear h hb1 hk
  have HBL := Aside0.mk hbl
  have hon : ({ l[i] with permit := true } : Park).on = { l[i] with permit := true } := by have := hok hbl; simp only [Park.on, hbl, this]
  have HON := Aside0.mk hon
  clear hbl hon hok
  go_enter Try.func37, Try.ntmps37
  go_wp2_with fail
  go_quiet (fail)
  go_wp2_with fail
  refine (hpick.out _).mono ?_; rintro e w1 ⟨rfl, rfl⟩
  go_wp2_with fail
  refine (unpark_free _ p F l now i hi (H1.out.t.drewN _) HBL.out).mono ?_; rintro e w2 ⟨rfl, ht2, hu2⟩
  rw [HON.out] at ht2
  have b2 : w2.heap[w.heap.size]? = some (deedBox what (i : Int) n) := hu2.blk (blk_drewN (blk_new w _) _) (fun hf => by have := (HP.out.lowF _ hf).2; omega)
  have c1 := blk_cell b2 1
  have c2 := blk_cell b2 2
  simp at c1 c2
  have hu2' : Upd F w w2 := (((Upd.refl F w).alloc (deedBox what (i : Int) n)).drewN _).trans hu2 (fun _ h => .inl h)
  have hm2 : TableIn RT G w2 q l now := HP.out.m.upd hu2' (fun k hk hf => HP.out.dis k hf hk)
  have e0 : w2.cell? ⟨q, 0, none⟩ = some (.slice (some ⟨g, 0, none⟩) l.length c) := (World.cell?_of_block (w := w) (hu2'.block q q1 (fun hf => HP.out.dis q hf hGq))).trans mh0
  have eg := hu2'.block g g1 (fun hf => HP.out.dis g hf hGg)
  have e1 : w2.cell? ⟨g, i * 4 + 1, none⟩ = some (.bool l[i].flag) := (World.cell?_of_block (w := w) eg).trans d1
  have ef : w2.frozen? ⟨g, i * 4 + 1, none⟩ = false := (World.frozen?_of_block (w := w) eg).trans mf1
  have zz : w.heap.size < w2.heap.size := blk_lt b2
  have HT2 := Aside0.mk ht2
  have HU2 := Aside0.mk hu2'
  have HM2 := Aside0.mk hm2
  clear b2 ht2 hu2 hu2' hm2 mh0 d0 d1 d2 d3 eg mf mf1
  go_wp2_with fail
  refine (runpark_free _ q G l now i hi HM2.out HBL.out).mono ?_; rintro e w3 ⟨rfl, hm3, hv3⟩
  go_wp2
  go_ret
  exact PP.both HP.out (Below.refl _ w) HT2.out HU2.out hm3 hv3 (Below.refl _ _)

set_option maxRecDepth 100000 in
theorem one_interrupt (what n : Int) (i : Nat) (B : Nat) (w : World) (p q : Nat) (l : List Park) (now : Int) (F G : Nat → Prop) (hw : (Lit.int .i64 what).wf = true) (hk : pickI what 6 = 2) (h : Pair B w p q l now F G) (hi : i < l.length) :
    Calls Try.prog 37 #[.pointer (some ⟨p, 0, none⟩), .pointer (some ⟨q, 0, none⟩), deedAgg what (i : Int) n] w (PP B w p q F G (l.set i ({ l[i] with flag := true } : Park).on) now) := by
  have hl : 0 < l.length := by omega
  have HP := Aside0.mk h
  have hpick := Aside0.mk (fun w => by have := pick_calls w what 6 hw (by omega) (by omega); rwa [hk] at this)
  have hb1 : Below w.heap.size w (w.alloc (deedBox what (i : Int) n)) := below_alloc (Below.refl _ _) _
  have H1 := Aside0.mk (h.later hb1)
  obtain ⟨g, c, hlc, hGq, hGg, hqg, -, mr, mh0, -⟩ := h.m.open_ hl (by decide)
  have q1 : q < w.heap.size := World.block_lt_of_cell? w _ mh0
  have qne : q ≠ w.heap.size := by omega
  have hgq := Ne.symm hqg
  obtain ⟨d0, d1, d2, d3, mf, -⟩ := park_cells mr i hi
  have mf1 := mf 1
  have g1 : g < w.heap.size := World.block_lt_of_cell? w _ d0
  have gne : g ≠ w.heap.size := by omega
  have hi' : (i : Int) < l.length := by omega
  have hi0 : (0 : Int) ≤ (i : Int) := by omega
  have HB1 := Aside0.mk hb1
  have c1 : (w.alloc (deedBox what (i : Int) n)).cell? ⟨w.heap.size, 1, none⟩ = some (.int .i64 (i : Int)) := by rw [World.cell?_alloc_new]; rfl
  unfold deedAgg
  clear h hb1 hk
  go_enter Try.func37, Try.ntmps37
  go_wp2_with fail
  go_quiet (fail)
  go_wp2_with fail
  refine (hpick.out _).mono ?_; rintro e w1 ⟨rfl, rfl⟩
  go_wp2_with fail
  refine (interrupt_calls _ p F l now i hi (H1.out.t.drewN _)).mono ?_; rintro e w2 ⟨rfl, ht2, hu2⟩
  have b2 : w2.heap[w.heap.size]? = some (deedBox what (i : Int) n) := hu2.blk (blk_drewN (blk_new w _) _) (fun hf => by have := (HP.out.lowF _ hf).2; omega)
  have c1 := blk_cell b2 1
  have c2 := blk_cell b2 2
  simp at c1 c2
  have hu2' : Upd F w w2 := (((Upd.refl F w).alloc (deedBox what (i : Int) n)).drewN _).trans hu2 (fun _ h => .inl h)
  have hm2 : TableIn RT G w2 q l now := HP.out.m.upd hu2' (fun k hk hf => HP.out.dis k hf hk)
  have e0 : w2.cell? ⟨q, 0, none⟩ = some (.slice (some ⟨g, 0, none⟩) l.length c) := (World.cell?_of_block (w := w) (hu2'.block q q1 (fun hf => HP.out.dis q hf hGq))).trans mh0
  have eg := hu2'.block g g1 (fun hf => HP.out.dis g hf hGg)
  have e1 : w2.cell? ⟨g, i * 4 + 1, none⟩ = some (.bool l[i].flag) := (World.cell?_of_block (w := w) eg).trans d1
  have ef : w2.frozen? ⟨g, i * 4 + 1, none⟩ = false := (World.frozen?_of_block (w := w) eg).trans mf1
  have zz : w.heap.size < w2.heap.size := blk_lt b2
  have HT2 := Aside0.mk ht2
  have HU2 := Aside0.mk hu2'
  have HM2 := Aside0.mk hm2
  clear b2 ht2 hu2 hu2' hm2 mh0 d0 d1 d2 d3 eg mf mf1
  obtain ⟨g', c', -, -, hGg', -, mb2, mr2, me0, -⟩ := HM2.out.open_ hl (by decide)
  rw [e0] at me0
  cases me0
  have hmp := Aside0.mk (TableIn.put1 (F := G) mb2 mr2 hqg hGq hGg hi (j := 1) (by omega) { l[i] with flag := true } (.bool true) rfl 1)
  clear mb2 mr2
  go_wp2_with fail
  go_region_held3 (fun w' => w'.cell? ⟨w.heap.size, 1, none⟩ = some (.int .i64 (i : Int)) ∧ w'.cell? ⟨q, 0, none⟩ = some (.slice (some ⟨g, 0, none⟩) l.length c)) (go_keep) (fail)
  go_wp2_with fail
  refine (ron_calls _ q G (l.set i { l[i] with flag := true }) now i (by rw [List.length_set]; exact hi) hmp.out.1).mono ?_; rintro e w3 ⟨rfl, hm3, hv3⟩
  rw [List.set_set, List.getElem_set_self] at hm3
  have hv4 := hmp.out.2.trans hv3 (fun _ h => .inl h)
  have HM3 := Aside0.mk hm3
  have HV4 := Aside0.mk hv4
  clear hm3 hv3 hv4
  go_wp2
  go_ret
  exact PP.both HP.out (Below.refl _ w) HT2.out HU2.out HM3.out HV4.out (Below.refl _ _)

set_option maxRecDepth 100000 in
theorem one_clear (what n : Int) (i : Nat) (B : Nat) (w : World) (p q : Nat) (l : List Park) (now : Int) (F G : Nat → Prop) (hw : (Lit.int .i64 what).wf = true) (hk : pickI what 6 = 3) (h : Pair B w p q l now F G) (hi : i < l.length) :
    Calls Try.prog 37 #[.pointer (some ⟨p, 0, none⟩), .pointer (some ⟨q, 0, none⟩), deedAgg what (i : Int) n] w (PP B w p q F G (l.set i { l[i] with flag := false }) now) := by
  have hl : 0 < l.length := by omega
  have HP := Aside0.mk h
  have hpick := Aside0.mk (fun w => by have := pick_calls w what 6 hw (by omega) (by omega); rwa [hk] at this)
  have hb1 : Below w.heap.size w (w.alloc (deedBox what (i : Int) n)) := below_alloc (Below.refl _ _) _
  have H1 := Aside0.mk (h.later hb1)
  obtain ⟨g, c, hlc, hGq, hGg, hqg, -, mr, mh0, -⟩ := h.m.open_ hl (by decide)
  have q1 : q < w.heap.size := World.block_lt_of_cell? w _ mh0
  have qne : q ≠ w.heap.size := by omega
  have hgq := Ne.symm hqg
  obtain ⟨d0, d1, d2, d3, mf, -⟩ := park_cells mr i hi
  have mf1 := mf 1
  have g1 : g < w.heap.size := World.block_lt_of_cell? w _ d0
  have gne : g ≠ w.heap.size := by omega
  have hi' : (i : Int) < l.length := by omega
  have hi0 : (0 : Int) ≤ (i : Int) := by omega
  have HB1 := Aside0.mk hb1
  have c1 : (w.alloc (deedBox what (i : Int) n)).cell? ⟨w.heap.size, 1, none⟩ = some (.int .i64 (i : Int)) := by rw [World.cell?_alloc_new]; rfl
  unfold deedAgg
  clear h hb1 hk
  go_enter Try.func37, Try.ntmps37
  go_wp2_with fail
  go_quiet (fail)
  go_wp2_with fail
  refine (hpick.out _).mono ?_; rintro e w1 ⟨rfl, rfl⟩
  go_wp2_with fail
  refine (clear_calls _ p F l now i hi (H1.out.t.drewN _)).mono ?_; rintro e w2 ⟨rfl, ht2, hu2⟩
  have b2 : w2.heap[w.heap.size]? = some (deedBox what (i : Int) n) := hu2.blk (blk_drewN (blk_new w _) _) (fun hf => by have := (HP.out.lowF _ hf).2; omega)
  have c1 := blk_cell b2 1
  have c2 := blk_cell b2 2
  simp at c1 c2
  have hu2' : Upd F w w2 := (((Upd.refl F w).alloc (deedBox what (i : Int) n)).drewN _).trans hu2 (fun _ h => .inl h)
  have hm2 : TableIn RT G w2 q l now := HP.out.m.upd hu2' (fun k hk hf => HP.out.dis k hf hk)
  have e0 : w2.cell? ⟨q, 0, none⟩ = some (.slice (some ⟨g, 0, none⟩) l.length c) := (World.cell?_of_block (w := w) (hu2'.block q q1 (fun hf => HP.out.dis q hf hGq))).trans mh0
  have eg := hu2'.block g g1 (fun hf => HP.out.dis g hf hGg)
  have e1 : w2.cell? ⟨g, i * 4 + 1, none⟩ = some (.bool l[i].flag) := (World.cell?_of_block (w := w) eg).trans d1
  have ef : w2.frozen? ⟨g, i * 4 + 1, none⟩ = false := (World.frozen?_of_block (w := w) eg).trans mf1
  have zz : w.heap.size < w2.heap.size := blk_lt b2
  have HT2 := Aside0.mk ht2
  have HU2 := Aside0.mk hu2'
  have HM2 := Aside0.mk hm2
  clear b2 ht2 hu2 hu2' hm2 mh0 d0 d1 d2 d3 eg mf mf1
  go_wp2_with fail
  go_quiet (fail)
  have e0' : (w2.drewN nq).cell? ⟨q, 0, none⟩ = some (.slice (some ⟨g, 0, none⟩) l.length c) := e0
  have c1' : (w2.drewN nq).cell? ⟨w.heap.size, 1, none⟩ = some (.int .i64 (i : Int)) := c1
  obtain ⟨g', c', -, -, hGg', -, mb2, mr2, me0, -⟩ := (HM2.out.drewN nq).open_ hl (by decide)
  rw [e0'] at me0
  cases me0
  have hmp := Aside0.mk (TableIn.put1 (F := G) mb2 mr2 hqg hGq hGg hi (j := 1) (by omega) { l[i] with flag := false } (.bool false) rfl 1)
  clear mb2 mr2
  go_wp2_with fail
  go_region_held3 (fun w' => w'.cell? ⟨w.heap.size, 1, none⟩ = some (.int .i64 (i : Int)) ∧ w'.cell? ⟨q, 0, none⟩ = some (.slice (some ⟨g, 0, none⟩) l.length c)) (go_keep) (fail)
  go_wp2
  go_ret
  have := PP.both HP.out (Below.refl _ w) (HT2.out.drewN nq) (HU2.out.drewN nq) hmp.out.1 hmp.out.2 (Below.refl _ _)
  refine ⟨by simp, ?_⟩
  exact this.2

set_option maxRecDepth 100000 in
theorem one_unpark_out (what i n : Int) (B : Nat) (w : World) (p q : Nat) (l : List Park) (now : Int) (F G : Nat → Prop) (hw : (Lit.int .i64 what).wf = true) (hk : pickI what 6 = 1) (h : Pair B w p q l now F G) (hl : 0 < l.length) (hi : ¬ (0 ≤ i ∧ i < l.length)) :
    Calls Try.prog 37 #[.pointer (some ⟨p, 0, none⟩), .pointer (some ⟨q, 0, none⟩), deedAgg what i n] w (PP B w p q F G l now) := by
  have HP := Aside0.mk h
  have hpick := Aside0.mk (fun w => by have := pick_calls w what 6 hw (by omega) (by omega); rwa [hk] at this)
  have hb1 : Below w.heap.size w (w.alloc (deedBox what i n)) := below_alloc (Below.refl _ _) _
  have H1 := Aside0.mk (h.later hb1)
  obtain ⟨g, c, hlc, hGq, hGg, hqg, -, mr, mh0, -⟩ := h.m.open_ hl (by decide)
  have q1 : q < w.heap.size := World.block_lt_of_cell? w _ mh0
  have qne : q ≠ w.heap.size := by omega
  have hgq := Ne.symm hqg
  have HB1 := Aside0.mk hb1
  have c1 : (w.alloc (deedBox what i n)).cell? ⟨w.heap.size, 1, none⟩ = some (.int .i64 i) := by rw [World.cell?_alloc_new]; rfl
  unfold deedAgg
  clear h hb1 hk
  by_cases h0 : i < 0
  · have q0 : decide (0 ≤ i) = false := by simpa using h0
    go_enter Try.func37, Try.ntmps37
    go_wp2_with fail
    go_quiet (fail)
    go_wp2_with fail
    refine (hpick.out _).mono ?_; rintro e w1 ⟨rfl, rfl⟩
    go_wp2_with fail
    refine (unpark_none _ p F l now i hl hi (H1.out.t.drewN _)).mono ?_; rintro e w2 ⟨rfl, rfl⟩
    go_wp2
    go_ret
    exact PP.same HP.out (pw_below_drewN HB1.out _)
  · have h2 : (l.length : Int) ≤ i := by omega
    have h3 : (0 : Int) ≤ i := by omega
    have q3 : decide (i < (l.length : Int)) = false := by simpa using h2
    go_enter Try.func37, Try.ntmps37
    go_wp2_with fail
    go_quiet (fail)
    go_wp2_with fail
    refine (hpick.out _).mono ?_; rintro e w1 ⟨rfl, rfl⟩
    go_wp2_with fail
    refine (unpark_none _ p F l now i hl hi (H1.out.t.drewN _)).mono ?_; rintro e w2 ⟨rfl, rfl⟩
    go_wp2
    go_ret
    exact PP.same HP.out (pw_below_drewN HB1.out _)

set_option maxRecDepth 100000 in
theorem one_interrupt_out (what i n : Int) (B : Nat) (w : World) (p q : Nat) (l : List Park) (now : Int) (F G : Nat → Prop) (hw : (Lit.int .i64 what).wf = true) (hk : pickI what 6 = 2) (h : Pair B w p q l now F G) (hl : 0 < l.length) (hi : ¬ (0 ≤ i ∧ i < l.length)) :
    Calls Try.prog 37 #[.pointer (some ⟨p, 0, none⟩), .pointer (some ⟨q, 0, none⟩), deedAgg what i n] w (PP B w p q F G l now) := by
  have HP := Aside0.mk h
  have hpick := Aside0.mk (fun w => by have := pick_calls w what 6 hw (by omega) (by omega); rwa [hk] at this)
  have hb1 : Below w.heap.size w (w.alloc (deedBox what i n)) := below_alloc (Below.refl _ _) _
  have H1 := Aside0.mk (h.later hb1)
  obtain ⟨g, c, hlc, hGq, hGg, hqg, -, mr, mh0, -⟩ := h.m.open_ hl (by decide)
  have q1 : q < w.heap.size := World.block_lt_of_cell? w _ mh0
  have qne : q ≠ w.heap.size := by omega
  have hgq := Ne.symm hqg
  have HB1 := Aside0.mk hb1
  have c1 : (w.alloc (deedBox what i n)).cell? ⟨w.heap.size, 1, none⟩ = some (.int .i64 i) := by rw [World.cell?_alloc_new]; rfl
  unfold deedAgg
  clear h hb1 hk
  by_cases h0 : i < 0
  · have q0 : decide (0 ≤ i) = false := by simpa using h0
    go_enter Try.func37, Try.ntmps37
    go_wp2_with fail
    go_quiet (fail)
    go_wp2_with fail
    refine (hpick.out _).mono ?_; rintro e w1 ⟨rfl, rfl⟩
    go_wp2_with fail
    refine (interrupt_none _ p F l now i hl hi (H1.out.t.drewN _)).mono ?_; rintro e w2 ⟨rfl, rfl⟩
    go_wp2
    go_ret
    exact PP.same HP.out (pw_below_drewN HB1.out _)
  · have h2 : (l.length : Int) ≤ i := by omega
    have h3 : (0 : Int) ≤ i := by omega
    have q3 : decide (i < (l.length : Int)) = false := by simpa using h2
    go_enter Try.func37, Try.ntmps37
    go_wp2_with fail
    go_quiet (fail)
    go_wp2_with fail
    refine (hpick.out _).mono ?_; rintro e w1 ⟨rfl, rfl⟩
    go_wp2_with fail
    refine (interrupt_none _ p F l now i hl hi (H1.out.t.drewN _)).mono ?_; rintro e w2 ⟨rfl, rfl⟩
    go_wp2
    go_ret
    exact PP.same HP.out (pw_below_drewN HB1.out _)

set_option maxRecDepth 100000 in
theorem one_clear_out (what i n : Int) (B : Nat) (w : World) (p q : Nat) (l : List Park) (now : Int) (F G : Nat → Prop) (hw : (Lit.int .i64 what).wf = true) (hk : pickI what 6 = 3) (h : Pair B w p q l now F G) (hl : 0 < l.length) (hi : ¬ (0 ≤ i ∧ i < l.length)) :
    Calls Try.prog 37 #[.pointer (some ⟨p, 0, none⟩), .pointer (some ⟨q, 0, none⟩), deedAgg what i n] w (PP B w p q F G l now) := by
  have HP := Aside0.mk h
  have hpick := Aside0.mk (fun w => by have := pick_calls w what 6 hw (by omega) (by omega); rwa [hk] at this)
  have hb1 : Below w.heap.size w (w.alloc (deedBox what i n)) := below_alloc (Below.refl _ _) _
  have H1 := Aside0.mk (h.later hb1)
  obtain ⟨g, c, hlc, hGq, hGg, hqg, -, mr, mh0, -⟩ := h.m.open_ hl (by decide)
  have q1 : q < w.heap.size := World.block_lt_of_cell? w _ mh0
  have qne : q ≠ w.heap.size := by omega
  have hgq := Ne.symm hqg
  have HB1 := Aside0.mk hb1
  have c1 : (w.alloc (deedBox what i n)).cell? ⟨w.heap.size, 1, none⟩ = some (.int .i64 i) := by rw [World.cell?_alloc_new]; rfl
  unfold deedAgg
  clear h hb1 hk
  by_cases h0 : i < 0
  · have q0 : decide (0 ≤ i) = false := by simpa using h0
    go_enter Try.func37, Try.ntmps37
    go_wp2_with fail
    go_quiet (fail)
    go_wp2_with fail
    refine (hpick.out _).mono ?_; rintro e w1 ⟨rfl, rfl⟩
    go_wp2_with fail
    refine (clear_none _ p F l now i hl hi (H1.out.t.drewN _)).mono ?_; rintro e w2 ⟨rfl, rfl⟩
    go_wp2
    go_ret
    exact PP.same HP.out (pw_below_drewN HB1.out _)
  · have h2 : (l.length : Int) ≤ i := by omega
    have h3 : (0 : Int) ≤ i := by omega
    have q3 : decide (i < (l.length : Int)) = false := by simpa using h2
    go_enter Try.func37, Try.ntmps37
    go_wp2_with fail
    go_quiet (fail)
    go_wp2_with fail
    refine (hpick.out _).mono ?_; rintro e w1 ⟨rfl, rfl⟩
    go_wp2_with fail
    refine (clear_none _ p F l now i hl hi (H1.out.t.drewN _)).mono ?_; rintro e w2 ⟨rfl, rfl⟩
    go_wp2
    go_ret
    exact PP.same HP.out (pw_below_drewN HB1.out _)

set_option maxRecDepth 100000 in
theorem one_wake_out (what i n : Int) (B : Nat) (w : World) (p q : Nat) (l : List Park) (now : Int) (F G : Nat → Prop) (hw : (Lit.int .i64 what).wf = true) (hk : pickI what 6 = 4) (h : Pair B w p q l now F G) (hl : 0 < l.length) (hi : ¬ (0 ≤ i ∧ i < l.length)) :
    Calls Try.prog 37 #[.pointer (some ⟨p, 0, none⟩), .pointer (some ⟨q, 0, none⟩), deedAgg what i n] w (PP B w p q F G l now) := by
  have HP := Aside0.mk h
  have hpick := Aside0.mk (fun w => by have := pick_calls w what 6 hw (by omega) (by omega); rwa [hk] at this)
  have hb1 : Below w.heap.size w (w.alloc (deedBox what i n)) := below_alloc (Below.refl _ _) _
  have H1 := Aside0.mk (h.later hb1)
  obtain ⟨g, c, hlc, hGq, hGg, hqg, -, mr, mh0, -⟩ := h.m.open_ hl (by decide)
  have q1 : q < w.heap.size := World.block_lt_of_cell? w _ mh0
  have qne : q ≠ w.heap.size := by omega
  have hgq := Ne.symm hqg
  have HB1 := Aside0.mk hb1
  have c1 : (w.alloc (deedBox what i n)).cell? ⟨w.heap.size, 1, none⟩ = some (.int .i64 i) := by rw [World.cell?_alloc_new]; rfl
  unfold deedAgg
  clear h hb1 hk
  by_cases h0 : i < 0
  · have q0 : decide (0 ≤ i) = false := by simpa using h0
    go_enter Try.func37, Try.ntmps37
    go_wp2_with fail
    go_quiet (fail)
    go_wp2_with fail
    refine (hpick.out _).mono ?_; rintro e w1 ⟨rfl, rfl⟩
    go_wp2_with fail
    refine (wake_none _ p F l now i hl hi (H1.out.t.drewN _)).mono ?_; rintro e w2 ⟨rfl, rfl⟩
    go_wp2
    go_ret
    exact PP.same HP.out (pw_below_drewN HB1.out _)
  · have h2 : (l.length : Int) ≤ i := by omega
    have h3 : (0 : Int) ≤ i := by omega
    have q3 : decide (i < (l.length : Int)) = false := by simpa using h2
    go_enter Try.func37, Try.ntmps37
    go_wp2_with fail
    go_quiet (fail)
    go_wp2_with fail
    refine (hpick.out _).mono ?_; rintro e w1 ⟨rfl, rfl⟩
    go_wp2_with fail
    refine (wake_none _ p F l now i hl hi (H1.out.t.drewN _)).mono ?_; rintro e w2 ⟨rfl, rfl⟩
    go_wp2
    go_ret
    exact PP.same HP.out (pw_below_drewN HB1.out _)

set_option maxRecDepth 100000 in
theorem one_park_out (what i n : Int) (B : Nat) (w : World) (p q : Nat) (l : List Park) (now : Int) (F G : Nat → Prop) (hw : (Lit.int .i64 what).wf = true) (hk : pickI what 6 = 0) (h : Pair B w p q l now F G) (hl : 0 < l.length) (hi : ¬ (0 ≤ i ∧ i < l.length)) :
    Calls Try.prog 37 #[.pointer (some ⟨p, 0, none⟩), .pointer (some ⟨q, 0, none⟩), deedAgg what i n] w (PP B w p q F G l now) := by
  have HP := Aside0.mk h
  have hpick := Aside0.mk (fun w => by have := pick_calls w what 6 hw (by omega) (by omega); rwa [hk] at this)
  have hb1 : Below w.heap.size w (w.alloc (deedBox what i n)) := below_alloc (Below.refl _ _) _
  have H1 := Aside0.mk (h.later hb1)
  obtain ⟨g, c, hlc, hGq, hGg, hqg, -, mr, mh0, -⟩ := h.m.open_ hl (by decide)
  have q1 : q < w.heap.size := World.block_lt_of_cell? w _ mh0
  have qne : q ≠ w.heap.size := by omega
  have hgq := Ne.symm hqg
  have HB1 := Aside0.mk hb1
  have c1 : (w.alloc (deedBox what i n)).cell? ⟨w.heap.size, 1, none⟩ = some (.int .i64 i) := by rw [World.cell?_alloc_new]; rfl
  unfold deedAgg
  clear h hb1 hk
  by_cases h0 : i < 0
  · have q0 : decide (0 ≤ i) = false := by simpa using h0
    go_enter Try.func37, Try.ntmps37
    go_wp2_with fail
    go_quiet (fail)
    go_wp2_with fail
    refine (hpick.out _).mono ?_; rintro e w1 ⟨rfl, rfl⟩
    go_wp2_with fail
    refine (parks_out what i n B _ p q l now F G (H1.out.later (pw_below_drewN (Below.refl _ _) _)) hl hi).mono ?_; rintro e w2 ⟨rfl, h2p⟩
    go_wp2
    go_ret
    exact ⟨rfl, h2p.1, (((Upd.refl _ w).alloc _).drewN _).trans h2p.2 (fun _ hk => .inl hk)⟩
  · have h2 : (l.length : Int) ≤ i := by omega
    have h3 : (0 : Int) ≤ i := by omega
    have q3 : decide (i < (l.length : Int)) = false := by simpa using h2
    go_enter Try.func37, Try.ntmps37
    go_wp2_with fail
    go_quiet (fail)
    go_wp2_with fail
    refine (hpick.out _).mono ?_; rintro e w1 ⟨rfl, rfl⟩
    go_wp2_with fail
    refine (parks_out what i n B _ p q l now F G (H1.out.later (pw_below_drewN (Below.refl _ _) _)) hl hi).mono ?_; rintro e w2 ⟨rfl, h2p⟩
    go_wp2
    go_ret
    exact ⟨rfl, h2p.1, (((Upd.refl _ w).alloc _).drewN _).trans h2p.2 (fun _ hk => .inl hk)⟩

set_option maxRecDepth 100000 in
theorem one_park_blocked (what n : Int) (i : Nat) (B : Nat) (w : World) (p q : Nat) (l : List Park) (now : Int) (F G : Nat → Prop) (hw : (Lit.int .i64 what).wf = true) (hk : pickI what 6 = 0) (h : Pair B w p q l now F G) (hi : i < l.length) (hbl : l[i].blocked = true) :
    Calls Try.prog 37 #[.pointer (some ⟨p, 0, none⟩), .pointer (some ⟨q, 0, none⟩), deedAgg what (i : Int) n] w (PP B w p q F G l now) := by
  have hl : 0 < l.length := by omega
  have HP := Aside0.mk h
  have hpick := Aside0.mk (fun w => by have := pick_calls w what 6 hw (by omega) (by omega); rwa [hk] at this)
  have hb1 : Below w.heap.size w (w.alloc (deedBox what (i : Int) n)) := below_alloc (Below.refl _ _) _
  have H1 := Aside0.mk (h.later hb1)
  obtain ⟨g, c, hlc, hGq, hGg, hqg, -, mr, mh0, -⟩ := h.m.open_ hl (by decide)
  have q1 : q < w.heap.size := World.block_lt_of_cell? w _ mh0
  have qne : q ≠ w.heap.size := by omega
  have hgq := Ne.symm hqg
  obtain ⟨d0, d1, d2, d3, mf, -⟩ := park_cells mr i hi
  have mf1 := mf 1
  have g1 : g < w.heap.size := World.block_lt_of_cell? w _ d0
  have gne : g ≠ w.heap.size := by omega
  have hi' : (i : Int) < l.length := by omega
  have hi0 : (0 : Int) ≤ (i : Int) := by omega
  have HB1 := Aside0.mk hb1
  have c1 : (w.alloc (deedBox what (i : Int) n)).cell? ⟨w.heap.size, 1, none⟩ = some (.int .i64 (i : Int)) := by rw [World.cell?_alloc_new]; rfl
  unfold deedAgg
  clear h hb1 hk
  have HC := Aside0.mk (fun w h => parks_blocked what n i B w p q l now F G h hi hbl)
  clear hbl
  go_enter Try.func37, Try.ntmps37
  go_wp2_with fail
  go_quiet (fail)
  go_wp2_with fail
  refine (hpick.out _).mono ?_; rintro e w1 ⟨rfl, rfl⟩
  go_wp2_with fail
  refine (HC.out _ (H1.out.later (pw_below_drewN (Below.refl _ _) _))).mono ?_; rintro e w2 ⟨rfl, h2p⟩
  go_wp2
  go_ret
  exact ⟨rfl, h2p.1, (((Upd.refl _ w).alloc _).drewN _).trans h2p.2 (fun _ hk => .inl hk)⟩

set_option maxRecDepth 100000 in
theorem one_park_low (what n : Int) (i : Nat) (B : Nat) (w : World) (p q : Nat) (l : List Park) (now : Int) (F G : Nat → Prop) (hw : (Lit.int .i64 what).wf = true) (hk : pickI what 6 = 0) (h : Pair B w p q l now F G) (hi : i < l.length) (hbl : l[i].blocked = false) (hn : n < -1) :
    Calls Try.prog 37 #[.pointer (some ⟨p, 0, none⟩), .pointer (some ⟨q, 0, none⟩), deedAgg what (i : Int) n] w (PP B w p q F G l now) := by
  have hl : 0 < l.length := by omega
  have HP := Aside0.mk h
  have hpick := Aside0.mk (fun w => by have := pick_calls w what 6 hw (by omega) (by omega); rwa [hk] at this)
  have hb1 : Below w.heap.size w (w.alloc (deedBox what (i : Int) n)) := below_alloc (Below.refl _ _) _
  have H1 := Aside0.mk (h.later hb1)
  obtain ⟨g, c, hlc, hGq, hGg, hqg, -, mr, mh0, -⟩ := h.m.open_ hl (by decide)
  have q1 : q < w.heap.size := World.block_lt_of_cell? w _ mh0
  have qne : q ≠ w.heap.size := by omega
  have hgq := Ne.symm hqg
  obtain ⟨d0, d1, d2, d3, mf, -⟩ := park_cells mr i hi
  have mf1 := mf 1
  have g1 : g < w.heap.size := World.block_lt_of_cell? w _ d0
  have gne : g ≠ w.heap.size := by omega
  have hi' : (i : Int) < l.length := by omega
  have hi0 : (0 : Int) ≤ (i : Int) := by omega
  have HB1 := Aside0.mk hb1
  have c1 : (w.alloc (deedBox what (i : Int) n)).cell? ⟨w.heap.size, 1, none⟩ = some (.int .i64 (i : Int)) := by rw [World.cell?_alloc_new]; rfl
  unfold deedAgg
  clear h hb1 hk
  have HC := Aside0.mk (fun w h => parks_low what n i B w p q l now F G h hi hbl hn)
  clear hbl hn
  go_enter Try.func37, Try.ntmps37
  go_wp2_with fail
  go_quiet (fail)
  go_wp2_with fail
  refine (hpick.out _).mono ?_; rintro e w1 ⟨rfl, rfl⟩
  go_wp2_with fail
  refine (HC.out _ (H1.out.later (pw_below_drewN (Below.refl _ _) _))).mono ?_; rintro e w2 ⟨rfl, h2p⟩
  go_wp2
  go_ret
  exact ⟨rfl, h2p.1, (((Upd.refl _ w).alloc _).drewN _).trans h2p.2 (fun _ hk => .inl hk)⟩

set_option maxRecDepth 100000 in
theorem one_park_flag (what n : Int) (i : Nat) (B : Nat) (w : World) (p q : Nat) (l : List Park) (now : Int) (F G : Nat → Prop) (hw : (Lit.int .i64 what).wf = true) (hk : pickI what 6 = 0) (h : Pair B w p q l now F G) (hi : i < l.length) (hbl : l[i].blocked = false) (hn : -1 ≤ n) (hp : l[i].permit = false) (hf : l[i].flag = true) :
    Calls Try.prog 37 #[.pointer (some ⟨p, 0, none⟩), .pointer (some ⟨q, 0, none⟩), deedAgg what (i : Int) n] w (PP B w p q F G l now) := by
  have hl : 0 < l.length := by omega
  have HP := Aside0.mk h
  have hpick := Aside0.mk (fun w => by have := pick_calls w what 6 hw (by omega) (by omega); rwa [hk] at this)
  have hb1 : Below w.heap.size w (w.alloc (deedBox what (i : Int) n)) := below_alloc (Below.refl _ _) _
  have H1 := Aside0.mk (h.later hb1)
  obtain ⟨g, c, hlc, hGq, hGg, hqg, -, mr, mh0, -⟩ := h.m.open_ hl (by decide)
  have q1 : q < w.heap.size := World.block_lt_of_cell? w _ mh0
  have qne : q ≠ w.heap.size := by omega
  have hgq := Ne.symm hqg
  obtain ⟨d0, d1, d2, d3, mf, -⟩ := park_cells mr i hi
  have mf1 := mf 1
  have g1 : g < w.heap.size := World.block_lt_of_cell? w _ d0
  have gne : g ≠ w.heap.size := by omega
  have hi' : (i : Int) < l.length := by omega
  have hi0 : (0 : Int) ≤ (i : Int) := by omega
  have HB1 := Aside0.mk hb1
  have c1 : (w.alloc (deedBox what (i : Int) n)).cell? ⟨w.heap.size, 1, none⟩ = some (.int .i64 (i : Int)) := by rw [World.cell?_alloc_new]; rfl
  unfold deedAgg
  clear h hb1 hk
  have HC := Aside0.mk (fun w h => parks_flag what n i B w p q l now F G h hi hbl hn hp hf)
  clear hbl hn hp hf
  go_enter Try.func37, Try.ntmps37
  go_wp2_with fail
  go_quiet (fail)
  go_wp2_with fail
  refine (hpick.out _).mono ?_; rintro e w1 ⟨rfl, rfl⟩
  go_wp2_with fail
  refine (HC.out _ (H1.out.later (pw_below_drewN (Below.refl _ _) _))).mono ?_; rintro e w2 ⟨rfl, h2p⟩
  go_wp2
  go_ret
  exact ⟨rfl, h2p.1, (((Upd.refl _ w).alloc _).drewN _).trans h2p.2 (fun _ hk => .inl hk)⟩

set_option maxRecDepth 100000 in
theorem one_park_due (what n : Int) (i : Nat) (B : Nat) (w : World) (p q : Nat) (l : List Park) (now : Int) (F G : Nat → Prop) (hw : (Lit.int .i64 what).wf = true) (hk : pickI what 6 = 0) (h : Pair B w p q l now F G) (hi : i < l.length) (hbl : l[i].blocked = false) (hn : 0 ≤ n) (hp : l[i].permit = false) (hf : l[i].flag = false) (hd : n ≤ now) :
    Calls Try.prog 37 #[.pointer (some ⟨p, 0, none⟩), .pointer (some ⟨q, 0, none⟩), deedAgg what (i : Int) n] w (PP B w p q F G l now) := by
  have hl : 0 < l.length := by omega
  have HP := Aside0.mk h
  have hpick := Aside0.mk (fun w => by have := pick_calls w what 6 hw (by omega) (by omega); rwa [hk] at this)
  have hb1 : Below w.heap.size w (w.alloc (deedBox what (i : Int) n)) := below_alloc (Below.refl _ _) _
  have H1 := Aside0.mk (h.later hb1)
  obtain ⟨g, c, hlc, hGq, hGg, hqg, -, mr, mh0, -⟩ := h.m.open_ hl (by decide)
  have q1 : q < w.heap.size := World.block_lt_of_cell? w _ mh0
  have qne : q ≠ w.heap.size := by omega
  have hgq := Ne.symm hqg
  obtain ⟨d0, d1, d2, d3, mf, -⟩ := park_cells mr i hi
  have mf1 := mf 1
  have g1 : g < w.heap.size := World.block_lt_of_cell? w _ d0
  have gne : g ≠ w.heap.size := by omega
  have hi' : (i : Int) < l.length := by omega
  have hi0 : (0 : Int) ≤ (i : Int) := by omega
  have HB1 := Aside0.mk hb1
  have c1 : (w.alloc (deedBox what (i : Int) n)).cell? ⟨w.heap.size, 1, none⟩ = some (.int .i64 (i : Int)) := by rw [World.cell?_alloc_new]; rfl
  unfold deedAgg
  clear h hb1 hk
  have HC := Aside0.mk (fun w h => parks_due what n i B w p q l now F G h hi hbl hn hp hf hd)
  clear hbl hn hp hf hd
  go_enter Try.func37, Try.ntmps37
  go_wp2_with fail
  go_quiet (fail)
  go_wp2_with fail
  refine (hpick.out _).mono ?_; rintro e w1 ⟨rfl, rfl⟩
  go_wp2_with fail
  refine (HC.out _ (H1.out.later (pw_below_drewN (Below.refl _ _) _))).mono ?_; rintro e w2 ⟨rfl, h2p⟩
  go_wp2
  go_ret
  exact ⟨rfl, h2p.1, (((Upd.refl _ w).alloc _).drewN _).trans h2p.2 (fun _ hk => .inl hk)⟩

set_option maxRecDepth 100000 in
theorem one_park_permit (what n : Int) (i : Nat) (B : Nat) (w : World) (p q : Nat) (l : List Park) (now : Int) (F G : Nat → Prop) (hw : (Lit.int .i64 what).wf = true) (hk : pickI what 6 = 0) (h : Pair B w p q l now F G) (hi : i < l.length) (hbl : l[i].blocked = false) (hn : -1 ≤ n) (hp : l[i].permit = true) :
    Calls Try.prog 37 #[.pointer (some ⟨p, 0, none⟩), .pointer (some ⟨q, 0, none⟩), deedAgg what (i : Int) n] w (PP B w p q F G (l.set i { l[i] with permit := false }) now) := by
  have hl : 0 < l.length := by omega
  have HP := Aside0.mk h
  have hpick := Aside0.mk (fun w => by have := pick_calls w what 6 hw (by omega) (by omega); rwa [hk] at this)
  have hb1 : Below w.heap.size w (w.alloc (deedBox what (i : Int) n)) := below_alloc (Below.refl _ _) _
  have H1 := Aside0.mk (h.later hb1)
  obtain ⟨g, c, hlc, hGq, hGg, hqg, -, mr, mh0, -⟩ := h.m.open_ hl (by decide)
  have q1 : q < w.heap.size := World.block_lt_of_cell? w _ mh0
  have qne : q ≠ w.heap.size := by omega
  have hgq := Ne.symm hqg
  obtain ⟨d0, d1, d2, d3, mf, -⟩ := park_cells mr i hi
  have mf1 := mf 1
  have g1 : g < w.heap.size := World.block_lt_of_cell? w _ d0
  have gne : g ≠ w.heap.size := by omega
  have hi' : (i : Int) < l.length := by omega
  have hi0 : (0 : Int) ≤ (i : Int) := by omega
  have HB1 := Aside0.mk hb1
  have c1 : (w.alloc (deedBox what (i : Int) n)).cell? ⟨w.heap.size, 1, none⟩ = some (.int .i64 (i : Int)) := by rw [World.cell?_alloc_new]; rfl
  unfold deedAgg
  clear h hb1 hk
  have HC := Aside0.mk (fun w h => parks_permit what n i B w p q l now F G h hi hbl hn hp)
  clear hbl hn hp
  go_enter Try.func37, Try.ntmps37
  go_wp2_with fail
  go_quiet (fail)
  go_wp2_with fail
  refine (hpick.out _).mono ?_; rintro e w1 ⟨rfl, rfl⟩
  go_wp2_with fail
  refine (HC.out _ (H1.out.later (pw_below_drewN (Below.refl _ _) _))).mono ?_; rintro e w2 ⟨rfl, h2p⟩
  go_wp2
  go_ret
  exact ⟨rfl, h2p.1, (((Upd.refl _ w).alloc _).drewN _).trans h2p.2 (fun _ hk => .inl hk)⟩

set_option maxRecDepth 100000 in
theorem one_park_blocks (what n : Int) (i : Nat) (B : Nat) (w : World) (p q : Nat) (l : List Park) (now : Int) (F G : Nat → Prop) (hw : (Lit.int .i64 what).wf = true) (hk : pickI what 6 = 0) (h : Pair B w p q l now F G) (hi : i < l.length) (hbl : l[i].blocked = false) (hn : -1 ≤ n) (hp : l[i].permit = false) (hf : l[i].flag = false) (hd : ¬ (0 ≤ n ∧ n ≤ now)) :
    Calls Try.prog 37 #[.pointer (some ⟨p, 0, none⟩), .pointer (some ⟨q, 0, none⟩), deedAgg what (i : Int) n] w (PP B w p q F G (l.set i { l[i] with blocked := true, deadline := n }) now) := by
  have hl : 0 < l.length := by omega
  have HP := Aside0.mk h
  have hpick := Aside0.mk (fun w => by have := pick_calls w what 6 hw (by omega) (by omega); rwa [hk] at this)
  have hb1 : Below w.heap.size w (w.alloc (deedBox what (i : Int) n)) := below_alloc (Below.refl _ _) _
  have H1 := Aside0.mk (h.later hb1)
  obtain ⟨g, c, hlc, hGq, hGg, hqg, -, mr, mh0, -⟩ := h.m.open_ hl (by decide)
  have q1 : q < w.heap.size := World.block_lt_of_cell? w _ mh0
  have qne : q ≠ w.heap.size := by omega
  have hgq := Ne.symm hqg
  obtain ⟨d0, d1, d2, d3, mf, -⟩ := park_cells mr i hi
  have mf1 := mf 1
  have g1 : g < w.heap.size := World.block_lt_of_cell? w _ d0
  have gne : g ≠ w.heap.size := by omega
  have hi' : (i : Int) < l.length := by omega
  have hi0 : (0 : Int) ≤ (i : Int) := by omega
  have HB1 := Aside0.mk hb1
  have c1 : (w.alloc (deedBox what (i : Int) n)).cell? ⟨w.heap.size, 1, none⟩ = some (.int .i64 (i : Int)) := by rw [World.cell?_alloc_new]; rfl
  unfold deedAgg
  clear h hb1 hk
  have HC := Aside0.mk (fun w h => parks_blocks what n i B w p q l now F G h hi hbl hn hp hf hd)
  clear hbl hn hp hf hd
  go_enter Try.func37, Try.ntmps37
  go_wp2_with fail
  go_quiet (fail)
  go_wp2_with fail
  refine (hpick.out _).mono ?_; rintro e w1 ⟨rfl, rfl⟩
  go_wp2_with fail
  refine (HC.out _ (H1.out.later (pw_below_drewN (Below.refl _ _) _))).mono ?_; rintro e w2 ⟨rfl, h2p⟩
  go_wp2
  go_ret
  exact ⟨rfl, h2p.1, (((Upd.refl _ w).alloc _).drewN _).trans h2p.2 (fun _ hk => .inl hk)⟩

set_option maxRecDepth 100000 in
theorem one_tick_bad (what i n : Int) (B : Nat) (w : World) (p q : Nat) (l : List Park) (now : Int) (F G : Nat → Prop) (hw : (Lit.int .i64 what).wf = true) (hk : pickI what 6 = 5) (h : Pair B w p q l now F G) (hl : 0 < l.length) (hn : n < 0) :
    Calls Try.prog 37 #[.pointer (some ⟨p, 0, none⟩), .pointer (some ⟨q, 0, none⟩), deedAgg what i n] w (PP B w p q F G l now) := by
  have HP := Aside0.mk h
  have hpick := Aside0.mk (fun w => by have := pick_calls w what 6 hw (by omega) (by omega); rwa [hk] at this)
  have hb1 : Below w.heap.size w (w.alloc (deedBox what i n)) := below_alloc (Below.refl _ _) _
  have H1 := Aside0.mk (h.later hb1)
  obtain ⟨g, c, hlc, hGq, hGg, hqg, -, mr, mh0, -⟩ := h.m.open_ hl (by decide)
  have q1 : q < w.heap.size := World.block_lt_of_cell? w _ mh0
  have qne : q ≠ w.heap.size := by omega
  have hgq := Ne.symm hqg
  have HB1 := Aside0.mk hb1
  have c1 : (w.alloc (deedBox what i n)).cell? ⟨w.heap.size, 1, none⟩ = some (.int .i64 i) := by rw [World.cell?_alloc_new]; rfl
  unfold deedAgg
  clear h hb1 hk
  obtain ⟨b, hb⟩ : ∃ b, decide (0 ≤ i) = b := ⟨_, rfl⟩
  cases b
  · go_enter Try.func37, Try.ntmps37
    go_wp2_with fail
    go_quiet (fail)
    go_wp2_with fail
    refine (hpick.out _).mono ?_; rintro e w1 ⟨rfl, rfl⟩
    go_wp2_with fail
    refine (tick_bad _ p F l now n (H1.out.t.drewN _) hl hn).mono ?_; rintro e w2 ⟨rfl, rfl⟩
    go_wp2
    go_ret
    exact PP.same HP.out (pw_below_drewN HB1.out _)
  · go_enter Try.func37, Try.ntmps37
    go_wp2_with fail
    go_quiet (fail)
    go_wp2_with fail
    refine (hpick.out _).mono ?_; rintro e w1 ⟨rfl, rfl⟩
    go_wp2_with fail
    refine (tick_bad _ p F l now n (H1.out.t.drewN _) hl hn).mono ?_; rintro e w2 ⟨rfl, rfl⟩
    go_wp2
    go_ret
    exact PP.same HP.out (pw_below_drewN HB1.out _)

set_option maxRecDepth 100000 in
theorem one_tick (what i n : Int) (B : Nat) (w : World) (p q : Nat) (l : List Park) (now : Int) (F G : Nat → Prop) (hw : (Lit.int .i64 what).wf = true) (hk : pickI what 6 = 5) (h : Pair B w p q l now F G) (hl : 0 < l.length) (hn : 0 ≤ n) (hn2 : n ≤ 9223372036854775807) (h0 : 0 ≤ now) (h1 : now ≤ 9223372036854775807) (hl2 : l.length ≤ 8) :
    Calls Try.prog 37 #[.pointer (some ⟨p, 0, none⟩), .pointer (some ⟨q, 0, none⟩), deedAgg what i n] w (PP B w p q F G (l.map (Park.tick (later now n))) (later now n)) := by
  have HP := Aside0.mk h
  have hpick := Aside0.mk (fun w => by have := pick_calls w what 6 hw (by omega) (by omega); rwa [hk] at this)
  have hb1 : Below w.heap.size w (w.alloc (deedBox what i n)) := below_alloc (Below.refl _ _) _
  have H1 := Aside0.mk (h.later hb1)
  obtain ⟨g, c, hlc, hGq, hGg, hqg, -, mr, mh0, -⟩ := h.m.open_ hl (by decide)
  have q1 : q < w.heap.size := World.block_lt_of_cell? w _ mh0
  have qne : q ≠ w.heap.size := by omega
  have hgq := Ne.symm hqg
  have HB1 := Aside0.mk hb1
  have c1 : (w.alloc (deedBox what i n)).cell? ⟨w.heap.size, 1, none⟩ = some (.int .i64 i) := by rw [World.cell?_alloc_new]; rfl
  unfold deedAgg
  clear h hb1 hk
  obtain ⟨b, hb⟩ : ∃ b, decide (0 ≤ i) = b := ⟨_, rfl⟩
  cases b
  · go_enter Try.func37, Try.ntmps37
    go_wp2_with fail
    go_quiet (fail)
    go_wp2_with fail
    refine (hpick.out _).mono ?_; rintro e w1 ⟨rfl, rfl⟩
    go_wp2_with fail
    refine (tick_good _ p F l now n (H1.out.t.drewN _) hl (by omega) hn hn2 h0 h1).mono ?_; rintro e w2 ⟨rfl, ht2, hu2⟩
    have b2 : w2.heap[w.heap.size]? = some (deedBox what i n) := hu2.blk (blk_drewN (blk_new w _) _) (fun hf => by have := (HP.out.lowF _ hf).2; omega)
    have c1 := blk_cell b2 1
    have c2 := blk_cell b2 2
    simp at c1 c2
    have hu2' : Upd F w w2 := (((Upd.refl F w).alloc (deedBox what i n)).drewN _).trans hu2 (fun _ h => .inl h)
    have hm2 : TableIn RT G w2 q l now := HP.out.m.upd hu2' (fun k hk hf => HP.out.dis k hf hk)
    have HT2 := Aside0.mk ht2
    have HU2 := Aside0.mk hu2'
    have HM2 := Aside0.mk hm2
    clear b2 ht2 hu2 hu2' hm2 mh0
    go_wp2_with fail
    refine (rtick_good _ q G l now n HM2.out hl (by omega) hn hn2 h0 h1).mono ?_; rintro e w3 ⟨rfl, hm3, hv3⟩
    have HM3 := Aside0.mk hm3
    have HV3 := Aside0.mk hv3
    clear hm3 hv3
    go_wp2
    go_ret
    exact PP.both HP.out (Below.refl _ w) HT2.out HU2.out HM3.out HV3.out (Below.refl _ _)
  · go_enter Try.func37, Try.ntmps37
    go_wp2_with fail
    go_quiet (fail)
    go_wp2_with fail
    refine (hpick.out _).mono ?_; rintro e w1 ⟨rfl, rfl⟩
    go_wp2_with fail
    refine (tick_good _ p F l now n (H1.out.t.drewN _) hl (by omega) hn hn2 h0 h1).mono ?_; rintro e w2 ⟨rfl, ht2, hu2⟩
    have b2 : w2.heap[w.heap.size]? = some (deedBox what i n) := hu2.blk (blk_drewN (blk_new w _) _) (fun hf => by have := (HP.out.lowF _ hf).2; omega)
    have c1 := blk_cell b2 1
    have c2 := blk_cell b2 2
    simp at c1 c2
    have hu2' : Upd F w w2 := (((Upd.refl F w).alloc (deedBox what i n)).drewN _).trans hu2 (fun _ h => .inl h)
    have hm2 : TableIn RT G w2 q l now := HP.out.m.upd hu2' (fun k hk hf => HP.out.dis k hf hk)
    have HT2 := Aside0.mk ht2
    have HU2 := Aside0.mk hu2'
    have HM2 := Aside0.mk hm2
    clear b2 ht2 hu2 hu2' hm2 mh0
    go_wp2_with fail
    refine (rtick_good _ q G l now n HM2.out hl (by omega) hn hn2 h0 h1).mono ?_; rintro e w3 ⟨rfl, hm3, hv3⟩
    have HM3 := Aside0.mk hm3
    have HV3 := Aside0.mk hv3
    clear hm3 hv3
    go_wp2
    go_ret
    exact PP.both HP.out (Below.refl _ w) HT2.out HU2.out HM3.out HV3.out (Below.refl _ _)
end Go.Proofs.Ythehmmcloimpmaa.Permit
