import Derived.Test.YthehmmcloimpmaaClock
set_option linter.unusedVariables false
set_option linter.unusedSimpArgs false
namespace Go.Proofs.Ythehmmcloimpmaa.Permit
open Go.RowKit Go.Proofs.YthehmmcloimpmaaW.PrintWords Go.Proofs.Ythehmmcloimpmaa.Base Go.Proofs.Ythehmmcloimpmaa.Clock

/-- How a thread stands. -/
@[ext] structure Park where
  permit : Bool
  flag : Bool
  blocked : Bool
  deadline : Int
  deriving DecidableEq
def Park.cells (x : Park) : List Value := [.bool x.permit, .bool x.flag, .bool x.blocked, .int .i64 x.deadline]
theorem Park.len (x : Park) : x.cells.length = 4 := rfl
theorem Park.one (x : Park) : ∀ u ∈ x.cells, u.oneCell' = true := by simp [Park.cells, Value.oneCell']
def Park.zero : Park := ⟨false, false, false, 0⟩

/-- A table of threads (its struct is of type T) in the blocks F. -/
structure TableAt (T : TypeId) (w : World) (p : Nat) (v : Value) (l : List Park) (now : Int) : Prop where
  blk : w.heap[p]? = some (.cells #[v, .int .i64 now] T (0, 0))
  row : w.ownsRow 0 71 4 v l.length (flat Park.cells l)
def TableIn (T : TypeId) (F : Nat → Prop) (w : World) (p : Nat) (l : List Park) (now : Int) : Prop := ∃ v, TableAt T w p v l now ∧ F p ∧ ∀ k, v.ownBlock = some k → F k
section
variable {T : TypeId} {F G : Nat → Prop} {w w' : World} {p : Nat} {l : List Park} {now : Int}
theorem TableIn.mono (h : TableIn T F w p l now) (hG : ∀ k, F k → G k) : TableIn T G w p l now := by
  obtain ⟨v, a, b, c⟩ := h
  exact ⟨v, a, hG _ b, fun k hk => hG _ (c k hk)⟩
theorem TableIn.upd (h : TableIn T F w p l now) (hu : Upd G w w') (hd : ∀ k, F k → ¬ G k) : TableIn T F w' p l now := by
  obtain ⟨v, ⟨a, b⟩, hp, hv⟩ := h
  exact ⟨v, ⟨hu.blk a (hd _ hp), hu.own b (fun k hk => hd _ (hv k hk))⟩, hp, hv⟩
theorem TableIn.lt (h : TableIn T F w p l now) : TableIn T (fun k => F k ∧ k < w.heap.size) w p l now := by
  obtain ⟨v, ⟨a, b⟩, hp, hv⟩ := h
  exact ⟨v, ⟨a, b⟩, ⟨hp, blk_lt a⟩, fun k hk => ⟨hv k hk, own_lt b k hk⟩⟩
theorem TableIn.below (h : TableIn T F w p l now) (hb : Below w.heap.size w w') : TableIn T F w' p l now := h.upd (G := fun _ => False) (Upd.of_below hb) (fun _ _ h => h)
theorem TableIn.drewN (h : TableIn T F w p l now) (n : Nat) : TableIn T F (w.drewN n) p l now := h.below (pw_below_drewN (Below.refl _ _) n)
theorem TableIn.open_ (h : TableIn T F w p l now) (hl : 0 < l.length) (hT : 71 ≠ T) : ∃ g c, l.length ≤ c ∧ F p ∧ F g ∧ p ≠ g ∧ w.heap[p]? = some (.cells #[.slice (some ⟨g, 0, none⟩) l.length c, .int .i64 now] T (0, 0)) ∧ w.ownsRow 0 71 4 (.slice (some ⟨g, 0, none⟩) l.length c) l.length (flat Park.cells l) ∧
    w.cell? ⟨p, 0, none⟩ = some (.slice (some ⟨g, 0, none⟩) l.length c) ∧ w.cell? ⟨p, 1, none⟩ = some (.int .i64 now) ∧ w.frozen? ⟨p, 0, none⟩ = false ∧ w.frozen? ⟨p, 1, none⟩ = false := by
  obtain ⟨v, ⟨hb, hr⟩, hF, hG⟩ := h
  have hne := own_ne hr hb hT
  obtain ⟨g, c, rfl, -, -⟩ := hr.form hl
  exact ⟨g, c, own_cap hr, hF, hG g rfl, fun e => hne (by rw [e]; rfl), hb, hr, by simpa using blk_cell hb 0, by simpa using blk_cell hb 1, blk_frozen hb 0, blk_frozen hb 1⟩
theorem TableIn.put {g c i j : Nat} (hb : w.heap[p]? = some (.cells #[.slice (some ⟨g, 0, none⟩) l.length c, .int .i64 now] T (0, 0))) (hr : w.ownsRow 0 71 4 (.slice (some ⟨g, 0, none⟩) l.length c) l.length (flat Park.cells l)) (hne : p ≠ g)
    (hi : i < l.length) (hj : j < 4) (x : Park) (v : Value) (he : x.cells = (l[i].cells).set j v) :
    (w.setCell ⟨g, i * 4 + j, none⟩ v).heap[p]? = some (.cells #[.slice (some ⟨g, 0, none⟩) (l.set i x).length c, .int .i64 now] T (0, 0)) ∧ (w.setCell ⟨g, i * 4 + j, none⟩ v).ownsRow 0 71 4 (.slice (some ⟨g, 0, none⟩) (l.set i x).length c) (l.set i x).length (flat Park.cells (l.set i x)) :=
  ⟨by rw [List.length_set]; exact blk_far hb hne _, by rw [List.length_set]; exact flat_store Park.len hr i j hi hj x v he⟩
theorem TableIn.put1 {g c i j : Nat} (hb : w.heap[p]? = some (.cells #[.slice (some ⟨g, 0, none⟩) l.length c, .int .i64 now] T (0, 0))) (hr : w.ownsRow 0 71 4 (.slice (some ⟨g, 0, none⟩) l.length c) l.length (flat Park.cells l)) (hne : p ≠ g) (hp : F p) (hg : F g)
    (hi : i < l.length) (hj : j < 4) (x : Park) (v : Value) (he : x.cells = (l[i].cells).set j v) (n : Nat) : TableIn T F ((w.setCell ⟨g, i * 4 + j, none⟩ v).drewN n) p (l.set i x) now ∧ Upd F w ((w.setCell ⟨g, i * 4 + j, none⟩ v).drewN n) := by
  obtain ⟨b1, r1⟩ := TableIn.put hb hr hne hi hj x v he
  refine ⟨?_, ((Upd.refl F w).setCell (.inl hg) _).drewN n⟩
  exact ⟨_, ⟨b1, r1⟩, hp, fun k hk => by simp [Value.ownBlock] at hk; exact hk ▸ hg⟩
theorem TableIn.put2 {g c i j j' : Nat} (hb : w.heap[p]? = some (.cells #[.slice (some ⟨g, 0, none⟩) l.length c, .int .i64 now] T (0, 0))) (hr : w.ownsRow 0 71 4 (.slice (some ⟨g, 0, none⟩) l.length c) l.length (flat Park.cells l)) (hne : p ≠ g) (hp : F p) (hg : F g)
    (hi : i < l.length) (hj : j < 4) (hj' : j' < 4) (x y : Park) (v u : Value) (he : x.cells = (l[i].cells).set j v) (he' : y.cells = x.cells.set j' u) (n : Nat) :
    TableIn T F (((w.setCell ⟨g, i * 4 + j, none⟩ v).setCell ⟨g, i * 4 + j', none⟩ u).drewN n) p (l.set i y) now ∧ Upd F w (((w.setCell ⟨g, i * 4 + j, none⟩ v).setCell ⟨g, i * 4 + j', none⟩ u).drewN n) := by
  obtain ⟨b1, r1⟩ := TableIn.put hb hr hne hi hj x v he
  obtain ⟨b2, r2⟩ := TableIn.put b1 r1 hne (i := i) (by rw [List.length_set]; exact hi) hj' y u (by rw [List.getElem_set_self]; exact he')
  rw [List.set_set] at b2 r2
  refine ⟨?_, (((Upd.refl F w).setCell (.inl hg) _).setCell (.inl hg) _).drewN n⟩
  exact ⟨_, ⟨b2, r2⟩, hp, fun k hk => by simp [Value.ownBlock] at hk; exact hk ▸ hg⟩
theorem TableIn.shut {g c : Nat} (hb : w.heap[p]? = some (.cells #[.slice (some ⟨g, 0, none⟩) l.length c, .int .i64 now] T (0, 0))) (hr : w.ownsRow 0 71 4 (.slice (some ⟨g, 0, none⟩) l.length c) l.length (flat Park.cells l)) (hp : F p) (hg : F g) : TableIn T F w p l now :=
  ⟨_, ⟨hb, hr⟩, hp, fun k hk => by simp [Value.ownBlock] at hk; exact hk ▸ hg⟩
end
/-- A thread's cells in a table's row. -/
theorem park_cells {w : World} {g n c : Nat} {l : List Park} (h : w.ownsRow 0 71 4 (.slice (some ⟨g, 0, none⟩) n c) n (flat Park.cells l)) (i : Nat) (hi : i < l.length) :
    w.cell? ⟨g, i * 4, none⟩ = some (.bool l[i].permit) ∧ w.cell? ⟨g, i * 4 + 1, none⟩ = some (.bool l[i].flag) ∧ w.cell? ⟨g, i * 4 + 2, none⟩ = some (.bool l[i].blocked) ∧ w.cell? ⟨g, i * 4 + 3, none⟩ = some (.int .i64 l[i].deadline) ∧
    (∀ j, w.frozen? ⟨g, i * 4 + j, none⟩ = false) ∧ w.frozen? ⟨g, i * 4, none⟩ = false := by
  refine ⟨(flat_cell Park.len h i 0 hi (by omega) rfl).1, (flat_cell Park.len h i 1 hi (by omega) rfl).1, (flat_cell Park.len h i 2 hi (by omega) rfl).1, (flat_cell Park.len h i 3 hi (by omega) rfl).1, fun j => ?_, (flat_cell Park.len h i 0 hi (by omega) rfl).2⟩
  rcases h.2 with ⟨h', _⟩ | ⟨g', cap', cur, h', _, hh, _⟩
  · cases h'
  · have : g = g' := by injection h' with h'; injection h' with h'; injection h' with h'
    subst this
    simp [World.frozen?, hh]

abbrev PT : TypeId := 84
def Park.on (x : Park) : Park := { x with blocked := false, deadline := 0 }

theorem has_calls (w : World) (p : Nat) (F : Nat → Prop) (l : List Park) (now i : Int) (b : Bool) (hb : (0 ≤ i ∧ i < l.length) ↔ b = true) (h : TableIn PT F w p l now) (hl : 0 < l.length) :
    Calls Try.prog 44 #[.pointer (some ⟨p, 0, none⟩), .int .i64 i] w fun e w' => e = .returned (.bool b) ∧ w = w' := by
  have hb' : (decide (0 ≤ i) && decide (i < l.length)) = b := by cases b <;> simp_all
  subst hb'
  clear hb
  obtain ⟨g, c, -, -, -, -, -, -, h0, -⟩ := h.open_ hl (by decide)
  clear h
  go_enter Try.func44, Try.ntmps44
  go_wp2
  all_goals
    go_ret
    exact ⟨by simp [*]; try omega, rfl⟩

theorem on_exact (w : World) (p g c : Nat) (l : List Park) (now : Int) (i : Nat) (hi : i < l.length) (hb : w.heap[p]? = some (.cells #[.slice (some ⟨g, 0, none⟩) l.length c, .int .i64 now] PT (0, 0))) (hr : w.ownsRow 0 71 4 (.slice (some ⟨g, 0, none⟩) l.length c) l.length (flat Park.cells l)) (hne : p ≠ g) :
    Calls Try.prog 45 #[.pointer (some ⟨p, 0, none⟩), .int .i64 (i : Int)] w fun e w' => e = .returned (.tuple #[]) ∧ w' = ((w.setCell ⟨g, i * 4 + 2, none⟩ (.bool false)).setCell ⟨g, i * 4 + 3, none⟩ (.int .i64 0)).drewN 1 := by
  have h0 : w.cell? ⟨p, 0, none⟩ = some (.slice (some ⟨g, 0, none⟩) l.length c) := by simpa using blk_cell hb 0
  obtain ⟨c0, c1, c2, c3, ff, f00⟩ := park_cells hr i hi
  have f2 := ff 2
  have f3 := ff 3
  have hi' : (i : Int) < l.length := by omega
  have hi0 : (0 : Int) ≤ (i : Int) := by omega
  have hne' := Ne.symm hne
  clear hb hr ff
  go_enter Try.func45, Try.ntmps45
  go_wp2_with fail
  go_region_held3 (fun w' => w'.cell? ⟨p, 0, none⟩ = some (.slice (some ⟨g, 0, none⟩) l.length c)) (go_keep) (fail)
  go_wp2
  go_end0
  exact ⟨rfl, rfl⟩
theorem on_calls (w : World) (p : Nat) (F : Nat → Prop) (l : List Park) (now : Int) (i : Nat) (hi : i < l.length) (h : TableIn PT F w p l now) :
    Calls Try.prog 45 #[.pointer (some ⟨p, 0, none⟩), .int .i64 (i : Int)] w fun e w' => e = .returned (.tuple #[]) ∧ TableIn PT F w' p (l.set i l[i].on) now ∧ Upd F w w' := by
  obtain ⟨g, c, hlc, hF, hG, hne, hb, hr, h0, h1, f0, f1⟩ := h.open_ (by omega) (by decide)
  refine (on_exact w p g c l now i hi hb hr hne).mono fun e w' ⟨he, hw⟩ => ?_
  subst hw
  exact ⟨he, TableIn.put2 hb hr hne hF hG hi (by omega) (by omega) { l[i] with blocked := false } l[i].on _ _ rfl rfl 1⟩

theorem park_none (w : World) (p : Nat) (F : Nat → Prop) (l : List Park) (now i : Int) (d : Int) (hl : 0 < l.length) (hi : ¬ (0 ≤ i ∧ i < l.length)) (h : TableIn PT F w p l now) :
    Calls Try.prog 30 #[.pointer (some ⟨p, 0, none⟩), .int .i64 i, .int .i64 d] w fun e w' => e = .returned (.tuple #[.bool false, errC 4]) ∧ w = w' := by
  have hhas := Aside0.mk (fun w h => has_calls w p F l now i false (by simpa using hi) h hl)
  have HT := Aside0.mk h
  clear h hi
  go_enter Try.func30, Try.ntmps30
  go_wp2_with (go_at_call 44; refine (hhas.out _ HT.out).mono ?_; rintro e w' ⟨rfl, rfl⟩)
  go_ret2
  exact ⟨rfl, rfl⟩

theorem unpark_none (w : World) (p : Nat) (F : Nat → Prop) (l : List Park) (now i : Int) (hl : 0 < l.length) (hi : ¬ (0 ≤ i ∧ i < l.length)) (h : TableIn PT F w p l now) :
    Calls Try.prog 32 #[.pointer (some ⟨p, 0, none⟩), .int .i64 i] w fun e w' => e = .returned (errC 4) ∧ w = w' := by
  have hhas := Aside0.mk (fun w h => has_calls w p F l now i false (by simpa using hi) h hl)
  have HT := Aside0.mk h
  clear h hi
  go_enter Try.func32, Try.ntmps32
  go_wp2_with (go_at_call 44; refine (hhas.out _ HT.out).mono ?_; rintro e w' ⟨rfl, rfl⟩)
  go_ret
  exact ⟨rfl, rfl⟩

theorem interrupt_none (w : World) (p : Nat) (F : Nat → Prop) (l : List Park) (now i : Int) (hl : 0 < l.length) (hi : ¬ (0 ≤ i ∧ i < l.length)) (h : TableIn PT F w p l now) :
    Calls Try.prog 33 #[.pointer (some ⟨p, 0, none⟩), .int .i64 i] w fun e w' => e = .returned (errC 4) ∧ w = w' := by
  have hhas := Aside0.mk (fun w h => has_calls w p F l now i false (by simpa using hi) h hl)
  have HT := Aside0.mk h
  clear h hi
  go_enter Try.func33, Try.ntmps33
  go_wp2_with (go_at_call 44; refine (hhas.out _ HT.out).mono ?_; rintro e w' ⟨rfl, rfl⟩)
  go_ret
  exact ⟨rfl, rfl⟩

theorem clear_none (w : World) (p : Nat) (F : Nat → Prop) (l : List Park) (now i : Int) (hl : 0 < l.length) (hi : ¬ (0 ≤ i ∧ i < l.length)) (h : TableIn PT F w p l now) :
    Calls Try.prog 50 #[.pointer (some ⟨p, 0, none⟩), .int .i64 i] w fun e w' => e = .returned (.tuple #[.bool false, errC 4]) ∧ w = w' := by
  have hhas := Aside0.mk (fun w h => has_calls w p F l now i false (by simpa using hi) h hl)
  have HT := Aside0.mk h
  clear h hi
  go_enter Try.func50, Try.ntmps50
  go_wp2_with (go_at_call 44; refine (hhas.out _ HT.out).mono ?_; rintro e w' ⟨rfl, rfl⟩)
  go_ret2
  exact ⟨rfl, rfl⟩

theorem wake_none (w : World) (p : Nat) (F : Nat → Prop) (l : List Park) (now i : Int) (hl : 0 < l.length) (hi : ¬ (0 ≤ i ∧ i < l.length)) (h : TableIn PT F w p l now) :
    Calls Try.prog 34 #[.pointer (some ⟨p, 0, none⟩), .int .i64 i] w fun e w' => e = .returned (errC 4) ∧ w = w' := by
  have hhas := Aside0.mk (fun w h => has_calls w p F l now i false (by simpa using hi) h hl)
  have HT := Aside0.mk h
  clear h hi
  go_enter Try.func34, Try.ntmps34
  go_wp2_with (go_at_call 44; refine (hhas.out _ HT.out).mono ?_; rintro e w' ⟨rfl, rfl⟩)
  go_ret
  exact ⟨rfl, rfl⟩

theorem park_bad (w : World) (p : Nat) (F : Nat → Prop) (l : List Park) (now : Int) (i : Nat) (d : Int) (hi : i < l.length) (h : TableIn PT F w p l now) (hd : l[i].blocked = true ∨ d < -1) :
    Calls Try.prog 30 #[.pointer (some ⟨p, 0, none⟩), .int .i64 (i : Int), .int .i64 d] w fun e w' => e = .returned (.tuple #[.bool false, errC 1]) ∧ w = w' := by
  have hhas := Aside0.mk (fun w b hb h => has_calls w p F l now (i : Int) b hb h (by omega))
  have HT := Aside0.mk h
  obtain ⟨g, c, hlc, hF, hG, hne, hb, hr, h0, h1, f0, f1⟩ := h.open_ (by omega) (by decide)
  obtain ⟨c0, c1, c2, c3, ff, f00⟩ := park_cells hr i hi
  have ff1 := ff 1
  have f2 := ff 2
  have f3 := ff 3
  have hi' : (i : Int) < l.length := by omega
  have hi0 : (0 : Int) ≤ (i : Int) := by omega
  have hne' := Ne.symm hne
  have HB := Aside0.mk hb
  have HR := Aside0.mk hr
  clear hb hr ff h
  by_cases hbl : l[i].blocked = true
  · rw [hbl] at c2
    go_enter Try.func30, Try.ntmps30
    go_wp2_with (go_at_call 44; refine (hhas.out _ true (by simp; omega) HT.out).mono ?_; rintro e w' ⟨rfl, rfl⟩)
    go_ret2
    exact ⟨rfl, rfl⟩
  · have hbl' : l[i].blocked = false := by simpa using hbl
    have hd2 : d < -1 := by rcases hd with h | h; exact absurd h hbl; exact h
    rw [hbl'] at c2
    go_enter Try.func30, Try.ntmps30
    go_wp2_with (go_at_call 44; refine (hhas.out _ true (by simp; omega) HT.out).mono ?_; rintro e w' ⟨rfl, rfl⟩)
    go_ret2
    exact ⟨rfl, rfl⟩

theorem park_permit (w : World) (p : Nat) (F : Nat → Prop) (l : List Park) (now : Int) (i : Nat) (d : Int) (hi : i < l.length) (h : TableIn PT F w p l now) (hbl : l[i].blocked = false) (hd : -1 ≤ d) (hp : l[i].permit = true) :
    Calls Try.prog 30 #[.pointer (some ⟨p, 0, none⟩), .int .i64 (i : Int), .int .i64 d] w fun e w' => e = .returned (.tuple #[.bool false, .nilIface]) ∧ TableIn PT F w' p (l.set i { l[i] with permit := false }) now ∧ Upd F w w' := by
  have hhas := Aside0.mk (fun w b hb h => has_calls w p F l now (i : Int) b hb h (by omega))
  have HT := Aside0.mk h
  obtain ⟨g, c, hlc, hF, hG, hne, hb, hr, h0, h1, f0, f1⟩ := h.open_ (by omega) (by decide)
  obtain ⟨c0, c1, c2, c3, ff, f00⟩ := park_cells hr i hi
  have ff1 := ff 1
  have f2 := ff 2
  have f3 := ff 3
  have hi' : (i : Int) < l.length := by omega
  have hi0 : (0 : Int) ≤ (i : Int) := by omega
  have hne' := Ne.symm hne
  have HB := Aside0.mk hb
  have HR := Aside0.mk hr
  clear hb hr ff h
  rw [hbl] at c2
  rw [hp] at c0
  go_enter Try.func30, Try.ntmps30
  go_wp2_with (go_at_call 44; refine (hhas.out _ true (by simp; omega) HT.out).mono ?_; rintro e w' ⟨rfl, rfl⟩)
  go_ret2
  exact ⟨rfl, TableIn.put1 HB.out HR.out hne hF hG hi (j := 0) (by omega) { l[i] with permit := false } _ rfl 0⟩

theorem park_flag (w : World) (p : Nat) (F : Nat → Prop) (l : List Park) (now : Int) (i : Nat) (d : Int) (hi : i < l.length) (h : TableIn PT F w p l now) (hbl : l[i].blocked = false) (hd : -1 ≤ d) (hp : l[i].permit = false) (hf : l[i].flag = true) :
    Calls Try.prog 30 #[.pointer (some ⟨p, 0, none⟩), .int .i64 (i : Int), .int .i64 d] w fun e w' => e = .returned (.tuple #[.bool false, .nilIface]) ∧ w = w' := by
  have hhas := Aside0.mk (fun w b hb h => has_calls w p F l now (i : Int) b hb h (by omega))
  have HT := Aside0.mk h
  obtain ⟨g, c, hlc, hF, hG, hne, hb, hr, h0, h1, f0, f1⟩ := h.open_ (by omega) (by decide)
  obtain ⟨c0, c1, c2, c3, ff, f00⟩ := park_cells hr i hi
  have ff1 := ff 1
  have f2 := ff 2
  have f3 := ff 3
  have hi' : (i : Int) < l.length := by omega
  have hi0 : (0 : Int) ≤ (i : Int) := by omega
  have hne' := Ne.symm hne
  have HB := Aside0.mk hb
  have HR := Aside0.mk hr
  clear hb hr ff h
  rw [hbl] at c2
  rw [hp] at c0
  rw [hf] at c1
  go_enter Try.func30, Try.ntmps30
  go_wp2_with (go_at_call 44; refine (hhas.out _ true (by simp; omega) HT.out).mono ?_; rintro e w' ⟨rfl, rfl⟩)
  go_ret2
  exact ⟨rfl, rfl⟩

theorem park_due (w : World) (p : Nat) (F : Nat → Prop) (l : List Park) (now : Int) (i : Nat) (d : Int) (hi : i < l.length) (h : TableIn PT F w p l now) (hbl : l[i].blocked = false) (hd : 0 ≤ d) (hp : l[i].permit = false) (hf : l[i].flag = false) (hdue : d ≤ now) :
    Calls Try.prog 30 #[.pointer (some ⟨p, 0, none⟩), .int .i64 (i : Int), .int .i64 d] w fun e w' => e = .returned (.tuple #[.bool false, .nilIface]) ∧ w = w' := by
  have hhas := Aside0.mk (fun w b hb h => has_calls w p F l now (i : Int) b hb h (by omega))
  have HT := Aside0.mk h
  obtain ⟨g, c, hlc, hF, hG, hne, hb, hr, h0, h1, f0, f1⟩ := h.open_ (by omega) (by decide)
  obtain ⟨c0, c1, c2, c3, ff, f00⟩ := park_cells hr i hi
  have ff1 := ff 1
  have f2 := ff 2
  have f3 := ff 3
  have hi' : (i : Int) < l.length := by omega
  have hi0 : (0 : Int) ≤ (i : Int) := by omega
  have hne' := Ne.symm hne
  have HB := Aside0.mk hb
  have HR := Aside0.mk hr
  clear hb hr ff h
  rw [hbl] at c2
  rw [hp] at c0
  rw [hf] at c1
  go_enter Try.func30, Try.ntmps30
  go_wp2_with (first | (go_at_call 44; refine (hhas.out _ true (by simp; omega) HT.out).mono ?_; rintro e w' ⟨rfl, rfl⟩) | (go_at_call 17; refine (due_calls _ now d true (by simp; omega)).mono ?_; rintro e w' ⟨rfl, rfl⟩))
  go_ret2
  exact ⟨rfl, rfl⟩

theorem park_blocks (w : World) (p : Nat) (F : Nat → Prop) (l : List Park) (now : Int) (i : Nat) (d : Int) (hi : i < l.length) (h : TableIn PT F w p l now) (hbl : l[i].blocked = false) (hd : -1 ≤ d) (hp : l[i].permit = false) (hf : l[i].flag = false) (hdue : ¬ (0 ≤ d ∧ d ≤ now)) :
    Calls Try.prog 30 #[.pointer (some ⟨p, 0, none⟩), .int .i64 (i : Int), .int .i64 d] w fun e w' => e = .returned (.tuple #[.bool true, .nilIface]) ∧ TableIn PT F w' p (l.set i { l[i] with blocked := true, deadline := d }) now ∧ Upd F w w' := by
  have hhas := Aside0.mk (fun w b hb h => has_calls w p F l now (i : Int) b hb h (by omega))
  have HT := Aside0.mk h
  obtain ⟨g, c, hlc, hF, hG, hne, hb, hr, h0, h1, f0, f1⟩ := h.open_ (by omega) (by decide)
  obtain ⟨c0, c1, c2, c3, ff, f00⟩ := park_cells hr i hi
  have ff1 := ff 1
  have f2 := ff 2
  have f3 := ff 3
  have hi' : (i : Int) < l.length := by omega
  have hi0 : (0 : Int) ≤ (i : Int) := by omega
  have hne' := Ne.symm hne
  have HB := Aside0.mk hb
  have HR := Aside0.mk hr
  clear hb hr ff h
  rw [hbl] at c2
  rw [hp] at c0
  rw [hf] at c1
  have hdue' := Aside0.mk hdue
  clear hdue
  go_enter Try.func30, Try.ntmps30
  go_wp2_with (first | (go_at_call 44; refine (hhas.out _ true (by simp; omega) HT.out).mono ?_; rintro e w' ⟨rfl, rfl⟩) | (go_at_call 17; refine (due_calls _ now d false (by simpa using hdue'.out)).mono ?_; rintro e w' ⟨rfl, rfl⟩))
  go_region_held3 (fun w' => w'.cell? ⟨p, 0, none⟩ = some (.slice (some ⟨g, 0, none⟩) l.length c)) (go_keep) (fail)
  go_wp2
  go_ret2
  exact ⟨rfl, TableIn.put2 HB.out HR.out hne hF hG hi (by omega) (by omega) { l[i] with blocked := true } { l[i] with blocked := true, deadline := d } _ _ rfl rfl 1⟩


theorem wake_calls (w : World) (p : Nat) (F : Nat → Prop) (l : List Park) (now : Int) (i : Nat) (hi : i < l.length) (h : TableIn PT F w p l now) :
    Calls Try.prog 34 #[.pointer (some ⟨p, 0, none⟩), .int .i64 (i : Int)] w fun e w' => e = .returned .nilIface ∧ TableIn PT F w' p (l.set i l[i].on) now ∧ Upd F w w' := by
  have hhas := Aside0.mk (fun w b hb h => has_calls w p F l now (i : Int) b hb h (by omega))
  have HT := Aside0.mk h
  clear h
  go_enter Try.func34, Try.ntmps34
  go_wp2_with (first | (go_at_call 44; refine (hhas.out _ true (by simp; omega) HT.out).mono ?_; rintro e w' ⟨rfl, rfl⟩) | (go_at_call 45; refine (on_calls _ p F l now i hi HT.out).mono ?_; rintro e w' ⟨rfl, HT1, HU1⟩))
  go_ret
  exact ⟨rfl, HT1, HU1⟩

theorem interrupt_calls (w : World) (p : Nat) (F : Nat → Prop) (l : List Park) (now : Int) (i : Nat) (hi : i < l.length) (h : TableIn PT F w p l now) :
    Calls Try.prog 33 #[.pointer (some ⟨p, 0, none⟩), .int .i64 (i : Int)] w fun e w' => e = .returned .nilIface ∧ TableIn PT F w' p (l.set i ({ l[i] with flag := true } : Park).on) now ∧ Upd F w w' := by
  have hhas := Aside0.mk (fun w b hb h => has_calls w p F l now (i : Int) b hb h (by omega))
  have HT := Aside0.mk h
  obtain ⟨g, c, hlc, hF, hG, hne, hb, hr, h0, h1, f0, f1⟩ := h.open_ (by omega) (by decide)
  obtain ⟨c0, c1, c2, c3, ff, f00⟩ := park_cells hr i hi
  have ff1 := ff 1
  have f2 := ff 2
  have f3 := ff 3
  have hi' : (i : Int) < l.length := by omega
  have hi0 : (0 : Int) ≤ (i : Int) := by omega
  have hne' := Ne.symm hne
  have HB := Aside0.mk hb
  have HR := Aside0.mk hr
  clear hb hr ff h
  have H1 := Aside0.mk (TableIn.put1 HB.out HR.out hne hF hG hi (j := 1) (by omega) { l[i] with flag := true } (.bool true) rfl 0)
  have hl2 : i < (l.set i { l[i] with flag := true }).length := by rw [List.length_set]; exact hi
  go_enter Try.func33, Try.ntmps33
  go_wp2_with (first | (go_at_call 44; refine (hhas.out _ true (by simp; omega) HT.out).mono ?_; rintro e w' ⟨rfl, rfl⟩) | (go_at_call 45; refine (on_calls _ p F _ now i hl2 H1.out.1).mono ?_; rintro e w' ⟨rfl, HT1, HU1⟩))
  go_ret
  rw [List.set_set, List.getElem_set_self] at HT1
  exact ⟨rfl, HT1, H1.out.2.trans HU1 (fun _ h => .inl h)⟩

theorem unpark_blocked (w : World) (p : Nat) (F : Nat → Prop) (l : List Park) (now : Int) (i : Nat) (hi : i < l.length) (h : TableIn PT F w p l now) (hbl : l[i].blocked = true) :
    Calls Try.prog 32 #[.pointer (some ⟨p, 0, none⟩), .int .i64 (i : Int)] w fun e w' => e = .returned .nilIface ∧ TableIn PT F w' p (l.set i l[i].on) now ∧ Upd F w w' := by
  have hhas := Aside0.mk (fun w b hb h => has_calls w p F l now (i : Int) b hb h (by omega))
  have HT := Aside0.mk h
  obtain ⟨g, c, hlc, hF, hG, hne, hb, hr, h0, h1, f0, f1⟩ := h.open_ (by omega) (by decide)
  obtain ⟨c0, c1, c2, c3, ff, f00⟩ := park_cells hr i hi
  have ff1 := ff 1
  have f2 := ff 2
  have f3 := ff 3
  have hi' : (i : Int) < l.length := by omega
  have hi0 : (0 : Int) ≤ (i : Int) := by omega
  have hne' := Ne.symm hne
  have HB := Aside0.mk hb
  have HR := Aside0.mk hr
  clear hb hr ff h
  rw [hbl] at c2
  go_enter Try.func32, Try.ntmps32
  go_wp2_with (first | (go_at_call 44; refine (hhas.out _ true (by simp; omega) HT.out).mono ?_; rintro e w' ⟨rfl, rfl⟩) | (go_at_call 45; refine (on_calls _ p F l now i hi HT.out).mono ?_; rintro e w' ⟨rfl, HT1, HU1⟩))
  go_ret
  exact ⟨rfl, HT1, HU1⟩

theorem unpark_free (w : World) (p : Nat) (F : Nat → Prop) (l : List Park) (now : Int) (i : Nat) (hi : i < l.length) (h : TableIn PT F w p l now) (hbl : l[i].blocked = false) :
    Calls Try.prog 32 #[.pointer (some ⟨p, 0, none⟩), .int .i64 (i : Int)] w fun e w' => e = .returned .nilIface ∧ TableIn PT F w' p (l.set i ({ l[i] with permit := true } : Park).on) now ∧ Upd F w w' := by
  have hhas := Aside0.mk (fun w b hb h => has_calls w p F l now (i : Int) b hb h (by omega))
  have HT := Aside0.mk h
  obtain ⟨g, c, hlc, hF, hG, hne, hb, hr, h0, h1, f0, f1⟩ := h.open_ (by omega) (by decide)
  obtain ⟨c0, c1, c2, c3, ff, f00⟩ := park_cells hr i hi
  have ff1 := ff 1
  have f2 := ff 2
  have f3 := ff 3
  have hi' : (i : Int) < l.length := by omega
  have hi0 : (0 : Int) ≤ (i : Int) := by omega
  have hne' := Ne.symm hne
  have HB := Aside0.mk hb
  have HR := Aside0.mk hr
  clear hb hr ff h
  have H1 := Aside0.mk (TableIn.put1 HB.out HR.out hne hF hG hi (j := 0) (by omega) { l[i] with permit := true } (.bool true) rfl 0)
  have hl2 : i < (l.set i { l[i] with permit := true }).length := by rw [List.length_set]; exact hi
  rw [hbl] at c2
  go_enter Try.func32, Try.ntmps32
  go_wp2_with (first | (go_at_call 44; refine (hhas.out _ true (by simp; omega) HT.out).mono ?_; rintro e w' ⟨rfl, rfl⟩) | (go_at_call 45; refine (on_calls _ p F _ now i hl2 H1.out.1).mono ?_; rintro e w' ⟨rfl, HT1, HU1⟩))
  go_ret
  rw [List.set_set, List.getElem_set_self] at HT1
  exact ⟨rfl, HT1, H1.out.2.trans HU1 (fun _ h => .inl h)⟩

theorem clear_calls (w : World) (p : Nat) (F : Nat → Prop) (l : List Park) (now : Int) (i : Nat) (hi : i < l.length) (h : TableIn PT F w p l now) :
    Calls Try.prog 50 #[.pointer (some ⟨p, 0, none⟩), .int .i64 (i : Int)] w fun e w' => e = .returned (.tuple #[.bool l[i].flag, .nilIface]) ∧ TableIn PT F w' p (l.set i { l[i] with flag := false }) now ∧ Upd F w w' := by
  have hhas := Aside0.mk (fun w b hb h => has_calls w p F l now (i : Int) b hb h (by omega))
  have HT := Aside0.mk h
  obtain ⟨g, c, hlc, hF, hG, hne, hb, hr, h0, h1, f0, f1⟩ := h.open_ (by omega) (by decide)
  obtain ⟨c0, c1, c2, c3, ff, f00⟩ := park_cells hr i hi
  have ff1 := ff 1
  have f2 := ff 2
  have f3 := ff 3
  have hi' : (i : Int) < l.length := by omega
  have hi0 : (0 : Int) ≤ (i : Int) := by omega
  have hne' := Ne.symm hne
  have HB := Aside0.mk hb
  have HR := Aside0.mk hr
  clear hb hr ff h
  go_enter Try.func50, Try.ntmps50
  go_wp2_with (go_at_call 44; refine (hhas.out _ true (by simp; omega) HT.out).mono ?_; rintro e w' ⟨rfl, rfl⟩)
  go_ret2
  exact ⟨rfl, TableIn.put1 HB.out HR.out hne hF hG hi (j := 1) (by omega) { l[i] with flag := false } _ rfl 0⟩

theorem now_calls (w : World) (p : Nat) (F : Nat → Prop) (l : List Park) (now : Int) (h : TableIn PT F w p l now) :
    Calls Try.prog 39 #[.pointer (some ⟨p, 0, none⟩)] w fun e w' => e = .returned (.int .i64 now) ∧ w = w' := by
  obtain ⟨v, ⟨hb, hr⟩, _⟩ := h
  have h1 := blk_cell hb 1
  simp at h1
  clear hb hr
  go_enter Try.func39, Try.ntmps39
  go_wp2
  go_ret
  exact ⟨rfl, rfl⟩

def parkAgg (x : Park) : Value := .agg #[.bool x.permit, .bool x.flag, .bool x.blocked, .int .i64 x.deadline]
theorem at_calls (w : World) (p : Nat) (F : Nat → Prop) (l : List Park) (now : Int) (i : Nat) (hi : i < l.length) (h : TableIn PT F w p l now) :
    Calls Try.prog 38 #[.pointer (some ⟨p, 0, none⟩), .int .i64 (i : Int)] w fun e w' => e = .returned (.tuple #[parkAgg l[i], .nilIface]) ∧ Below w.heap.size w w' := by
  have hhas := Aside0.mk (fun w b hb h => has_calls w p F l now (i : Int) b hb h (by omega))
  have HT := Aside0.mk h
  obtain ⟨g, c, hlc, hF, hG, hne, hb, hr, h0, h1, f0, f1⟩ := h.open_ (by omega) (by decide)
  obtain ⟨c0, c1, c2, c3, ff, f00⟩ := park_cells hr i hi
  have ff1 := ff 1
  have f2 := ff 2
  have f3 := ff 3
  have hi' : (i : Int) < l.length := by omega
  have hi0 : (0 : Int) ≤ (i : Int) := by omega
  have hne' := Ne.symm hne
  have HB := Aside0.mk hb
  have HR := Aside0.mk hr
  clear hb hr ff h
  have p0 : g < w.heap.size := World.block_lt_of_cell? w _ c0
  have p1 : p < w.heap.size := World.block_lt_of_cell? w _ h0
  go_enter Try.func38, Try.ntmps38
  go_wp2_with (go_at_call 44; refine (hhas.out _ true (by simp; omega) (HT.out.below (below_alloc (Below.refl _ _) _))).mono ?_; rintro e w' ⟨rfl, rfl⟩)
  refine bodyPost_ret (v := .tuple #[parkAgg l[i], .nilIface]) (results_ct (rfl : Try.f38.results = #[.cell 4 71, .tmp 5]) _ _ w.heap.size 71 _ (0, 0) _ rfl (blk_new w _) Try.underlying71 rfl (by kernel_rfl)) rfl ⟨rfl, (Below.refl _ _).alloc (Nat.le_refl _) _⟩

theorem at_none (w : World) (p : Nat) (F : Nat → Prop) (l : List Park) (now i : Int) (hl : 0 < l.length) (hi : ¬ (0 ≤ i ∧ i < l.length)) (h : TableIn PT F w p l now) :
    Calls Try.prog 38 #[.pointer (some ⟨p, 0, none⟩), .int .i64 i] w fun e w' => e = .returned (.tuple #[parkAgg .zero, errC 4]) ∧ Below w.heap.size w w' := by
  have hhas := Aside0.mk (fun w h => has_calls w p F l now i false (by simpa using hi) h hl)
  have HT := Aside0.mk h
  clear h hi
  go_enter Try.func38, Try.ntmps38
  go_wp2_with (go_at_call 44; refine (hhas.out _ (HT.out.below (below_alloc (Below.refl _ _) _))).mono ?_; rintro e w' ⟨rfl, rfl⟩)
  refine bodyPost_ret (v := .tuple #[parkAgg .zero, errC 4]) (results_ct (rfl : Try.f38.results = #[.cell 4 71, .tmp 5]) _ _ w.heap.size 71 _ (0, 0) _ rfl (blk_new w _) Try.underlying71 rfl (by kernel_rfl)) rfl ⟨rfl, (Below.refl _ _).alloc (Nat.le_refl _) _⟩

theorem new_bad (w : World) (n : Int) (hn : n < 1 ∨ 8 < n) : Calls Try.prog 29 #[.int .i64 n] w fun e w' => e = .returned (.tuple #[.pointer none, errC 1]) ∧ w = w' := by
  by_cases h1 : n < 1
  · go_enter Try.func29, Try.ntmps29
    go_wp2
    go_ret2
    exact ⟨rfl, rfl⟩
  · have h2 : 8 < n := by omega
    go_enter Try.func29, Try.ntmps29
    go_wp2
    go_ret2
    exact ⟨rfl, rfl⟩
theorem infoPark : (Try.prog.info? 71).map (fun i => (i.zero, i.size, i.bytes)) = some (some (.agg #[.bool false, .bool false, .bool false, .int .i64 0]), 4, 16) := by kernel_rfl
theorem new_good (w : World) (n : Nat) (h1 : 1 ≤ n) (h2 : n ≤ 8) : Calls Try.prog 29 #[.int .i64 (n : Int)] w fun e w' => ∃ p, e = .returned (.tuple #[.pointer (some ⟨p, 0, none⟩), .nilIface]) ∧ TableIn PT (fun k => w.heap.size ≤ k) w' p (List.replicate n .zero) 0 ∧ Below w.heap.size w w' := by
  have hmk := fun w => run_make_flat (P := Try.prog) Park.len (by decide) 64 71 _ Park.zero 16 Try.underlying64 infoPark rfl (by decide) n (by omega) w
  obtain ⟨cs, hcs⟩ : ∃ cs, cs = (flat Park.cells (List.replicate n .zero)).toArray := ⟨_, rfl⟩
  rw [← hcs] at hmk
  have HCS := Aside0.mk hcs
  clear hcs
  go_enter Try.func29, Try.ntmps29
  go_wp2
  go_ret2
  have hrow : (w.alloc (.cells cs 71)).ownsRow 0 71 4 (.slice (some ⟨w.heap.size, 0, none⟩) n n) n (flat Park.cells (List.replicate n .zero)) := by
    have := own_flat Park.len w 0 71 (List.replicate n Park.zero) (Nat.zero_le _) (by simp; omega)
    rw [HCS.out]
    simpa using this
  refine ⟨w.heap.size + 1, by simp, ⟨_, ⟨by simpa using blk_new (w.alloc (Obj.cells cs 71)) _, by simpa using own_alloc hrow _⟩, by simp, fun k hk => ?_⟩, ((Below.refl _ _).alloc (Nat.le_refl _) _).alloc (by simp) _⟩
  simp [Value.ownBlock] at hk
  omega

theorem clone_row (w : World) (l : List Park) (A : Option Addr) (c : Nat) (hr : w.ownsRow 0 71 4 (.slice A l.length c) l.length (flat Park.cells l)) (hl : l.length ≤ 100000) (h0 : 0 < l.length) :
    Calls Try.prog 52 #[.slice A l.length c] w fun e w' => ∃ g c, e = .returned (.slice (some ⟨g, 0, none⟩) l.length c) ∧ w'.ownsRow 0 71 4 (.slice (some ⟨g, 0, none⟩) l.length c) l.length (flat Park.cells l) ∧ w.heap.size ≤ g ∧ Below w.heap.size w w' := by
  obtain ⟨g, c', he, -, hf⟩ := hr.form h0
  cases he
  have HR := Aside0.mk (reads_of_own Park.len hr rfl)
  have hnil := fun w => Lib.run_eql_slice_nil (P := Try.prog) w 64 71 (some ⟨g, 0, none⟩) l.length c 0 0 Try.underlying64
  clear hr hf
  have HO := Aside0.mk (own_flat (enc := Park.cells) Park.len w w.heap.size 71 [] (Nat.le_refl _) (by simp))
  have hb : (0 + l.length) * 16 ≤ 140737488355328 := by omega
  go_enter Try.func52, Try.ntmps52
  go_wp2_with (at_builtin; refine wpList_append_flat Park.len (by decide) Park.one rfl w.heap.size (.tmp 5) (.tmp 6) 64 71 _ 16 rfl Try.underlying64 infoPark rfl (by decide) (.slice (some ⟨w.heap.size, 0, none⟩) 0 0) [] l (some ⟨g, 0, none⟩) c rfl rfl HO.out (HR.out.below (below_alloc (Below.refl _ _) _)) (fun h => by cases h) (by simp) hb ?k)
  case k =>
    intro v1 w1 ho hg hat
    obtain ⟨g1, c1, rfl, hge, -⟩ := ho.form (by simpa using h0)
    go_wp2
    go_ret
    exact ⟨g1, c1, by simp, own_weaken (by simpa using ho) (Nat.zero_le _), hge, (((Below.refl _ w).alloc (Nat.le_refl _) _).grown hg (by simp) (fun k hk => by simp [Value.ownBlock] at hk; omega))⟩

theorem clone_calls (w : World) (p : Nat) (F : Nat → Prop) (l : List Park) (now : Int) (hl : l.length ≤ 100000) (h0 : 0 < l.length) (h : TableIn PT F w p l now) :
    Calls Try.prog 40 #[.pointer (some ⟨p, 0, none⟩)] w fun e w' => ∃ q, e = .returned (.pointer (some ⟨q, 0, none⟩)) ∧ TableIn PT (fun k => w.heap.size ≤ k) w' q l now ∧ Below w.heap.size w w' := by
  obtain ⟨g, c, hlc, hF, hG, hne, hb, hr, k0, k1, f0, f1⟩ := h.open_ h0 (by decide)
  have HR := Aside0.mk hr
  have hclone := Aside0.mk (fun w hr => clone_row w l (some ⟨g, 0, none⟩) c hr hl h0)
  clear hb hr
  go_enter Try.func40, Try.ntmps40
  go_wp2_with fail
  go_region_held3 (fun w' => w'.cell? ⟨p, 0, none⟩ = some (.slice (some ⟨g, 0, none⟩) l.length c) ∧ w'.cell? ⟨p, 1, none⟩ = some (.int .i64 now)) (go_keep)
    (first | (go_at_call 52; refine (hclone.out _ ?_).mono ?_; (exact HR.out); rintro e w' ⟨g1, c1, rfl, ho, hk, hb⟩; have q0 := pw_cell_below hb k0; have q1 := pw_cell_below hb k1))
  go_wp2
  go_ret
  refine ⟨w'.heap.size, by simp, ⟨_, ⟨blk_new w' _, own_alloc ho _⟩, hb.size, fun k hk2 => ?_⟩, ((Below.refl _ w).drew.trans (hb.alloc hb.size _))⟩
  simp [Value.ownBlock] at hk2
  have : w.heap.size ≤ g1 := hk
  omega

theorem tick_bad (w : World) (p : Nat) (F : Nat → Prop) (l : List Park) (now t : Int) (h : TableIn PT F w p l now) (hl : 0 < l.length) (ht : t < 0) :
    Calls Try.prog 41 #[.pointer (some ⟨p, 0, none⟩), .int .i64 t] w fun e w' => e = .returned (errC 1) ∧ w = w' := by
  obtain ⟨g, c, hlc, hF, hG, hne, hb, hr, k0, k1, f0, f1⟩ := h.open_ hl (by decide)
  have hadd := Aside0.mk (fun w => add_bad w now t (.inr ht))
  clear hb hr h
  go_enter Try.func41, Try.ntmps41
  go_wp2_with (go_at_call 18; refine (hadd.out _).mono ?_; rintro e w' ⟨rfl, rfl⟩)
  go_ret
  exact ⟨rfl, rfl⟩

/-- What a tick makes of a thread. -/
def Park.tick (now : Int) (x : Park) : Park := if x.blocked = true ∧ 0 ≤ x.deadline ∧ x.deadline ≤ now then x.on else x

def Park.some_ (now : Int) (l : List Park) (k : Nat) : List Park := (l.take k).map (Park.tick now) ++ l.drop k
theorem Park.some_length (now : Int) (l : List Park) (k : Nat) : (Park.some_ now l k).length = l.length := by simp [Park.some_]; omega
theorem Park.some_get (now : Int) (l : List Park) (k : Nat) (hk : k < l.length) : (Park.some_ now l k)[k]'(by rw [Park.some_length]; exact hk) = l[k] := by
  simp only [Park.some_]
  rw [List.getElem_append_right (by simp; omega)]
  simp
  congr 1
  omega
theorem Park.some_set (now : Int) (l : List Park) (k : Nat) (hk : k < l.length) : (Park.some_ now l k).set k (Park.tick now l[k]) = Park.some_ now l (k + 1) := by
  simp only [Park.some_]
  rw [List.set_append_right _ _ (by simp; omega), List.take_succ_eq_append_getElem hk, List.map_append, List.drop_eq_getElem_cons hk]
  simp [Nat.min_eq_left (Nat.le_of_lt hk)]
  rw [List.drop_eq_getElem_cons hk]
  rfl
theorem Park.some_end (now : Int) (l : List Park) : Park.some_ now l l.length = l.map (Park.tick now) := by simp [Park.some_]
theorem Park.some_zero (now : Int) (l : List Park) : Park.some_ now l 0 = l := by simp [Park.some_]

structure Ticking (F : Nat → Prop) (w wr : World) (p g c : Nat) (l : List Park) (now : Int) (k : Nat) : Prop where
  blk : wr.heap[p]? = some (.cells #[.slice (some ⟨g, 0, none⟩) (Park.some_ now l k).length c, .int .i64 now] PT (0, 0))
  row : wr.ownsRow 0 71 4 (.slice (some ⟨g, 0, none⟩) (Park.some_ now l k).length c) (Park.some_ now l k).length (flat Park.cells (Park.some_ now l k))
  upd : Upd F w wr
theorem Ticking.box {F : Nat → Prop} {w wr : World} {p g c k : Nat} {l : List Park} {now : Int} (h : Ticking F w wr p g c l now k) (hk : k < l.length) (ht : Park.tick now l[k] = l[k]) (o : Obj) : Ticking F w (wr.alloc o) p g c l now (k + 1) := by
  have he : Park.some_ now l (k + 1) = Park.some_ now l k := by
    rw [← Park.some_set now l k hk, ht]
    have := Park.some_get now l k hk
    conv => lhs; rw [← this]
    rw [List.set_getElem_self]
  exact ⟨by rw [he]; exact blk_alloc h.blk o, by rw [he]; exact own_alloc h.row o, h.upd.alloc o⟩
theorem Ticking.on {F : Nat → Prop} {w wr : World} {p g c k : Nat} {l : List Park} {now : Int} (h : Ticking F w wr p g c l now k) (hk : k < l.length) (ht : Park.tick now l[k] = l[k].on) (o : Obj) (hne : p ≠ g) (hg : F g) :
    Ticking F w ((((wr.alloc o).setCell ⟨g, k * 4 + 2, none⟩ (.bool false)).setCell ⟨g, k * 4 + 3, none⟩ (.int .i64 0)).drewN 1) p g c l now (k + 1) := by
  have hlk : k < (Park.some_ now l k).length := by rw [Park.some_length]; exact hk
  obtain ⟨b1, r1⟩ := TableIn.put (blk_alloc h.blk o) (own_alloc h.row o) hne hlk (j := 2) (by omega) { l[k] with blocked := false } (.bool false) (by rw [Park.some_get now l k hk]; rfl)
  obtain ⟨b2, r2⟩ := TableIn.put b1 r1 hne (i := k) (by rw [List.length_set]; exact hlk) (j := 3) (by omega) l[k].on (.int .i64 0) (by rw [List.getElem_set_self]; rfl)
  rw [List.set_set, ← ht, Park.some_set now l k hk] at b2 r2
  exact ⟨b2, r2, (((h.upd.alloc o).setCell (.inl hg) _).setCell (.inl hg) _).drewN 1⟩

theorem tick_good (w : World) (p : Nat) (F : Nat → Prop) (l : List Park) (now t : Int) (h : TableIn PT F w p l now) (hl : 0 < l.length) (hl2 : l.length ≤ 100000) (ht : 0 ≤ t) (ht2 : t ≤ 9223372036854775807) (hn0 : 0 ≤ now) (hn1 : now ≤ 9223372036854775807) :
    Calls Try.prog 41 #[.pointer (some ⟨p, 0, none⟩), .int .i64 t] w fun e w' => e = .returned .nilIface ∧ TableIn PT F w' p (l.map (Park.tick (later now t))) (later now t) ∧ Upd F w w' := by
  obtain ⟨g, c, hlc, hF, hG, hne, hb, hr, k0, k1, f0, f1⟩ := h.open_ hl (by decide)
  have hadd := Aside0.mk (fun w => add_good w now t hn0 ht hn1 ht2)
  have hN := later_le hn0 ht hn1
  generalize later now t = N at *
  have H0 : Aside0 (Ticking F w (w.setCell ⟨p, 1, none⟩ (.int .i64 N)) p g c l N 0) := ⟨⟨by rw [Park.some_zero]; simpa using blk_set hb 1 (.int .i64 N), by rw [Park.some_zero]; exact own_setCell hr (by simp [Value.ownBlock]; exact hne) _, (Upd.refl F w).setCell (.inl hF) _⟩⟩
  clear hb hr h
  have hne' := Ne.symm hne
  go_enter Try.func41, Try.ntmps41
  go_wp2_with (go_at_call 18; refine (hadd.out _).mono ?_; rintro e w' ⟨rfl, rfl⟩)
  clear hadd k0 k1 f0 f1
  go_loopw [30] (fun v30 wr => ∃ k : Nat, k ≤ l.length ∧ v30 = .int .i64 k ∧ Aside0 (Ticking F w wr p g c l N k)) (fun v30 _ => l.length - (intOf v30).toNat)
  case atStart => exact ⟨0, by omega, rfl, H0⟩
  case round =>
    clear H0
    obtain ⟨k, hk, rfl, HT⟩ := hrel
    by_cases hlt : k < l.length
    · have hlk : k < (Park.some_ N l k).length := by rw [Park.some_length]; exact hlt
      have hlt' : (k : Int) < (l.length : Int) := by omega
      obtain ⟨d0, d1, d2, d3, -, -⟩ := park_cells HT.out.row k hlk
      rw [Park.some_get N l k hlt] at d0 d1 d2 d3
      have e1 : ⟨g, k * 4 + 1, none⟩ = ({ block := g, off := k * 4 + 1 } : Addr) := rfl
      by_cases hbl : l[k].blocked = true
      · by_cases hdue : 0 ≤ l[k].deadline ∧ l[k].deadline ≤ N
        · have ht : Park.tick N l[k] = l[k].on := by unfold Park.tick; rw [if_pos ⟨hbl, hdue⟩]
          rw [hbl] at d2
          go_wp2_with fail
          refine (due_calls _ N l[k].deadline true (by simpa using hdue)).mono ?_; rintro e w' ⟨rfl, rfl⟩
          go_wp2_with fail
          refine (on_exact _ p g c (Park.some_ N l k) N k hlk (blk_alloc HT.out.blk _) (own_alloc HT.out.row _) hne).mono ?_; rintro e w' ⟨rfl, rfl⟩
          have HT' := Aside0.mk (HT.out.on hlt ht (.cells #[.bool l[k].permit, .bool l[k].flag, .bool true, .int .i64 l[k].deadline] 71) hne hG)
          clear HT d0 d1 d2 d3 ht hdue hbl
          go_wp2
          go_roundw
          case rel => exact ⟨k + 1, by omega, by go_num, HT'⟩
          case measure => simp [intOf]; omega
        · have ht : Park.tick N l[k] = l[k] := by unfold Park.tick; rw [if_neg (fun h => hdue h.2)]
          rw [hbl] at d2
          go_wp2_with fail
          refine (due_calls _ N l[k].deadline false (by simpa using hdue)).mono ?_; rintro e w' ⟨rfl, rfl⟩
          have HT' := Aside0.mk (HT.out.box hlt ht (.cells #[.bool l[k].permit, .bool l[k].flag, .bool true, .int .i64 l[k].deadline] 71))
          clear HT d0 d1 d2 d3 ht hdue hbl
          go_wp2
          go_roundw
          case rel => exact ⟨k + 1, by omega, by go_num, HT'⟩
          case measure => simp [intOf]; omega
      · have ht : Park.tick N l[k] = l[k] := by unfold Park.tick; rw [if_neg (fun h => hbl h.1)]
        have hbl' : l[k].blocked = false := by simpa using hbl
        rw [hbl'] at d2
        have HT' := Aside0.mk (HT.out.box hlt ht (.cells #[.bool l[k].permit, .bool l[k].flag, .bool false, .int .i64 l[k].deadline] 71))
        clear HT ht hbl hbl'
        go_wp2
        go_roundw
        case rel => exact ⟨k + 1, by omega, by go_num, HT'⟩
        case measure => simp [intOf]; omega
    · obtain rfl : k = l.length := by omega
      have hlt' : ¬ (l.length : Int) < (l.length : Int) := by omega
      obtain ⟨b, r, u⟩ := HT.out
      rw [Park.some_end] at b r
      have HF := Aside0.mk (TableIn.shut b r hF hG)
      have HU := Aside0.mk u
      clear b r u HT
      go_wp2
      go_ret
      exact ⟨rfl, HF.out, HU.out⟩
end Go.Proofs.Ythehmmcloimpmaa.Permit
