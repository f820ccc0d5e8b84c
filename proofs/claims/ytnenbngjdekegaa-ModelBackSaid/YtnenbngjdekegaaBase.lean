import Derived.Test.YtnenbngjdekegaaProg
import Derived.Test.YtnenbngjdekegaaWZeros
import Derived.WalkKit
import Derived.WalkSpells
import Derived.Deep.QuietTactic
import Derived.BigQuiet
import Derived.Deep.RegionHeld3
set_option linter.unusedVariables false
set_option linter.unusedSimpArgs false
namespace Go.Proofs.Ytnenbngjdekegaa.Base
open Go.RowKit Go.Proofs.YtnenbngjdekegaaW.PrintWords

/-- What a call keeps: all but the blocks of F. -/
structure Upd (F : Nat → Prop) (w w' : World) : Prop where
  os : w'.os = w.os
  tape : w'.tape = w.tape
  output : w'.output = w.output
  size : w.heap.size ≤ w'.heap.size
  block : ∀ k, k < w.heap.size → ¬ F k → w'.heap[k]? = w.heap[k]?
theorem Upd.refl (F : Nat → Prop) (w : World) : Upd F w w := ⟨rfl, rfl, rfl, Nat.le_refl _, fun _ _ _ => rfl⟩
theorem Upd.trans {F G : Nat → Prop} {a b c : World} (h : Upd F a b) (k : Upd G b c) (hG : ∀ i, G i → F i ∨ a.heap.size ≤ i) : Upd F a c :=
  ⟨k.os.trans h.os, k.tape.trans h.tape, k.output.trans h.output, Nat.le_trans h.size k.size, fun i hi hn =>
    (k.block i (Nat.lt_of_lt_of_le hi h.size) (fun hg => (hG i hg).elim hn (fun hl => by omega))).trans (h.block i hi hn)⟩
theorem Upd.of_below {F : Nat → Prop} {w w' : World} (h : Below w.heap.size w w') : Upd F w w' := ⟨h.os, h.tape, h.output, h.size, fun k hk _ => h.block k hk⟩
theorem Upd.below {F : Nat → Prop} {B : Nat} {w w' : World} (h : Upd F w w') (hB : B ≤ w.heap.size) (hF : ∀ k, F k → B ≤ k) : Below B w w' :=
  ⟨h.os, h.tape, h.output, h.size, fun k hk => h.block k (by omega) (fun hf => by have := hF k hf; omega)⟩
theorem Upd.mono {F G : Nat → Prop} {w w' : World} (h : Upd F w w') (hG : ∀ k, F k → G k) : Upd G w w' := ⟨h.os, h.tape, h.output, h.size, fun k hk hn => h.block k hk (fun hf => hn (hG k hf))⟩
theorem Upd.drawn {F : Nat → Prop} {w w' : World} (h : Drawn0 w w') : Upd F w w' := Upd.of_below h.below
theorem Upd.alloc {F : Nat → Prop} {a w : World} (h : Upd F a w) (o : Obj) : Upd F a (w.alloc o) := h.trans (G := fun _ => False) (Upd.of_below (below_alloc (Below.refl _ _) o)) (fun _ hf => hf.elim)
theorem Upd.drew {F : Nat → Prop} {a w : World} (h : Upd F a w) : Upd F a w.drew := ⟨h.os, h.tape, h.output, h.size, h.block⟩
theorem Upd.drewN {F : Nat → Prop} {a w : World} (h : Upd F a w) (n : Nat) : Upd F a (w.drewN n) := ⟨h.os, h.tape, h.output, h.size, h.block⟩
theorem Upd.setCell {F : Nat → Prop} {a w : World} (h : Upd F a w) {p : Addr} (hp : F p.block ∨ a.heap.size ≤ p.block) (u : Value) : Upd F a (w.setCell p u) :=
  h.trans (G := fun k => k = p.block) ⟨rfl, rfl, rfl, by simp [World.setCell], fun k _ hn => Below.heap_setCell _ _ _ _ hn⟩ (fun k hk => by rw [hk]; exact hp)
theorem Upd.grown {F : Nat → Prop} {a w w' : World} {row : Option Nat} (h : Upd F a w) (hg : w.grownBy w' row) (hr : ∀ k, row = some k → F k ∨ a.heap.size ≤ k) : Upd F a w' :=
  h.trans (G := fun k => row = some k) ⟨hg.os, hg.tape, hg.output, hg.size, fun k hk hn => hg.block k hk (fun he => hn he.symm)⟩ hr
theorem Upd.blk {F : Nat → Prop} {w w' : World} (h : Upd F w w') {g : Nat} {o : Obj} (hb : w.heap[g]? = some o) (hn : ¬ F g) : w'.heap[g]? = some o := (h.block g (blk_lt hb) hn).trans hb
theorem Upd.grownBy {w w' : World} {g : Option Nat} {F : Nat → Prop} (h : Upd F w w') (hF : ∀ k, F k → g = some k) : w.grownBy w' g := ⟨h.os, h.tape, h.output, h.size, fun k hk hn => h.block k hk (fun hf => hn (hF k hf).symm)⟩
theorem Upd.own {F : Nat → Prop} {w w' : World} (h : Upd F w w') {base n : Nat} {e : TypeId} {size : Nat} {v : Value} {xs : List Value} (ho : w.ownsRow base e size v n xs) (hn : ∀ k, v.ownBlock = some k → ¬ F k) : w'.ownsRow base e size v n xs := by
  obtain ⟨h1, h2⟩ := ho
  refine ⟨h1, ?_⟩
  rcases h2 with h2 | ⟨g, cap, cur, hv, hg, hh, r⟩
  · exact Or.inl h2
  · exact Or.inr ⟨g, cap, cur, hv, hg, h.blk hh (hn g (by rw [hv]; rfl)), r⟩

section
variable {P : Program} {ops : Array Oper} {rest : List Oper} {o : Oper} {a : Act} {Q : Exit → Act → World → Prop} {K : Act → World → Prop} {E : Prop}
/-- append(v, make([]T, m)...), whole numbers. -/
theorem wp_append_zeros {W : World} (base : Nat) (s x : Operand) (t ti e : TypeId) (k : IntKind) {kk : IntKind} (bytes : Nat)
    (ho : o.op = .call { callee := .builtin .append, args := #[s, x], argTypes := #[t, ti] })
    (ht : P.underlying t = some (.slice e)) (hti : P.underlying ti = some (.int kk)) (hinfo : (P.info? e).map (fun i => (i.zero, i.size, i.bytes)) = some (some (.int k 0), 1, bytes)) (hb0 : 0 < bytes)
    (v : Value) (xs : List Int) (m : Int) (hs : a.eval s = v) (hx : a.eval x = .int .i64 m) (h0 : 0 ≤ m)
    (HO : W.ownsRow base e 1 v xs.length (nums k xs)) (hbase : base ≤ W.heap.size) (hl : (xs.length + m.toNat) * bytes ≤ 140737488355328)
    (h : ∀ v1 w1, w1.ownsRow base e 1 v1 (xs ++ List.replicate m.toNat 0).length (nums k (xs ++ List.replicate m.toNat 0)) → W.grownBy w1 v.ownBlock → (v1.ownBlock = v.ownBlock ∨ v1.ownBlock = some W.heap.size) → K (a.put o.dst v1) w1) :
    o.wp P a W K Q := by
  obtain ⟨n, rfl⟩ := Int.eq_ofNat_of_zero_le h0
  simp only [Int.toNat_natCast] at hl h
  obtain ⟨i0, hi, hzz⟩ := Option.map_eq_some_iff.1 hinfo
  simp only [Prod.mk.injEq] at hzz
  obtain ⟨hz0, hz1, hz2⟩ := hzz
  have hz : (Builtin.zeroCells (Value.int k 0).cells n).toList = nums k (List.replicate n 0) := by
    apply List.ext_getElem
    · simp [nums, size_zeroCells, Value.cells]
    · intro i h1 h2
      simp [nums, Builtin.zeroCells, Value.cells, Nat.mod_one]
  obtain ⟨v1, w1, hr, h2, h3, h5⟩ := run_append_zeros (P := P) W base t ti o.type e i0 (.int k 0) 1 bytes ht hti hi hz0 hz1 hz2 rfl (by omega) hb0 v xs.length (nums k xs) HO .i64 n
    (by intro u hu; rw [hz] at hu; simp only [nums, List.mem_map] at hu; obtain ⟨q, _, rfl⟩ := hu; rfl) hl hbase
  rw [hz] at h2
  unfold Oper.wp execOp
  simp only [ho, resolve, invoke, builtin, Sem.run_bind, Sem.run_pure, Result.andThen_ok, List.map_toArray, List.map_cons, List.map_nil, hs, hx, hr]
  exact h v1 w1 (by simpa [nums] using h2) h3 h5
theorem wpList_append_zeros {W : World} (base : Nat) (hgd : o.guard = none) (s x : Operand) (t ti e : TypeId) (k : IntKind) {kk : IntKind} (bytes : Nat)
    (ho : o.op = .call { callee := .builtin .append, args := #[s, x], argTypes := #[t, ti] })
    (ht : P.underlying t = some (.slice e)) (hti : P.underlying ti = some (.int kk)) (hinfo : (P.info? e).map (fun i => (i.zero, i.size, i.bytes)) = some (some (.int k 0), 1, bytes)) (hb0 : 0 < bytes)
    (v : Value) (xs : List Int) (m : Int) (hs : a.eval s = v) (hx : a.eval x = .int .i64 m) (h0 : 0 ≤ m)
    (HO : W.ownsRow base e 1 v xs.length (nums k xs)) (hbase : base ≤ W.heap.size) (hl : (xs.length + m.toNat) * bytes ≤ 140737488355328)
    (h : ∀ v1 w1, w1.ownsRow base e 1 v1 (xs ++ List.replicate m.toNat 0).length (nums k (xs ++ List.replicate m.toNat 0)) → W.grownBy w1 v.ownBlock → (v1.ownBlock = v.ownBlock ∨ v1.ownBlock = some W.heap.size) → wpList P ops Q rest (a.put o.dst v1) w1) :
    wpList P ops Q (o :: rest) a W :=
  wpList_plain hgd fun K hK => wp_append_zeros base s x t ti e k bytes ho ht hti hinfo hb0 v xs m hs hx h0 HO hbase hl (fun v1 w1 a b c => hK _ _ (h v1 w1 a b c))
theorem step_append_zeros {W : World} (hgd : o.guard = none) (base : Nat) (s x : Operand) (t ti e : TypeId) (k : IntKind) {kk : IntKind} (bytes : Nat)
    (ho : o.op = .call { callee := .builtin .append, args := #[s, x], argTypes := #[t, ti] })
    (ht : P.underlying t = some (.slice e)) (hti : P.underlying ti = some (.int kk)) (hinfo : (P.info? e).map (fun i => (i.zero, i.size, i.bytes)) = some (some (.int k 0), 1, bytes)) (hb0 : 0 < bytes)
    (v : Value) (xs : List Int) (m : Int) (hs : a.eval s = v) (hx : a.eval x = .int .i64 m) (h0 : 0 ≤ m)
    (HO : W.ownsRow base e 1 v xs.length (nums k xs)) (hbase : base ≤ W.heap.size) (hl : (xs.length + m.toNat) * bytes ≤ 140737488355328)
    (h : ∀ v1 w1, w1.ownsRow base e 1 v1 (xs ++ List.replicate m.toNat 0).length (nums k (xs ++ List.replicate m.toNat 0)) → W.grownBy w1 v.ownBlock → (v1.ownBlock = v.ownBlock ∨ v1.ownBlock = some W.heap.size) → K (a.put o.dst v1) w1) :
    if Region.wanted o (yielded ops a.tmps) = true then Oper.wp P o a W K Q else E := by
  rw [if_pos (by simp [Region.wanted, hgd])]
  exact wp_append_zeros base s x t ti e k bytes ho ht hti hinfo hb0 v xs m hs hx h0 HO hbase hl h
/-- append(v, ys...), ys a slice of whole numbers that is read. -/
theorem run_append_nums {W : World} (base : Nat) (t ty e : TypeId) (k : IntKind) (bytes : Nat)
    (ht : P.underlying t = some (.slice e)) (hinfo : (P.info? e).map (fun i => (i.zero, i.size, i.bytes)) = some (some (.int k 0), 1, bytes)) (hb0 : 0 < bytes)
    (v : Value) (xs ys : List Int) (A : Option Addr) (m c : Nat)
    (HO : W.ownsRow base e 1 v xs.length (nums k xs)) (HR : ReadsInt W k A m ys) (hbase : base ≤ W.heap.size) (hl : (xs.length + m) * bytes ≤ 140737488355328) :
    ∃ v1 w1, (Builtin.append_ #[t, t] ty #[v, .slice A m c]).run P W = .ok v1 w1 ∧ w1.ownsRow base e 1 v1 (xs ++ ys).length (nums k (xs ++ ys)) ∧ W.grownBy w1 v.ownBlock ∧ (v1.ownBlock = v.ownBlock ∨ ∃ b, v1.ownBlock = some b ∧ W.heap.size ≤ b) := by
  obtain ⟨i0, hi, hzz⟩ := Option.map_eq_some_iff.1 hinfo
  simp only [Prod.mk.injEq] at hzz
  obtain ⟨hz0, hz1, hz2⟩ := hzz
  have hm : ys.length = m := HR.1
  have hlen : xs.length + m ≤ 140737488355328 := Nat.le_trans (Nat.le_mul_of_pos_right _ hb0) hl
  rcases A with _ | ad
  · have h0 : m = 0 := by
      rcases Nat.eq_zero_or_pos m with h0 | h0
      · exact h0
      · obtain ⟨ad, h, _⟩ := HR.2.2 h0
        cases h
    subst h0
    obtain rfl : ys = [] := List.eq_nil_of_length_eq_zero hm
    refine ⟨v, W, ?_, by simpa using HO, World.grownBy.refl W _, .inl rfl⟩
    rcases HO.2 with ⟨rfl, hn⟩ | ⟨g, cap, cur, rfl, _, _, hnc, _⟩
    · simp [Builtin.append_, run_underlying ht, sizeOf, typeInfo, hi, Builtin.lenOf, Builtin.firstCells]
    · simp [Builtin.append_, run_underlying ht, sizeOf, typeInfo, hi, Builtin.lenOf, Builtin.firstCells, hnc, storeCells]
  · have hcells : ∀ j u, (nums k ys)[j]? = some u → W.cell? (ad.add j) = some u := by
      intro j u hu
      have hj : j < ys.length := by
        rcases Nat.lt_or_ge j ys.length with h | h
        · exact h
        · simp [nums, List.getElem?_eq_none h] at hu
      obtain ⟨ad', h', hc⟩ := HR.2.2 (by omega)
      injection h' with h'
      subst h'
      have := hc j (by omega)
      simp [nums, List.getElem?_eq_getElem hj] at hu
      subst hu
      rw [this]
      simp [List.getD_eq_getElem?_getD, List.getElem?_eq_getElem hj]
    obtain ⟨v1, w1, hr, h2, h3, _, h5⟩ := run_append_own_at (P := P) W base t ty e i0 (.int k 0) 1 bytes ht hi hz0 hz1 hz2 rfl (by omega) v xs.length (nums k xs) HO ad m c (nums k ys) (by simp [nums, hm]) hcells
      (by intro u hu; simp only [nums, List.mem_map] at hu; obtain ⟨q, _, rfl⟩ := hu; rfl) (by simp only [maxLen]; omega) hl hbase
    refine ⟨v1, w1, hr, by simpa [nums, hm] using h2, h3, ?_⟩
    rcases h5 with h5 | h5
    · exact .inl h5
    · exact .inr ⟨_, h5, Nat.le_refl _⟩
theorem wp_append_nums {W : World} (base : Nat) (s x : Operand) (t e : TypeId) (k : IntKind) (bytes : Nat)
    (ho : o.op = .call { callee := .builtin .append, args := #[s, x], argTypes := #[t, t] })
    (ht : P.underlying t = some (.slice e)) (hinfo : (P.info? e).map (fun i => (i.zero, i.size, i.bytes)) = some (some (.int k 0), 1, bytes)) (hb0 : 0 < bytes)
    (v : Value) (xs ys : List Int) (A : Option Addr) (m c : Nat) (hs : a.eval s = v) (hx : a.eval x = .slice A m c)
    (HO : W.ownsRow base e 1 v xs.length (nums k xs)) (HR : ReadsInt W k A m ys) (hbase : base ≤ W.heap.size) (hl : (xs.length + m) * bytes ≤ 140737488355328)
    (h : ∀ v1 w1, w1.ownsRow base e 1 v1 (xs ++ ys).length (nums k (xs ++ ys)) → W.grownBy w1 v.ownBlock → (v1.ownBlock = v.ownBlock ∨ ∃ b, v1.ownBlock = some b ∧ W.heap.size ≤ b) → K (a.put o.dst v1) w1) :
    o.wp P a W K Q := by
  obtain ⟨v1, w1, hr, h2, h3, h5⟩ := run_append_nums (P := P) base t o.type e k bytes ht hinfo hb0 v xs ys A m c HO HR hbase hl
  unfold Oper.wp execOp
  simp only [ho, resolve, invoke, builtin, Sem.run_bind, Sem.run_pure, Result.andThen_ok, List.map_toArray, List.map_cons, List.map_nil, hs, hx, hr]
  exact h v1 w1 h2 h3 h5
theorem wpList_append_nums {W : World} (hgd : o.guard = none) (base : Nat) (s x : Operand) (t e : TypeId) (k : IntKind) (bytes : Nat)
    (ho : o.op = .call { callee := .builtin .append, args := #[s, x], argTypes := #[t, t] })
    (ht : P.underlying t = some (.slice e)) (hinfo : (P.info? e).map (fun i => (i.zero, i.size, i.bytes)) = some (some (.int k 0), 1, bytes)) (hb0 : 0 < bytes)
    (v : Value) (xs ys : List Int) (A : Option Addr) (m c : Nat) (hs : a.eval s = v) (hx : a.eval x = .slice A m c)
    (HO : W.ownsRow base e 1 v xs.length (nums k xs)) (HR : ReadsInt W k A m ys) (hbase : base ≤ W.heap.size) (hl : (xs.length + m) * bytes ≤ 140737488355328)
    (h : ∀ v1 w1, w1.ownsRow base e 1 v1 (xs ++ ys).length (nums k (xs ++ ys)) → W.grownBy w1 v.ownBlock → (v1.ownBlock = v.ownBlock ∨ ∃ b, v1.ownBlock = some b ∧ W.heap.size ≤ b) → wpList P ops Q rest (a.put o.dst v1) w1) :
    wpList P ops Q (o :: rest) a W :=
  wpList_plain hgd fun K hK => wp_append_nums base s x t e k bytes ho ht hinfo hb0 v xs ys A m c hs hx HO HR hbase hl (fun v1 w1 a b c => hK _ _ (h v1 w1 a b c))
theorem step_append_nums {W : World} (hgd : o.guard = none) (base : Nat) (s x : Operand) (t e : TypeId) (k : IntKind) (bytes : Nat)
    (ho : o.op = .call { callee := .builtin .append, args := #[s, x], argTypes := #[t, t] })
    (ht : P.underlying t = some (.slice e)) (hinfo : (P.info? e).map (fun i => (i.zero, i.size, i.bytes)) = some (some (.int k 0), 1, bytes)) (hb0 : 0 < bytes)
    (v : Value) (xs ys : List Int) (A : Option Addr) (m c : Nat) (hs : a.eval s = v) (hx : a.eval x = .slice A m c)
    (HO : W.ownsRow base e 1 v xs.length (nums k xs)) (HR : ReadsInt W k A m ys) (hbase : base ≤ W.heap.size) (hl : (xs.length + m) * bytes ≤ 140737488355328)
    (h : ∀ v1 w1, w1.ownsRow base e 1 v1 (xs ++ ys).length (nums k (xs ++ ys)) → W.grownBy w1 v.ownBlock → (v1.ownBlock = v.ownBlock ∨ ∃ b, v1.ownBlock = some b ∧ W.heap.size ≤ b) → K (a.put o.dst v1) w1) :
    if Region.wanted o (yielded ops a.tmps) = true then Oper.wp P o a W K Q else E := by
  rw [if_pos (by simp [Region.wanted, hgd])]
  exact wp_append_nums base s x t e k bytes ho ht hinfo hb0 v xs ys A m c hs hx HO HR hbase hl h
end

theorem info64 : (Try.prog.info? 2).map (fun i => (i.zero, i.size, i.bytes)) = some (some (.int .i64 0), 1, 8) := by kernel_rfl

theorem at_ne {v v1 : Value} {k M : Nat} (hat : v1.ownBlock = v.ownBlock ∨ ∃ b, v1.ownBlock = some b ∧ M ≤ b) (hne : some k ≠ v.ownBlock) (hk : k < M) : some k ≠ v1.ownBlock := by
  rcases hat with h | ⟨b, h, hb⟩
  · rw [h]; exact hne
  · rw [h]; intro he; injection he with he; omega

/-! ### Rows of elements of several cells, flat -/
def flat {α : Type} (enc : α → List Value) (l : List α) : List Value := l.flatMap enc
section
variable {α : Type} {enc : α → List Value} {sz : Nat}
theorem flat_nil : flat enc [] = [] := rfl
theorem flat_cons (x : α) (l : List α) : flat enc (x :: l) = enc x ++ flat enc l := rfl
theorem flat_append (l m : List α) : flat enc (l ++ m) = flat enc l ++ flat enc m := List.flatMap_append
theorem flat_length (h : ∀ x, (enc x).length = sz) : ∀ l : List α, (flat enc l).length = l.length * sz
  | [] => by simp [flat]
  | x :: l => by rw [flat_cons, List.length_append, h, flat_length h l, List.length_cons, Nat.succ_mul, Nat.add_comm]
theorem flat_get (h : ∀ x, (enc x).length = sz) : ∀ (l : List α) (i j : Nat) (hi : i < l.length), j < sz → (flat enc l)[i * sz + j]? = (enc l[i])[j]?
  | x :: l, 0, j, hi, hj => by
    rw [flat_cons, List.getElem?_append_left (by rw [h]; omega)]
    simp
  | x :: l, i + 1, j, hi, hj => by
    rw [flat_cons, List.getElem?_append_right (by rw [h, Nat.succ_mul]; omega), h, show (i + 1) * sz + j - sz = i * sz + j by rw [Nat.succ_mul]; omega, flat_get h l i j (by simpa using hi) hj]
    simp
theorem flat_set (h : ∀ x, (enc x).length = sz) : ∀ (l : List α) (i j : Nat) (x : α) (v : Value) (hi : i < l.length), j < sz → enc x = (enc l[i]).set j v → flat enc (l.set i x) = (flat enc l).set (i * sz + j) v
  | y :: l, 0, j, x, v, hi, hj, he => by
    rw [List.set_cons_zero, flat_cons, flat_cons, he, Nat.zero_mul, Nat.zero_add, List.set_append_left _ _ (by rw [h]; omega)]
    simp
  | y :: l, i + 1, j, x, v, hi, hj, he => by
    rw [List.set_cons_succ, flat_cons, flat_cons, List.set_append_right _ _ (by rw [h, Nat.succ_mul]; omega), h, show (i + 1) * sz + j - sz = i * sz + j by rw [Nat.succ_mul]; omega,
      flat_set h l i j x v (by simpa using hi) hj (by simpa using he)]
theorem flat_one (h1 : ∀ x, ∀ u ∈ enc x, u.oneCell' = true) (l : List α) : ∀ u ∈ flat enc l, u.oneCell' = true := by
  intro u hu
  obtain ⟨x, _, hx⟩ := List.mem_flatMap.1 hu
  exact h1 x u hx
theorem flat_replicate_zero (x : α) (n : Nat) : flat enc (List.replicate n x) = (List.replicate n (enc x)).flatten := by simp [flat, List.flatMap]
/-- A cell of an owned row of elements. -/
theorem flat_cell {w : World} {base g n c : Nat} {e : TypeId} {l : List α} (hE : ∀ x, (enc x).length = sz) (h : w.ownsRow base e sz (.slice (some ⟨g, 0, none⟩) n c) n (flat enc l)) (i j : Nat) (hi : i < l.length) (hj : j < sz) {u : Value} (hu : (enc l[i])[j]? = some u) :
    w.cell? ⟨g, i * sz + j, none⟩ = some u ∧ w.frozen? ⟨g, i * sz + j, none⟩ = false := by
  constructor
  · have hc := h.cells (g := g) rfl (i * sz + j) u (by rw [flat_get hE l i j hi hj]; exact hu)
    rwa [add_plain] at hc
  · rcases h.2 with ⟨h', _⟩ | ⟨g', cap', cur, h', _, hh, _⟩
    · cases h'
    · have : g = g' := by injection h' with h'; injection h' with h'; injection h' with h'
      subst this
      simp [World.frozen?, hh]
theorem flat_store {w : World} {base g n c : Nat} {e : TypeId} {l : List α} (hE : ∀ x, (enc x).length = sz) (h : w.ownsRow base e sz (.slice (some ⟨g, 0, none⟩) n c) n (flat enc l)) (i j : Nat) (hi : i < l.length) (hj : j < sz) (x : α) (v : Value) (he : enc x = (enc l[i]).set j v) :
    (w.setCell ⟨g, i * sz + j, none⟩ v).ownsRow base e sz (.slice (some ⟨g, 0, none⟩) n c) n (flat enc (l.set i x)) := by
  rw [flat_set hE l i j x v hi hj he]
  exact (h.stored (i * sz + j) v).1
end
/-- Two stores into cells apart, in either order. -/
theorem setCell_comm' (w : World) (g i j : Nat) (u v : Value) (h : i ≠ j) : (w.setCell ⟨g, i, none⟩ u).setCell ⟨g, j, none⟩ v = (w.setCell ⟨g, j, none⟩ v).setCell ⟨g, i, none⟩ u := by
  unfold World.setCell
  simp only [Option.isSome_none, Bool.false_eq_true, if_false]
  congr 1
  apply Array.ext
  · simp
  · intro k h1 h2
    simp only [Array.getElem_modify]
    by_cases hk : g = k
    · subst hk
      simp only [if_true]
      generalize w.heap[g]'_ = o
      cases o <;> simp [Array.setIfInBounds_comm _ _ h]
    · simp [hk]

section
variable {α : Type} {enc : α → List Value} {sz : Nat} {P : Program}
theorem madeCells_flat (hE : ∀ x, (enc x).length = sz) (hs : 0 < sz) (z : Value) (z0 : α) (hz : z.cells.toList = enc z0) (m : Nat) : madeCells z.cells (m * sz) = (flat enc (List.replicate m z0)).toArray := by
  have hzs : z.cells.size = sz := by rw [← Array.length_toList, hz, hE]
  apply Array.ext
  · simp [size_madeCells, flat_length hE]
  · intro k h1 h2
    rw [size_madeCells] at h1
    have hk : k = k / sz * sz + k % sz := by rw [Nat.mul_comm]; exact (Nat.div_add_mod k sz).symm
    have hq : k / sz < m := (Nat.div_lt_iff_lt_mul hs).2 h1
    have hm := Nat.mod_lt k hs
    have hg := flat_get hE (List.replicate m z0) (k / sz) (k % sz) (by simpa using hq) hm
    rw [← hk] at hg
    simp only [List.getElem_replicate] at hg
    simp only [madeCells, Array.getElem_map, Array.getElem_range, hzs, List.getElem_toArray]
    have hl : k < (flat enc (List.replicate m z0)).length := by rw [flat_length hE]; simpa using h1
    rw [List.getElem?_eq_getElem hl, ← hz] at hg
    rw [getElem!_pos _ _ (by rw [hzs]; exact hm)]
    have : (z.cells.toList)[k % sz]? = some (z.cells[k % sz]'(by rw [hzs]; exact hm)) := by
      rw [List.getElem?_eq_getElem (by rw [Array.length_toList, hzs]; exact hm)]; simp
    rw [this] at hg
    injection hg with hg
    exact hg.symm
/-- make([]T, m). -/
theorem run_make_flat (hE : ∀ x, (enc x).length = sz) (hs : 0 < sz) (t e : TypeId) (z : Value) (z0 : α) (bytes : Nat) (ht : P.underlying t = some (.slice e)) (hinfo : (P.info? e).map (fun i => (i.zero, i.size, i.bytes)) = some (some z, sz, bytes)) (hz : z.cells.toList = enc z0) (hb0 : 0 < bytes)
    (m : Nat) (hl : m * bytes ≤ 281474976710656) (W : World) :
    (Instr.makeSlice t (.int .i64 (m : Int)) (.int .i64 (m : Int))).run P W = .ok (.slice (some ⟨W.heap.size, 0, none⟩) m m) (W.alloc (.cells (flat enc (List.replicate m z0)).toArray e)) := by
  obtain ⟨i0, hi, hzz⟩ := Option.map_eq_some_iff.1 hinfo
  simp only [Prod.mk.injEq] at hzz
  obtain ⟨hz0, hz1, hz2⟩ := hzz
  have hm : m ≤ 281474976710656 := Nat.le_trans (Nat.le_mul_of_pos_right _ hb0) hl
  have hr := run_make (P := P) W t e i0 z ht hi hz0 .i64 .i64 (m : Int) (m : Int) (by omega) (by omega)
    (by
      have h3 : ((i0.bytes * m : Nat) : Int) ≤ 281474976710656 := by rw [hz2, Nat.mul_comm]; omega
      rwa [Int.natCast_mul] at h3) (by omega)
  simp only [Int.toNat_natCast] at hr
  rw [hz1, madeCells_flat hE hs z z0 hz m] at hr
  exact hr
theorem own_flat (hE : ∀ x, (enc x).length = sz) (W : World) (base : Nat) (e : TypeId) (l : List α) (hb : base ≤ W.heap.size) (hm : l.length ≤ 9223372036854775807) :
    (W.alloc (.cells (flat enc l).toArray e)).ownsRow base e sz (.slice (some ⟨W.heap.size, 0, none⟩) l.length l.length) l.length (flat enc l) := by
  have h := World.ownsRow_lit (base := base) (e := e) (size := sz) W (flat enc l).toArray l.length hb (by simpa [maxLen] using hm) (by simp [flat_length hE])
  simpa using h
end
section
variable {α : Type} {enc : α → List Value} {sz : Nat}
/-- A slice of elements that is read, flat. -/
def ReadsFlat (enc : α → List Value) (w : World) (A : Option Addr) (l : List α) : Prop := 0 < l.length → ∃ ad, A = some ad ∧ ∀ j u, (flat enc l)[j]? = some u → w.cell? (ad.add j) = some u
theorem reads_of_own {w : World} {base n c : Nat} {e : TypeId} {A : Option Addr} {l : List α} (hE : ∀ x, (enc x).length = sz) (h : w.ownsRow base e sz (.slice A n c) n (flat enc l)) (hl : l.length = n) : ReadsFlat enc w A l := by
  intro h0
  obtain ⟨g, cap, he, -, -⟩ := h.form (by omega)
  cases he
  exact ⟨_, rfl, h.cells (g := g) rfl⟩
theorem ReadsFlat.below {w w' : World} {A : Option Addr} {l : List α} (h : ReadsFlat enc w A l) (hb : Below w.heap.size w w') : ReadsFlat enc w' A l := fun h0 => by
  obtain ⟨ad, hA, hc⟩ := h h0
  exact ⟨ad, hA, fun j u hu => pw_cell_below hb (hc j u hu)⟩
end
section
variable {α : Type} {enc : α → List Value} {sz : Nat} {P : Program} {ops : Array Oper} {rest : List Oper} {o : Oper} {a : Act} {Q : Exit → Act → World → Prop} {K : Act → World → Prop} {E : Prop}
/-- append(v, ys...), elements of several cells. -/
theorem wp_append_flat (hE : ∀ x, (enc x).length = sz) (hs : 0 < sz) (h1 : ∀ x, ∀ u ∈ enc x, u.oneCell' = true) {W : World} (base : Nat) (s x : Operand) (t e : TypeId) (z : Value) (bytes : Nat)
    (ho : o.op = .call { callee := .builtin .append, args := #[s, x], argTypes := #[t, t] })
    (ht : P.underlying t = some (.slice e)) (hinfo : (P.info? e).map (fun i => (i.zero, i.size, i.bytes)) = some (some z, sz, bytes)) (hz : z.cells.size = sz) (hb0 : 0 < bytes)
    (v : Value) (xs ys : List α) (A : Option Addr) (c : Nat) (hsv : a.eval s = v) (hx : a.eval x = .slice A ys.length c)
    (HO : W.ownsRow base e sz v xs.length (flat enc xs)) (HR : ReadsFlat enc W A ys) (hy : A = none → ys = []) (hbase : base ≤ W.heap.size) (hl : (xs.length + ys.length) * bytes ≤ 140737488355328)
    (h : ∀ v1 w1, w1.ownsRow base e sz v1 (xs ++ ys).length (flat enc (xs ++ ys)) → W.grownBy w1 v.ownBlock → (v1.ownBlock = v.ownBlock ∨ ∃ b, v1.ownBlock = some b ∧ W.heap.size ≤ b) → K (a.put o.dst v1) w1) :
    o.wp P a W K Q := by
  obtain ⟨i0, hi, hzz⟩ := Option.map_eq_some_iff.1 hinfo
  simp only [Prod.mk.injEq] at hzz
  obtain ⟨hz0, hz1, hz2⟩ := hzz
  have hlen : xs.length + ys.length ≤ 140737488355328 := Nat.le_trans (Nat.le_mul_of_pos_right _ hb0) hl
  have hrun : ∃ v1 w1, (Builtin.append_ #[t, t] o.type #[v, .slice A ys.length c]).run P W = .ok v1 w1 ∧ w1.ownsRow base e sz v1 (xs ++ ys).length (flat enc (xs ++ ys)) ∧ W.grownBy w1 v.ownBlock ∧ (v1.ownBlock = v.ownBlock ∨ ∃ b, v1.ownBlock = some b ∧ W.heap.size ≤ b) := by
    by_cases hys : ys = []
    · subst hys
      refine ⟨v, W, ?_, by simpa using HO, World.grownBy.refl W _, .inl rfl⟩
      rcases HO.2 with ⟨rfl, hn⟩ | ⟨g, cap, cur, rfl, _, _, hnc, _⟩
      · cases A <;> simp [Builtin.append_, run_underlying ht, sizeOf, typeInfo, hi, Builtin.lenOf, Builtin.firstCells, loadCells, loadCellsFrom]
      · cases A <;> simp [Builtin.append_, run_underlying ht, sizeOf, typeInfo, hi, Builtin.lenOf, Builtin.firstCells, hnc, storeCells, loadCells, loadCellsFrom]
    · obtain ⟨ad, rfl, hcells⟩ := HR (List.length_pos_iff.2 hys)
      obtain ⟨v1, w1, hr, h2, h3, _, h5⟩ := run_append_own_at (P := P) W base t o.type e i0 z sz bytes ht hi hz0 hz1 hz2 hz hs v xs.length (flat enc xs) HO ad ys.length c (flat enc ys) (flat_length hE ys) hcells
        (flat_one h1 ys) (by simp only [maxLen]; omega) hl hbase
      refine ⟨v1, w1, hr, by rw [List.length_append, flat_append]; exact h2, h3, ?_⟩
      rcases h5 with h5 | h5
      · exact .inl h5
      · exact .inr ⟨_, h5, Nat.le_refl _⟩
  obtain ⟨v1, w1, hr, h2, h3, h5⟩ := hrun
  unfold Oper.wp execOp
  simp only [ho, resolve, invoke, builtin, Sem.run_bind, Sem.run_pure, Result.andThen_ok, List.map_toArray, List.map_cons, List.map_nil, hsv, hx, hr]
  exact h v1 w1 h2 h3 h5
theorem wpList_append_flat (hE : ∀ x, (enc x).length = sz) (hs : 0 < sz) (h1 : ∀ x, ∀ u ∈ enc x, u.oneCell' = true) {W : World} (hgd : o.guard = none) (base : Nat) (s x : Operand) (t e : TypeId) (z : Value) (bytes : Nat)
    (ho : o.op = .call { callee := .builtin .append, args := #[s, x], argTypes := #[t, t] })
    (ht : P.underlying t = some (.slice e)) (hinfo : (P.info? e).map (fun i => (i.zero, i.size, i.bytes)) = some (some z, sz, bytes)) (hz : z.cells.size = sz) (hb0 : 0 < bytes)
    (v : Value) (xs ys : List α) (A : Option Addr) (c : Nat) (hsv : a.eval s = v) (hx : a.eval x = .slice A ys.length c)
    (HO : W.ownsRow base e sz v xs.length (flat enc xs)) (HR : ReadsFlat enc W A ys) (hy : A = none → ys = []) (hbase : base ≤ W.heap.size) (hl : (xs.length + ys.length) * bytes ≤ 140737488355328)
    (h : ∀ v1 w1, w1.ownsRow base e sz v1 (xs ++ ys).length (flat enc (xs ++ ys)) → W.grownBy w1 v.ownBlock → (v1.ownBlock = v.ownBlock ∨ ∃ b, v1.ownBlock = some b ∧ W.heap.size ≤ b) → wpList P ops Q rest (a.put o.dst v1) w1) :
    wpList P ops Q (o :: rest) a W :=
  wpList_plain hgd fun K hK => wp_append_flat hE hs h1 base s x t e z bytes ho ht hinfo hz hb0 v xs ys A c hsv hx HO HR hy hbase hl (fun v1 w1 a b c => hK _ _ (h v1 w1 a b c))
theorem step_append_flat (hE : ∀ x, (enc x).length = sz) (hs : 0 < sz) (h1 : ∀ x, ∀ u ∈ enc x, u.oneCell' = true) {W : World} (hgd : o.guard = none) (base : Nat) (s x : Operand) (t e : TypeId) (z : Value) (bytes : Nat)
    (ho : o.op = .call { callee := .builtin .append, args := #[s, x], argTypes := #[t, t] })
    (ht : P.underlying t = some (.slice e)) (hinfo : (P.info? e).map (fun i => (i.zero, i.size, i.bytes)) = some (some z, sz, bytes)) (hz : z.cells.size = sz) (hb0 : 0 < bytes)
    (v : Value) (xs ys : List α) (A : Option Addr) (c : Nat) (hsv : a.eval s = v) (hx : a.eval x = .slice A ys.length c)
    (HO : W.ownsRow base e sz v xs.length (flat enc xs)) (HR : ReadsFlat enc W A ys) (hy : A = none → ys = []) (hbase : base ≤ W.heap.size) (hl : (xs.length + ys.length) * bytes ≤ 140737488355328)
    (h : ∀ v1 w1, w1.ownsRow base e sz v1 (xs ++ ys).length (flat enc (xs ++ ys)) → W.grownBy w1 v.ownBlock → (v1.ownBlock = v.ownBlock ∨ ∃ b, v1.ownBlock = some b ∧ W.heap.size ≤ b) → K (a.put o.dst v1) w1) :
    if Region.wanted o (yielded ops a.tmps) = true then Oper.wp P o a W K Q else E := by
  rw [if_pos (by simp [Region.wanted, hgd])]
  exact wp_append_flat hE hs h1 base s x t e z bytes ho ht hinfo hz hb0 v xs ys A c hsv hx HO HR hy hbase hl h
end
/-- Which of n things the raw number c speaks of. -/
def pickI (c n : Int) : Int := if c < 0 then (-(c + 1)) % n else c % n
theorem pickI_range (c : Int) {n : Int} (h : 1 ≤ n) : 0 ≤ pickI c n ∧ pickI c n < n := by
  unfold pickI
  split
  · exact ⟨Int.emod_nonneg _ (by omega), Int.emod_lt_of_pos _ (by omega)⟩
  · exact ⟨Int.emod_nonneg _ (by omega), Int.emod_lt_of_pos _ (by omega)⟩
theorem pickI_neg {c n : Int} (h : c < 0) : pickI c n = -((c + 1).tmod n) := by
  unfold pickI
  rw [if_pos h, ← Int.neg_tmod, Int.tmod_eq_emod_of_nonneg (by omega)]
theorem pickI_pos {c n : Int} (h : ¬ c < 0) : pickI c n = c % n := by unfold pickI; rw [if_neg h]
end Go.Proofs.Ytnenbngjdekegaa.Base
