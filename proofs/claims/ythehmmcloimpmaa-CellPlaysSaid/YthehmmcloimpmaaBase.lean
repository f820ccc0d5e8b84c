import Derived.Test.YthehmmcloimpmaaProg
import Derived.Test.YthehmmcloimpmaaWZeros
import Derived.WalkKit
import Derived.WalkSpells
import Derived.Deep.QuietTactic
import Derived.BigQuiet
import Derived.Deep.RegionHeld3
set_option linter.unusedVariables false
set_option linter.unusedSimpArgs false
namespace Go.Proofs.Ythehmmcloimpmaa.Base
open Go.RowKit Go.Proofs.YthehmmcloimpmaaW.PrintWords

/-- What a call keeps: all but the blocks of F. -/
structure Upd (F : Nat → Prop) (w w' : World) : Prop where
  os : w'.os = w.os
  tape : w'.tape = w.tape
  output : w'.output = w.output
  size : w.heap.size ≤ w'.heap.size
  block : ∀ k, k < w.heap.size → ¬ F k → w'.heap[k]? = w.heap[k]?
theorem Upd.refl (F : Nat → Prop) (w : World) : Upd F w w := ⟨rfl, rfl, rfl, Nat.le_refl _, fun _ _ _ => rfl⟩
theorem Upd.trans {F G : Nat → Prop} {a b c : World} (h : Upd F a b) (k : Upd G b c) (hG : ∀ i, G i → F i ∨ a.heap.size ≤ i) : Upd F a c :=
  ⟨k.os.trans h.os, k.tape.trans h.tape, k.output.trans h.output, Nat.le_trans h.size k.size, fun i hi hn =>
    (k.block i (Nat.lt_of_lt_of_le hi h.size) (fun hg => (hG i hg).elim hn (fun hl => by omega))).trans (h.block i hi hn)⟩
theorem Upd.of_below {F : Nat → Prop} {w w' : World} (h : Below w.heap.size w w') : Upd F w w' := ⟨h.os, h.tape, h.output, h.size, fun k hk _ => h.block k hk⟩
theorem Upd.below {F : Nat → Prop} {B : Nat} {w w' : World} (h : Upd F w w') (hB : B ≤ w.heap.size) (hF : ∀ k, F k → B ≤ k) : Below B w w' :=
  ⟨h.os, h.tape, h.output, h.size, fun k hk => h.block k (by omega) (fun hf => by have := hF k hf; omega)⟩
theorem Upd.mono {F G : Nat → Prop} {w w' : World} (h : Upd F w w') (hG : ∀ k, F k → G k) : Upd G w w' := ⟨h.os, h.tape, h.output, h.size, fun k hk hn => h.block k hk (fun hf => hn (hG k hf))⟩
theorem Upd.drawn {F : Nat → Prop} {w w' : World} (h : Drawn0 w w') : Upd F w w' := Upd.of_below h.below
theorem Upd.alloc {F : Nat → Prop} {a w : World} (h : Upd F a w) (o : Obj) : Upd F a (w.alloc o) := h.trans (G := fun _ => False) (Upd.of_below (below_alloc (Below.refl _ _) o)) (fun _ hf => hf.elim)
theorem Upd.drew {F : Nat → Prop} {a w : World} (h : Upd F a w) : Upd F a w.drew := ⟨h.os, h.tape, h.output, h.size, h.block⟩
theorem Upd.drewN {F : Nat → Prop} {a w : World} (h : Upd F a w) (n : Nat) : Upd F a (w.drewN n) := ⟨h.os, h.tape, h.output, h.size, h.block⟩
theorem Upd.setCell {F : Nat → Prop} {a w : World} (h : Upd F a w) {p : Addr} (hp : F p.block ∨ a.heap.size ≤ p.block) (u : Value) : Upd F a (w.setCell p u) :=
  h.trans (G := fun k => k = p.block) ⟨rfl, rfl, rfl, by simp [World.setCell], fun k _ hn => Below.heap_setCell _ _ _ _ hn⟩ (fun k hk => by rw [hk]; exact hp)
theorem Upd.grown {F : Nat → Prop} {a w w' : World} {row : Option Nat} (h : Upd F a w) (hg : w.grownBy w' row) (hr : ∀ k, row = some k → F k ∨ a.heap.size ≤ k) : Upd F a w' :=
  h.trans (G := fun k => row = some k) ⟨hg.os, hg.tape, hg.output, hg.size, fun k hk hn => hg.block k hk (fun he => hn he.symm)⟩ hr
theorem Upd.blk {F : Nat → Prop} {w w' : World} (h : Upd F w w') {g : Nat} {o : Obj} (hb : w.heap[g]? = some o) (hn : ¬ F g) : w'.heap[g]? = some o := (h.block g (blk_lt hb) hn).trans hb
theorem Upd.grownBy {w w' : World} {g : Option Nat} {F : Nat → Prop} (h : Upd F w w') (hF : ∀ k, F k → g = some k) : w.grownBy w' g := ⟨h.os, h.tape, h.output, h.size, fun k hk hn => h.block k hk (fun hf => hn (hF k hf).symm)⟩
theorem Upd.own {F : Nat → Prop} {w w' : World} (h : Upd F w w') {base n : Nat} {e : TypeId} {size : Nat} {v : Value} {xs : List Value} (ho : w.ownsRow base e size v n xs) (hn : ∀ k, v.ownBlock = some k → ¬ F k) : w'.ownsRow base e size v n xs := by
  obtain ⟨h1, h2⟩ := ho
  refine ⟨h1, ?_⟩
  rcases h2 with h2 | ⟨g, cap, cur, hv, hg, hh, r⟩
  · exact Or.inl h2
  · exact Or.inr ⟨g, cap, cur, hv, hg, h.blk hh (hn g (by rw [hv]; rfl)), r⟩

section
variable {P : Program} {ops : Array Oper} {rest : List Oper} {o : Oper} {a : Act} {Q : Exit → Act → World → Prop} {K : Act → World → Prop} {E : Prop}
/-- append(v, make([]T, m)...), whole numbers. -/
theorem wp_append_zeros {W : World} (base : Nat) (s x : Operand) (t ti e : TypeId) (k : IntKind) {kk : IntKind} (bytes : Nat)
    (ho : o.op = .call { callee := .builtin .append, args := #[s, x], argTypes := #[t, ti] })
    (ht : P.underlying t = some (.slice e)) (hti : P.underlying ti = some (.int kk)) (hinfo : (P.info? e).map (fun i => (i.zero, i.size, i.bytes)) = some (some (.int k 0), 1, bytes)) (hb0 : 0 < bytes)
    (v : Value) (xs : List Int) (m : Int) (hs : a.eval s = v) (hx : a.eval x = .int .i64 m) (h0 : 0 ≤ m)
    (HO : W.ownsRow base e 1 v xs.length (nums k xs)) (hbase : base ≤ W.heap.size) (hl : (xs.length + m.toNat) * bytes ≤ 140737488355328)
    (h : ∀ v1 w1, w1.ownsRow base e 1 v1 (xs ++ List.replicate m.toNat 0).length (nums k (xs ++ List.replicate m.toNat 0)) → W.grownBy w1 v.ownBlock → (v1.ownBlock = v.ownBlock ∨ v1.ownBlock = some W.heap.size) → K (a.put o.dst v1) w1) :
    o.wp P a W K Q := by
  obtain ⟨n, rfl⟩ := Int.eq_ofNat_of_zero_le h0
  simp only [Int.toNat_natCast] at hl h
  obtain ⟨i0, hi, hzz⟩ := Option.map_eq_some_iff.1 hinfo
  simp only [Prod.mk.injEq] at hzz
  obtain ⟨hz0, hz1, hz2⟩ := hzz
  have hz : (Builtin.zeroCells (Value.int k 0).cells n).toList = nums k (List.replicate n 0) := by
    apply List.ext_getElem
    · simp [nums, size_zeroCells, Value.cells]
    · intro i h1 h2
      simp [nums, Builtin.zeroCells, Value.cells, Nat.mod_one]
  obtain ⟨v1, w1, hr, h2, h3, h5⟩ := run_append_zeros (P := P) W base t ti o.type e i0 (.int k 0) 1 bytes ht hti hi hz0 hz1 hz2 rfl (by omega) hb0 v xs.length (nums k xs) HO .i64 n
    (by intro u hu; rw [hz] at hu; simp only [nums, List.mem_map] at hu; obtain ⟨q, _, rfl⟩ := hu; rfl) hl hbase
  rw [hz] at h2
  unfold Oper.wp execOp
  simp only [ho, resolve, invoke, builtin, Sem.run_bind, Sem.run_pure, Result.andThen_ok, List.map_toArray, List.map_cons, List.map_nil, hs, hx, hr]
  exact h v1 w1 (by simpa [nums] using h2) h3 h5
theorem wpList_append_zeros {W : World} (base : Nat) (hgd : o.guard = none) (s x : Operand) (t ti e : TypeId) (k : IntKind) {kk : IntKind} (bytes : Nat)
    (ho : o.op = .call { callee := .builtin .append, args := #[s, x], argTypes := #[t, ti] })
    (ht : P.underlying t = some (.slice e)) (hti : P.underlying ti = some (.int kk)) (hinfo : (P.info? e).map (fun i => (i.zero, i.size, i.bytes)) = some (some (.int k 0), 1, bytes)) (hb0 : 0 < bytes)
    (v : Value) (xs : List Int) (m : Int) (hs : a.eval s = v) (hx : a.eval x = .int .i64 m) (h0 : 0 ≤ m)
    (HO : W.ownsRow base e 1 v xs.length (nums k xs)) (hbase : base ≤ W.heap.size) (hl : (xs.length + m.toNat) * bytes ≤ 140737488355328)
    (h : ∀ v1 w1, w1.ownsRow base e 1 v1 (xs ++ List.replicate m.toNat 0).length (nums k (xs ++ List.replicate m.toNat 0)) → W.grownBy w1 v.ownBlock → (v1.ownBlock = v.ownBlock ∨ v1.ownBlock = some W.heap.size) → wpList P ops Q rest (a.put o.dst v1) w1) :
    wpList P ops Q (o :: rest) a W :=
  wpList_plain hgd fun K hK => wp_append_zeros base s x t ti e k bytes ho ht hti hinfo hb0 v xs m hs hx h0 HO hbase hl (fun v1 w1 a b c => hK _ _ (h v1 w1 a b c))
theorem step_append_zeros {W : World} (hgd : o.guard = none) (base : Nat) (s x : Operand) (t ti e : TypeId) (k : IntKind) {kk : IntKind} (bytes : Nat)
    (ho : o.op = .call { callee := .builtin .append, args := #[s, x], argTypes := #[t, ti] })
    (ht : P.underlying t = some (.slice e)) (hti : P.underlying ti = some (.int kk)) (hinfo : (P.info? e).map (fun i => (i.zero, i.size, i.bytes)) = some (some (.int k 0), 1, bytes)) (hb0 : 0 < bytes)
    (v : Value) (xs : List Int) (m : Int) (hs : a.eval s = v) (hx : a.eval x = .int .i64 m) (h0 : 0 ≤ m)
    (HO : W.ownsRow base e 1 v xs.length (nums k xs)) (hbase : base ≤ W.heap.size) (hl : (xs.length + m.toNat) * bytes ≤ 140737488355328)
    (h : ∀ v1 w1, w1.ownsRow base e 1 v1 (xs ++ List.replicate m.toNat 0).length (nums k (xs ++ List.replicate m.toNat 0)) → W.grownBy w1 v.ownBlock → (v1.ownBlock = v.ownBlock ∨ v1.ownBlock = some W.heap.size) → K (a.put o.dst v1) w1) :
    if Region.wanted o (yielded ops a.tmps) = true then Oper.wp P o a W K Q else E := by
  rw [if_pos (by simp [Region.wanted, hgd])]
  exact wp_append_zeros base s x t ti e k bytes ho ht hti hinfo hb0 v xs m hs hx h0 HO hbase hl h
/-- append(v, ys...), ys a slice of whole numbers that is read. -/
theorem run_append_nums {W : World} (base : Nat) (t ty e : TypeId) (k : IntKind) (bytes : Nat)
    (ht : P.underlying t = some (.slice e)) (hinfo : (P.info? e).map (fun i => (i.zero, i.size, i.bytes)) = some (some (.int k 0), 1, bytes)) (hb0 : 0 < bytes)
    (v : Value) (xs ys : List Int) (A : Option Addr) (m c : Nat)
    (HO : W.ownsRow base e 1 v xs.length (nums k xs)) (HR : ReadsInt W k A m ys) (hbase : base ≤ W.heap.size) (hl : (xs.length + m) * bytes ≤ 140737488355328) :
    ∃ v1 w1, (Builtin.append_ #[t, t] ty #[v, .slice A m c]).run P W = .ok v1 w1 ∧ w1.ownsRow base e 1 v1 (xs ++ ys).length (nums k (xs ++ ys)) ∧ W.grownBy w1 v.ownBlock ∧ (v1.ownBlock = v.ownBlock ∨ ∃ b, v1.ownBlock = some b ∧ W.heap.size ≤ b) := by
  obtain ⟨i0, hi, hzz⟩ := Option.map_eq_some_iff.1 hinfo
  simp only [Prod.mk.injEq] at hzz
  obtain ⟨hz0, hz1, hz2⟩ := hzz
  have hm : ys.length = m := HR.1
  have hlen : xs.length + m ≤ 140737488355328 := Nat.le_trans (Nat.le_mul_of_pos_right _ hb0) hl
  rcases A with _ | ad
  · have h0 : m = 0 := by
      rcases Nat.eq_zero_or_pos m with h0 | h0
      · exact h0
      · obtain ⟨ad, h, _⟩ := HR.2.2 h0
        cases h
    subst h0
    obtain rfl : ys = [] := List.eq_nil_of_length_eq_zero hm
    refine ⟨v, W, ?_, by simpa using HO, World.grownBy.refl W _, .inl rfl⟩
    rcases HO.2 with ⟨rfl, hn⟩ | ⟨g, cap, cur, rfl, _, _, hnc, _⟩
    · simp [Builtin.append_, run_underlying ht, sizeOf, typeInfo, hi, Builtin.lenOf, Builtin.firstCells]
    · simp [Builtin.append_, run_underlying ht, sizeOf, typeInfo, hi, Builtin.lenOf, Builtin.firstCells, hnc, storeCells]
  · have hcells : ∀ j u, (nums k ys)[j]? = some u → W.cell? (ad.add j) = some u := by
      intro j u hu
      have hj : j < ys.length := by
        rcases Nat.lt_or_ge j ys.length with h | h
        · exact h
        · simp [nums, List.getElem?_eq_none h] at hu
      obtain ⟨ad', h', hc⟩ := HR.2.2 (by omega)
      injection h' with h'
      subst h'
      have := hc j (by omega)
      simp [nums, List.getElem?_eq_getElem hj] at hu
      subst hu
      rw [this]
      simp [List.getD_eq_getElem?_getD, List.getElem?_eq_getElem hj]
    obtain ⟨v1, w1, hr, h2, h3, _, h5⟩ := run_append_own_at (P := P) W base t ty e i0 (.int k 0) 1 bytes ht hi hz0 hz1 hz2 rfl (by omega) v xs.length (nums k xs) HO ad m c (nums k ys) (by simp [nums, hm]) hcells
      (by intro u hu; simp only [nums, List.mem_map] at hu; obtain ⟨q, _, rfl⟩ := hu; rfl) (by simp only [maxLen]; omega) hl hbase
    refine ⟨v1, w1, hr, by simpa [nums, hm] using h2, h3, ?_⟩
    rcases h5 with h5 | h5
    · exact .inl h5
    · exact .inr ⟨_, h5, Nat.le_refl _⟩
theorem wp_append_nums {W : World} (base : Nat) (s x : Operand) (t e : TypeId) (k : IntKind) (bytes : Nat)
    (ho : o.op = .call { callee := .builtin .append, args := #[s, x], argTypes := #[t, t] })
    (ht : P.underlying t = some (.slice e)) (hinfo : (P.info? e).map (fun i => (i.zero, i.size, i.bytes)) = some (some (.int k 0), 1, bytes)) (hb0 : 0 < bytes)
    (v : Value) (xs ys : List Int) (A : Option Addr) (m c : Nat) (hs : a.eval s = v) (hx : a.eval x = .slice A m c)
    (HO : W.ownsRow base e 1 v xs.length (nums k xs)) (HR : ReadsInt W k A m ys) (hbase : base ≤ W.heap.size) (hl : (xs.length + m) * bytes ≤ 140737488355328)
    (h : ∀ v1 w1, w1.ownsRow base e 1 v1 (xs ++ ys).length (nums k (xs ++ ys)) → W.grownBy w1 v.ownBlock → (v1.ownBlock = v.ownBlock ∨ ∃ b, v1.ownBlock = some b ∧ W.heap.size ≤ b) → K (a.put o.dst v1) w1) :
    o.wp P a W K Q := by
  obtain ⟨v1, w1, hr, h2, h3, h5⟩ := run_append_nums (P := P) base t o.type e k bytes ht hinfo hb0 v xs ys A m c HO HR hbase hl
  unfold Oper.wp execOp
  simp only [ho, resolve, invoke, builtin, Sem.run_bind, Sem.run_pure, Result.andThen_ok, List.map_toArray, List.map_cons, List.map_nil, hs, hx, hr]
  exact h v1 w1 h2 h3 h5
theorem wpList_append_nums {W : World} (hgd : o.guard = none) (base : Nat) (s x : Operand) (t e : TypeId) (k : IntKind) (bytes : Nat)
    (ho : o.op = .call { callee := .builtin .append, args := #[s, x], argTypes := #[t, t] })
    (ht : P.underlying t = some (.slice e)) (hinfo : (P.info? e).map (fun i => (i.zero, i.size, i.bytes)) = some (some (.int k 0), 1, bytes)) (hb0 : 0 < bytes)
    (v : Value) (xs ys : List Int) (A : Option Addr) (m c : Nat) (hs : a.eval s = v) (hx : a.eval x = .slice A m c)
    (HO : W.ownsRow base e 1 v xs.length (nums k xs)) (HR : ReadsInt W k A m ys) (hbase : base ≤ W.heap.size) (hl : (xs.length + m) * bytes ≤ 140737488355328)
    (h : ∀ v1 w1, w1.ownsRow base e 1 v1 (xs ++ ys).length (nums k (xs ++ ys)) → W.grownBy w1 v.ownBlock → (v1.ownBlock = v.ownBlock ∨ ∃ b, v1.ownBlock = some b ∧ W.heap.size ≤ b) → wpList P ops Q rest (a.put o.dst v1) w1) :
    wpList P ops Q (o :: rest) a W :=
  wpList_plain hgd fun K hK => wp_append_nums base s x t e k bytes ho ht hinfo hb0 v xs ys A m c hs hx HO HR hbase hl (fun v1 w1 a b c => hK _ _ (h v1 w1 a b c))
theorem step_append_nums {W : World} (hgd : o.guard = none) (base : Nat) (s x : Operand) (t e : TypeId) (k : IntKind) (bytes : Nat)
    (ho : o.op = .call { callee := .builtin .append, args := #[s, x], argTypes := #[t, t] })
    (ht : P.underlying t = some (.slice e)) (hinfo : (P.info? e).map (fun i => (i.zero, i.size, i.bytes)) = some (some (.int k 0), 1, bytes)) (hb0 : 0 < bytes)
    (v : Value) (xs ys : List Int) (A : Option Addr) (m c : Nat) (hs : a.eval s = v) (hx : a.eval x = .slice A m c)
    (HO : W.ownsRow base e 1 v xs.length (nums k xs)) (HR : ReadsInt W k A m ys) (hbase : base ≤ W.heap.size) (hl : (xs.length + m) * bytes ≤ 140737488355328)
    (h : ∀ v1 w1, w1.ownsRow base e 1 v1 (xs ++ ys).length (nums k (xs ++ ys)) → W.grownBy w1 v.ownBlock → (v1.ownBlock = v.ownBlock ∨ ∃ b, v1.ownBlock = some b ∧ W.heap.size ≤ b) → K (a.put o.dst v1) w1) :
    if Region.wanted o (yielded ops a.tmps) = true then Oper.wp P o a W K Q else E := by
  rw [if_pos (by simp [Region.wanted, hgd])]
  exact wp_append_nums base s x t e k bytes ho ht hinfo hb0 v xs ys A m c hs hx HO HR hbase hl h
end

/-- An error of api's. -/
abbrev errC (c : Int) : Value := .iface 32 (.int .i64 c)
theorem eqlE (c d : Int) (w : World) : (binOp .eql 29 (.iface 32 (.int .i64 c)) (.iface 32 (.int .i64 d))).run Try.prog w = .ok (.bool (c == d)) w := by kernel_rfl
theorem eqlN (c : Int) (w : World) : (binOp .eql 29 (.iface 32 (.int .i64 c)) .nilIface).run Try.prog w = .ok (.bool false) w := by kernel_rfl
theorem eqlN' (c : Int) (w : World) : (binOp .eql 29 .nilIface (.iface 32 (.int .i64 c))).run Try.prog w = .ok (.bool false) w := by kernel_rfl
theorem guardE (x y : Operand) (c d : Int) (w : World) : (eqGuard .eql 29 x y (.iface 32 (.int .i64 c)) (.iface 32 (.int .i64 d))).run Try.prog w = .ok () w := by kernel_rfl
theorem guardN (x y : Operand) (c : Int) (w : World) : (eqGuard .eql 29 x y (.iface 32 (.int .i64 c)) .nilIface).run Try.prog w = .ok () w := by kernel_rfl
theorem guardN' (x y : Operand) (c : Int) (w : World) : (eqGuard .eql 29 x y .nilIface (.iface 32 (.int .i64 c))).run Try.prog w = .ok () w := by kernel_rfl
theorem neqE (c d : Int) (w : World) : (binOp .neq 29 (.iface 32 (.int .i64 c)) (.iface 32 (.int .i64 d))).run Try.prog w = .ok (.bool (c != d)) w := by kernel_rfl
theorem neqN' (c : Int) (w : World) : (binOp .neq 29 .nilIface (.iface 32 (.int .i64 c))).run Try.prog w = .ok (.bool true) w := by kernel_rfl
theorem nguardE (x y : Operand) (c d : Int) (w : World) : (eqGuard .neq 29 x y (.iface 32 (.int .i64 c)) (.iface 32 (.int .i64 d))).run Try.prog w = .ok () w := by kernel_rfl
theorem nguardN' (x y : Operand) (c : Int) (w : World) : (eqGuard .neq 29 x y .nilIface (.iface 32 (.int .i64 c))).run Try.prog w = .ok () w := by kernel_rfl
theorem info64 : (Try.prog.info? 2).map (fun i => (i.zero, i.size, i.bytes)) = some (some (.int .i64 0), 1, 8) := by kernel_rfl

theorem at_ne {v v1 : Value} {k M : Nat} (hat : v1.ownBlock = v.ownBlock ∨ ∃ b, v1.ownBlock = some b ∧ M ≤ b) (hne : some k ≠ v.ownBlock) (hk : k < M) : some k ≠ v1.ownBlock := by
  rcases hat with h | ⟨b, h, hb⟩
  · rw [h]; exact hne
  · rw [h]; intro he; injection he with he; omega
end Go.Proofs.Ythehmmcloimpmaa.Base
