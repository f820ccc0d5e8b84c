import Derived.Test.YthehmmcloimpmaaProg
import Derived.Test.YthehmmcloimpmaaWZeros
import Derived.WalkKit
import Derived.WalkSpells
import Derived.Deep.QuietTactic
import Derived.BigQuiet
import Derived.Deep.RegionHeld3
set_option linter.unusedVariables false
set_option linter.unusedSimpArgs false
namespace Go.Proofs.Ythehmmcloimpmaa.Base
open Go.RowKit Go.Proofs.YthehmmcloimpmaaW.PrintWords

/-- What a call keeps: all but the blocks of F. -/
structure Upd (F : Nat → Prop) (w w' : World) : Prop where
  os : w'.os = w.os
  tape : w'.tape = w.tape
  output : w'.output = w.output
  size : w.heap.size ≤ w'.heap.size
  block : ∀ k, k < w.heap.size → ¬ F k → w'.heap[k]? = w.heap[k]?
theorem Upd.refl (F : Nat → Prop) (w : World) : Upd F w w := ⟨rfl, rfl, rfl, Nat.le_refl _, fun _ _ _ => rfl⟩
theorem Upd.trans {F G : Nat → Prop} {a b c : World} (h : Upd F a b) (k : Upd G b c) (hG : ∀ i, G i → F i ∨ a.heap.size ≤ i) : Upd F a c :=
  ⟨k.os.trans h.os, k.tape.trans h.tape, k.output.trans h.output, Nat.le_trans h.size k.size, fun i hi hn =>
    (k.block i (Nat.lt_of_lt_of_le hi h.size) (fun hg => (hG i hg).elim hn (fun hl => by omega))).trans (h.block i hi hn)⟩
theorem Upd.of_below {F : Nat → Prop} {w w' : World} (h : Below w.heap.size w w') : Upd F w w' := ⟨h.os, h.tape, h.output, h.size, fun k hk _ => h.block k hk⟩
theorem Upd.below {F : Nat → Prop} {B : Nat} {w w' : World} (h : Upd F w w') (hB : B ≤ w.heap.size) (hF : ∀ k, F k → B ≤ k) : Below B w w' :=
  ⟨h.os, h.tape, h.output, h.size, fun k hk => h.block k (by omega) (fun hf => by have := hF k hf; omega)⟩
theorem Upd.mono {F G : Nat → Prop} {w w' : World} (h : Upd F w w') (hG : ∀ k, F k → G k) : Upd G w w' := ⟨h.os, h.tape, h.output, h.size, fun k hk hn => h.block k hk (fun hf => hn (hG k hf))⟩
theorem Upd.drawn {F : Nat → Prop} {w w' : World} (h : Drawn0 w w') : Upd F w w' := Upd.of_below h.below
theorem Upd.alloc {F : Nat → Prop} {a w : World} (h : Upd F a w) (o : Obj) : Upd F a (w.alloc o) := h.trans (G := fun _ => False) (Upd.of_below (below_alloc (Below.refl _ _) o)) (fun _ hf => hf.elim)
theorem Upd.drew {F : Nat → Prop} {a w : World} (h : Upd F a w) : Upd F a w.drew := ⟨h.os, h.tape, h.output, h.size, h.block⟩
theorem Upd.drewN {F : Nat → Prop} {a w : World} (h : Upd F a w) (n : Nat) : Upd F a (w.drewN n) := ⟨h.os, h.tape, h.output, h.size, h.block⟩
theorem Upd.setCell {F : Nat → Prop} {a w : World} (h : Upd F a w) {p : Addr} (hp : F p.block ∨ a.heap.size ≤ p.block) (u : Value) : Upd F a (w.setCell p u) :=
  h.trans (G := fun k => k = p.block) ⟨rfl, rfl, rfl, by simp [World.setCell], fun k _ hn => Below.heap_setCell _ _ _ _ hn⟩ (fun k hk => by rw [hk]; exact hp)
theorem Upd.grown {F : Nat → Prop} {a w w' : World} {row : Option Nat} (h : Upd F a w) (hg : w.grownBy w' row) (hr : ∀ k, row = some k → F k ∨ a.heap.size ≤ k) : Upd F a w' :=
  h.trans (G := fun k => row = some k) ⟨hg.os, hg.tape, hg.output, hg.size, fun k hk hn => hg.block k hk (fun he => hn he.symm)⟩ hr
theorem Upd.blk {F : Nat → Prop} {w w' : World} (h : Upd F w w') {g : Nat} {o : Obj} (hb : w.heap[g]? = some o) (hn : ¬ F g) : w'.heap[g]? = some o := (h.block g (blk_lt hb) hn).trans hb
theorem Upd.grownBy {w w' : World} {g : Option Nat} {F : Nat → Prop} (h : Upd F w w') (hF : ∀ k, F k → g = some k) : w.grownBy w' g := ⟨h.os, h.tape, h.output, h.size, fun k hk hn => h.block k hk (fun hf => hn (hF k hf).symm)⟩
theorem Upd.own {F : Nat → Prop} {w w' : World} (h : Upd F w w') {base n : Nat} {e : TypeId} {size : Nat} {v : Value} {xs : List Value} (ho : w.ownsRow base e size v n xs) (hn : ∀ k, v.ownBlock = some k → ¬ F k) : w'.ownsRow base e size v n xs := by
  obtain ⟨h1, h2⟩ := ho
  refine ⟨h1, ?_⟩
  rcases h2 with h2 | ⟨g, cap, cur, hv, hg, hh, r⟩
  · exact Or.inl h2
  · exact Or.inr ⟨g, cap, cur, hv, hg, h.blk hh (hn g (by rw [hv]; rfl)), r⟩

section
variable {P : Program} {ops : Array Oper} {rest : List Oper} {o : Oper} {a : Act} {Q : Exit → Act → World → Prop}
theorem wpList_append_zeros {W : World} (base : Nat) (hgd : o.guard = none) (s x : Operand) (t ti e : TypeId) (k : IntKind) {kk : IntKind} (bytes : Nat)
    (ho : o.op = .call { callee := .builtin .append, args := #[s, x], argTypes := #[t, ti] })
    (ht : P.underlying t = some (.slice e)) (hti : P.underlying ti = some (.int kk)) (hinfo : (P.info? e).map (fun i => (i.zero, i.size, i.bytes)) = some (some (.int k 0), 1, bytes)) (hb0 : 0 < bytes)
    (v : Value) (xs : List Int) (m : Int) (hs : a.eval s = v) (hx : a.eval x = .int .i64 m) (h0 : 0 ≤ m)
    (HO : W.ownsRow base e 1 v xs.length (nums k xs)) (hbase : base ≤ W.heap.size) (hl : (xs.length + m.toNat) * bytes ≤ 140737488355328)
    (h : ∀ v1 w1, w1.ownsRow base e 1 v1 (xs ++ List.replicate m.toNat 0).length (nums k (xs ++ List.replicate m.toNat 0)) → W.grownBy w1 v.ownBlock → (v1.ownBlock = v.ownBlock ∨ v1.ownBlock = some W.heap.size) → wpList P ops Q rest (a.put o.dst v1) w1) :
    wpList P ops Q (o :: rest) a W := by
  obtain ⟨n, rfl⟩ := Int.eq_ofNat_of_zero_le h0
  simp only [Int.toNat_natCast] at hl h
  obtain ⟨i0, hi, hzz⟩ := Option.map_eq_some_iff.1 hinfo
  simp only [Prod.mk.injEq] at hzz
  obtain ⟨hz0, hz1, hz2⟩ := hzz
  have hz : (Builtin.zeroCells (Value.int k 0).cells n).toList = nums k (List.replicate n 0) := by
    apply List.ext_getElem
    · simp [nums, size_zeroCells, Value.cells]
    · intro i h1 h2
      simp [nums, Builtin.zeroCells, Value.cells, Nat.mod_one]
  obtain ⟨v1, w1, hr, h2, h3, h5⟩ := run_append_zeros (P := P) W base t ti o.type e i0 (.int k 0) 1 bytes ht hti hi hz0 hz1 hz2 rfl (by omega) hb0 v xs.length (nums k xs) HO .i64 n
    (by intro u hu; rw [hz] at hu; simp only [nums, List.mem_map] at hu; obtain ⟨q, _, rfl⟩ := hu; rfl) hl hbase
  rw [hz] at h2
  refine wpList_plain hgd fun K hK => ?_
  unfold Oper.wp execOp
  simp only [ho, resolve, invoke, builtin, Sem.run_bind, Sem.run_pure, Result.andThen_ok, List.map_toArray, List.map_cons, List.map_nil, hs, hx, hr]
  exact hK _ _ (h v1 w1 (by simpa [nums] using h2) h3 h5)
end

/-- An error of api's. -/
abbrev errC (c : Int) : Value := .iface 32 (.int .i64 c)
theorem eqlE (c d : Int) (w : World) : (binOp .eql 29 (.iface 32 (.int .i64 c)) (.iface 32 (.int .i64 d))).run Try.prog w = .ok (.bool (c == d)) w := by kernel_rfl
theorem eqlN (c : Int) (w : World) : (binOp .eql 29 (.iface 32 (.int .i64 c)) .nilIface).run Try.prog w = .ok (.bool false) w := by kernel_rfl
theorem eqlN' (c : Int) (w : World) : (binOp .eql 29 .nilIface (.iface 32 (.int .i64 c))).run Try.prog w = .ok (.bool false) w := by kernel_rfl
theorem guardE (x y : Operand) (c d : Int) (w : World) : (eqGuard .eql 29 x y (.iface 32 (.int .i64 c)) (.iface 32 (.int .i64 d))).run Try.prog w = .ok () w := by kernel_rfl
theorem guardN (x y : Operand) (c : Int) (w : World) : (eqGuard .eql 29 x y (.iface 32 (.int .i64 c)) .nilIface).run Try.prog w = .ok () w := by kernel_rfl
theorem guardN' (x y : Operand) (c : Int) (w : World) : (eqGuard .eql 29 x y .nilIface (.iface 32 (.int .i64 c))).run Try.prog w = .ok () w := by kernel_rfl
theorem neqE (c d : Int) (w : World) : (binOp .neq 29 (.iface 32 (.int .i64 c)) (.iface 32 (.int .i64 d))).run Try.prog w = .ok (.bool (c != d)) w := by kernel_rfl
theorem neqN' (c : Int) (w : World) : (binOp .neq 29 .nilIface (.iface 32 (.int .i64 c))).run Try.prog w = .ok (.bool true) w := by kernel_rfl
theorem nguardE (x y : Operand) (c d : Int) (w : World) : (eqGuard .neq 29 x y (.iface 32 (.int .i64 c)) (.iface 32 (.int .i64 d))).run Try.prog w = .ok () w := by kernel_rfl
theorem nguardN' (x y : Operand) (c : Int) (w : World) : (eqGuard .neq 29 x y .nilIface (.iface 32 (.int .i64 c))).run Try.prog w = .ok () w := by kernel_rfl
theorem info64 : (Try.prog.info? 2).map (fun i => (i.zero, i.size, i.bytes)) = some (some (.int .i64 0), 1, 8) := by kernel_rfl

end Go.Proofs.Ythehmmcloimpmaa.Base
