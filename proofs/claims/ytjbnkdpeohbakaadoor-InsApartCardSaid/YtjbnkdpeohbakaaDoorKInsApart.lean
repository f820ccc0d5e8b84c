/- A symbolic run of functions' texts, proved, and what it tells of the functions that the law InsApart reaches; no conditions. -/
import Derived.Test.YtjbnkdpeohbakaaDoorKInsApart2
import Derived.Lib.ItoaLen
set_option linter.unusedVariables false
set_option linter.unusedSimpArgs false
namespace Go.Proofs.YtjbnkdpeohbakaaDoor.X
open Go Go.RowKit Go.Proofs.YtjbnkdpeohbakaaDoorW.PrintWords Go.Proofs.YtjbnkdpeohbakaaDoor.Base Go.Proofs.YtjbnkdpeohbakaaDoor.Open
def CV.plB : CV → Bool
  | .v x => (CV.v x).one
  | _ => false
structure Rep {α : Type} (K : Kd α) (rep : α → List CV) : Prop where
  sz : ∀ x, (rep x).length = K.sz
  pos : 0 < K.sz
  pl : ∀ x, (rep x).all CV.plB = true
  den : ∀ W x cc, K.K W x cc → cc = (rep x).map (CV.den nov)
abbrev roRow {α : Type} (ty : Nat) (K : Kd α) (rep : α → List CV) (z : α) (cap : Nat) (xs : List α) : Ent := Ent.rw false ty K.sz xs.length cap fun i => rep (xs.getD i z)
def RoIn (W : World) (A : Option Addr) (e : Ent) : Prop := ∃ (α : Type) (ty cap : Nat) (K : Kd α) (rep : α → List CV) (z : α) (xs : List α), Rep K rep ∧ e = roRow ty K rep z cap xs ∧ K.C W A xs.length xs
theorem CV.plain_lt {N : Nat} {y : CV} (h : y.plB = true) : y.lt N = true ∧ y.one = true := by
  cases y with
  | v v => exact ⟨rfl, h⟩
  | _ => cases h
theorem den_plain {ν : Val} {y : CV} (h : y.plB = true) : y.den ν = y.den nov := by
  cases y with
  | v v => rfl
  | _ => cases h
theorem holds_ros {W : World} {ν : Val} {H : Hp} (hw : konD.ok W) (h : ∀ k e, H.get k = some e → RoIn W (ν k 0) e) : Holds (rootOf ν H W) ν H W := by
  have hno : ∀ g, ¬ ownF ν H g := fun g ⟨k, e, j, ad, h1, h2, _⟩ => by
    obtain ⟨α, ty, cap, K, rep, z, xs, R, rfl, -⟩ := h k e h1
    cases h2
  refine ⟨⟨hw, fun g _ => hno g⟩, Upd.refl _ _, fun k e he => ?_, fun k e j he ho => ?_, ⟨Nat.le_refl _, fun _ _ _ => rfl⟩⟩
  · obtain ⟨α, ty, cap, K, rep, z, xs, R, rfl, -, -, hr⟩ := h k e he
    refine ⟨⟨(fun h => by cases h), .inr (by show 0 < K.sz; exact R.pos)⟩, fun j hj i hi => ⟨R.sz _, fun x hx => CV.plain_lt (List.all_eq_true.1 (R.pl _) x hx)⟩, (fun h => by cases h), fun _ j hj hp => ?_⟩
    obtain rfl : j = 0 := by have : j < 1 := hj; omega
    have hp : 0 < xs.length := hp
    obtain ⟨ad, hA, hc⟩ := hr hp
    refine ⟨ad, hA, .inr (.inl ⟨k, _, 0, ad, he, rfl, Nat.one_pos, hp, hA, rfl⟩), fun i hi c x hx => ?_⟩
    have hi : i < xs.length := hi
    obtain ⟨cc, -, hK, hcell⟩ := hc i xs[i] (List.getElem?_eq_getElem hi)
    refine hcell c _ ?_
    have hg : xs.getD i z = xs[i] := by rw [List.getD_eq_getElem?_getD, List.getElem?_eq_getElem hi, Option.getD_some]
    have hx : (rep (xs.getD i z))[c]? = some x := hx
    rw [R.den W _ _ hK, List.getElem?_map, ← hg, hx, den_plain (List.all_eq_true.1 (R.pl _) x (List.mem_of_getElem? hx))]
    rfl
  · obtain ⟨α, ty, cap, K, rep, z, xs, R, rfl, -⟩ := h k e he
    cases ho
theorem below_of {ν ν' : Val} {H0 H : Hp} {W w' : World} (h : Holds (rootOf ν H0 W) ν' H w') (ho : ∀ k e, H0.get k = some e → e.own = false) : Below W.heap.size W w' :=
  h.upd.below (Nat.le_refl _) fun g ⟨k, e, j, ad, h1, h2, _⟩ => by rw [ho k e h1] at h2; cases h2
theorem ro_own {W : World} {ν : Val} {H : Hp} (h : ∀ k e, H.get k = some e → RoIn W (ν k 0) e) : ∀ k e, H.get k = some e → e.own = false := fun k e he => by
  obtain ⟨α, ty, cap, K, rep, z, xs, R, rfl, -⟩ := h k e he
  rfl
theorem walk_ros {P : Program} {f : FuncId} {C : CallSpec} {W : World} {ν : Val} (hw : konD.ok W) (hl : C.Local P f) (h : ∀ k e, C.H0.get k = some e → RoIn W (ν k 0) e) {v : Value} (hv : ∀ c ν', (C.x0 c).den ν' = v) : Calls P f (C.args0.map (AV.den ν)).toArray W fun e w' => e = .returned v ∧ Below W.heap.size W w' :=
  (hl ν W (holds_ros hw h)).mono fun e w' ⟨ν', c, _, h1, h2⟩ => ⟨by rw [h1, hv], below_of h2 (ro_own h)⟩
abbrev kdI : Kd Int := Kd.int .i64
abbrev wfI (x : Int) : Prop := (Lit.int .i64 x).wf = true
theorem int_in {x : Int} (h : wfI x) : -9223372036854775808 ≤ x ∧ x ≤ 9223372036854775807 := bounds_i64 h
end Go.Proofs.YtjbnkdpeohbakaaDoor.X

set_option linter.unusedVariables false
set_option linter.unusedSimpArgs false
namespace Go.Proofs.YtjbnkdpeohbakaaDoor.X.Ip
open Go Go.RowKit Go.Proofs.YtjbnkdpeohbakaaDoorW.PrintWords Go.Proofs.YtjbnkdpeohbakaaDoor.Base Go.Proofs.YtjbnkdpeohbakaaDoor.X
theorem up_call : Callable Tryd.prog 8 := ⟨_, Tryd.func8, by kernel_rfl, rfl⟩
theorem may_call : Callable Tryd.prog 13 := ⟨_, Tryd.func13, by kernel_rfl, rfl⟩
theorem access_call : Callable Tryd.prog 12 := ⟨_, Tryd.func12, by kernel_rfl, rfl⟩
theorem parseD_local (s : ByteArray) (hs : s.size ≤ 100000) {o : Option Ln} (h : parseF s = o) : (parseD s o).Local Tryd.prog 9 := by
  subst h
  exact parse_local s hs
theorem up_local : upC.Local Tryd.prog 8 := by
  refine local_ofP Tryd.func8 rfl (tup_eq ()) fun ν w => ?_
  refine ok_callf' parse_call (fits_of rfl rfl trivial fun c _ => ⟨⟨Nat.zero_le _, rfl⟩, ⟨rfl, rfl⟩, trivial⟩) (parseD_local casS (by decide) (by kernel_rfl)) fun c _ => ?_
  repeat refine ok_chk' (by first | exact fun h => h | rfl | exact fun _ => rfl | (exact fun h => by rw [h]; rfl) | exact fun h => absurd h (by decide) | (intro h1 h2; rw [h1, h2]; rfl)) ?_
  refine ok_callf' parse_call (fits_of rfl rfl trivial fun c _ => ⟨⟨Nat.zero_le _, rfl⟩, ⟨rfl, rfl⟩, trivial⟩) (parseD_local casT (by decide) (by kernel_rfl)) fun c2 _ => ?_
  repeat refine ok_chk' (by first | exact fun h => h | rfl | exact fun _ => rfl | (exact fun h => by rw [h]; rfl) | exact fun h => absurd h (by decide) | (intro h1 h2; rw [h1, h2]; rfl)) ?_
  refine ok_callf' access_call (fits_of rfl rfl trivial fun c _ => ⟨⟨Nat.zero_le _, rfl⟩, ⟨rfl, rfl⟩, trivial⟩) (access_local _) fun c3 _ => ?_
  repeat refine ok_chk' (by first | exact fun h => h | rfl | exact fun _ => rfl | (exact fun h => by rw [h]; rfl) | exact fun h => absurd h (by decide) | (intro h1 h2; rw [h1, h2]; rfl)) ?_
  refine ok_callf' may_call (fits_of rfl rfl trivial fun c _ => ⟨⟨Nat.zero_le _, rfl⟩, ⟨rfl, rfl⟩, trivial⟩) (may_local _) fun c4 _ => ?_
  repeat refine ok_chk' (by first | exact fun h => h | rfl | exact fun _ => rfl | (exact fun h => by rw [h]; rfl) | exact fun h => absurd h (by decide) | (intro h1 h2; rw [h1, h2]; rfl)) ?_
  exact ok_leaf (fun _ => 0) [] [] trivial rfl trivial rfl
theorem ba_beq (a : ByteArray) : (a == a) = true := by
  cases a with
  | mk d => show (d == d) = true; exact beq_self_eq_true d
theorem wrapn {i : Nat} (h : i ≤ 1000) : IntKind.wrap .i64 ((i : Int) + 1) = ((i + 1 : Nat) : Int) := (IntWalk.i64_in _ ⟨by omega, by omega⟩).trans (by omega)
end Go.Proofs.YtjbnkdpeohbakaaDoor.X.Ip

set_option linter.unusedVariables false
set_option linter.unusedSimpArgs false
namespace Go.Proofs.YtjbnkdpeohbakaaDoor.X.Ip
open Go Go.RowKit Go.Proofs.YtjbnkdpeohbakaaDoorW.PrintWords Go.Proofs.YtjbnkdpeohbakaaDoor.Base Go.Proofs.YtjbnkdpeohbakaaDoor.X
abbrev Ln.av (x : Ln) : AV := .agg x.cv
abbrev itoaC (n : Int) : CallSpec := .plain [.c (.v (.int .i64 n))] (.a (sv' (fmtW n)))
abbrev srS : ByteArray := ⟨#[32, 114]⟩
def partF (x : Ln) (w : Int) : ByteArray :=
  bif w == 65 then srS ++ fmtW x.a else bif w == 66 then srS ++ fmtW x.b else bif w == 67 then srS ++ fmtW x.c else bif w == 78 then spS ++ fmtW x.n else spS ++ x.tg
def wrF (x : Ln) : Nat → ByteArray
  | 0 => wordS x.op.toNat
  | i + 1 => wrF x i ++ partF x (bt' (hasS x.op.toNat) i)
def writtenF (x : Ln) : ByteArray :=
  bif !(x.lb.toList == ByteArray.empty.toList) then x.lb ++ colS else bif (bif decide (x.op < 1) then true else decide (x.op ≥ 23)) then ByteArray.empty else wrF x (hasS x.op.toNat).size
abbrev wrC (x : Ln) : CallSpec := .plain [x.av] (.a (sv' (writtenF x)))
abbrev WrS (x : Ln) : Type := { i : Nat // i ≤ (hasS x.op.toNat).size }
def wrG : Ctr := fun f args H => match args with
  | [] => some (shapesC H.length)
  | [.c (.v (.int _ n))] => some (itoaC n)
  | [.c (.v (.int _ n)), .c (.v (.int _ _))] => some (fmtC n)
  | _ => none
def wrI (x : Ln) (tm : Tm) (H : Hp) : LoopInv := ⟨WrS x, fun i => ((35, ia i.1) :: (4, .a (sv' (wrF x i.1))) :: onlyT [1, 2, 3, 34] tm, H), fun i => (hasS x.op.toNat).size - i.1, some ⟨0, Nat.zero_le _⟩, [], .l (List.range H.length), [], fun _ _ => .l (List.range H.length)⟩
def eqL (x y : Ln) : Bool := x.lb == y.lb && (x.op == y.op && (x.a == y.a && (x.b == y.b && (x.c == y.c && x.n == y.n))) && x.tg == y.tg)
def printX : Option ByteArray → XV
  | some s => .tup [sv' s, .c nilE]
  | none => .tup [sv' ByteArray.empty, .c (errE 1)]
def printF (x : Ln) : Option ByteArray := match parseF (writtenF x) with
  | some m => bif eqL m x then some (writtenF x) else none
  | none => none
def printG (x : Ln) (o : Option Ln) : Ctr := fun f args H => match args with
  | [.agg l] => some (wrC x)
  | [.c (.v (.string s))] => some (parseD s o)
  | _ => none
abbrev twr_0 : Ln → Ent :=
  fun x => { own := true, box := true, ty := 26, sz := 7, m := 1, n := fun x => 1, cap := fun x => 1, f := fun x_1 x_2 => [CV.v (Value.string x.1), CV.v (Value.int IntKind.i64 x.2), CV.v (Value.int IntKind.i64 x.3), CV.v (Value.int IntKind.i64 x.4), CV.v (Value.int IntKind.i64 x.5), CV.v (Value.int IntKind.i64 x.6), CV.v (Value.string x.7)], ov := [] }
abbrev twr_1 : Ent :=
  { own := true, box := false, ty := 51, sz := 2, m := 1, n := fun x => 23, cap := fun x => 23, f := fun x i => [CV.v (Value.string (wordS i)), CV.v (Value.string (hasS i))], ov := [] }
abbrev twr_2 : AV :=
  AV.c (CV.ptr { k := 0, j := 0, i := 0, sz := 7, c := 1, d := 0, dn := 0, cu := 0 })
abbrev twr_3 : Ln → List CV :=
  fun x => [CV.v (Value.string (wordS (Int.toNat x.2))), CV.v (Value.string (hasS (Int.toNat x.2)))]
abbrev twr_4 : Ln → AV :=
  fun x => AV.agg (twr_3 x)
abbrev twr_5 : Ln → AV :=
  fun x => AV.c (CV.ptr { k := 2, j := 0, i := Int.toNat x.2, sz := 2, c := 0, d := 0, dn := 0, cu := 28 })
abbrev twr_6 : XV :=
  XV.a (AV.c (CV.ptr { k := 0, j := 0, i := 0, sz := 7, c := 0, d := 0, dn := 0, cu := 0 }))
abbrev twr_7 : XV :=
  XV.a (AV.c (CV.ptr { k := 3, j := 0, i := 0, sz := 2, c := 0, d := 0, dn := 0, cu := 0 }))
abbrev twr_8 : List Nat :=
  [0, 1, 2, 3]
abbrev twr_9 : Ln → Ent :=
  fun x => { own := true, box := true, ty := 51, sz := 2, m := 1, n := fun a => 1, cap := fun a => 1, f := fun x_1 x_2 => twr_3 x, ov := [] }
abbrev twr_10 : Ln → List Ent :=
  fun x => [twr_0 x, twr_1, twr_1, twr_9 x]
abbrev twr_11 : (x : Ln) → WrS x → XV :=
  fun x s => XV.a (AV.c (CV.v (Value.int IntKind.i64 (IntKind.wrap IntKind.i64 ((↑(Subtype.val s) : Int) + (1 : Int))))))
abbrev twr_12 : (x : Ln) → WrS x → XV :=
  fun x s' => XV.a (AV.c (CV.v (Value.int IntKind.i64 (↑(Subtype.val s') : Int))))
abbrev twr_13 : (x : Ln) → WrS x → XV :=
  fun x s => XV.a (AV.c (CV.v (Value.string (wrF x (Subtype.val s) ++ ({ data := #[(32 : UInt8), (114 : UInt8)] } ++ fmtW x.3)))))
abbrev twr_14 : (x : Ln) → WrS x → XV :=
  fun x s' => XV.a (AV.c (CV.v (Value.string (wrF x (Subtype.val s')))))
abbrev twr_15 : (x : Ln) → WrS x → XV :=
  fun x s => XV.a (AV.c (CV.v (Value.string (wrF x (Subtype.val s) ++ ({ data := #[(32 : UInt8), (114 : UInt8)] } ++ fmtW x.4)))))
abbrev twr_16 : (x : Ln) → WrS x → XV :=
  fun x s => XV.a (AV.c (CV.v (Value.string (wrF x (Subtype.val s) ++ ({ data := #[(32 : UInt8), (114 : UInt8)] } ++ fmtW x.5)))))
abbrev twr_17 : Ln → List AV :=
  fun x => [AV.c (CV.v (Value.int IntKind.i64 x.6)), AV.c (CV.v (Value.int IntKind.i64 (10 : Int)))]
abbrev twr_18 : (x : Ln) → WrS x → XV :=
  fun x s => XV.a (AV.c (CV.v (Value.string (wrF x (Subtype.val s) ++ ({ data := #[(32 : UInt8)] } ++ fmtW x.6)))))
abbrev twr_19 : (x : Ln) → WrS x → XV :=
  fun x s => XV.a (AV.c (CV.v (Value.string (wrF x (Subtype.val s) ++ ({ data := #[(32 : UInt8)] } ++ x.7)))))
abbrev twr_20 : List Ent :=
  [Ent.dead, Ent.dead, Ent.dead, Ent.dead]
abbrev twr_21 : XV :=
  XV.a (AV.c (CV.ptr { k := 2, j := 0, i := 0, sz := 2, c := 0, d := 0, dn := 0, cu := 0 }))
abbrev twr_22 : Ln → List Ent :=
  fun x => [twr_0 x, twr_1, twr_9 x, twr_1]
def twr (x : Ln) : Tree :=
  Tree.br (!ByteArray.toList x.1 == ByteArray.toList { data := #[] })
 (Tree.chk (ByteArray.size x.1 + ByteArray.size { data := #[(58 : UInt8)] } ≤ 9223372036854775807)
 (Tree.done (XV.a (AV.c (CV.v (Value.string (x.1 ++ { data := #[(58 : UInt8)] }))))) [Ent.dead]))
 (Tree.chk ((!decide (x.2 < (1 : Int))) = true → (!decide (x.2 < (1 : Int))) = true)
 (Tree.chk ((!decide (x.2 < (1 : Int))) = true → (!decide (x.2 < (1 : Int))) = true)
 (Tree.br (!decide (x.2 < (1 : Int)))
 (Tree.callf 21 [] [twr_0 x] (shapesC 1) fun c => Tree.chk ((!decide (x.2 < (1 : Int))) = true → (!decide (x.2 < (1 : Int))) = true)
 (Tree.chk ((!decide (x.2 < (1 : Int))) = true → AV.c (CV.v (Value.int IntKind.i64 x.2)) = AV.c (CV.v (Value.int IntKind.i64 x.2)))
 (Tree.chk ((!decide (x.2 < (1 : Int))) = true → (!decide (x.2 < (1 : Int))) = true)
 (Tree.chk ((!decide (x.2 < (1 : Int))) = true → AV.c (CV.ptr { k := 0, j := 0, i := 0, sz := 7, c := 1, d := 0, dn := 0, cu := 0 }) = AV.c (CV.ptr { k := 0, j := 0, i := 0, sz := 7, c := 1, d := 0, dn := 0, cu := 0 }))
 (Tree.chk ((!decide (x.2 < (1 : Int))) = true → AV.c (CV.ptr { k := 0, j := 0, i := 0, sz := 7, c := 1, d := 0, dn := 0, cu := 0 }) = AV.c (CV.ptr { k := 0, j := 0, i := 0, sz := 7, c := 1, d := 0, dn := 0, cu := 0 }))
 (Tree.chk ((!decide (x.2 < (1 : Int))) = true → (!decide (x.2 < (1 : Int))) = true)
 (Tree.chk ((!decide (x.2 < (1 : Int))) = true → (!decide (x.2 < (1 : Int))) = true)
 (Tree.chk (decide (x.2 < (1 : Int)) = false → (!decide (x.2 < (1 : Int))) = true)
 (Tree.br (bif decide (x.2 < (1 : Int)) then true else decide (x.2 ≥ (↑23 : Int)))
 (Tree.done (XV.a (AV.c (CV.v (Value.string { data := #[] })))) [Ent.dead, Ent.dead])
 (Tree.both
 (Tree.callf 21 [] [twr_0 x, twr_1] (shapesC 2) fun c => Tree.chk (AV.c (CV.v (Value.int IntKind.i64 x.2)) = AV.c (CV.v (Value.int IntKind.i64 x.2)))
 (Tree.chk (twr_2 = twr_2)
 (Tree.chk (twr_2 = twr_2)
 (Tree.chk ((0 : Int) ≤ x.2 ∧ x.2 < (↑23 : Int) ∧ Int.toNat x.2 < 23 ∧ 0 < 1)
 (Tree.chk (0 < 1 ∧ Int.toNat x.2 < 23)
 (Tree.chk (0 < 1 ∧ Int.toNat x.2 < 23)
 (Tree.chk (twr_4 x = twr_4 x)
 (Tree.chk ((0 : Int) ≤ x.2 ∧ x.2 < (↑23 : Int) ∧ Int.toNat x.2 < 23 ∧ 0 < 1)
 (Tree.chk (twr_5 x = twr_5 x)
 (Tree.chk (AV.c (CV.v (Value.int IntKind.i64 x.2)) = AV.c (CV.v (Value.int IntKind.i64 x.2)))
 (Tree.chk (twr_2 = twr_2)
 (Tree.chk (twr_2 = twr_2)
 (Tree.both
 (Tree.chk (XV.a (AV.c (CV.v (Value.int IntKind.i64 (0 : Int)))) = XV.a (AV.c (CV.v (Value.int IntKind.i64 (0 : Int)))))
 (Tree.chk (XV.a (AV.c (CV.v (Value.string (wordS (Int.toNat x.2))))) = XV.a (AV.c (CV.v (Value.string (wrF x 0)))))
 (Tree.chk (twr_6 = twr_6)
 (Tree.chk (XV.a (AV.c (CV.v (Value.string { data := #[] }))) = XV.a (AV.c (CV.v (Value.string { data := #[] }))))
 (Tree.chk (twr_7 = twr_7)
 (Tree.chk (XV.a (AV.c (CV.v (Value.int IntKind.i64 (↑(ByteArray.size (hasS (Int.toNat x.2))) : Int)))) = XV.a (AV.c (CV.v (Value.int IntKind.i64 (↑(ByteArray.size (hasS (Int.toNat x.2))) : Int)))))
 (Tree.chk (EntRel 4 twr_8 4 (twr_0 x) (twr_0 x))
 (Tree.chk (EntRel 4 twr_8 4 twr_1 twr_1)
 (Tree.chk (EntRel 4 twr_8 4 twr_1 twr_1)
 (Tree.chk (EntRel 4 twr_8 4 (twr_9 x) (twr_9 x))
 (Tree.need True)))))))))))
 (Tree.every (WrS x) fun s => Tree.br (decide ((↑(Subtype.val s) : Int) < (↑(ByteArray.size (hasS (Int.toNat x.2))) : Int)))
 (Tree.chk ((0 : Int) ≤ (↑(Subtype.val s) : Int) ∧ (↑(Subtype.val s) : Int) < (↑(ByteArray.size (hasS (Int.toNat x.2))) : Int))
 (Tree.br (bt' (hasS (Int.toNat x.2)) (Int.toNat (↑(Subtype.val s) : Int)) == (65 : Int))
 (Tree.callf 45 [AV.c (CV.v (Value.int IntKind.i64 x.3))] (twr_10 x) (itoaC x.3) fun c => Tree.chk (ByteArray.size { data := #[(32 : UInt8), (114 : UInt8)] } + ByteArray.size (fmtW x.3) ≤ 9223372036854775807)
 (Tree.chk (ByteArray.size (wrF x (Subtype.val s)) + ByteArray.size ({ data := #[(32 : UInt8), (114 : UInt8)] } ++ fmtW x.3) ≤ 9223372036854775807)
 (Tree.some_ (WrS x) fun s' => Tree.chk (ByteArray.size (hasS (Int.toNat x.2)) - Subtype.val s' < ByteArray.size (hasS (Int.toNat x.2)) - Subtype.val s)
 (Tree.chk (twr_11 x s = twr_12 x s')
 (Tree.chk (twr_13 x s = twr_14 x s')
 (Tree.chk (twr_6 = twr_6)
 (Tree.chk (XV.a (AV.c (CV.v (Value.string { data := #[] }))) = XV.a (AV.c (CV.v (Value.string { data := #[] }))))
 (Tree.chk (twr_7 = twr_7)
 (Tree.chk (XV.a (AV.c (CV.v (Value.int IntKind.i64 (↑(ByteArray.size (hasS (Int.toNat x.2))) : Int)))) = XV.a (AV.c (CV.v (Value.int IntKind.i64 (↑(ByteArray.size (hasS (Int.toNat x.2))) : Int)))))
 (Tree.chk (EntRel 4 twr_8 4 (twr_0 x) (twr_0 x))
 (Tree.chk (EntRel 4 twr_8 4 twr_1 twr_1)
 (Tree.chk (EntRel 4 twr_8 4 twr_1 twr_1)
 (Tree.chk (EntRel 4 twr_8 4 (twr_9 x) (twr_9 x))
 (Tree.need True))))))))))))))
 (Tree.br (bt' (hasS (Int.toNat x.2)) (Int.toNat (↑(Subtype.val s) : Int)) == (66 : Int))
 (Tree.callf 45 [AV.c (CV.v (Value.int IntKind.i64 x.4))] (twr_10 x) (itoaC x.4) fun c => Tree.chk (ByteArray.size { data := #[(32 : UInt8), (114 : UInt8)] } + ByteArray.size (fmtW x.4) ≤ 9223372036854775807)
 (Tree.chk (ByteArray.size (wrF x (Subtype.val s)) + ByteArray.size ({ data := #[(32 : UInt8), (114 : UInt8)] } ++ fmtW x.4) ≤ 9223372036854775807)
 (Tree.some_ (WrS x) fun s' => Tree.chk (ByteArray.size (hasS (Int.toNat x.2)) - Subtype.val s' < ByteArray.size (hasS (Int.toNat x.2)) - Subtype.val s)
 (Tree.chk (twr_11 x s = twr_12 x s')
 (Tree.chk (twr_15 x s = twr_14 x s')
 (Tree.chk (twr_6 = twr_6)
 (Tree.chk (XV.a (AV.c (CV.v (Value.string { data := #[] }))) = XV.a (AV.c (CV.v (Value.string { data := #[] }))))
 (Tree.chk (twr_7 = twr_7)
 (Tree.chk (XV.a (AV.c (CV.v (Value.int IntKind.i64 (↑(ByteArray.size (hasS (Int.toNat x.2))) : Int)))) = XV.a (AV.c (CV.v (Value.int IntKind.i64 (↑(ByteArray.size (hasS (Int.toNat x.2))) : Int)))))
 (Tree.chk (EntRel 4 twr_8 4 (twr_0 x) (twr_0 x))
 (Tree.chk (EntRel 4 twr_8 4 twr_1 twr_1)
 (Tree.chk (EntRel 4 twr_8 4 twr_1 twr_1)
 (Tree.chk (EntRel 4 twr_8 4 (twr_9 x) (twr_9 x))
 (Tree.need True))))))))))))))
 (Tree.br (bt' (hasS (Int.toNat x.2)) (Int.toNat (↑(Subtype.val s) : Int)) == (67 : Int))
 (Tree.callf 45 [AV.c (CV.v (Value.int IntKind.i64 x.5))] (twr_10 x) (itoaC x.5) fun c => Tree.chk (ByteArray.size { data := #[(32 : UInt8), (114 : UInt8)] } + ByteArray.size (fmtW x.5) ≤ 9223372036854775807)
 (Tree.chk (ByteArray.size (wrF x (Subtype.val s)) + ByteArray.size ({ data := #[(32 : UInt8), (114 : UInt8)] } ++ fmtW x.5) ≤ 9223372036854775807)
 (Tree.some_ (WrS x) fun s' => Tree.chk (ByteArray.size (hasS (Int.toNat x.2)) - Subtype.val s' < ByteArray.size (hasS (Int.toNat x.2)) - Subtype.val s)
 (Tree.chk (twr_11 x s = twr_12 x s')
 (Tree.chk (twr_16 x s = twr_14 x s')
 (Tree.chk (twr_6 = twr_6)
 (Tree.chk (XV.a (AV.c (CV.v (Value.string { data := #[] }))) = XV.a (AV.c (CV.v (Value.string { data := #[] }))))
 (Tree.chk (twr_7 = twr_7)
 (Tree.chk (XV.a (AV.c (CV.v (Value.int IntKind.i64 (↑(ByteArray.size (hasS (Int.toNat x.2))) : Int)))) = XV.a (AV.c (CV.v (Value.int IntKind.i64 (↑(ByteArray.size (hasS (Int.toNat x.2))) : Int)))))
 (Tree.chk (EntRel 4 twr_8 4 (twr_0 x) (twr_0 x))
 (Tree.chk (EntRel 4 twr_8 4 twr_1 twr_1)
 (Tree.chk (EntRel 4 twr_8 4 twr_1 twr_1)
 (Tree.chk (EntRel 4 twr_8 4 (twr_9 x) (twr_9 x))
 (Tree.need True))))))))))))))
 (Tree.br (bt' (hasS (Int.toNat x.2)) (Int.toNat (↑(Subtype.val s) : Int)) == (78 : Int))
 (Tree.callf 46 (twr_17 x) (twr_10 x) (fmtC x.6) fun c => Tree.chk (ByteArray.size { data := #[(32 : UInt8)] } + ByteArray.size (fmtW x.6) ≤ 9223372036854775807)
 (Tree.chk (ByteArray.size (wrF x (Subtype.val s)) + ByteArray.size ({ data := #[(32 : UInt8)] } ++ fmtW x.6) ≤ 9223372036854775807)
 (Tree.some_ (WrS x) fun s' => Tree.chk (ByteArray.size (hasS (Int.toNat x.2)) - Subtype.val s' < ByteArray.size (hasS (Int.toNat x.2)) - Subtype.val s)
 (Tree.chk (twr_11 x s = twr_12 x s')
 (Tree.chk (twr_18 x s = twr_14 x s')
 (Tree.chk (twr_6 = twr_6)
 (Tree.chk (XV.a (AV.c (CV.v (Value.string { data := #[] }))) = XV.a (AV.c (CV.v (Value.string { data := #[] }))))
 (Tree.chk (twr_7 = twr_7)
 (Tree.chk (XV.a (AV.c (CV.v (Value.int IntKind.i64 (↑(ByteArray.size (hasS (Int.toNat x.2))) : Int)))) = XV.a (AV.c (CV.v (Value.int IntKind.i64 (↑(ByteArray.size (hasS (Int.toNat x.2))) : Int)))))
 (Tree.chk (EntRel 4 twr_8 4 (twr_0 x) (twr_0 x))
 (Tree.chk (EntRel 4 twr_8 4 twr_1 twr_1)
 (Tree.chk (EntRel 4 twr_8 4 twr_1 twr_1)
 (Tree.chk (EntRel 4 twr_8 4 (twr_9 x) (twr_9 x))
 (Tree.need True))))))))))))))
 (Tree.chk (ByteArray.size { data := #[(32 : UInt8)] } + ByteArray.size x.7 ≤ 9223372036854775807)
 (Tree.chk (ByteArray.size (wrF x (Subtype.val s)) + ByteArray.size ({ data := #[(32 : UInt8)] } ++ x.7) ≤ 9223372036854775807)
 (Tree.some_ (WrS x) fun s' => Tree.chk (ByteArray.size (hasS (Int.toNat x.2)) - Subtype.val s' < ByteArray.size (hasS (Int.toNat x.2)) - Subtype.val s)
 (Tree.chk (twr_11 x s = twr_12 x s')
 (Tree.chk (twr_19 x s = twr_14 x s')
 (Tree.chk (twr_6 = twr_6)
 (Tree.chk (XV.a (AV.c (CV.v (Value.string { data := #[] }))) = XV.a (AV.c (CV.v (Value.string { data := #[] }))))
 (Tree.chk (twr_7 = twr_7)
 (Tree.chk (XV.a (AV.c (CV.v (Value.int IntKind.i64 (↑(ByteArray.size (hasS (Int.toNat x.2))) : Int)))) = XV.a (AV.c (CV.v (Value.int IntKind.i64 (↑(ByteArray.size (hasS (Int.toNat x.2))) : Int)))))
 (Tree.chk (EntRel 4 twr_8 4 (twr_0 x) (twr_0 x))
 (Tree.chk (EntRel 4 twr_8 4 twr_1 twr_1)
 (Tree.chk (EntRel 4 twr_8 4 twr_1 twr_1)
 (Tree.chk (EntRel 4 twr_8 4 (twr_9 x) (twr_9 x))
 (Tree.need True)))))))))))))))))))
 (Tree.done (twr_14 x s) twr_20)))))))))))))))
 (Tree.chk (AV.c (CV.v (Value.int IntKind.i64 x.2)) = AV.c (CV.v (Value.int IntKind.i64 x.2)))
 (Tree.chk (twr_2 = twr_2)
 (Tree.chk (twr_2 = twr_2)
 (Tree.callf 21 [] [twr_0 x, twr_1, { own := true, box := true, ty := 51, sz := 2, m := 1, n := fun x => 1, cap := fun x => 1, f := fun x x_1 => [CV.v (Value.string ByteArray.empty), CV.v (Value.string ByteArray.empty)], ov := [] }] (shapesC 3) fun c => Tree.chk (AV.c (CV.v (Value.int IntKind.i64 x.2)) = AV.c (CV.v (Value.int IntKind.i64 x.2)))
 (Tree.chk (twr_2 = twr_2)
 (Tree.chk (twr_2 = twr_2)
 (Tree.chk ((0 : Int) ≤ x.2 ∧ x.2 < (↑23 : Int) ∧ Int.toNat x.2 < 23 ∧ 0 < 1)
 (Tree.chk (0 < 1 ∧ Int.toNat x.2 < 23)
 (Tree.both
 (Tree.chk (XV.a (AV.c (CV.v (Value.int IntKind.i64 (0 : Int)))) = XV.a (AV.c (CV.v (Value.int IntKind.i64 (0 : Int)))))
 (Tree.chk (XV.a (AV.c (CV.v (Value.string (wordS (Int.toNat x.2))))) = XV.a (AV.c (CV.v (Value.string (wrF x 0)))))
 (Tree.chk (twr_6 = twr_6)
 (Tree.chk (XV.a (AV.c (CV.v (Value.string { data := #[] }))) = XV.a (AV.c (CV.v (Value.string { data := #[] }))))
 (Tree.chk (twr_21 = twr_21)
 (Tree.chk (XV.a (AV.c (CV.v (Value.int IntKind.i64 (↑(ByteArray.size (hasS (Int.toNat x.2))) : Int)))) = XV.a (AV.c (CV.v (Value.int IntKind.i64 (↑(ByteArray.size (hasS (Int.toNat x.2))) : Int)))))
 (Tree.chk (EntRel 4 twr_8 4 (twr_0 x) (twr_0 x))
 (Tree.chk (EntRel 4 twr_8 4 twr_1 twr_1)
 (Tree.chk (EntRel 4 twr_8 4 (twr_9 x) (twr_9 x))
 (Tree.chk (EntRel 4 twr_8 4 twr_1 twr_1)
 (Tree.need True)))))))))))
 (Tree.every (WrS x) fun s => Tree.br (decide ((↑(Subtype.val s) : Int) < (↑(ByteArray.size (hasS (Int.toNat x.2))) : Int)))
 (Tree.chk ((0 : Int) ≤ (↑(Subtype.val s) : Int) ∧ (↑(Subtype.val s) : Int) < (↑(ByteArray.size (hasS (Int.toNat x.2))) : Int))
 (Tree.br (bt' (hasS (Int.toNat x.2)) (Int.toNat (↑(Subtype.val s) : Int)) == (65 : Int))
 (Tree.callf 45 [AV.c (CV.v (Value.int IntKind.i64 x.3))] (twr_22 x) (itoaC x.3) fun c => Tree.chk (ByteArray.size { data := #[(32 : UInt8), (114 : UInt8)] } + ByteArray.size (fmtW x.3) ≤ 9223372036854775807)
 (Tree.chk (ByteArray.size (wrF x (Subtype.val s)) + ByteArray.size ({ data := #[(32 : UInt8), (114 : UInt8)] } ++ fmtW x.3) ≤ 9223372036854775807)
 (Tree.some_ (WrS x) fun s' => Tree.chk (ByteArray.size (hasS (Int.toNat x.2)) - Subtype.val s' < ByteArray.size (hasS (Int.toNat x.2)) - Subtype.val s)
 (Tree.chk (twr_11 x s = twr_12 x s')
 (Tree.chk (twr_13 x s = twr_14 x s')
 (Tree.chk (twr_6 = twr_6)
 (Tree.chk (XV.a (AV.c (CV.v (Value.string { data := #[] }))) = XV.a (AV.c (CV.v (Value.string { data := #[] }))))
 (Tree.chk (twr_21 = twr_21)
 (Tree.chk (XV.a (AV.c (CV.v (Value.int IntKind.i64 (↑(ByteArray.size (hasS (Int.toNat x.2))) : Int)))) = XV.a (AV.c (CV.v (Value.int IntKind.i64 (↑(ByteArray.size (hasS (Int.toNat x.2))) : Int)))))
 (Tree.chk (EntRel 4 twr_8 4 (twr_0 x) (twr_0 x))
 (Tree.chk (EntRel 4 twr_8 4 twr_1 twr_1)
 (Tree.chk (EntRel 4 twr_8 4 (twr_9 x) (twr_9 x))
 (Tree.chk (EntRel 4 twr_8 4 twr_1 twr_1)
 (Tree.need True))))))))))))))
 (Tree.br (bt' (hasS (Int.toNat x.2)) (Int.toNat (↑(Subtype.val s) : Int)) == (66 : Int))
 (Tree.callf 45 [AV.c (CV.v (Value.int IntKind.i64 x.4))] (twr_22 x) (itoaC x.4) fun c => Tree.chk (ByteArray.size { data := #[(32 : UInt8), (114 : UInt8)] } + ByteArray.size (fmtW x.4) ≤ 9223372036854775807)
 (Tree.chk (ByteArray.size (wrF x (Subtype.val s)) + ByteArray.size ({ data := #[(32 : UInt8), (114 : UInt8)] } ++ fmtW x.4) ≤ 9223372036854775807)
 (Tree.some_ (WrS x) fun s' => Tree.chk (ByteArray.size (hasS (Int.toNat x.2)) - Subtype.val s' < ByteArray.size (hasS (Int.toNat x.2)) - Subtype.val s)
 (Tree.chk (twr_11 x s = twr_12 x s')
 (Tree.chk (twr_15 x s = twr_14 x s')
 (Tree.chk (twr_6 = twr_6)
 (Tree.chk (XV.a (AV.c (CV.v (Value.string { data := #[] }))) = XV.a (AV.c (CV.v (Value.string { data := #[] }))))
 (Tree.chk (twr_21 = twr_21)
 (Tree.chk (XV.a (AV.c (CV.v (Value.int IntKind.i64 (↑(ByteArray.size (hasS (Int.toNat x.2))) : Int)))) = XV.a (AV.c (CV.v (Value.int IntKind.i64 (↑(ByteArray.size (hasS (Int.toNat x.2))) : Int)))))
 (Tree.chk (EntRel 4 twr_8 4 (twr_0 x) (twr_0 x))
 (Tree.chk (EntRel 4 twr_8 4 twr_1 twr_1)
 (Tree.chk (EntRel 4 twr_8 4 (twr_9 x) (twr_9 x))
 (Tree.chk (EntRel 4 twr_8 4 twr_1 twr_1)
 (Tree.need True))))))))))))))
 (Tree.br (bt' (hasS (Int.toNat x.2)) (Int.toNat (↑(Subtype.val s) : Int)) == (67 : Int))
 (Tree.callf 45 [AV.c (CV.v (Value.int IntKind.i64 x.5))] (twr_22 x) (itoaC x.5) fun c => Tree.chk (ByteArray.size { data := #[(32 : UInt8), (114 : UInt8)] } + ByteArray.size (fmtW x.5) ≤ 9223372036854775807)
 (Tree.chk (ByteArray.size (wrF x (Subtype.val s)) + ByteArray.size ({ data := #[(32 : UInt8), (114 : UInt8)] } ++ fmtW x.5) ≤ 9223372036854775807)
 (Tree.some_ (WrS x) fun s' => Tree.chk (ByteArray.size (hasS (Int.toNat x.2)) - Subtype.val s' < ByteArray.size (hasS (Int.toNat x.2)) - Subtype.val s)
 (Tree.chk (twr_11 x s = twr_12 x s')
 (Tree.chk (twr_16 x s = twr_14 x s')
 (Tree.chk (twr_6 = twr_6)
 (Tree.chk (XV.a (AV.c (CV.v (Value.string { data := #[] }))) = XV.a (AV.c (CV.v (Value.string { data := #[] }))))
 (Tree.chk (twr_21 = twr_21)
 (Tree.chk (XV.a (AV.c (CV.v (Value.int IntKind.i64 (↑(ByteArray.size (hasS (Int.toNat x.2))) : Int)))) = XV.a (AV.c (CV.v (Value.int IntKind.i64 (↑(ByteArray.size (hasS (Int.toNat x.2))) : Int)))))
 (Tree.chk (EntRel 4 twr_8 4 (twr_0 x) (twr_0 x))
 (Tree.chk (EntRel 4 twr_8 4 twr_1 twr_1)
 (Tree.chk (EntRel 4 twr_8 4 (twr_9 x) (twr_9 x))
 (Tree.chk (EntRel 4 twr_8 4 twr_1 twr_1)
 (Tree.need True))))))))))))))
 (Tree.br (bt' (hasS (Int.toNat x.2)) (Int.toNat (↑(Subtype.val s) : Int)) == (78 : Int))
 (Tree.callf 46 (twr_17 x) (twr_22 x) (fmtC x.6) fun c => Tree.chk (ByteArray.size { data := #[(32 : UInt8)] } + ByteArray.size (fmtW x.6) ≤ 9223372036854775807)
 (Tree.chk (ByteArray.size (wrF x (Subtype.val s)) + ByteArray.size ({ data := #[(32 : UInt8)] } ++ fmtW x.6) ≤ 9223372036854775807)
 (Tree.some_ (WrS x) fun s' => Tree.chk (ByteArray.size (hasS (Int.toNat x.2)) - Subtype.val s' < ByteArray.size (hasS (Int.toNat x.2)) - Subtype.val s)
 (Tree.chk (twr_11 x s = twr_12 x s')
 (Tree.chk (twr_18 x s = twr_14 x s')
 (Tree.chk (twr_6 = twr_6)
 (Tree.chk (XV.a (AV.c (CV.v (Value.string { data := #[] }))) = XV.a (AV.c (CV.v (Value.string { data := #[] }))))
 (Tree.chk (twr_21 = twr_21)
 (Tree.chk (XV.a (AV.c (CV.v (Value.int IntKind.i64 (↑(ByteArray.size (hasS (Int.toNat x.2))) : Int)))) = XV.a (AV.c (CV.v (Value.int IntKind.i64 (↑(ByteArray.size (hasS (Int.toNat x.2))) : Int)))))
 (Tree.chk (EntRel 4 twr_8 4 (twr_0 x) (twr_0 x))
 (Tree.chk (EntRel 4 twr_8 4 twr_1 twr_1)
 (Tree.chk (EntRel 4 twr_8 4 (twr_9 x) (twr_9 x))
 (Tree.chk (EntRel 4 twr_8 4 twr_1 twr_1)
 (Tree.need True))))))))))))))
 (Tree.chk (ByteArray.size { data := #[(32 : UInt8)] } + ByteArray.size x.7 ≤ 9223372036854775807)
 (Tree.chk (ByteArray.size (wrF x (Subtype.val s)) + ByteArray.size ({ data := #[(32 : UInt8)] } ++ x.7) ≤ 9223372036854775807)
 (Tree.some_ (WrS x) fun s' => Tree.chk (ByteArray.size (hasS (Int.toNat x.2)) - Subtype.val s' < ByteArray.size (hasS (Int.toNat x.2)) - Subtype.val s)
 (Tree.chk (twr_11 x s = twr_12 x s')
 (Tree.chk (twr_19 x s = twr_14 x s')
 (Tree.chk (twr_6 = twr_6)
 (Tree.chk (XV.a (AV.c (CV.v (Value.string { data := #[] }))) = XV.a (AV.c (CV.v (Value.string { data := #[] }))))
 (Tree.chk (twr_21 = twr_21)
 (Tree.chk (XV.a (AV.c (CV.v (Value.int IntKind.i64 (↑(ByteArray.size (hasS (Int.toNat x.2))) : Int)))) = XV.a (AV.c (CV.v (Value.int IntKind.i64 (↑(ByteArray.size (hasS (Int.toNat x.2))) : Int)))))
 (Tree.chk (EntRel 4 twr_8 4 (twr_0 x) (twr_0 x))
 (Tree.chk (EntRel 4 twr_8 4 twr_1 twr_1)
 (Tree.chk (EntRel 4 twr_8 4 (twr_9 x) (twr_9 x))
 (Tree.chk (EntRel 4 twr_8 4 twr_1 twr_1)
 (Tree.need True)))))))))))))))))))
 (Tree.done (twr_14 x s) twr_20)))))))))))))))))))))
 (Tree.chk ((!decide (x.2 < (1 : Int))) = true → False)
 (Tree.chk ((!decide (x.2 < (1 : Int))) = true → False)
 (Tree.chk (decide (x.2 < (1 : Int)) = true)
 (Tree.chk (true = true)
 (Tree.done (XV.a (AV.c (CV.v (Value.string { data := #[] })))) [Ent.dead]))))))))
theorem twr_eq (x : Ln) : prune (.n .k (.cs 2 (.n .k (.cs 3 (.l .k))))) (xfunc tab wrG (lpI fun _ tm H => wrI x tm H) Go.Proofs.Tryd.f29 [x.av] [] []) = twr x := by kernel_rfl
abbrev tprint_0 : Ln → List CV :=
  fun x => [CV.v (Value.string x.1), CV.v (Value.int IntKind.i64 x.2), CV.v (Value.int IntKind.i64 x.3), CV.v (Value.int IntKind.i64 x.4), CV.v (Value.int IntKind.i64 x.5), CV.v (Value.int IntKind.i64 x.6), CV.v (Value.string x.7)]
abbrev tprint_1 : Ln → List Ent :=
  fun x => [{ own := true, box := true, ty := 26, sz := 7, m := 1, n := fun x => 1, cap := fun x => 1, f := fun x_1 x_2 => tprint_0 x, ov := [] }]
def tprint (x m : Ln) : Tree :=
  Tree.callf 29 [AV.agg (tprint_0 x)] (tprint_1 x) (wrC x) fun c => Tree.callf 9 [AV.c (CV.v (Value.string (writtenF x)))] (tprint_1 x) (parseD (writtenF x) (some m)) fun c => Tree.chk (true = true → true = true)
 (Tree.chk (true = true → true = true)
 (Tree.chk (false = false → true = true)
 (Tree.br (bif !true then true else !(m.1 == x.1 && (m.2 == x.2 && (m.3 == x.3 && (m.4 == x.4 && (m.5 == x.5 && m.6 == x.6))) && m.7 == x.7)))
 (Tree.done (XV.tup [AV.c (CV.v (Value.string { data := #[] })), AV.c (CV.v (Value.iface 33 (Value.int IntKind.i64 (1 : Int))))]) [Ent.dead, Ent.dead])
 (Tree.done (XV.tup [AV.c (CV.v (Value.string (writtenF x))), AV.c (CV.v Value.nilIface)]) [Ent.dead, Ent.dead]))))
theorem tprint_eq (x m : Ln) : prune (.k) (xfunc tab (printG x (some m)) noInv Go.Proofs.Tryd.f11 [x.av] [] []) = tprint x m := by kernel_rfl
abbrev tprintN_0 : Ln → List CV :=
  fun x => [CV.v (Value.string x.1), CV.v (Value.int IntKind.i64 x.2), CV.v (Value.int IntKind.i64 x.3), CV.v (Value.int IntKind.i64 x.4), CV.v (Value.int IntKind.i64 x.5), CV.v (Value.int IntKind.i64 x.6), CV.v (Value.string x.7)]
abbrev tprintN_1 : Ln → List Ent :=
  fun x => [{ own := true, box := true, ty := 26, sz := 7, m := 1, n := fun x => 1, cap := fun x => 1, f := fun x_1 x_2 => tprintN_0 x, ov := [] }]
def tprintN (x : Ln) : Tree :=
  Tree.callf 29 [AV.agg (tprintN_0 x)] (tprintN_1 x) (wrC x) fun c => Tree.callf 9 [AV.c (CV.v (Value.string (writtenF x)))] (tprintN_1 x) (parseD (writtenF x) none) fun c => Tree.chk (false = true → false = true)
 (Tree.chk (false = true → false = true)
 (Tree.chk (true = false → false = true)
 (Tree.chk (true = true)
 (Tree.done (XV.tup [AV.c (CV.v (Value.string { data := #[] })), AV.c (CV.v (Value.iface 33 (Value.int IntKind.i64 (1 : Int))))]) [Ent.dead, Ent.dead]))))
theorem tprintN_eq (x : Ln) : prune (.cs 5 (.l .k)) (xfunc tab (printG x none) noInv Go.Proofs.Tryd.f11 [x.av] [] []) = tprintN x := by kernel_rfl
end Go.Proofs.YtjbnkdpeohbakaaDoor.X.Ip

set_option linter.unusedVariables false
set_option linter.unusedSimpArgs false
namespace Go.Proofs.YtjbnkdpeohbakaaDoor.X.Ip
open Go Go.RowKit Go.Proofs.YtjbnkdpeohbakaaDoorW.PrintWords Go.Proofs.YtjbnkdpeohbakaaDoor.Base Go.Proofs.YtjbnkdpeohbakaaDoor.X
theorem itoa_call : Callable Tryd.prog 45 := ⟨_, Tryd.func45, by kernel_rfl, rfl⟩
theorem written_call : Callable Tryd.prog 29 := ⟨_, Tryd.func29, by kernel_rfl, rfl⟩
theorem print_call : Callable Tryd.prog 11 := ⟨_, Tryd.func11, by kernel_rfl, rfl⟩
theorem itoa_local (n : Int) (h0 : -9223372036854775808 ≤ n) (h1 : n ≤ 9223372036854775807) : (itoaC n).Local Tryd.prog 45 :=
  plain_local fun ν w hw => (Any.strconv_Itoa Tryd.laysM171 n h0 h1 w (hw.1 _ kon_g.choose_spec)).mono fun e w' ⟨h1, k, os, h2⟩ => ⟨h1, by
    rw [h2]; exact Lib.below_grow _ w (Nat.le_refl _) k os⟩
abbrev I64 (n : Int) : Prop := -9223372036854775808 ≤ n ∧ n ≤ 9223372036854775807
structure Ln.Wf (x : Ln) : Prop where
  lb : x.lb.size ≤ 1000
  tg : x.tg.size ≤ 1000
  op : I64 x.op
  a : I64 x.a
  b : I64 x.b
  c : I64 x.c
  n : I64 x.n
theorem fmt_size {n : Int} (h : I64 n) : (fmtW n).size ≤ 21 := by
  show (bs _).size ≤ 21
  rw [bs_size]
  exact Lib.itoa_length_le n h.1 h.2
theorem word_size (k : Nat) : (wordS k).size ≤ 6 ∧ (hasS k).size ≤ 3 := by
  match k with
  | 0 => decide
  | 1 => decide
  | 2 => decide
  | 3 => decide
  | 4 => decide
  | 5 => decide
  | 6 => decide
  | 7 => decide
  | 8 => decide
  | 9 => decide
  | 10 => decide
  | 11 => decide
  | 12 => decide
  | 13 => decide
  | 14 => decide
  | 15 => decide
  | 16 => decide
  | 17 => decide
  | 18 => decide
  | 19 => decide
  | 20 => decide
  | 21 => decide
  | 22 => decide
  | k + 23 => exact ⟨Nat.zero_le _, Nat.zero_le _⟩
theorem part_le {x : Ln} (hx : x.Wf) (w : Int) : (partF x w).size ≤ 1001 := by
  have h1 := fmt_size hx.a
  have h2 := fmt_size hx.b
  have h3 := fmt_size hx.c
  have h4 := fmt_size hx.n
  have h5 := hx.tg
  have e1 : srS.size = 2 := rfl
  have e2 : spS.size = 1 := rfl
  unfold partF
  cases w == 65 <;> cases w == 66 <;> cases w == 67 <;> cases w == 78 <;> simp only [cond_true, cond_false, ByteArray.size_append] <;> omega
theorem wr_size {x : Ln} (hx : x.Wf) : ∀ i, (wrF x i).size ≤ 6 + i * 1001
  | 0 => by show (wordS _).size ≤ _; have := (word_size x.op.toNat).1; omega
  | i + 1 => by
    have h1 := wr_size hx i
    have h2 := part_le hx (bt' (hasS x.op.toNat) i)
    show (wrF x i ++ partF x _).size ≤ _
    rw [ByteArray.size_append]
    omega
theorem written_size {x : Ln} (hx : x.Wf) : (writtenF x).size ≤ 4000 := by
  have h1 := wr_size hx (hasS x.op.toNat).size
  have h2 := (word_size x.op.toNat).2
  have h3 := hx.lb
  have e1 : colS.size = 1 := rfl
  unfold writtenF
  cases !(x.lb.toList == ByteArray.empty.toList) with
  | true => rw [cond_true, ByteArray.size_append]; omega
  | false =>
    rw [cond_false]
    cases (bif decide (x.op < 1) then true else decide (x.op ≥ 23)) with
    | true => exact Nat.zero_le _
    | false =>
      rw [cond_false]
      have : (hasS x.op.toNat).size * 1001 ≤ 3 * 1001 := Nat.mul_le_mul_right _ h2
      omega
theorem written_local (x : Ln) (hx : x.Wf) : (wrC x).Local Tryd.prog 29 := by
  refine local_ofP Tryd.func29 rfl (twr_eq x) fun ν w => ?_
  refine ok_br' (fun h1 => ?_) fun h1 => ?_
  · have h1 : (!(x.lb.toList == ByteArray.empty.toList)) = true := h1
    refine ok_chk' (by have := hx.lb; show _ + 1 ≤ 9223372036854775807; omega) ?_
    exact ok_leaf (fun _ => 0) [] [] trivial (by show _ = XV.a (sv' (writtenF x)); unfold writtenF; rw [h1]; rfl) trivial rfl
  have h1 : (!(x.lb.toList == ByteArray.empty.toList)) = false := h1
  repeat refine ok_chk' (by first | exact fun h => h | rfl | exact fun _ => rfl | (exact fun h => by rw [h]; rfl) | exact fun h => absurd h (by decide) | (intro h1 h2; rw [h1, h2]; rfl)) ?_
  refine ok_br' (fun h2 => ?_) fun h2 => ?_
  · have h2' : 1 ≤ x.op := by have h := h2; simp at h; omega
    refine ok_callf' shapes_call (fits_of rfl rfl trivial fun c _ => ⟨⟨Nat.zero_le _, rfl⟩, ⟨rfl, rfl⟩, ⟨⟨EntRel.plain rfl rfl rfl rfl (fun h => by cases h) (fun _ _ => ⟨rfl, rfl⟩) fun _ _ _ _ => ⟨rfl, rfl⟩, rfl, (fun h => by cases h), .inr rfl⟩, trivial⟩⟩) (shapes_local _) fun c _ => ?_
    repeat refine ok_chk' (by first | exact fun h => h | rfl | exact fun _ => rfl | (exact fun h => by rw [h]; rfl) | exact fun h => absurd h (by decide) | (intro h1 h2; rw [h1, h2]; rfl)) ?_
    refine ok_br' (fun h3 => ?_) fun h3 => ?_
    · exact ok_leaf (fun _ => 0) [] [] trivial (by show _ = XV.a (sv' (writtenF x)); unfold writtenF; rw [h1, show (bif decide (x.op < 1) then true else decide (x.op ≥ 23)) = true from h3]; rfl) trivial rfl
    have h3' : x.op < 23 := by have h := h3; simp at h; omega
    have hw : writtenF x = wrF x (hasS x.op.toNat).size := by
      unfold writtenF
      rw [h1, show (bif decide (x.op < 1) then true else decide (x.op ≥ 23)) = false from h3]
      rfl
    refine ok_both' ?_ ?_
    · (repeat refine ok_chk' (by first | exact fun h => h | rfl | exact fun _ => rfl | (exact fun h => by rw [h]; rfl) | exact fun h => absurd h (by decide) | (intro h1 h2; rw [h1, h2]; rfl)) ?_)
      refine ok_callf' shapes_call (fits_of rfl rfl trivial fun c _ => ⟨⟨Nat.zero_le _, rfl⟩, ⟨rfl, rfl⟩, ⟨⟨EntRel.plain rfl rfl rfl rfl (fun h => by cases h) (fun _ _ => ⟨rfl, rfl⟩) fun _ _ _ _ => ⟨rfl, rfl⟩, rfl, (fun h => by cases h), .inr rfl⟩, trivial⟩⟩) (shapes_local _) fun c2 _ => ?_
      (repeat refine ok_chk' (by first | exact fun h => h | rfl | exact fun _ => rfl | (exact fun h => by rw [h]; rfl) | exact fun h => absurd h (by decide) | (intro h1 h2; rw [h1, h2]; rfl)) ?_)
      refine ok_chk' ⟨by omega, by omega, by omega, by omega⟩ ?_
      (repeat refine ok_chk' (by first | exact fun h => h | rfl | exact fun _ => rfl | (exact fun h => by rw [h]; rfl) | exact fun h => absurd h (by decide) | (intro h1 h2; rw [h1, h2]; rfl)) ?_)
      refine ok_chk' ⟨by omega, by omega⟩ ?_
      (repeat refine ok_chk' (by first | exact fun h => h | rfl | exact fun _ => rfl | (exact fun h => by rw [h]; rfl) | exact fun h => absurd h (by decide) | (intro h1 h2; rw [h1, h2]; rfl)) ?_)
      refine ok_chk' ⟨by omega, by omega⟩ ?_
      (repeat refine ok_chk' (by first | exact fun h => h | rfl | exact fun _ => rfl | (exact fun h => by rw [h]; rfl) | exact fun h => absurd h (by decide) | (intro h1 h2; rw [h1, h2]; rfl)) ?_)
      refine ok_chk' ⟨by omega, by omega, by omega, by omega⟩ ?_
      (repeat refine ok_chk' (by first | exact fun h => h | rfl | exact fun _ => rfl | (exact fun h => by rw [h]; rfl) | exact fun h => absurd h (by decide) | (intro h1 h2; rw [h1, h2]; rfl)) ?_)
      refine ok_both' ?_ (ok_every' fun i => ok_br' (fun hi => ?_) fun hi => ?_)
      · repeat' first | exact rfl | exact trivial | exact EntRel.box' rfl rfl rfl rfl rfl | exact EntRel.plain rfl rfl rfl rfl (fun h => by cases h) (fun _ _ => ⟨rfl, rfl⟩) (fun _ _ _ _ => ⟨rfl, rfl⟩) | refine ok_chk' ?_ ?_
      · have hi : i.1 < (hasS x.op.toNat).size := by have h := of_decide_eq_true hi; omega
        refine ok_chk' ⟨by omega, by omega⟩ ?_
        (repeat refine ok_chk' (by first | exact fun h => h | rfl | exact fun _ => rfl | (exact fun h => by rw [h]; rfl) | exact fun h => absurd h (by decide) | (intro h1 h2; rw [h1, h2]; rfl)) ?_)
        refine ok_br' (fun c1 => ?_) fun c1 => ?_
        · have hpt : partF x (bt' (hasS x.op.toNat) i.1) = srS ++ fmtW x.a := by unfold partF; rw [show (bt' (hasS x.op.toNat) i.1 == 65) = true from c1]; rfl
          refine ok_callf' itoa_call (fits_of rfl rfl trivial fun c _ => ⟨⟨Nat.zero_le _, rfl⟩, ⟨rfl, rfl⟩, trivial⟩) (itoa_local _ hx.a.1 hx.a.2) fun c3 _ => ?_
          ((repeat refine ok_chk' (by first | exact fun h => h | rfl | exact fun _ => rfl | (exact fun h => by rw [h]; rfl) | exact fun h => absurd h (by decide) | (intro h1 h2; rw [h1, h2]; rfl)) ?_); refine ok_chk' (by (have e1 : srS.size = 2 := rfl); have e2 : spS.size = 1 := rfl; have h1 := fmt_size hx.a; have h2 := fmt_size hx.b; have h3 := fmt_size hx.c; have h4 := fmt_size hx.n; have h5 := hx.tg; have h6 := wr_size hx i.1; have h7 : i.1 * 1001 ≤ 3 * 1001 := Nat.mul_le_mul_right _ (Nat.le_trans i.2 (word_size x.op.toNat).2); (try simp only [ByteArray.size_append]); show _ ≤ (9223372036854775807 : Nat); first | omega | (show srS.size + _ ≤ _; omega) | (show spS.size + _ ≤ _; omega) | (show _ + (srS.size + _) ≤ _; omega) | (show _ + (spS.size + _) ≤ _; omega)) ?_; (repeat refine ok_chk' (by first | exact fun h => h | rfl | exact fun _ => rfl | (exact fun h => by rw [h]; rfl) | exact fun h => absurd h (by decide) | (intro h1 h2; rw [h1, h2]; rfl)) ?_); refine ok_chk' (by (have e1 : srS.size = 2 := rfl); have e2 : spS.size = 1 := rfl; have h1 := fmt_size hx.a; have h2 := fmt_size hx.b; have h3 := fmt_size hx.c; have h4 := fmt_size hx.n; have h5 := hx.tg; have h6 := wr_size hx i.1; have h7 : i.1 * 1001 ≤ 3 * 1001 := Nat.mul_le_mul_right _ (Nat.le_trans i.2 (word_size x.op.toNat).2); (try simp only [ByteArray.size_append]); show _ ≤ (9223372036854775807 : Nat); first | omega | (show srS.size + _ ≤ _; omega) | (show spS.size + _ ≤ _; omega) | (show _ + (srS.size + _) ≤ _; omega) | (show _ + (spS.size + _) ≤ _; omega)) ?_; (repeat refine ok_chk' (by first | exact fun h => h | rfl | exact fun _ => rfl | (exact fun h => by rw [h]; rfl) | exact fun h => absurd h (by decide) | (intro h1 h2; rw [h1, h2]; rfl)) ?_); refine ok_some' ⟨i.1 + 1, hi⟩ (ok_chk' (by show (hasS x.op.toNat).size - (i.1 + 1) < (hasS x.op.toNat).size - i.1; omega) (ok_chk' (by show XV.a (.c (.v (.int .i64 (IntKind.wrap .i64 ((i.1 : Int) + 1))))) = _; rw [wrapn (by have := (word_size x.op.toNat).2; omega)]) (ok_chk' (by show XV.a (.c (.v (.string _))) = XV.a (.c (.v (.string (wrF x i.1 ++ partF x (bt' (hasS x.op.toNat) i.1))))); rw [hpt]) ?_))); repeat' first | exact rfl | exact trivial | exact EntRel.box' rfl rfl rfl rfl rfl | exact EntRel.plain rfl rfl rfl rfl (fun h => by cases h) (fun _ _ => ⟨rfl, rfl⟩) (fun _ _ _ _ => ⟨rfl, rfl⟩) | refine ok_chk' ?_ ?_)
        (repeat refine ok_chk' (by first | exact fun h => h | rfl | exact fun _ => rfl | (exact fun h => by rw [h]; rfl) | exact fun h => absurd h (by decide) | (intro h1 h2; rw [h1, h2]; rfl)) ?_)
        refine ok_br' (fun c2 => ?_) fun c2 => ?_
        · have hpt : partF x (bt' (hasS x.op.toNat) i.1) = srS ++ fmtW x.b := by unfold partF; rw [show (bt' (hasS x.op.toNat) i.1 == 65) = false from c1, show (bt' (hasS x.op.toNat) i.1 == 66) = true from c2]; rfl
          refine ok_callf' itoa_call (fits_of rfl rfl trivial fun c _ => ⟨⟨Nat.zero_le _, rfl⟩, ⟨rfl, rfl⟩, trivial⟩) (itoa_local _ hx.b.1 hx.b.2) fun c3 _ => ?_
          ((repeat refine ok_chk' (by first | exact fun h => h | rfl | exact fun _ => rfl | (exact fun h => by rw [h]; rfl) | exact fun h => absurd h (by decide) | (intro h1 h2; rw [h1, h2]; rfl)) ?_); refine ok_chk' (by (have e1 : srS.size = 2 := rfl); have e2 : spS.size = 1 := rfl; have h1 := fmt_size hx.a; have h2 := fmt_size hx.b; have h3 := fmt_size hx.c; have h4 := fmt_size hx.n; have h5 := hx.tg; have h6 := wr_size hx i.1; have h7 : i.1 * 1001 ≤ 3 * 1001 := Nat.mul_le_mul_right _ (Nat.le_trans i.2 (word_size x.op.toNat).2); (try simp only [ByteArray.size_append]); show _ ≤ (9223372036854775807 : Nat); first | omega | (show srS.size + _ ≤ _; omega) | (show spS.size + _ ≤ _; omega) | (show _ + (srS.size + _) ≤ _; omega) | (show _ + (spS.size + _) ≤ _; omega)) ?_; (repeat refine ok_chk' (by first | exact fun h => h | rfl | exact fun _ => rfl | (exact fun h => by rw [h]; rfl) | exact fun h => absurd h (by decide) | (intro h1 h2; rw [h1, h2]; rfl)) ?_); refine ok_chk' (by (have e1 : srS.size = 2 := rfl); have e2 : spS.size = 1 := rfl; have h1 := fmt_size hx.a; have h2 := fmt_size hx.b; have h3 := fmt_size hx.c; have h4 := fmt_size hx.n; have h5 := hx.tg; have h6 := wr_size hx i.1; have h7 : i.1 * 1001 ≤ 3 * 1001 := Nat.mul_le_mul_right _ (Nat.le_trans i.2 (word_size x.op.toNat).2); (try simp only [ByteArray.size_append]); show _ ≤ (9223372036854775807 : Nat); first | omega | (show srS.size + _ ≤ _; omega) | (show spS.size + _ ≤ _; omega) | (show _ + (srS.size + _) ≤ _; omega) | (show _ + (spS.size + _) ≤ _; omega)) ?_; (repeat refine ok_chk' (by first | exact fun h => h | rfl | exact fun _ => rfl | (exact fun h => by rw [h]; rfl) | exact fun h => absurd h (by decide) | (intro h1 h2; rw [h1, h2]; rfl)) ?_); refine ok_some' ⟨i.1 + 1, hi⟩ (ok_chk' (by show (hasS x.op.toNat).size - (i.1 + 1) < (hasS x.op.toNat).size - i.1; omega) (ok_chk' (by show XV.a (.c (.v (.int .i64 (IntKind.wrap .i64 ((i.1 : Int) + 1))))) = _; rw [wrapn (by have := (word_size x.op.toNat).2; omega)]) (ok_chk' (by show XV.a (.c (.v (.string _))) = XV.a (.c (.v (.string (wrF x i.1 ++ partF x (bt' (hasS x.op.toNat) i.1))))); rw [hpt]) ?_))); repeat' first | exact rfl | exact trivial | exact EntRel.box' rfl rfl rfl rfl rfl | exact EntRel.plain rfl rfl rfl rfl (fun h => by cases h) (fun _ _ => ⟨rfl, rfl⟩) (fun _ _ _ _ => ⟨rfl, rfl⟩) | refine ok_chk' ?_ ?_)
        (repeat refine ok_chk' (by first | exact fun h => h | rfl | exact fun _ => rfl | (exact fun h => by rw [h]; rfl) | exact fun h => absurd h (by decide) | (intro h1 h2; rw [h1, h2]; rfl)) ?_)
        refine ok_br' (fun c3 => ?_) fun c3 => ?_
        · have hpt : partF x (bt' (hasS x.op.toNat) i.1) = srS ++ fmtW x.c := by unfold partF; rw [show (bt' (hasS x.op.toNat) i.1 == 65) = false from c1, show (bt' (hasS x.op.toNat) i.1 == 66) = false from c2, show (bt' (hasS x.op.toNat) i.1 == 67) = true from c3]; rfl
          refine ok_callf' itoa_call (fits_of rfl rfl trivial fun c _ => ⟨⟨Nat.zero_le _, rfl⟩, ⟨rfl, rfl⟩, trivial⟩) (itoa_local _ hx.c.1 hx.c.2) fun c3 _ => ?_
          ((repeat refine ok_chk' (by first | exact fun h => h | rfl | exact fun _ => rfl | (exact fun h => by rw [h]; rfl) | exact fun h => absurd h (by decide) | (intro h1 h2; rw [h1, h2]; rfl)) ?_); refine ok_chk' (by (have e1 : srS.size = 2 := rfl); have e2 : spS.size = 1 := rfl; have h1 := fmt_size hx.a; have h2 := fmt_size hx.b; have h3 := fmt_size hx.c; have h4 := fmt_size hx.n; have h5 := hx.tg; have h6 := wr_size hx i.1; have h7 : i.1 * 1001 ≤ 3 * 1001 := Nat.mul_le_mul_right _ (Nat.le_trans i.2 (word_size x.op.toNat).2); (try simp only [ByteArray.size_append]); show _ ≤ (9223372036854775807 : Nat); first | omega | (show srS.size + _ ≤ _; omega) | (show spS.size + _ ≤ _; omega) | (show _ + (srS.size + _) ≤ _; omega) | (show _ + (spS.size + _) ≤ _; omega)) ?_; (repeat refine ok_chk' (by first | exact fun h => h | rfl | exact fun _ => rfl | (exact fun h => by rw [h]; rfl) | exact fun h => absurd h (by decide) | (intro h1 h2; rw [h1, h2]; rfl)) ?_); refine ok_chk' (by (have e1 : srS.size = 2 := rfl); have e2 : spS.size = 1 := rfl; have h1 := fmt_size hx.a; have h2 := fmt_size hx.b; have h3 := fmt_size hx.c; have h4 := fmt_size hx.n; have h5 := hx.tg; have h6 := wr_size hx i.1; have h7 : i.1 * 1001 ≤ 3 * 1001 := Nat.mul_le_mul_right _ (Nat.le_trans i.2 (word_size x.op.toNat).2); (try simp only [ByteArray.size_append]); show _ ≤ (9223372036854775807 : Nat); first | omega | (show srS.size + _ ≤ _; omega) | (show spS.size + _ ≤ _; omega) | (show _ + (srS.size + _) ≤ _; omega) | (show _ + (spS.size + _) ≤ _; omega)) ?_; (repeat refine ok_chk' (by first | exact fun h => h | rfl | exact fun _ => rfl | (exact fun h => by rw [h]; rfl) | exact fun h => absurd h (by decide) | (intro h1 h2; rw [h1, h2]; rfl)) ?_); refine ok_some' ⟨i.1 + 1, hi⟩ (ok_chk' (by show (hasS x.op.toNat).size - (i.1 + 1) < (hasS x.op.toNat).size - i.1; omega) (ok_chk' (by show XV.a (.c (.v (.int .i64 (IntKind.wrap .i64 ((i.1 : Int) + 1))))) = _; rw [wrapn (by have := (word_size x.op.toNat).2; omega)]) (ok_chk' (by show XV.a (.c (.v (.string _))) = XV.a (.c (.v (.string (wrF x i.1 ++ partF x (bt' (hasS x.op.toNat) i.1))))); rw [hpt]) ?_))); repeat' first | exact rfl | exact trivial | exact EntRel.box' rfl rfl rfl rfl rfl | exact EntRel.plain rfl rfl rfl rfl (fun h => by cases h) (fun _ _ => ⟨rfl, rfl⟩) (fun _ _ _ _ => ⟨rfl, rfl⟩) | refine ok_chk' ?_ ?_)
        (repeat refine ok_chk' (by first | exact fun h => h | rfl | exact fun _ => rfl | (exact fun h => by rw [h]; rfl) | exact fun h => absurd h (by decide) | (intro h1 h2; rw [h1, h2]; rfl)) ?_)
        refine ok_br' (fun c4 => ?_) fun c4 => ?_
        · have hpt : partF x (bt' (hasS x.op.toNat) i.1) = spS ++ fmtW x.n := by unfold partF; rw [show (bt' (hasS x.op.toNat) i.1 == 65) = false from c1, show (bt' (hasS x.op.toNat) i.1 == 66) = false from c2, show (bt' (hasS x.op.toNat) i.1 == 67) = false from c3, show (bt' (hasS x.op.toNat) i.1 == 78) = true from c4]; rfl
          refine ok_callf' fmt_call (fits_of rfl rfl trivial fun c _ => ⟨⟨Nat.zero_le _, rfl⟩, ⟨rfl, rfl⟩, trivial⟩) (fmt_local _ hx.n.1 hx.n.2) fun c3 _ => ?_
          ((repeat refine ok_chk' (by first | exact fun h => h | rfl | exact fun _ => rfl | (exact fun h => by rw [h]; rfl) | exact fun h => absurd h (by decide) | (intro h1 h2; rw [h1, h2]; rfl)) ?_); refine ok_chk' (by (have e1 : srS.size = 2 := rfl); have e2 : spS.size = 1 := rfl; have h1 := fmt_size hx.a; have h2 := fmt_size hx.b; have h3 := fmt_size hx.c; have h4 := fmt_size hx.n; have h5 := hx.tg; have h6 := wr_size hx i.1; have h7 : i.1 * 1001 ≤ 3 * 1001 := Nat.mul_le_mul_right _ (Nat.le_trans i.2 (word_size x.op.toNat).2); (try simp only [ByteArray.size_append]); show _ ≤ (9223372036854775807 : Nat); first | omega | (show srS.size + _ ≤ _; omega) | (show spS.size + _ ≤ _; omega) | (show _ + (srS.size + _) ≤ _; omega) | (show _ + (spS.size + _) ≤ _; omega)) ?_; (repeat refine ok_chk' (by first | exact fun h => h | rfl | exact fun _ => rfl | (exact fun h => by rw [h]; rfl) | exact fun h => absurd h (by decide) | (intro h1 h2; rw [h1, h2]; rfl)) ?_); refine ok_chk' (by (have e1 : srS.size = 2 := rfl); have e2 : spS.size = 1 := rfl; have h1 := fmt_size hx.a; have h2 := fmt_size hx.b; have h3 := fmt_size hx.c; have h4 := fmt_size hx.n; have h5 := hx.tg; have h6 := wr_size hx i.1; have h7 : i.1 * 1001 ≤ 3 * 1001 := Nat.mul_le_mul_right _ (Nat.le_trans i.2 (word_size x.op.toNat).2); (try simp only [ByteArray.size_append]); show _ ≤ (9223372036854775807 : Nat); first | omega | (show srS.size + _ ≤ _; omega) | (show spS.size + _ ≤ _; omega) | (show _ + (srS.size + _) ≤ _; omega) | (show _ + (spS.size + _) ≤ _; omega)) ?_; (repeat refine ok_chk' (by first | exact fun h => h | rfl | exact fun _ => rfl | (exact fun h => by rw [h]; rfl) | exact fun h => absurd h (by decide) | (intro h1 h2; rw [h1, h2]; rfl)) ?_); refine ok_some' ⟨i.1 + 1, hi⟩ (ok_chk' (by show (hasS x.op.toNat).size - (i.1 + 1) < (hasS x.op.toNat).size - i.1; omega) (ok_chk' (by show XV.a (.c (.v (.int .i64 (IntKind.wrap .i64 ((i.1 : Int) + 1))))) = _; rw [wrapn (by have := (word_size x.op.toNat).2; omega)]) (ok_chk' (by show XV.a (.c (.v (.string _))) = XV.a (.c (.v (.string (wrF x i.1 ++ partF x (bt' (hasS x.op.toNat) i.1))))); rw [hpt]) ?_))); repeat' first | exact rfl | exact trivial | exact EntRel.box' rfl rfl rfl rfl rfl | exact EntRel.plain rfl rfl rfl rfl (fun h => by cases h) (fun _ _ => ⟨rfl, rfl⟩) (fun _ _ _ _ => ⟨rfl, rfl⟩) | refine ok_chk' ?_ ?_)
        · have hpt : partF x (bt' (hasS x.op.toNat) i.1) = spS ++ x.tg := by unfold partF; rw [show (bt' (hasS x.op.toNat) i.1 == 65) = false from c1, show (bt' (hasS x.op.toNat) i.1 == 66) = false from c2, show (bt' (hasS x.op.toNat) i.1 == 67) = false from c3, show (bt' (hasS x.op.toNat) i.1 == 78) = false from c4]; rfl
          ((repeat refine ok_chk' (by first | exact fun h => h | rfl | exact fun _ => rfl | (exact fun h => by rw [h]; rfl) | exact fun h => absurd h (by decide) | (intro h1 h2; rw [h1, h2]; rfl)) ?_); refine ok_chk' (by (have e1 : srS.size = 2 := rfl); have e2 : spS.size = 1 := rfl; have h1 := fmt_size hx.a; have h2 := fmt_size hx.b; have h3 := fmt_size hx.c; have h4 := fmt_size hx.n; have h5 := hx.tg; have h6 := wr_size hx i.1; have h7 : i.1 * 1001 ≤ 3 * 1001 := Nat.mul_le_mul_right _ (Nat.le_trans i.2 (word_size x.op.toNat).2); (try simp only [ByteArray.size_append]); show _ ≤ (9223372036854775807 : Nat); first | omega | (show srS.size + _ ≤ _; omega) | (show spS.size + _ ≤ _; omega) | (show _ + (srS.size + _) ≤ _; omega) | (show _ + (spS.size + _) ≤ _; omega)) ?_; (repeat refine ok_chk' (by first | exact fun h => h | rfl | exact fun _ => rfl | (exact fun h => by rw [h]; rfl) | exact fun h => absurd h (by decide) | (intro h1 h2; rw [h1, h2]; rfl)) ?_); refine ok_chk' (by (have e1 : srS.size = 2 := rfl); have e2 : spS.size = 1 := rfl; have h1 := fmt_size hx.a; have h2 := fmt_size hx.b; have h3 := fmt_size hx.c; have h4 := fmt_size hx.n; have h5 := hx.tg; have h6 := wr_size hx i.1; have h7 : i.1 * 1001 ≤ 3 * 1001 := Nat.mul_le_mul_right _ (Nat.le_trans i.2 (word_size x.op.toNat).2); (try simp only [ByteArray.size_append]); show _ ≤ (9223372036854775807 : Nat); first | omega | (show srS.size + _ ≤ _; omega) | (show spS.size + _ ≤ _; omega) | (show _ + (srS.size + _) ≤ _; omega) | (show _ + (spS.size + _) ≤ _; omega)) ?_; (repeat refine ok_chk' (by first | exact fun h => h | rfl | exact fun _ => rfl | (exact fun h => by rw [h]; rfl) | exact fun h => absurd h (by decide) | (intro h1 h2; rw [h1, h2]; rfl)) ?_); refine ok_some' ⟨i.1 + 1, hi⟩ (ok_chk' (by show (hasS x.op.toNat).size - (i.1 + 1) < (hasS x.op.toNat).size - i.1; omega) (ok_chk' (by show XV.a (.c (.v (.int .i64 (IntKind.wrap .i64 ((i.1 : Int) + 1))))) = _; rw [wrapn (by have := (word_size x.op.toNat).2; omega)]) (ok_chk' (by show XV.a (.c (.v (.string _))) = XV.a (.c (.v (.string (wrF x i.1 ++ partF x (bt' (hasS x.op.toNat) i.1))))); rw [hpt]) ?_))); repeat' first | exact rfl | exact trivial | exact EntRel.box' rfl rfl rfl rfl rfl | exact EntRel.plain rfl rfl rfl rfl (fun h => by cases h) (fun _ _ => ⟨rfl, rfl⟩) (fun _ _ _ _ => ⟨rfl, rfl⟩) | refine ok_chk' ?_ ?_)
      · have hi : i.1 = (hasS x.op.toNat).size := by
          have h := of_decide_eq_false hi
          have := i.2
          omega
        exact ok_leaf (fun _ => 0) [] [] trivial (by show XV.a (sv' (wrF x i.1)) = XV.a (sv' (writtenF x)); rw [hw, hi]) trivial rfl
    · (repeat refine ok_chk' (by first | exact fun h => h | rfl | exact fun _ => rfl | (exact fun h => by rw [h]; rfl) | exact fun h => absurd h (by decide) | (intro h1 h2; rw [h1, h2]; rfl)) ?_)
      refine ok_callf' shapes_call (fits_of rfl rfl trivial fun c _ => ⟨⟨Nat.zero_le _, rfl⟩, ⟨rfl, rfl⟩, ⟨⟨EntRel.plain rfl rfl rfl rfl (fun h => by cases h) (fun _ _ => ⟨rfl, rfl⟩) fun _ _ _ _ => ⟨rfl, rfl⟩, rfl, (fun h => by cases h), .inr rfl⟩, trivial⟩⟩) (shapes_local _) fun c2 _ => ?_
      (repeat refine ok_chk' (by first | exact fun h => h | rfl | exact fun _ => rfl | (exact fun h => by rw [h]; rfl) | exact fun h => absurd h (by decide) | (intro h1 h2; rw [h1, h2]; rfl)) ?_)
      refine ok_chk' ⟨by omega, by omega, by omega, by omega⟩ ?_
      (repeat refine ok_chk' (by first | exact fun h => h | rfl | exact fun _ => rfl | (exact fun h => by rw [h]; rfl) | exact fun h => absurd h (by decide) | (intro h1 h2; rw [h1, h2]; rfl)) ?_)
      refine ok_chk' ⟨by omega, by omega⟩ ?_
      (repeat refine ok_chk' (by first | exact fun h => h | rfl | exact fun _ => rfl | (exact fun h => by rw [h]; rfl) | exact fun h => absurd h (by decide) | (intro h1 h2; rw [h1, h2]; rfl)) ?_)
      refine ok_both' ?_ (ok_every' fun i => ok_br' (fun hi => ?_) fun hi => ?_)
      · repeat' first | exact rfl | exact trivial | exact EntRel.box' rfl rfl rfl rfl rfl | exact EntRel.plain rfl rfl rfl rfl (fun h => by cases h) (fun _ _ => ⟨rfl, rfl⟩) (fun _ _ _ _ => ⟨rfl, rfl⟩) | refine ok_chk' ?_ ?_
      · have hi : i.1 < (hasS x.op.toNat).size := by have h := of_decide_eq_true hi; omega
        refine ok_chk' ⟨by omega, by omega⟩ ?_
        (repeat refine ok_chk' (by first | exact fun h => h | rfl | exact fun _ => rfl | (exact fun h => by rw [h]; rfl) | exact fun h => absurd h (by decide) | (intro h1 h2; rw [h1, h2]; rfl)) ?_)
        refine ok_br' (fun c1 => ?_) fun c1 => ?_
        · have hpt : partF x (bt' (hasS x.op.toNat) i.1) = srS ++ fmtW x.a := by unfold partF; rw [show (bt' (hasS x.op.toNat) i.1 == 65) = true from c1]; rfl
          refine ok_callf' itoa_call (fits_of rfl rfl trivial fun c _ => ⟨⟨Nat.zero_le _, rfl⟩, ⟨rfl, rfl⟩, trivial⟩) (itoa_local _ hx.a.1 hx.a.2) fun c3 _ => ?_
          ((repeat refine ok_chk' (by first | exact fun h => h | rfl | exact fun _ => rfl | (exact fun h => by rw [h]; rfl) | exact fun h => absurd h (by decide) | (intro h1 h2; rw [h1, h2]; rfl)) ?_); refine ok_chk' (by (have e1 : srS.size = 2 := rfl); have e2 : spS.size = 1 := rfl; have h1 := fmt_size hx.a; have h2 := fmt_size hx.b; have h3 := fmt_size hx.c; have h4 := fmt_size hx.n; have h5 := hx.tg; have h6 := wr_size hx i.1; have h7 : i.1 * 1001 ≤ 3 * 1001 := Nat.mul_le_mul_right _ (Nat.le_trans i.2 (word_size x.op.toNat).2); (try simp only [ByteArray.size_append]); show _ ≤ (9223372036854775807 : Nat); first | omega | (show srS.size + _ ≤ _; omega) | (show spS.size + _ ≤ _; omega) | (show _ + (srS.size + _) ≤ _; omega) | (show _ + (spS.size + _) ≤ _; omega)) ?_; (repeat refine ok_chk' (by first | exact fun h => h | rfl | exact fun _ => rfl | (exact fun h => by rw [h]; rfl) | exact fun h => absurd h (by decide) | (intro h1 h2; rw [h1, h2]; rfl)) ?_); refine ok_chk' (by (have e1 : srS.size = 2 := rfl); have e2 : spS.size = 1 := rfl; have h1 := fmt_size hx.a; have h2 := fmt_size hx.b; have h3 := fmt_size hx.c; have h4 := fmt_size hx.n; have h5 := hx.tg; have h6 := wr_size hx i.1; have h7 : i.1 * 1001 ≤ 3 * 1001 := Nat.mul_le_mul_right _ (Nat.le_trans i.2 (word_size x.op.toNat).2); (try simp only [ByteArray.size_append]); show _ ≤ (9223372036854775807 : Nat); first | omega | (show srS.size + _ ≤ _; omega) | (show spS.size + _ ≤ _; omega) | (show _ + (srS.size + _) ≤ _; omega) | (show _ + (spS.size + _) ≤ _; omega)) ?_; (repeat refine ok_chk' (by first | exact fun h => h | rfl | exact fun _ => rfl | (exact fun h => by rw [h]; rfl) | exact fun h => absurd h (by decide) | (intro h1 h2; rw [h1, h2]; rfl)) ?_); refine ok_some' ⟨i.1 + 1, hi⟩ (ok_chk' (by show (hasS x.op.toNat).size - (i.1 + 1) < (hasS x.op.toNat).size - i.1; omega) (ok_chk' (by show XV.a (.c (.v (.int .i64 (IntKind.wrap .i64 ((i.1 : Int) + 1))))) = _; rw [wrapn (by have := (word_size x.op.toNat).2; omega)]) (ok_chk' (by show XV.a (.c (.v (.string _))) = XV.a (.c (.v (.string (wrF x i.1 ++ partF x (bt' (hasS x.op.toNat) i.1))))); rw [hpt]) ?_))); repeat' first | exact rfl | exact trivial | exact EntRel.box' rfl rfl rfl rfl rfl | exact EntRel.plain rfl rfl rfl rfl (fun h => by cases h) (fun _ _ => ⟨rfl, rfl⟩) (fun _ _ _ _ => ⟨rfl, rfl⟩) | refine ok_chk' ?_ ?_)
        (repeat refine ok_chk' (by first | exact fun h => h | rfl | exact fun _ => rfl | (exact fun h => by rw [h]; rfl) | exact fun h => absurd h (by decide) | (intro h1 h2; rw [h1, h2]; rfl)) ?_)
        refine ok_br' (fun c2 => ?_) fun c2 => ?_
        · have hpt : partF x (bt' (hasS x.op.toNat) i.1) = srS ++ fmtW x.b := by unfold partF; rw [show (bt' (hasS x.op.toNat) i.1 == 65) = false from c1, show (bt' (hasS x.op.toNat) i.1 == 66) = true from c2]; rfl
          refine ok_callf' itoa_call (fits_of rfl rfl trivial fun c _ => ⟨⟨Nat.zero_le _, rfl⟩, ⟨rfl, rfl⟩, trivial⟩) (itoa_local _ hx.b.1 hx.b.2) fun c3 _ => ?_
          ((repeat refine ok_chk' (by first | exact fun h => h | rfl | exact fun _ => rfl | (exact fun h => by rw [h]; rfl) | exact fun h => absurd h (by decide) | (intro h1 h2; rw [h1, h2]; rfl)) ?_); refine ok_chk' (by (have e1 : srS.size = 2 := rfl); have e2 : spS.size = 1 := rfl; have h1 := fmt_size hx.a; have h2 := fmt_size hx.b; have h3 := fmt_size hx.c; have h4 := fmt_size hx.n; have h5 := hx.tg; have h6 := wr_size hx i.1; have h7 : i.1 * 1001 ≤ 3 * 1001 := Nat.mul_le_mul_right _ (Nat.le_trans i.2 (word_size x.op.toNat).2); (try simp only [ByteArray.size_append]); show _ ≤ (9223372036854775807 : Nat); first | omega | (show srS.size + _ ≤ _; omega) | (show spS.size + _ ≤ _; omega) | (show _ + (srS.size + _) ≤ _; omega) | (show _ + (spS.size + _) ≤ _; omega)) ?_; (repeat refine ok_chk' (by first | exact fun h => h | rfl | exact fun _ => rfl | (exact fun h => by rw [h]; rfl) | exact fun h => absurd h (by decide) | (intro h1 h2; rw [h1, h2]; rfl)) ?_); refine ok_chk' (by (have e1 : srS.size = 2 := rfl); have e2 : spS.size = 1 := rfl; have h1 := fmt_size hx.a; have h2 := fmt_size hx.b; have h3 := fmt_size hx.c; have h4 := fmt_size hx.n; have h5 := hx.tg; have h6 := wr_size hx i.1; have h7 : i.1 * 1001 ≤ 3 * 1001 := Nat.mul_le_mul_right _ (Nat.le_trans i.2 (word_size x.op.toNat).2); (try simp only [ByteArray.size_append]); show _ ≤ (9223372036854775807 : Nat); first | omega | (show srS.size + _ ≤ _; omega) | (show spS.size + _ ≤ _; omega) | (show _ + (srS.size + _) ≤ _; omega) | (show _ + (spS.size + _) ≤ _; omega)) ?_; (repeat refine ok_chk' (by first | exact fun h => h | rfl | exact fun _ => rfl | (exact fun h => by rw [h]; rfl) | exact fun h => absurd h (by decide) | (intro h1 h2; rw [h1, h2]; rfl)) ?_); refine ok_some' ⟨i.1 + 1, hi⟩ (ok_chk' (by show (hasS x.op.toNat).size - (i.1 + 1) < (hasS x.op.toNat).size - i.1; omega) (ok_chk' (by show XV.a (.c (.v (.int .i64 (IntKind.wrap .i64 ((i.1 : Int) + 1))))) = _; rw [wrapn (by have := (word_size x.op.toNat).2; omega)]) (ok_chk' (by show XV.a (.c (.v (.string _))) = XV.a (.c (.v (.string (wrF x i.1 ++ partF x (bt' (hasS x.op.toNat) i.1))))); rw [hpt]) ?_))); repeat' first | exact rfl | exact trivial | exact EntRel.box' rfl rfl rfl rfl rfl | exact EntRel.plain rfl rfl rfl rfl (fun h => by cases h) (fun _ _ => ⟨rfl, rfl⟩) (fun _ _ _ _ => ⟨rfl, rfl⟩) | refine ok_chk' ?_ ?_)
        (repeat refine ok_chk' (by first | exact fun h => h | rfl | exact fun _ => rfl | (exact fun h => by rw [h]; rfl) | exact fun h => absurd h (by decide) | (intro h1 h2; rw [h1, h2]; rfl)) ?_)
        refine ok_br' (fun c3 => ?_) fun c3 => ?_
        · have hpt : partF x (bt' (hasS x.op.toNat) i.1) = srS ++ fmtW x.c := by unfold partF; rw [show (bt' (hasS x.op.toNat) i.1 == 65) = false from c1, show (bt' (hasS x.op.toNat) i.1 == 66) = false from c2, show (bt' (hasS x.op.toNat) i.1 == 67) = true from c3]; rfl
          refine ok_callf' itoa_call (fits_of rfl rfl trivial fun c _ => ⟨⟨Nat.zero_le _, rfl⟩, ⟨rfl, rfl⟩, trivial⟩) (itoa_local _ hx.c.1 hx.c.2) fun c3 _ => ?_
          ((repeat refine ok_chk' (by first | exact fun h => h | rfl | exact fun _ => rfl | (exact fun h => by rw [h]; rfl) | exact fun h => absurd h (by decide) | (intro h1 h2; rw [h1, h2]; rfl)) ?_); refine ok_chk' (by (have e1 : srS.size = 2 := rfl); have e2 : spS.size = 1 := rfl; have h1 := fmt_size hx.a; have h2 := fmt_size hx.b; have h3 := fmt_size hx.c; have h4 := fmt_size hx.n; have h5 := hx.tg; have h6 := wr_size hx i.1; have h7 : i.1 * 1001 ≤ 3 * 1001 := Nat.mul_le_mul_right _ (Nat.le_trans i.2 (word_size x.op.toNat).2); (try simp only [ByteArray.size_append]); show _ ≤ (9223372036854775807 : Nat); first | omega | (show srS.size + _ ≤ _; omega) | (show spS.size + _ ≤ _; omega) | (show _ + (srS.size + _) ≤ _; omega) | (show _ + (spS.size + _) ≤ _; omega)) ?_; (repeat refine ok_chk' (by first | exact fun h => h | rfl | exact fun _ => rfl | (exact fun h => by rw [h]; rfl) | exact fun h => absurd h (by decide) | (intro h1 h2; rw [h1, h2]; rfl)) ?_); refine ok_chk' (by (have e1 : srS.size = 2 := rfl); have e2 : spS.size = 1 := rfl; have h1 := fmt_size hx.a; have h2 := fmt_size hx.b; have h3 := fmt_size hx.c; have h4 := fmt_size hx.n; have h5 := hx.tg; have h6 := wr_size hx i.1; have h7 : i.1 * 1001 ≤ 3 * 1001 := Nat.mul_le_mul_right _ (Nat.le_trans i.2 (word_size x.op.toNat).2); (try simp only [ByteArray.size_append]); show _ ≤ (9223372036854775807 : Nat); first | omega | (show srS.size + _ ≤ _; omega) | (show spS.size + _ ≤ _; omega) | (show _ + (srS.size + _) ≤ _; omega) | (show _ + (spS.size + _) ≤ _; omega)) ?_; (repeat refine ok_chk' (by first | exact fun h => h | rfl | exact fun _ => rfl | (exact fun h => by rw [h]; rfl) | exact fun h => absurd h (by decide) | (intro h1 h2; rw [h1, h2]; rfl)) ?_); refine ok_some' ⟨i.1 + 1, hi⟩ (ok_chk' (by show (hasS x.op.toNat).size - (i.1 + 1) < (hasS x.op.toNat).size - i.1; omega) (ok_chk' (by show XV.a (.c (.v (.int .i64 (IntKind.wrap .i64 ((i.1 : Int) + 1))))) = _; rw [wrapn (by have := (word_size x.op.toNat).2; omega)]) (ok_chk' (by show XV.a (.c (.v (.string _))) = XV.a (.c (.v (.string (wrF x i.1 ++ partF x (bt' (hasS x.op.toNat) i.1))))); rw [hpt]) ?_))); repeat' first | exact rfl | exact trivial | exact EntRel.box' rfl rfl rfl rfl rfl | exact EntRel.plain rfl rfl rfl rfl (fun h => by cases h) (fun _ _ => ⟨rfl, rfl⟩) (fun _ _ _ _ => ⟨rfl, rfl⟩) | refine ok_chk' ?_ ?_)
        (repeat refine ok_chk' (by first | exact fun h => h | rfl | exact fun _ => rfl | (exact fun h => by rw [h]; rfl) | exact fun h => absurd h (by decide) | (intro h1 h2; rw [h1, h2]; rfl)) ?_)
        refine ok_br' (fun c4 => ?_) fun c4 => ?_
        · have hpt : partF x (bt' (hasS x.op.toNat) i.1) = spS ++ fmtW x.n := by unfold partF; rw [show (bt' (hasS x.op.toNat) i.1 == 65) = false from c1, show (bt' (hasS x.op.toNat) i.1 == 66) = false from c2, show (bt' (hasS x.op.toNat) i.1 == 67) = false from c3, show (bt' (hasS x.op.toNat) i.1 == 78) = true from c4]; rfl
          refine ok_callf' fmt_call (fits_of rfl rfl trivial fun c _ => ⟨⟨Nat.zero_le _, rfl⟩, ⟨rfl, rfl⟩, trivial⟩) (fmt_local _ hx.n.1 hx.n.2) fun c3 _ => ?_
          ((repeat refine ok_chk' (by first | exact fun h => h | rfl | exact fun _ => rfl | (exact fun h => by rw [h]; rfl) | exact fun h => absurd h (by decide) | (intro h1 h2; rw [h1, h2]; rfl)) ?_); refine ok_chk' (by (have e1 : srS.size = 2 := rfl); have e2 : spS.size = 1 := rfl; have h1 := fmt_size hx.a; have h2 := fmt_size hx.b; have h3 := fmt_size hx.c; have h4 := fmt_size hx.n; have h5 := hx.tg; have h6 := wr_size hx i.1; have h7 : i.1 * 1001 ≤ 3 * 1001 := Nat.mul_le_mul_right _ (Nat.le_trans i.2 (word_size x.op.toNat).2); (try simp only [ByteArray.size_append]); show _ ≤ (9223372036854775807 : Nat); first | omega | (show srS.size + _ ≤ _; omega) | (show spS.size + _ ≤ _; omega) | (show _ + (srS.size + _) ≤ _; omega) | (show _ + (spS.size + _) ≤ _; omega)) ?_; (repeat refine ok_chk' (by first | exact fun h => h | rfl | exact fun _ => rfl | (exact fun h => by rw [h]; rfl) | exact fun h => absurd h (by decide) | (intro h1 h2; rw [h1, h2]; rfl)) ?_); refine ok_chk' (by (have e1 : srS.size = 2 := rfl); have e2 : spS.size = 1 := rfl; have h1 := fmt_size hx.a; have h2 := fmt_size hx.b; have h3 := fmt_size hx.c; have h4 := fmt_size hx.n; have h5 := hx.tg; have h6 := wr_size hx i.1; have h7 : i.1 * 1001 ≤ 3 * 1001 := Nat.mul_le_mul_right _ (Nat.le_trans i.2 (word_size x.op.toNat).2); (try simp only [ByteArray.size_append]); show _ ≤ (9223372036854775807 : Nat); first | omega | (show srS.size + _ ≤ _; omega) | (show spS.size + _ ≤ _; omega) | (show _ + (srS.size + _) ≤ _; omega) | (show _ + (spS.size + _) ≤ _; omega)) ?_; (repeat refine ok_chk' (by first | exact fun h => h | rfl | exact fun _ => rfl | (exact fun h => by rw [h]; rfl) | exact fun h => absurd h (by decide) | (intro h1 h2; rw [h1, h2]; rfl)) ?_); refine ok_some' ⟨i.1 + 1, hi⟩ (ok_chk' (by show (hasS x.op.toNat).size - (i.1 + 1) < (hasS x.op.toNat).size - i.1; omega) (ok_chk' (by show XV.a (.c (.v (.int .i64 (IntKind.wrap .i64 ((i.1 : Int) + 1))))) = _; rw [wrapn (by have := (word_size x.op.toNat).2; omega)]) (ok_chk' (by show XV.a (.c (.v (.string _))) = XV.a (.c (.v (.string (wrF x i.1 ++ partF x (bt' (hasS x.op.toNat) i.1))))); rw [hpt]) ?_))); repeat' first | exact rfl | exact trivial | exact EntRel.box' rfl rfl rfl rfl rfl | exact EntRel.plain rfl rfl rfl rfl (fun h => by cases h) (fun _ _ => ⟨rfl, rfl⟩) (fun _ _ _ _ => ⟨rfl, rfl⟩) | refine ok_chk' ?_ ?_)
        · have hpt : partF x (bt' (hasS x.op.toNat) i.1) = spS ++ x.tg := by unfold partF; rw [show (bt' (hasS x.op.toNat) i.1 == 65) = false from c1, show (bt' (hasS x.op.toNat) i.1 == 66) = false from c2, show (bt' (hasS x.op.toNat) i.1 == 67) = false from c3, show (bt' (hasS x.op.toNat) i.1 == 78) = false from c4]; rfl
          ((repeat refine ok_chk' (by first | exact fun h => h | rfl | exact fun _ => rfl | (exact fun h => by rw [h]; rfl) | exact fun h => absurd h (by decide) | (intro h1 h2; rw [h1, h2]; rfl)) ?_); refine ok_chk' (by (have e1 : srS.size = 2 := rfl); have e2 : spS.size = 1 := rfl; have h1 := fmt_size hx.a; have h2 := fmt_size hx.b; have h3 := fmt_size hx.c; have h4 := fmt_size hx.n; have h5 := hx.tg; have h6 := wr_size hx i.1; have h7 : i.1 * 1001 ≤ 3 * 1001 := Nat.mul_le_mul_right _ (Nat.le_trans i.2 (word_size x.op.toNat).2); (try simp only [ByteArray.size_append]); show _ ≤ (9223372036854775807 : Nat); first | omega | (show srS.size + _ ≤ _; omega) | (show spS.size + _ ≤ _; omega) | (show _ + (srS.size + _) ≤ _; omega) | (show _ + (spS.size + _) ≤ _; omega)) ?_; (repeat refine ok_chk' (by first | exact fun h => h | rfl | exact fun _ => rfl | (exact fun h => by rw [h]; rfl) | exact fun h => absurd h (by decide) | (intro h1 h2; rw [h1, h2]; rfl)) ?_); refine ok_chk' (by (have e1 : srS.size = 2 := rfl); have e2 : spS.size = 1 := rfl; have h1 := fmt_size hx.a; have h2 := fmt_size hx.b; have h3 := fmt_size hx.c; have h4 := fmt_size hx.n; have h5 := hx.tg; have h6 := wr_size hx i.1; have h7 : i.1 * 1001 ≤ 3 * 1001 := Nat.mul_le_mul_right _ (Nat.le_trans i.2 (word_size x.op.toNat).2); (try simp only [ByteArray.size_append]); show _ ≤ (9223372036854775807 : Nat); first | omega | (show srS.size + _ ≤ _; omega) | (show spS.size + _ ≤ _; omega) | (show _ + (srS.size + _) ≤ _; omega) | (show _ + (spS.size + _) ≤ _; omega)) ?_; (repeat refine ok_chk' (by first | exact fun h => h | rfl | exact fun _ => rfl | (exact fun h => by rw [h]; rfl) | exact fun h => absurd h (by decide) | (intro h1 h2; rw [h1, h2]; rfl)) ?_); refine ok_some' ⟨i.1 + 1, hi⟩ (ok_chk' (by show (hasS x.op.toNat).size - (i.1 + 1) < (hasS x.op.toNat).size - i.1; omega) (ok_chk' (by show XV.a (.c (.v (.int .i64 (IntKind.wrap .i64 ((i.1 : Int) + 1))))) = _; rw [wrapn (by have := (word_size x.op.toNat).2; omega)]) (ok_chk' (by show XV.a (.c (.v (.string _))) = XV.a (.c (.v (.string (wrF x i.1 ++ partF x (bt' (hasS x.op.toNat) i.1))))); rw [hpt]) ?_))); repeat' first | exact rfl | exact trivial | exact EntRel.box' rfl rfl rfl rfl rfl | exact EntRel.plain rfl rfl rfl rfl (fun h => by cases h) (fun _ _ => ⟨rfl, rfl⟩) (fun _ _ _ _ => ⟨rfl, rfl⟩) | refine ok_chk' ?_ ?_)
      · have hi : i.1 = (hasS x.op.toNat).size := by
          have h := of_decide_eq_false hi
          have := i.2
          omega
        exact ok_leaf (fun _ => 0) [] [] trivial (by show XV.a (sv' (wrF x i.1)) = XV.a (sv' (writtenF x)); rw [hw, hi]) trivial rfl
  · have h2' : decide (x.op < 1) = true := not_f h2
    refine ok_chk' (fun h => by rw [h2] at h; cases h) (ok_chk' (fun h => by rw [h2] at h; cases h) (ok_chk' h2' ?_))
    repeat refine ok_chk' (by first | exact fun h => h | rfl | exact fun _ => rfl | (exact fun h => by rw [h]; rfl) | exact fun h => absurd h (by decide) | (intro h1 h2; rw [h1, h2]; rfl)) ?_
    exact ok_leaf (fun _ => 0) [] [] trivial (by show _ = XV.a (sv' (writtenF x)); unfold writtenF; rw [h1, h2']; rfl) trivial rfl
end Go.Proofs.YtjbnkdpeohbakaaDoor.X.Ip

set_option linter.unusedVariables false
set_option linter.unusedSimpArgs false
namespace Go.Proofs.YtjbnkdpeohbakaaDoor.X.Ip
open Go Go.RowKit Go.Proofs.YtjbnkdpeohbakaaDoorW.PrintWords Go.Proofs.YtjbnkdpeohbakaaDoor.Base Go.Proofs.YtjbnkdpeohbakaaDoor.X
abbrev printE (x : Ln) (o : Option ByteArray) (k : Nat) : CallSpec := mSpec [] k [x.av] [] (fun _ => True) (fun _ => printX o) fun _ => [Ent.dead]
theorem print_local (x : Ln) (k : Nat) (hx : x.Wf) {o : Option ByteArray} (h : printF x = o) : (printE x o k).Local Tryd.prog 11 := by
  have hs := written_size hx
  cases hp : parseF (writtenF x) with
  | none =>
    obtain rfl : o = none := by rw [← h]; unfold printF; rw [hp]
    refine local_ofP Tryd.func11 rfl (tprintN_eq x) fun ν w => ?_
    refine ok_callf' written_call (fits_of rfl rfl trivial fun c _ => ⟨⟨Nat.zero_le _, rfl⟩, ⟨rfl, rfl⟩, trivial⟩) (written_local x hx) fun c _ => ?_
    repeat refine ok_chk' (by first | exact fun h => h | rfl | exact fun _ => rfl | (exact fun h => by rw [h]; rfl) | exact fun h => absurd h (by decide) | (intro h1 h2; rw [h1, h2]; rfl)) ?_
    refine ok_callf' parse_call (fits_of rfl rfl trivial fun c _ => ⟨⟨Nat.zero_le _, rfl⟩, ⟨rfl, rfl⟩, trivial⟩) (parseD_local _ (by omega) hp) fun c2 _ => ?_
    repeat refine ok_chk' (by first | exact fun h => h | rfl | exact fun _ => rfl | (exact fun h => by rw [h]; rfl) | exact fun h => absurd h (by decide) | (intro h1 h2; rw [h1, h2]; rfl)) ?_
    exact ok_leaf (fun _ => 0) [] [0] trivial rfl ⟨⟨_, rfl, EntRel.dead⟩, trivial⟩ rfl
  | some m =>
    have hF : printF x = bif eqL m x then some (writtenF x) else none := by unfold printF; rw [hp]
    refine local_ofP Tryd.func11 rfl (tprint_eq x m) fun ν w => ?_
    refine ok_callf' written_call (fits_of rfl rfl trivial fun c _ => ⟨⟨Nat.zero_le _, rfl⟩, ⟨rfl, rfl⟩, trivial⟩) (written_local x hx) fun c _ => ?_
    repeat refine ok_chk' (by first | exact fun h => h | rfl | exact fun _ => rfl | (exact fun h => by rw [h]; rfl) | exact fun h => absurd h (by decide) | (intro h1 h2; rw [h1, h2]; rfl)) ?_
    refine ok_callf' parse_call (fits_of rfl rfl trivial fun c _ => ⟨⟨Nat.zero_le _, rfl⟩, ⟨rfl, rfl⟩, trivial⟩) (parseD_local _ (by omega) hp) fun c2 _ => ?_
    repeat refine ok_chk' (by first | exact fun h => h | rfl | exact fun _ => rfl | (exact fun h => by rw [h]; rfl) | exact fun h => absurd h (by decide) | (intro h1 h2; rw [h1, h2]; rfl)) ?_
    refine ok_br' (fun h1 => ?_) fun h1 => ?_
    · have h1 : (!(eqL m x)) = true := h1
      obtain rfl : o = none := by rw [← h, hF, not_t h1]; rfl
      exact ok_leaf (fun _ => 0) [] [0] trivial rfl ⟨⟨_, rfl, EntRel.dead⟩, trivial⟩ rfl
    · have h1 : (!(eqL m x)) = false := h1
      obtain rfl : o = some (writtenF x) := by rw [← h, hF, not_f h1]; rfl
      exact ok_leaf (fun _ => 0) [] [0] trivial rfl ⟨⟨_, rfl, EntRel.dead⟩, trivial⟩ rfl
def apG (x y : Ln) (o p : Option ByteArray) : Ctr := fun f args H => match args with
  | [] => some upC
  | [.agg [a, b, c, d, e]] => some (mayC (inOf [a, b, c, d, e]))
  | [.agg l] => match H with
    | [_, _] => some (printE x o 2)
    | _ => some (printE y p 3)
  | _ => none
abbrev tapSS_0 : Ln → List CV :=
  fun x => [CV.v (Value.string x.1), CV.v (Value.int IntKind.i64 x.2), CV.v (Value.int IntKind.i64 x.3), CV.v (Value.int IntKind.i64 x.4), CV.v (Value.int IntKind.i64 x.5), CV.v (Value.int IntKind.i64 x.6), CV.v (Value.string x.7)]
abbrev tapSS_1 : Ln → Ent :=
  fun x => { own := true, box := true, ty := 26, sz := 7, m := 1, n := fun x => 1, cap := fun x => 1, f := fun x_1 x_2 => tapSS_0 x, ov := [] }
abbrev tapSS_2 : Ln → Ln → List Ent :=
  fun x y => [tapSS_1 x, tapSS_1 y]
abbrev tapSS_3 : Ln → List AV :=
  fun x => [AV.agg (tapSS_0 x)]
abbrev tapSS_4 : List Ent :=
  [Ent.dead, Ent.dead, Ent.dead, Ent.dead]
def tapSS (x y : Ln) (s t : ByteArray) : Tree :=
  Tree.callf 8 [] (tapSS_2 x y) upC fun c => Tree.chk ((!decide ((↑(ByteArray.size x.1) : Int) > (100 : Int))) = true → (!decide ((↑(ByteArray.size x.1) : Int) > (100 : Int))) = true)
 (Tree.chk ((!decide ((↑(ByteArray.size x.1) : Int) > (100 : Int))) = true → (!decide ((↑(ByteArray.size x.1) : Int) > (100 : Int))) = true)
 (Tree.chk ((!decide ((↑(ByteArray.size x.1) : Int) > (100 : Int))) = true → (!decide ((↑(ByteArray.size x.1) : Int) > (100 : Int))) = true)
 (Tree.chk (decide ((↑(ByteArray.size x.1) : Int) > (100 : Int)) = false → (!decide ((↑(ByteArray.size x.1) : Int) > (100 : Int))) = true)
 (Tree.chk ((!bif decide ((↑(ByteArray.size x.1) : Int) > (100 : Int)) then true else decide ((↑(ByteArray.size y.1) : Int) > (100 : Int))) = true → (!bif decide ((↑(ByteArray.size x.1) : Int) > (100 : Int)) then true else decide ((↑(ByteArray.size y.1) : Int) > (100 : Int))) = true)
 (Tree.chk ((!bif decide ((↑(ByteArray.size x.1) : Int) > (100 : Int)) then true else decide ((↑(ByteArray.size y.1) : Int) > (100 : Int))) = true → (!bif decide ((↑(ByteArray.size x.1) : Int) > (100 : Int)) then true else decide ((↑(ByteArray.size y.1) : Int) > (100 : Int))) = true)
 (Tree.chk ((!bif decide ((↑(ByteArray.size x.1) : Int) > (100 : Int)) then true else decide ((↑(ByteArray.size y.1) : Int) > (100 : Int))) = true → (!bif decide ((↑(ByteArray.size x.1) : Int) > (100 : Int)) then true else decide ((↑(ByteArray.size y.1) : Int) > (100 : Int))) = true)
 (Tree.chk ((bif decide ((↑(ByteArray.size x.1) : Int) > (100 : Int)) then true else decide ((↑(ByteArray.size y.1) : Int) > (100 : Int))) = false → (!bif decide ((↑(ByteArray.size x.1) : Int) > (100 : Int)) then true else decide ((↑(ByteArray.size y.1) : Int) > (100 : Int))) = true)
 (Tree.chk ((!bif bif decide ((↑(ByteArray.size x.1) : Int) > (100 : Int)) then true else decide ((↑(ByteArray.size y.1) : Int) > (100 : Int)) then true else decide ((↑(ByteArray.size x.7) : Int) > (100 : Int))) = true → (!bif bif decide ((↑(ByteArray.size x.1) : Int) > (100 : Int)) then true else decide ((↑(ByteArray.size y.1) : Int) > (100 : Int)) then true else decide ((↑(ByteArray.size x.7) : Int) > (100 : Int))) = true)
 (Tree.chk ((!bif bif decide ((↑(ByteArray.size x.1) : Int) > (100 : Int)) then true else decide ((↑(ByteArray.size y.1) : Int) > (100 : Int)) then true else decide ((↑(ByteArray.size x.7) : Int) > (100 : Int))) = true → (!bif bif decide ((↑(ByteArray.size x.1) : Int) > (100 : Int)) then true else decide ((↑(ByteArray.size y.1) : Int) > (100 : Int)) then true else decide ((↑(ByteArray.size x.7) : Int) > (100 : Int))) = true)
 (Tree.chk ((!bif bif decide ((↑(ByteArray.size x.1) : Int) > (100 : Int)) then true else decide ((↑(ByteArray.size y.1) : Int) > (100 : Int)) then true else decide ((↑(ByteArray.size x.7) : Int) > (100 : Int))) = true → (!bif bif decide ((↑(ByteArray.size x.1) : Int) > (100 : Int)) then true else decide ((↑(ByteArray.size y.1) : Int) > (100 : Int)) then true else decide ((↑(ByteArray.size x.7) : Int) > (100 : Int))) = true)
 (Tree.chk ((bif bif decide ((↑(ByteArray.size x.1) : Int) > (100 : Int)) then true else decide ((↑(ByteArray.size y.1) : Int) > (100 : Int)) then true else decide ((↑(ByteArray.size x.7) : Int) > (100 : Int))) = false → (!bif bif decide ((↑(ByteArray.size x.1) : Int) > (100 : Int)) then true else decide ((↑(ByteArray.size y.1) : Int) > (100 : Int)) then true else decide ((↑(ByteArray.size x.7) : Int) > (100 : Int))) = true)
 (Tree.br (bif bif bif decide ((↑(ByteArray.size x.1) : Int) > (100 : Int)) then true else decide ((↑(ByteArray.size y.1) : Int) > (100 : Int)) then true else decide ((↑(ByteArray.size x.7) : Int) > (100 : Int)) then true else decide ((↑(ByteArray.size y.7) : Int) > (100 : Int)))
 (Tree.done (XV.a (AV.c (CV.v (Value.bool true)))) [Ent.dead, Ent.dead])
 (Tree.callf 11 (tapSS_3 x) (tapSS_2 x y) (printE x (some s) 2) fun c => Tree.callf 11 (tapSS_3 y) [tapSS_1 x, tapSS_1 y, Ent.dead] (printE y (some t) 3) fun c => Tree.chk (true = true → true = true)
 (Tree.chk (false = false → true = true)
 (Tree.chk (false = false)
 (Tree.chk (true = true → true = true)
 (Tree.chk (true = true → true = true)
 (Tree.chk (true = true → true = true)
 (Tree.chk (true = true → true = true)
 (Tree.chk (true = true → true = true)
 (Tree.chk (true = true → true = true)
 (Tree.chk (true = true → true = true)
 (Tree.chk (((x.1 == y.1 && (x.2 == y.2 && (x.3 == y.3 && (x.4 == y.4 && (x.5 == y.5 && x.6 == y.6))) && x.7 == y.7)) == (ByteArray.toList s == ByteArray.toList t)) = true → ((x.1 == y.1 && (x.2 == y.2 && (x.3 == y.3 && (x.4 == y.4 && (x.5 == y.5 && x.6 == y.6))) && x.7 == y.7)) == (ByteArray.toList s == ByteArray.toList t)) = true)
 (Tree.chk (((x.1 == y.1 && (x.2 == y.2 && (x.3 == y.3 && (x.4 == y.4 && (x.5 == y.5 && x.6 == y.6))) && x.7 == y.7)) == (ByteArray.toList s == ByteArray.toList t)) = true → ((x.1 == y.1 && (x.2 == y.2 && (x.3 == y.3 && (x.4 == y.4 && (x.5 == y.5 && x.6 == y.6))) && x.7 == y.7)) == (ByteArray.toList s == ByteArray.toList t)) = true)
 (Tree.chk (((x.1 == y.1 && (x.2 == y.2 && (x.3 == y.3 && (x.4 == y.4 && (x.5 == y.5 && x.6 == y.6))) && x.7 == y.7)) == (ByteArray.toList s == ByteArray.toList t)) = true → ((x.1 == y.1 && (x.2 == y.2 && (x.3 == y.3 && (x.4 == y.4 && (x.5 == y.5 && x.6 == y.6))) && x.7 == y.7)) == (ByteArray.toList s == ByteArray.toList t)) = true)
 (Tree.chk (((x.1 == y.1 && (x.2 == y.2 && (x.3 == y.3 && (x.4 == y.4 && (x.5 == y.5 && x.6 == y.6))) && x.7 == y.7)) == (ByteArray.toList s == ByteArray.toList t)) = true → ((x.1 == y.1 && (x.2 == y.2 && (x.3 == y.3 && (x.4 == y.4 && (x.5 == y.5 && x.6 == y.6))) && x.7 == y.7)) == (ByteArray.toList s == ByteArray.toList t)) = true)
 (Tree.chk (((x.1 == y.1 && (x.2 == y.2 && (x.3 == y.3 && (x.4 == y.4 && (x.5 == y.5 && x.6 == y.6))) && x.7 == y.7)) == (ByteArray.toList s == ByteArray.toList t) && !x.2 == (0 : Int)) = true → ((x.1 == y.1 && (x.2 == y.2 && (x.3 == y.3 && (x.4 == y.4 && (x.5 == y.5 && x.6 == y.6))) && x.7 == y.7)) == (ByteArray.toList s == ByteArray.toList t) && !x.2 == (0 : Int)) = true)
 (Tree.br ((x.1 == y.1 && (x.2 == y.2 && (x.3 == y.3 && (x.4 == y.4 && (x.5 == y.5 && x.6 == y.6))) && x.7 == y.7)) == (ByteArray.toList s == ByteArray.toList t) && !x.2 == (0 : Int))
 (Tree.chk (((x.1 == y.1 && (x.2 == y.2 && (x.3 == y.3 && (x.4 == y.4 && (x.5 == y.5 && x.6 == y.6))) && x.7 == y.7)) == (ByteArray.toList s == ByteArray.toList t) && !x.2 == (0 : Int)) = true)
 (Tree.callf 13 [AV.agg [CV.v (Value.int IntKind.i64 x.2), CV.v (Value.int IntKind.i64 x.3), CV.v (Value.int IntKind.i64 x.4), CV.v (Value.int IntKind.i64 x.5), CV.v (Value.int IntKind.i64 x.6)]] [tapSS_1 x, tapSS_1 y, Ent.dead, Ent.dead] (mayC { op := x.2, a := x.3, b := x.4, c := x.5, n := x.6 }) fun c => Tree.chk (((x.1 == y.1 && (x.2 == y.2 && (x.3 == y.3 && (x.4 == y.4 && (x.5 == y.5 && x.6 == y.6))) && x.7 == y.7)) == (ByteArray.toList s == ByteArray.toList t)) = true → ((x.1 == y.1 && (x.2 == y.2 && (x.3 == y.3 && (x.4 == y.4 && (x.5 == y.5 && x.6 == y.6))) && x.7 == y.7)) == (ByteArray.toList s == ByteArray.toList t)) = true)
 (Tree.chk (((x.1 == y.1 && (x.2 == y.2 && (x.3 == y.3 && (x.4 == y.4 && (x.5 == y.5 && x.6 == y.6))) && x.7 == y.7)) == (ByteArray.toList s == ByteArray.toList t)) = true → ((x.1 == y.1 && (x.2 == y.2 && (x.3 == y.3 && (x.4 == y.4 && (x.5 == y.5 && x.6 == y.6))) && x.7 == y.7)) == (ByteArray.toList s == ByteArray.toList t)) = true)
 (Tree.done (XV.a (AV.c (CV.v (Value.bool (bif (x.1 == y.1 && (x.2 == y.2 && (x.3 == y.3 && (x.4 == y.4 && (x.5 == y.5 && x.6 == y.6))) && x.7 == y.7)) == (ByteArray.toList s == ByteArray.toList t) then bif x.2 == (0 : Int) then true else mayF { op := x.2, a := x.3, b := x.4, c := x.5, n := x.6 } else false))))) tapSS_4))))
 (Tree.chk (((x.1 == y.1 && (x.2 == y.2 && (x.3 == y.3 && (x.4 == y.4 && (x.5 == y.5 && x.6 == y.6))) && x.7 == y.7)) == (ByteArray.toList s == ByteArray.toList t)) = true → ((x.1 == y.1 && (x.2 == y.2 && (x.3 == y.3 && (x.4 == y.4 && (x.5 == y.5 && x.6 == y.6))) && x.7 == y.7)) == (ByteArray.toList s == ByteArray.toList t)) = true)
 (Tree.chk (((x.1 == y.1 && (x.2 == y.2 && (x.3 == y.3 && (x.4 == y.4 && (x.5 == y.5 && x.6 == y.6))) && x.7 == y.7)) == (ByteArray.toList s == ByteArray.toList t)) = true → (x.2 == (0 : Int)) = true)
 (Tree.chk (((x.1 == y.1 && (x.2 == y.2 && (x.3 == y.3 && (x.4 == y.4 && (x.5 == y.5 && x.6 == y.6))) && x.7 == y.7)) == (ByteArray.toList s == ByteArray.toList t)) = true → ((x.1 == y.1 && (x.2 == y.2 && (x.3 == y.3 && (x.4 == y.4 && (x.5 == y.5 && x.6 == y.6))) && x.7 == y.7)) == (ByteArray.toList s == ByteArray.toList t)) = true)
 (Tree.done (XV.a (AV.c (CV.v (Value.bool (bif (x.1 == y.1 && (x.2 == y.2 && (x.3 == y.3 && (x.4 == y.4 && (x.5 == y.5 && x.6 == y.6))) && x.7 == y.7)) == (ByteArray.toList s == ByteArray.toList t) then true else false))))) tapSS_4))))))))))))))))))))))))))))))))
theorem tapSS_eq (x y : Ln) (s t : ByteArray) : prune (.cs 13 (.n .k (.cs 4 (.r .k)))) (xfunc tab (apG x y (some s) (some t)) noInv Go.Proofs.Tryd.f7 [x.av, y.av] [] []) = tapSS x y s t := by kernel_rfl
abbrev tapSN_0 : Ln → List CV :=
  fun x => [CV.v (Value.string x.1), CV.v (Value.int IntKind.i64 x.2), CV.v (Value.int IntKind.i64 x.3), CV.v (Value.int IntKind.i64 x.4), CV.v (Value.int IntKind.i64 x.5), CV.v (Value.int IntKind.i64 x.6), CV.v (Value.string x.7)]
abbrev tapSN_1 : Ln → Ent :=
  fun x => { own := true, box := true, ty := 26, sz := 7, m := 1, n := fun x => 1, cap := fun x => 1, f := fun x_1 x_2 => tapSN_0 x, ov := [] }
abbrev tapSN_2 : Ln → Ln → List Ent :=
  fun x y => [tapSN_1 x, tapSN_1 y]
abbrev tapSN_3 : Ln → List AV :=
  fun x => [AV.agg (tapSN_0 x)]
def tapSN (x y : Ln) (s : ByteArray) : Tree :=
  Tree.callf 8 [] (tapSN_2 x y) upC fun c => Tree.chk ((!decide ((↑(ByteArray.size x.1) : Int) > (100 : Int))) = true → (!decide ((↑(ByteArray.size x.1) : Int) > (100 : Int))) = true)
 (Tree.chk ((!decide ((↑(ByteArray.size x.1) : Int) > (100 : Int))) = true → (!decide ((↑(ByteArray.size x.1) : Int) > (100 : Int))) = true)
 (Tree.chk ((!decide ((↑(ByteArray.size x.1) : Int) > (100 : Int))) = true → (!decide ((↑(ByteArray.size x.1) : Int) > (100 : Int))) = true)
 (Tree.chk (decide ((↑(ByteArray.size x.1) : Int) > (100 : Int)) = false → (!decide ((↑(ByteArray.size x.1) : Int) > (100 : Int))) = true)
 (Tree.chk ((!bif decide ((↑(ByteArray.size x.1) : Int) > (100 : Int)) then true else decide ((↑(ByteArray.size y.1) : Int) > (100 : Int))) = true → (!bif decide ((↑(ByteArray.size x.1) : Int) > (100 : Int)) then true else decide ((↑(ByteArray.size y.1) : Int) > (100 : Int))) = true)
 (Tree.chk ((!bif decide ((↑(ByteArray.size x.1) : Int) > (100 : Int)) then true else decide ((↑(ByteArray.size y.1) : Int) > (100 : Int))) = true → (!bif decide ((↑(ByteArray.size x.1) : Int) > (100 : Int)) then true else decide ((↑(ByteArray.size y.1) : Int) > (100 : Int))) = true)
 (Tree.chk ((!bif decide ((↑(ByteArray.size x.1) : Int) > (100 : Int)) then true else decide ((↑(ByteArray.size y.1) : Int) > (100 : Int))) = true → (!bif decide ((↑(ByteArray.size x.1) : Int) > (100 : Int)) then true else decide ((↑(ByteArray.size y.1) : Int) > (100 : Int))) = true)
 (Tree.chk ((bif decide ((↑(ByteArray.size x.1) : Int) > (100 : Int)) then true else decide ((↑(ByteArray.size y.1) : Int) > (100 : Int))) = false → (!bif decide ((↑(ByteArray.size x.1) : Int) > (100 : Int)) then true else decide ((↑(ByteArray.size y.1) : Int) > (100 : Int))) = true)
 (Tree.chk ((!bif bif decide ((↑(ByteArray.size x.1) : Int) > (100 : Int)) then true else decide ((↑(ByteArray.size y.1) : Int) > (100 : Int)) then true else decide ((↑(ByteArray.size x.7) : Int) > (100 : Int))) = true → (!bif bif decide ((↑(ByteArray.size x.1) : Int) > (100 : Int)) then true else decide ((↑(ByteArray.size y.1) : Int) > (100 : Int)) then true else decide ((↑(ByteArray.size x.7) : Int) > (100 : Int))) = true)
 (Tree.chk ((!bif bif decide ((↑(ByteArray.size x.1) : Int) > (100 : Int)) then true else decide ((↑(ByteArray.size y.1) : Int) > (100 : Int)) then true else decide ((↑(ByteArray.size x.7) : Int) > (100 : Int))) = true → (!bif bif decide ((↑(ByteArray.size x.1) : Int) > (100 : Int)) then true else decide ((↑(ByteArray.size y.1) : Int) > (100 : Int)) then true else decide ((↑(ByteArray.size x.7) : Int) > (100 : Int))) = true)
 (Tree.chk ((!bif bif decide ((↑(ByteArray.size x.1) : Int) > (100 : Int)) then true else decide ((↑(ByteArray.size y.1) : Int) > (100 : Int)) then true else decide ((↑(ByteArray.size x.7) : Int) > (100 : Int))) = true → (!bif bif decide ((↑(ByteArray.size x.1) : Int) > (100 : Int)) then true else decide ((↑(ByteArray.size y.1) : Int) > (100 : Int)) then true else decide ((↑(ByteArray.size x.7) : Int) > (100 : Int))) = true)
 (Tree.chk ((bif bif decide ((↑(ByteArray.size x.1) : Int) > (100 : Int)) then true else decide ((↑(ByteArray.size y.1) : Int) > (100 : Int)) then true else decide ((↑(ByteArray.size x.7) : Int) > (100 : Int))) = false → (!bif bif decide ((↑(ByteArray.size x.1) : Int) > (100 : Int)) then true else decide ((↑(ByteArray.size y.1) : Int) > (100 : Int)) then true else decide ((↑(ByteArray.size x.7) : Int) > (100 : Int))) = true)
 (Tree.br (bif bif bif decide ((↑(ByteArray.size x.1) : Int) > (100 : Int)) then true else decide ((↑(ByteArray.size y.1) : Int) > (100 : Int)) then true else decide ((↑(ByteArray.size x.7) : Int) > (100 : Int)) then true else decide ((↑(ByteArray.size y.7) : Int) > (100 : Int)))
 (Tree.done (XV.a (AV.c (CV.v (Value.bool true)))) [Ent.dead, Ent.dead])
 (Tree.callf 11 (tapSN_3 x) (tapSN_2 x y) (printE x (some s) 2) fun c => Tree.callf 11 (tapSN_3 y) [tapSN_1 x, tapSN_1 y, Ent.dead] (printE y none 3) fun c => Tree.chk (true = true → true = true)
 (Tree.chk (false = false → true = true)
 (Tree.chk (true = true)
 (Tree.done (XV.a (AV.c (CV.v (Value.bool true)))) [Ent.dead, Ent.dead, Ent.dead, Ent.dead]))))))))))))))))
theorem tapSN_eq (x y : Ln) (s : ByteArray) : prune (.cs 13 (.n .k (.cs 4 (.l .k)))) (xfunc tab (apG x y (some s) none) noInv Go.Proofs.Tryd.f7 [x.av, y.av] [] []) = tapSN x y s := by kernel_rfl
abbrev tapNS_0 : Ln → List CV :=
  fun x => [CV.v (Value.string x.1), CV.v (Value.int IntKind.i64 x.2), CV.v (Value.int IntKind.i64 x.3), CV.v (Value.int IntKind.i64 x.4), CV.v (Value.int IntKind.i64 x.5), CV.v (Value.int IntKind.i64 x.6), CV.v (Value.string x.7)]
abbrev tapNS_1 : Ln → Ent :=
  fun x => { own := true, box := true, ty := 26, sz := 7, m := 1, n := fun x => 1, cap := fun x => 1, f := fun x_1 x_2 => tapNS_0 x, ov := [] }
abbrev tapNS_2 : Ln → Ln → List Ent :=
  fun x y => [tapNS_1 x, tapNS_1 y]
abbrev tapNS_3 : Ln → List AV :=
  fun x => [AV.agg (tapNS_0 x)]
def tapNS (x y : Ln) (s : ByteArray) : Tree :=
  Tree.callf 8 [] (tapNS_2 x y) upC fun c => Tree.chk ((!decide ((↑(ByteArray.size x.1) : Int) > (100 : Int))) = true → (!decide ((↑(ByteArray.size x.1) : Int) > (100 : Int))) = true)
 (Tree.chk ((!decide ((↑(ByteArray.size x.1) : Int) > (100 : Int))) = true → (!decide ((↑(ByteArray.size x.1) : Int) > (100 : Int))) = true)
 (Tree.chk ((!decide ((↑(ByteArray.size x.1) : Int) > (100 : Int))) = true → (!decide ((↑(ByteArray.size x.1) : Int) > (100 : Int))) = true)
 (Tree.chk (decide ((↑(ByteArray.size x.1) : Int) > (100 : Int)) = false → (!decide ((↑(ByteArray.size x.1) : Int) > (100 : Int))) = true)
 (Tree.chk ((!bif decide ((↑(ByteArray.size x.1) : Int) > (100 : Int)) then true else decide ((↑(ByteArray.size y.1) : Int) > (100 : Int))) = true → (!bif decide ((↑(ByteArray.size x.1) : Int) > (100 : Int)) then true else decide ((↑(ByteArray.size y.1) : Int) > (100 : Int))) = true)
 (Tree.chk ((!bif decide ((↑(ByteArray.size x.1) : Int) > (100 : Int)) then true else decide ((↑(ByteArray.size y.1) : Int) > (100 : Int))) = true → (!bif decide ((↑(ByteArray.size x.1) : Int) > (100 : Int)) then true else decide ((↑(ByteArray.size y.1) : Int) > (100 : Int))) = true)
 (Tree.chk ((!bif decide ((↑(ByteArray.size x.1) : Int) > (100 : Int)) then true else decide ((↑(ByteArray.size y.1) : Int) > (100 : Int))) = true → (!bif decide ((↑(ByteArray.size x.1) : Int) > (100 : Int)) then true else decide ((↑(ByteArray.size y.1) : Int) > (100 : Int))) = true)
 (Tree.chk ((bif decide ((↑(ByteArray.size x.1) : Int) > (100 : Int)) then true else decide ((↑(ByteArray.size y.1) : Int) > (100 : Int))) = false → (!bif decide ((↑(ByteArray.size x.1) : Int) > (100 : Int)) then true else decide ((↑(ByteArray.size y.1) : Int) > (100 : Int))) = true)
 (Tree.chk ((!bif bif decide ((↑(ByteArray.size x.1) : Int) > (100 : Int)) then true else decide ((↑(ByteArray.size y.1) : Int) > (100 : Int)) then true else decide ((↑(ByteArray.size x.7) : Int) > (100 : Int))) = true → (!bif bif decide ((↑(ByteArray.size x.1) : Int) > (100 : Int)) then true else decide ((↑(ByteArray.size y.1) : Int) > (100 : Int)) then true else decide ((↑(ByteArray.size x.7) : Int) > (100 : Int))) = true)
 (Tree.chk ((!bif bif decide ((↑(ByteArray.size x.1) : Int) > (100 : Int)) then true else decide ((↑(ByteArray.size y.1) : Int) > (100 : Int)) then true else decide ((↑(ByteArray.size x.7) : Int) > (100 : Int))) = true → (!bif bif decide ((↑(ByteArray.size x.1) : Int) > (100 : Int)) then true else decide ((↑(ByteArray.size y.1) : Int) > (100 : Int)) then true else decide ((↑(ByteArray.size x.7) : Int) > (100 : Int))) = true)
 (Tree.chk ((!bif bif decide ((↑(ByteArray.size x.1) : Int) > (100 : Int)) then true else decide ((↑(ByteArray.size y.1) : Int) > (100 : Int)) then true else decide ((↑(ByteArray.size x.7) : Int) > (100 : Int))) = true → (!bif bif decide ((↑(ByteArray.size x.1) : Int) > (100 : Int)) then true else decide ((↑(ByteArray.size y.1) : Int) > (100 : Int)) then true else decide ((↑(ByteArray.size x.7) : Int) > (100 : Int))) = true)
 (Tree.chk ((bif bif decide ((↑(ByteArray.size x.1) : Int) > (100 : Int)) then true else decide ((↑(ByteArray.size y.1) : Int) > (100 : Int)) then true else decide ((↑(ByteArray.size x.7) : Int) > (100 : Int))) = false → (!bif bif decide ((↑(ByteArray.size x.1) : Int) > (100 : Int)) then true else decide ((↑(ByteArray.size y.1) : Int) > (100 : Int)) then true else decide ((↑(ByteArray.size x.7) : Int) > (100 : Int))) = true)
 (Tree.br (bif bif bif decide ((↑(ByteArray.size x.1) : Int) > (100 : Int)) then true else decide ((↑(ByteArray.size y.1) : Int) > (100 : Int)) then true else decide ((↑(ByteArray.size x.7) : Int) > (100 : Int)) then true else decide ((↑(ByteArray.size y.7) : Int) > (100 : Int)))
 (Tree.done (XV.a (AV.c (CV.v (Value.bool true)))) [Ent.dead, Ent.dead])
 (Tree.callf 11 (tapNS_3 x) (tapNS_2 x y) (printE x none 2) fun c => Tree.callf 11 (tapNS_3 y) [tapNS_1 x, tapNS_1 y, Ent.dead] (printE y (some s) 3) fun c => Tree.chk (false = true → false = true)
 (Tree.chk (true = false → false = true)
 (Tree.chk (true = true)
 (Tree.done (XV.a (AV.c (CV.v (Value.bool true)))) [Ent.dead, Ent.dead, Ent.dead, Ent.dead]))))))))))))))))
theorem tapNS_eq (x y : Ln) (s : ByteArray) : prune (.cs 13 (.n .k (.cs 4 (.l .k)))) (xfunc tab (apG x y none (some s)) noInv Go.Proofs.Tryd.f7 [x.av, y.av] [] []) = tapNS x y s := by kernel_rfl
abbrev tapNN_0 : Ln → List CV :=
  fun x => [CV.v (Value.string x.1), CV.v (Value.int IntKind.i64 x.2), CV.v (Value.int IntKind.i64 x.3), CV.v (Value.int IntKind.i64 x.4), CV.v (Value.int IntKind.i64 x.5), CV.v (Value.int IntKind.i64 x.6), CV.v (Value.string x.7)]
abbrev tapNN_1 : Ln → Ent :=
  fun x => { own := true, box := true, ty := 26, sz := 7, m := 1, n := fun x => 1, cap := fun x => 1, f := fun x_1 x_2 => tapNN_0 x, ov := [] }
abbrev tapNN_2 : Ln → Ln → List Ent :=
  fun x y => [tapNN_1 x, tapNN_1 y]
abbrev tapNN_3 : Ln → List AV :=
  fun x => [AV.agg (tapNN_0 x)]
def tapNN (x y : Ln) : Tree :=
  Tree.callf 8 [] (tapNN_2 x y) upC fun c => Tree.chk ((!decide ((↑(ByteArray.size x.1) : Int) > (100 : Int))) = true → (!decide ((↑(ByteArray.size x.1) : Int) > (100 : Int))) = true)
 (Tree.chk ((!decide ((↑(ByteArray.size x.1) : Int) > (100 : Int))) = true → (!decide ((↑(ByteArray.size x.1) : Int) > (100 : Int))) = true)
 (Tree.chk ((!decide ((↑(ByteArray.size x.1) : Int) > (100 : Int))) = true → (!decide ((↑(ByteArray.size x.1) : Int) > (100 : Int))) = true)
 (Tree.chk (decide ((↑(ByteArray.size x.1) : Int) > (100 : Int)) = false → (!decide ((↑(ByteArray.size x.1) : Int) > (100 : Int))) = true)
 (Tree.chk ((!bif decide ((↑(ByteArray.size x.1) : Int) > (100 : Int)) then true else decide ((↑(ByteArray.size y.1) : Int) > (100 : Int))) = true → (!bif decide ((↑(ByteArray.size x.1) : Int) > (100 : Int)) then true else decide ((↑(ByteArray.size y.1) : Int) > (100 : Int))) = true)
 (Tree.chk ((!bif decide ((↑(ByteArray.size x.1) : Int) > (100 : Int)) then true else decide ((↑(ByteArray.size y.1) : Int) > (100 : Int))) = true → (!bif decide ((↑(ByteArray.size x.1) : Int) > (100 : Int)) then true else decide ((↑(ByteArray.size y.1) : Int) > (100 : Int))) = true)
 (Tree.chk ((!bif decide ((↑(ByteArray.size x.1) : Int) > (100 : Int)) then true else decide ((↑(ByteArray.size y.1) : Int) > (100 : Int))) = true → (!bif decide ((↑(ByteArray.size x.1) : Int) > (100 : Int)) then true else decide ((↑(ByteArray.size y.1) : Int) > (100 : Int))) = true)
 (Tree.chk ((bif decide ((↑(ByteArray.size x.1) : Int) > (100 : Int)) then true else decide ((↑(ByteArray.size y.1) : Int) > (100 : Int))) = false → (!bif decide ((↑(ByteArray.size x.1) : Int) > (100 : Int)) then true else decide ((↑(ByteArray.size y.1) : Int) > (100 : Int))) = true)
 (Tree.chk ((!bif bif decide ((↑(ByteArray.size x.1) : Int) > (100 : Int)) then true else decide ((↑(ByteArray.size y.1) : Int) > (100 : Int)) then true else decide ((↑(ByteArray.size x.7) : Int) > (100 : Int))) = true → (!bif bif decide ((↑(ByteArray.size x.1) : Int) > (100 : Int)) then true else decide ((↑(ByteArray.size y.1) : Int) > (100 : Int)) then true else decide ((↑(ByteArray.size x.7) : Int) > (100 : Int))) = true)
 (Tree.chk ((!bif bif decide ((↑(ByteArray.size x.1) : Int) > (100 : Int)) then true else decide ((↑(ByteArray.size y.1) : Int) > (100 : Int)) then true else decide ((↑(ByteArray.size x.7) : Int) > (100 : Int))) = true → (!bif bif decide ((↑(ByteArray.size x.1) : Int) > (100 : Int)) then true else decide ((↑(ByteArray.size y.1) : Int) > (100 : Int)) then true else decide ((↑(ByteArray.size x.7) : Int) > (100 : Int))) = true)
 (Tree.chk ((!bif bif decide ((↑(ByteArray.size x.1) : Int) > (100 : Int)) then true else decide ((↑(ByteArray.size y.1) : Int) > (100 : Int)) then true else decide ((↑(ByteArray.size x.7) : Int) > (100 : Int))) = true → (!bif bif decide ((↑(ByteArray.size x.1) : Int) > (100 : Int)) then true else decide ((↑(ByteArray.size y.1) : Int) > (100 : Int)) then true else decide ((↑(ByteArray.size x.7) : Int) > (100 : Int))) = true)
 (Tree.chk ((bif bif decide ((↑(ByteArray.size x.1) : Int) > (100 : Int)) then true else decide ((↑(ByteArray.size y.1) : Int) > (100 : Int)) then true else decide ((↑(ByteArray.size x.7) : Int) > (100 : Int))) = false → (!bif bif decide ((↑(ByteArray.size x.1) : Int) > (100 : Int)) then true else decide ((↑(ByteArray.size y.1) : Int) > (100 : Int)) then true else decide ((↑(ByteArray.size x.7) : Int) > (100 : Int))) = true)
 (Tree.br (bif bif bif decide ((↑(ByteArray.size x.1) : Int) > (100 : Int)) then true else decide ((↑(ByteArray.size y.1) : Int) > (100 : Int)) then true else decide ((↑(ByteArray.size x.7) : Int) > (100 : Int)) then true else decide ((↑(ByteArray.size y.7) : Int) > (100 : Int)))
 (Tree.done (XV.a (AV.c (CV.v (Value.bool true)))) [Ent.dead, Ent.dead])
 (Tree.callf 11 (tapNN_3 x) (tapNN_2 x y) (printE x none 2) fun c => Tree.callf 11 (tapNN_3 y) [tapNN_1 x, tapNN_1 y, Ent.dead] (printE y none 3) fun c => Tree.chk (false = true → false = true)
 (Tree.chk (true = false → false = true)
 (Tree.chk (true = true)
 (Tree.done (XV.a (AV.c (CV.v (Value.bool true)))) [Ent.dead, Ent.dead, Ent.dead, Ent.dead]))))))))))))))))
theorem tapNN_eq (x y : Ln) : prune (.cs 13 (.n .k (.cs 4 (.l .k)))) (xfunc tab (apG x y none none) noInv Go.Proofs.Tryd.f7 [x.av, y.av] [] []) = tapNN x y := by kernel_rfl
end Go.Proofs.YtjbnkdpeohbakaaDoor.X.Ip

set_option linter.unusedVariables false
set_option linter.unusedSimpArgs false
namespace Go.Proofs.YtjbnkdpeohbakaaDoor.X.Ip
open Go Go.RowKit Go.Proofs.YtjbnkdpeohbakaaDoorW.PrintWords Go.Proofs.YtjbnkdpeohbakaaDoor.Base Go.Proofs.YtjbnkdpeohbakaaDoor.X
def Ln.ins (x : Ln) : In := ⟨x.op, x.a, x.b, x.c, x.n⟩
theorem reg_in {s : ByteArray} (h : (regF s).2 = true) : 0 ≤ (regF s).1 ∧ (regF s).1 < 16 := by
  have h' : (bif (bif (bif (bif hpreF s rS then (numF (tpreW s rS)).2 else false) then decide ((numF (tpreW s rS)).1 ≥ 0) else false) then decide ((numF (tpreW s rS)).1 < 16) else false) then (tpreW s rS).toList == (fmtW (numF (tpreW s rS)).1).toList else false) = true := h
  show 0 ≤ (numF (tpreW s rS)).1 ∧ (numF (tpreW s rS)).1 < 16
  generalize hv : (numF (tpreW s rS)).1 = v at h' ⊢
  cases h1 : (bif hpreF s rS then (numF (tpreW s rS)).2 else false) with
  | false => rw [h1] at h'; cases h'
  | true =>
    rw [h1, cond_true] at h'
    cases h2 : decide (v ≥ 0) with
    | false => rw [h2] at h'; cases h'
    | true =>
      rw [h2, cond_true] at h'
      cases h3 : decide (v < 16) with
      | false => rw [h3] at h'; cases h'
      | true => exact ⟨of_decide_eq_true h2, of_decide_eq_true h3⟩
theorem pars_in {l bare : List UInt8} (hb : bare = Lib.trimPrefix l [45]) (h1 : 1 ≤ bare.length) (h2 : bare.length ≤ 18) (hd : ∀ c ∈ bare, c ∈ digS.data.toList) : ∃ v, Lib.parseIntB 64 l = .ok v ∧ -999999999999999999 ≤ v ∧ v ≤ 999999999999999999 := by
  rw [Lib.parseIntB_64]
  have hdig : ∀ c ∈ bare, c.toNat ≠ 43 ∧ c.toNat ≠ 45 := fun c hc => by
    have hb : c ∈ ([48, 49, 50, 51, 52, 53, 54, 55, 56, 57] : List UInt8) := hd c hc
    simp only [List.mem_cons, List.not_mem_nil, or_false] at hb
    rcases hb with rfl | rfl | rfl | rfl | rfl | rfl | rfl | rfl | rfl | rfl <;> decide
  obtain ⟨m, hm⟩ := dec_some bare 0 hd
  have hne : bare ≠ [] := fun e => by rw [e] at h1; simp at h1
  have hdn : Lib.decNat bare = some m := by
    unfold Lib.decNat
    rw [if_neg (by simpa using hne)]
    exact hm
  have hmag := Lib.parseMag_short bare h2
  rw [hdn] at hmag
  have hlt : m < 1000000000000000000 := by
    have h3 := Lib.decFrom_lt bare 0 m hm
    have h4 : 10 ^ bare.length ≤ 10 ^ 18 := Nat.pow_le_pow_right (by decide) h2
    have h5 : (10 : Nat) ^ 18 = 1000000000000000000 := by decide
    omega
  have hmag : Lib.parseMag bare = .ok m := hmag
  unfold Lib.trimPrefix Lib.hasPrefix at hb
  match l, hb with
  | [], hb => exact absurd (by rw [hb]; rfl) hne
  | c :: r, hb =>
    by_cases hc : c = 45
    · subst hc
      have hb : bare = r := by rw [hb]; simp
      subst hb
      refine ⟨-(m : Int), ?_, by omega, by omega⟩
      unfold Lib.atoiAll
      have hn : ¬ 9223372036854775808 < m := by omega
      simp [hmag, hn]
    · have hb : bare = c :: r := by rw [hb]; simp [List.isPrefixOf, Ne.symm hc]
      have hc2 := hdig c (by rw [hb]; exact List.mem_cons_self)
      refine ⟨(m : Int), ?_, by omega, by omega⟩
      rw [hb] at hmag
      unfold Lib.atoiAll
      have hn : ¬ 9223372036854775808 ≤ m := by omega
      simp [hc2, hmag, hn]
theorem num_in (s : ByteArray) : -999999999999999999 ≤ (numF s).1 ∧ (numF s).1 ≤ 999999999999999999 := by
  unfold numF
  cases h : nonumF s with
  | true => rw [cond_true]; exact ⟨by decide, by decide⟩
  | false =>
    rw [cond_false]
    show -999999999999999999 ≤ valF s ∧ valF s ≤ 999999999999999999
    unfold nonumF at h
    cases h1 : (bif decide (((tpreW s minS).size : Int) < 1) then true else decide (((tpreW s minS).size : Int) > 18)) with
    | true => rw [h1] at h; cases h
    | false =>
      rw [h1, cond_false] at h
      have ht : trimW (tpreW s minS) digS = ByteArray.empty := (str_eq _ _).1 (not_f h)
      simp at h1
      have hsz : (tpreW s minS).size = (Lib.trimPrefix s.data.toList [45]).length := bs_size _
      have ht2 : Lib.trimS (Lib.trimPrefix s.data.toList [45]) digS.data.toList = [] := by
        have e := congrArg (fun b : ByteArray => b.data.toList) ht
        exact e
      obtain ⟨v, hv, hl⟩ := pars_in rfl (by omega) (by omega) (mem_of_trim ht2)
      unfold valF
      rw [hv]
      exact hl
theorem regs_in {v : Int} (h : 0 ≤ v ∧ v < 16) : inF v = true := by
  unfold inF
  rw [show decide (v ≥ 0) = true from decide_eq_true h.1]
  exact decide_eq_true h.2
theorem nums_in {v : Int} (h : -999999999999999999 ≤ v ∧ v ≤ 999999999999999999) : (decide (-999999999999999999 ≤ v) && decide (v ≤ 999999999999999999)) = true := by
  rw [decide_eq_true h.1, decide_eq_true h.2]
  rfl
structure Ln.Has (x : Ln) (i : Nat) (u : Bool × Bool × Bool × Bool) : Prop where
  op : x.op = i
  a : u.1 = false → x.a = 0
  b : u.2.1 = false → x.b = 0
  c : u.2.2.1 = false → x.c = 0
  n : u.2.2.2 = false → x.n = 0
  ia : inF x.a = true
  ib : inF x.b = true
  ic : inF x.c = true
  nn : -999999999999999999 ≤ x.n ∧ x.n ≤ 999999999999999999
def addU (u : Bool × Bool × Bool × Bool) (w : Int) : Bool × Bool × Bool × Bool :=
  bif w == 65 then (true, u.2) else bif w == 66 then (u.1, true, u.2.2) else bif w == 67 then (u.1, u.2.1, true, u.2.2.2) else bif w == 78 then (u.1, u.2.1, u.2.2.1, true) else u
theorem field_has {x : Ln} {i : Nat} {u : Bool × Bool × Bool × Bool} (h : x.Has i u) (w : Int) (s : ByteArray) (h2 : (fieldF x w s).2 = true) : (fieldF x w s).1.Has i (addU u w) := by
  unfold fieldF at h2 ⊢
  unfold addU
  cases h65 : (w == 65) with
  | true =>
    rw [h65] at h2
    exact ⟨h.op, (fun e => by cases e), h.b, h.c, h.n, regs_in (reg_in h2), h.ib, h.ic, h.nn⟩
  | false =>
    rw [h65] at h2
    cases h66 : (w == 66) with
    | true =>
      rw [h66] at h2
      exact ⟨h.op, h.a, (fun e => by cases e), h.c, h.n, h.ia, regs_in (reg_in h2), h.ic, h.nn⟩
    | false =>
      rw [h66] at h2
      cases h67 : (w == 67) with
      | true =>
        rw [h67] at h2
        exact ⟨h.op, h.a, h.b, (fun e => by cases e), h.n, h.ia, h.ib, regs_in (reg_in h2), h.nn⟩
      | false =>
        rw [h67] at h2
        cases h78 : (w == 78) with
        | true => exact ⟨h.op, h.a, h.b, h.c, (fun e => by cases e), h.ia, h.ib, h.ic, num_in s⟩
        | false => exact ⟨h.op, h.a, h.b, h.c, h.n, h.ia, h.ib, h.ic, h.nn⟩
def allU (has : ByteArray) : Nat → Nat → Bool × Bool × Bool × Bool → Bool × Bool × Bool × Bool
  | 0, _, u => u
  | f + 1, j, u => allU has f (j + 1) (addU u (bt' has j))
theorem fields_has (has : ByteArray) (ws : List ByteArray) {i : Nat} : ∀ (f j : Nat) (x y : Ln) (u : Bool × Bool × Bool × Bool), x.Has i u → fieldsF has ws f j x = some y → y.Has i (allU has f j u)
  | 0, j, x, y, u, h, e => by
    cases e
    exact h
  | f + 1, j, x, y, u, h, e => by
    have e : (bif (fieldF x (bt' has j) (ws.getD (j + 1) ByteArray.empty)).2 then fieldsF has ws f (j + 1) (fieldF x (bt' has j) (ws.getD (j + 1) ByteArray.empty)).1 else none) = some y := e
    cases h2 : (fieldF x (bt' has j) (ws.getD (j + 1) ByteArray.empty)).2 with
    | false => rw [h2] at e; cases e
    | true =>
      rw [h2, cond_true] at e
      exact fields_has has ws f (j + 1) _ y _ (field_has h _ _ h2) e
theorem useU (i : Nat) (h1 : 1 ≤ i) (h2 : i < 23) : allU (hasS i) (hasS i).size 0 (false, false, false, false) = ((useF i).1, (useF i).2.1, (useF i).2.2.1, (useF i).2.2.2 == 1) := by
  match i, h1, h2 with
  | 1, _, _ => rfl
  | 2, _, _ => rfl
  | 3, _, _ => rfl
  | 4, _, _ => rfl
  | 5, _, _ => rfl
  | 6, _, _ => rfl
  | 7, _, _ => rfl
  | 8, _, _ => rfl
  | 9, _, _ => rfl
  | 10, _, _ => rfl
  | 11, _, _ => rfl
  | 12, _, _ => rfl
  | 13, _, _ => rfl
  | 14, _, _ => rfl
  | 15, _, _ => rfl
  | 16, _, _ => rfl
  | 17, _, _ => rfl
  | 18, _, _ => rfl
  | 19, _, _ => rfl
  | 20, _, _ => rfl
  | 21, _, _ => rfl
  | 22, _, _ => rfl
  | k + 23, _, h => exact absurd h (by omega)
theorem may_has {x : Ln} {i : Nat} (h1 : 1 ≤ i) (h2 : i < 23) (h : x.Has i ((useF i).1, (useF i).2.1, (useF i).2.2.1, (useF i).2.2.2 == 1)) (h7 : (bif (i : Int) == 7 then decide (x.a > 13) else false) = false) : mayF x.ins = true := by
  unfold mayF Ln.ins
  show (decide (1 ≤ x.op) && decide (x.op ≤ 22) && !(x.op == 7 && decide (x.a > 13)) && inF x.a && inF x.b && inF x.c && ((useF x.op).1 || x.a == 0) && ((useF x.op).2.1 || x.b == 0) && ((useF x.op).2.2.1 || x.c == 0) && (match (useF x.op).2.2.2 with | 0 => x.n == 0 | 1 => decide (-999999999999999999 ≤ x.n) && decide (x.n ≤ 999999999999999999) | _ => true)) = true
  rw [h.op, h.ia, h.ib, h.ic, show decide ((1 : Int) ≤ i) = true from decide_eq_true (by omega), show decide ((i : Int) ≤ 22) = true from decide_eq_true (by omega)]
  have e7 : ((i : Int) == 7 && decide (x.a > 13)) = false := by
    cases hi : ((i : Int) == 7) with
    | false => rfl
    | true => rw [hi] at h7; exact h7
  have ea : ((useF i).1 || x.a == 0) = true := by
    cases hu : (useF i).1 with
    | true => rfl
    | false => rw [h.a hu]; rfl
  have eb : ((useF i).2.1 || x.b == 0) = true := by
    cases hu : (useF i).2.1 with
    | true => rfl
    | false => rw [h.b hu]; rfl
  have ec : ((useF i).2.2.1 || x.c == 0) = true := by
    cases hu : (useF i).2.2.1 with
    | true => rfl
    | false => rw [h.c hu]; rfl
  rw [e7, ea, eb, ec]
  have en : (useF i).2.2.2 ≠ 1 → x.n = 0 := fun hu => h.n (by simpa using hu)
  match hu : (useF i).2.2.2 with
  | 0 => rw [en (by omega)]; rfl
  | 1 => rw [nums_in h.nn]; rfl
  | k + 2 => rfl
theorem op_may (ws : List ByteArray) : ∀ (f i : Nat) (x : Ln), i + f = 23 → opF ws f i = some x → mayF x.ins = true
  | 0, i, x, hf, e => by cases e
  | f + 1, i, x, hf, e => by
    have e : (bif skipF ws i then opF ws f (i + 1) else (fieldsF (hasS i) ws (ws.length - 1) 0 { noLn with op := i }).bind (lastF i)) = some x := e
    cases hs : skipF ws i with
    | true =>
      rw [hs, cond_true] at e
      exact op_may ws f (i + 1) x (by omega) e
    | false =>
      rw [hs, cond_false] at e
      cases hq : fieldsF (hasS i) ws (ws.length - 1) 0 { noLn with op := i } with
      | none => rw [hq] at e; cases e
      | some y =>
        rw [hq] at e
        have e : (bif (bif (i : Int) == 7 then decide (y.a > 13) else false) then none else some y) = some x := e
        cases h7 : (bif (i : Int) == 7 then decide (y.a > 13) else false) with
        | true => rw [h7] at e; cases e
        | false =>
          rw [h7, cond_false] at e
          obtain rfl : y = x := Option.some.inj e
          have h1 : 1 ≤ i := by
            refine Nat.pos_of_ne_zero fun h0 => ?_
            subst h0
            have hz : skipF ws 0 = true := by
              unfold skipF
              rw [show ((wordS 0).toList == ByteArray.empty.toList) = true from (str_eq _ _).2 rfl]
              rfl
            rw [hz] at hs
            cases hs
          have hl : ws.length - 1 = (hasS i).size := by
            have h4 := hs
            unfold skipF at h4
            cases h5 : (bif (wordS i).toList == ByteArray.empty.toList then true else !((wordS i).toList == (ws.getD 0 ByteArray.empty).toList)) with
            | true => rw [h5] at h4; cases h4
            | false =>
              rw [h5, cond_false] at h4
              have := eq_of_beq (not_f h4)
              omega
          have hh := fields_has (hasS i) ws (ws.length - 1) 0 _ y (false, false, false, false) (i := i) ⟨rfl, (fun _ => rfl), (fun _ => rfl), (fun _ => rfl), (fun _ => rfl), rfl, rfl, rfl, (show -999999999999999999 ≤ (0 : Int) by decide), (show (0 : Int) ≤ 999999999999999999 by decide)⟩ hq
          rw [hl, useU i h1 (by omega)] at hh
          exact may_has h1 (by omega) hh h7
theorem parse_may {s : ByteArray} {x : Ln} (h : parseF s = some x) : x.op = 0 ∨ mayF x.ins = true := by
  unfold parseF at h
  cases h1 : (bif (trimW s tabS).toList == ByteArray.empty.toList then true else bt' (trimW s tabS) 0 == 59) with
  | true =>
    rw [h1, cond_true] at h
    cases h
    exact .inl rfl
  | false =>
    rw [h1, cond_false] at h
    cases h2 : hsufF (trimW s tabS) colS with
    | true =>
      rw [h2, cond_true] at h
      cases h3 : nameF (tsufW (trimW s tabS) colS) with
      | true =>
        rw [h3, cond_true] at h
        cases h
        exact .inl rfl
      | false => rw [h3] at h; cases h
    | false =>
      rw [h2, cond_false] at h
      exact .inr (op_may _ 23 0 x rfl h)
theorem ba_eq {a b : ByteArray} (h : (a == b) = true) : a = b := by
  cases a with
  | mk d =>
    cases b with
    | mk e =>
      have h : (d == e) = true := h
      rw [eq_of_beq h]
theorem eqL_of {x y : Ln} (h : eqL x y = true) : x = y := by
  unfold eqL at h
  simp only [Bool.and_eq_true] at h
  obtain ⟨h1, ⟨h2, h3, h4, h5, h6⟩, h7⟩ := h
  cases x
  cases y
  simp only at h1 h2 h3 h4 h5 h6 h7
  rw [ba_eq h1, eq_of_beq h2, eq_of_beq h3, eq_of_beq h4, eq_of_beq h5, eq_of_beq h6, ba_eq h7]
theorem eqL_self (x : Ln) : eqL x x = true := by
  unfold eqL
  simp only [beq_self_eq_true, ba_beq, Bool.and_true]
theorem print_back {x : Ln} {s : ByteArray} (h : printF x = some s) : s = writtenF x ∧ parseF s = some x := by
  unfold printF at h
  cases hp : parseF (writtenF x) with
  | none => rw [hp] at h; cases h
  | some m =>
    rw [hp] at h
    cases he : eqL m x with
    | false =>
      have h : (bif eqL m x then some (writtenF x) else none) = some s := h
      rw [he] at h
      cases h
    | true =>
      have h : (bif eqL m x then some (writtenF x) else none) = some s := h
      rw [he] at h
      cases h
      refine ⟨rfl, ?_⟩
      rw [hp, eqL_of he]
theorem print_apart {x y : Ln} {s t : ByteArray} (hx : printF x = some s) (hy : printF y = some t) : (eqL x y == (s.toList == t.toList)) = true := by
  have h1 := print_back hx
  have h2 := print_back hy
  cases he : eqL x y with
  | true =>
    obtain rfl := eqL_of he
    rw [h1.1, h2.1, (str_eq _ _).2 rfl]
    rfl
  | false =>
    cases hs : (s.toList == t.toList) with
    | false => rfl
    | true =>
      have e : s = t := (str_eq _ _).1 hs
      have e2 : x = y := by
        have := h1.2.symm.trans ((congrArg parseF e).trans h2.2)
        exact Option.some.inj this
      rw [e2, eqL_self] at he
      cases he
end Go.Proofs.YtjbnkdpeohbakaaDoor.X.Ip

set_option linter.unusedVariables false
set_option linter.unusedSimpArgs false
namespace Go.Proofs.YtjbnkdpeohbakaaDoor.X.Ip
open Go Go.RowKit Go.Proofs.YtjbnkdpeohbakaaDoorW.PrintWords Go.Proofs.YtjbnkdpeohbakaaDoor.Base Go.Proofs.YtjbnkdpeohbakaaDoor.X
abbrev apartC (x y : Ln) : CallSpec := .plain [x.av, y.av] (bool true)
structure Ln.Wi (x : Ln) : Prop where
  op : I64 x.op
  a : I64 x.a
  b : I64 x.b
  c : I64 x.c
  n : I64 x.n
theorem Ln.Wi.wf {x : Ln} (h : x.Wi) (h1 : x.lb.size ≤ 1000) (h2 : x.tg.size ≤ 1000) : x.Wf := ⟨h1, h2, h.op, h.a, h.b, h.c, h.n⟩
theorem apart_local (x y : Ln) (wx : x.Wi) (wy : y.Wi) : (apartC x y).Local Tryd.prog 7 := by
  cases ha : printF x with
  | none =>
    cases hb : printF y with
    | none =>
      refine local_ofP Tryd.func7 rfl (tapNN_eq x y) fun ν w => ?_
      repeat refine ok_chk' (by first | exact fun h => h | rfl | exact fun _ => rfl | (exact fun h => by rw [h]; rfl) | exact fun h => absurd h (by decide) | (intro h1 h2; rw [h1, h2]; rfl)) ?_
      refine ok_callf' up_call (fits_of rfl rfl trivial fun c _ => ⟨⟨Nat.zero_le _, rfl⟩, ⟨rfl, rfl⟩, trivial⟩) up_local fun c _ => ?_
      repeat refine ok_chk' (by first | exact fun h => h | rfl | exact fun _ => rfl | (exact fun h => by rw [h]; rfl) | exact fun h => absurd h (by decide) | (intro h1 h2; rw [h1, h2]; rfl)) ?_
      refine ok_br' (fun _ => ok_leaf (fun _ => 0) [] [] trivial rfl trivial rfl) fun h => ?_
      have hb4 : x.lb.size ≤ 1000 ∧ y.lb.size ≤ 1000 ∧ x.tg.size ≤ 1000 ∧ y.tg.size ≤ 1000 := by
        have h := h
        simp at h
        omega
      have hx := wx.wf hb4.1 hb4.2.2.1
      have hy := wy.wf hb4.2.1 hb4.2.2.2
      repeat refine ok_chk' (by first | exact fun h => h | rfl | exact fun _ => rfl | (exact fun h => by rw [h]; rfl) | exact fun h => absurd h (by decide) | (intro h1 h2; rw [h1, h2]; rfl)) ?_
      refine ok_callf' print_call (fits_of rfl rfl trivial fun c _ => ⟨⟨Nat.zero_le _, rfl⟩, ⟨rfl, rfl⟩, ⟨⟨EntRel.dead, rfl, (fun h => by cases h), .inr rfl⟩, trivial⟩⟩) (print_local x 2 hx ha) fun c2 _ => ok_callf' print_call (fits_of rfl rfl trivial fun c _ => ⟨⟨Nat.zero_le _, rfl⟩, ⟨rfl, rfl⟩, ⟨⟨EntRel.dead, rfl, (fun h => by cases h), .inr rfl⟩, trivial⟩⟩) (print_local y 3 hy hb) fun c3 _ => ?_
      repeat refine ok_chk' (by first | exact fun h => h | rfl | exact fun _ => rfl | (exact fun h => by rw [h]; rfl) | exact fun h => absurd h (by decide) | (intro h1 h2; rw [h1, h2]; rfl)) ?_
      exact ok_leaf (fun _ => 0) [] [] trivial rfl trivial rfl
    | some t =>
      refine local_ofP Tryd.func7 rfl (tapNS_eq x y t) fun ν w => ?_
      repeat refine ok_chk' (by first | exact fun h => h | rfl | exact fun _ => rfl | (exact fun h => by rw [h]; rfl) | exact fun h => absurd h (by decide) | (intro h1 h2; rw [h1, h2]; rfl)) ?_
      refine ok_callf' up_call (fits_of rfl rfl trivial fun c _ => ⟨⟨Nat.zero_le _, rfl⟩, ⟨rfl, rfl⟩, trivial⟩) up_local fun c _ => ?_
      repeat refine ok_chk' (by first | exact fun h => h | rfl | exact fun _ => rfl | (exact fun h => by rw [h]; rfl) | exact fun h => absurd h (by decide) | (intro h1 h2; rw [h1, h2]; rfl)) ?_
      refine ok_br' (fun _ => ok_leaf (fun _ => 0) [] [] trivial rfl trivial rfl) fun h => ?_
      have hb4 : x.lb.size ≤ 1000 ∧ y.lb.size ≤ 1000 ∧ x.tg.size ≤ 1000 ∧ y.tg.size ≤ 1000 := by
        have h := h
        simp at h
        omega
      have hx := wx.wf hb4.1 hb4.2.2.1
      have hy := wy.wf hb4.2.1 hb4.2.2.2
      repeat refine ok_chk' (by first | exact fun h => h | rfl | exact fun _ => rfl | (exact fun h => by rw [h]; rfl) | exact fun h => absurd h (by decide) | (intro h1 h2; rw [h1, h2]; rfl)) ?_
      refine ok_callf' print_call (fits_of rfl rfl trivial fun c _ => ⟨⟨Nat.zero_le _, rfl⟩, ⟨rfl, rfl⟩, ⟨⟨EntRel.dead, rfl, (fun h => by cases h), .inr rfl⟩, trivial⟩⟩) (print_local x 2 hx ha) fun c2 _ => ok_callf' print_call (fits_of rfl rfl trivial fun c _ => ⟨⟨Nat.zero_le _, rfl⟩, ⟨rfl, rfl⟩, ⟨⟨EntRel.dead, rfl, (fun h => by cases h), .inr rfl⟩, trivial⟩⟩) (print_local y 3 hy hb) fun c3 _ => ?_
      repeat refine ok_chk' (by first | exact fun h => h | rfl | exact fun _ => rfl | (exact fun h => by rw [h]; rfl) | exact fun h => absurd h (by decide) | (intro h1 h2; rw [h1, h2]; rfl)) ?_
      exact ok_leaf (fun _ => 0) [] [] trivial rfl trivial rfl
  | some s =>
    cases hb : printF y with
    | none =>
      refine local_ofP Tryd.func7 rfl (tapSN_eq x y s) fun ν w => ?_
      repeat refine ok_chk' (by first | exact fun h => h | rfl | exact fun _ => rfl | (exact fun h => by rw [h]; rfl) | exact fun h => absurd h (by decide) | (intro h1 h2; rw [h1, h2]; rfl)) ?_
      refine ok_callf' up_call (fits_of rfl rfl trivial fun c _ => ⟨⟨Nat.zero_le _, rfl⟩, ⟨rfl, rfl⟩, trivial⟩) up_local fun c _ => ?_
      repeat refine ok_chk' (by first | exact fun h => h | rfl | exact fun _ => rfl | (exact fun h => by rw [h]; rfl) | exact fun h => absurd h (by decide) | (intro h1 h2; rw [h1, h2]; rfl)) ?_
      refine ok_br' (fun _ => ok_leaf (fun _ => 0) [] [] trivial rfl trivial rfl) fun h => ?_
      have hb4 : x.lb.size ≤ 1000 ∧ y.lb.size ≤ 1000 ∧ x.tg.size ≤ 1000 ∧ y.tg.size ≤ 1000 := by
        have h := h
        simp at h
        omega
      have hx := wx.wf hb4.1 hb4.2.2.1
      have hy := wy.wf hb4.2.1 hb4.2.2.2
      repeat refine ok_chk' (by first | exact fun h => h | rfl | exact fun _ => rfl | (exact fun h => by rw [h]; rfl) | exact fun h => absurd h (by decide) | (intro h1 h2; rw [h1, h2]; rfl)) ?_
      refine ok_callf' print_call (fits_of rfl rfl trivial fun c _ => ⟨⟨Nat.zero_le _, rfl⟩, ⟨rfl, rfl⟩, ⟨⟨EntRel.dead, rfl, (fun h => by cases h), .inr rfl⟩, trivial⟩⟩) (print_local x 2 hx ha) fun c2 _ => ok_callf' print_call (fits_of rfl rfl trivial fun c _ => ⟨⟨Nat.zero_le _, rfl⟩, ⟨rfl, rfl⟩, ⟨⟨EntRel.dead, rfl, (fun h => by cases h), .inr rfl⟩, trivial⟩⟩) (print_local y 3 hy hb) fun c3 _ => ?_
      repeat refine ok_chk' (by first | exact fun h => h | rfl | exact fun _ => rfl | (exact fun h => by rw [h]; rfl) | exact fun h => absurd h (by decide) | (intro h1 h2; rw [h1, h2]; rfl)) ?_
      exact ok_leaf (fun _ => 0) [] [] trivial rfl trivial rfl
    | some t =>
      have hap := print_apart ha hb
      have hmay := parse_may (print_back ha).2
      refine local_ofP Tryd.func7 rfl (tapSS_eq x y s t) fun ν w => ?_
      repeat refine ok_chk' (by first | exact fun h => h | rfl | exact fun _ => rfl | (exact fun h => by rw [h]; rfl) | exact fun h => absurd h (by decide) | (intro h1 h2; rw [h1, h2]; rfl)) ?_
      refine ok_callf' up_call (fits_of rfl rfl trivial fun c _ => ⟨⟨Nat.zero_le _, rfl⟩, ⟨rfl, rfl⟩, trivial⟩) up_local fun c _ => ?_
      repeat refine ok_chk' (by first | exact fun h => h | rfl | exact fun _ => rfl | (exact fun h => by rw [h]; rfl) | exact fun h => absurd h (by decide) | (intro h1 h2; rw [h1, h2]; rfl)) ?_
      refine ok_br' (fun _ => ok_leaf (fun _ => 0) [] [] trivial rfl trivial rfl) fun h => ?_
      have hb4 : x.lb.size ≤ 1000 ∧ y.lb.size ≤ 1000 ∧ x.tg.size ≤ 1000 ∧ y.tg.size ≤ 1000 := by
        have h := h
        simp at h
        omega
      have hx := wx.wf hb4.1 hb4.2.2.1
      have hy := wy.wf hb4.2.1 hb4.2.2.2
      repeat refine ok_chk' (by first | exact fun h => h | rfl | exact fun _ => rfl | (exact fun h => by rw [h]; rfl) | exact fun h => absurd h (by decide) | (intro h1 h2; rw [h1, h2]; rfl)) ?_
      refine ok_callf' print_call (fits_of rfl rfl trivial fun c _ => ⟨⟨Nat.zero_le _, rfl⟩, ⟨rfl, rfl⟩, ⟨⟨EntRel.dead, rfl, (fun h => by cases h), .inr rfl⟩, trivial⟩⟩) (print_local x 2 hx ha) fun c2 _ => ok_callf' print_call (fits_of rfl rfl trivial fun c _ => ⟨⟨Nat.zero_le _, rfl⟩, ⟨rfl, rfl⟩, ⟨⟨EntRel.dead, rfl, (fun h => by cases h), .inr rfl⟩, trivial⟩⟩) (print_local y 3 hy hb) fun c3 _ => ?_
      repeat refine ok_chk' (by first | exact fun h => h | rfl | exact fun _ => rfl | (exact fun h => by rw [h]; rfl) | exact fun h => absurd h (by decide) | (intro h1 h2; rw [h1, h2]; rfl)) ?_
      refine ok_br' (fun h0 => ?_) fun h0 => ?_
      · have h0 : (eqL x y == (s.toList == t.toList) && !(x.op == 0)) = true := h0
        have h1 : (x.op == 0) = false := by
          rw [hap, Bool.true_and] at h0
          exact not_t h0
        have hm : mayF x.ins = true := by
          rcases hmay with h | h
          · rw [h] at h1; cases h1
          · exact h
        refine ok_chk' h0 ?_
        repeat refine ok_chk' (by first | exact fun h => h | rfl | exact fun _ => rfl | (exact fun h => by rw [h]; rfl) | exact fun h => absurd h (by decide) | (intro h1 h2; rw [h1, h2]; rfl)) ?_
        refine ok_callf' may_call (fits_of rfl rfl trivial fun c _ => ⟨⟨Nat.zero_le _, rfl⟩, ⟨rfl, rfl⟩, trivial⟩) (may_local _) fun c4 _ => ?_
        repeat refine ok_chk' (by first | exact fun h => h | rfl | exact fun _ => rfl | (exact fun h => by rw [h]; rfl) | exact fun h => absurd h (by decide) | (intro h1 h2; rw [h1, h2]; rfl)) ?_
        exact ok_leaf (fun _ => 0) [] [] trivial (by
          show XV.a (.c (.v (.bool (bif (eqL x y == (s.toList == t.toList)) then bif x.op == 0 then true else mayF x.ins else false)))) = bool true
          rw [hap, h1, hm]
          rfl) trivial rfl
      · have h0 : (eqL x y == (s.toList == t.toList) && !(x.op == 0)) = false := h0
        have h1 : (x.op == 0) = true := by
          rw [hap, Bool.true_and] at h0
          exact not_f h0
        repeat refine ok_chk' (by first | exact fun h => h | rfl | exact fun _ => rfl | (exact fun h => by rw [h]; rfl) | exact fun h => absurd h (by decide) | (intro h1 h2; rw [h1, h2]; rfl)) ?_
        refine ok_chk' (fun _ => h1) ?_
        repeat refine ok_chk' (by first | exact fun h => h | rfl | exact fun _ => rfl | (exact fun h => by rw [h]; rfl) | exact fun h => absurd h (by decide) | (intro h1 h2; rw [h1, h2]; rfl)) ?_
        exact ok_leaf (fun _ => 0) [] [] trivial (by
          show XV.a (.c (.v (.bool (bif (eqL x y == (s.toList == t.toList)) then true else false)))) = bool true
          rw [hap]
          rfl) trivial rfl
end Go.Proofs.YtjbnkdpeohbakaaDoor.X.Ip

set_option linter.unusedVariables false
set_option linter.unusedSimpArgs false
namespace Go.Proofs.YtjbnkdpeohbakaaDoor.X.Ip
open Go Go.RowKit Go.Proofs.YtjbnkdpeohbakaaDoorW.PrintWords Go.Proofs.YtjbnkdpeohbakaaDoor.Base Go.Proofs.YtjbnkdpeohbakaaDoor.X Go.Proofs.YtjbnkdpeohbakaaDoor.Open
abbrev InT : Type := Int × Int × Int × Int × Int
abbrev LnT : Type := ByteArray × InT × ByteArray
abbrev kdIns : Kd InT := Kd.pair kdI (Kd.pair kdI (Kd.pair kdI (Kd.pair kdI kdI)))
abbrev kdLn : Kd LnT := Kd.pair Kd.string (Kd.pair kdIns Kd.string)
abbrev WfT (x : LnT) : Prop := X.wfI x.2.1.1 ∧ X.wfI x.2.1.2.1 ∧ X.wfI x.2.1.2.2.1 ∧ X.wfI x.2.1.2.2.2.1 ∧ X.wfI x.2.1.2.2.2.2
theorem opensI : Opens Tryd.prog 3 kdI X.wfI := opens_int Tryd.underlying3
theorem opensI64 : Opens Tryd.prog 2 kdI X.wfI := opens_int Tryd.underlying2
theorem opensIns : Opens Tryd.prog 24 kdIns (fun x => X.wfI x.1 ∧ X.wfI x.2.1 ∧ X.wfI x.2.2.1 ∧ X.wfI x.2.2.2.1 ∧ X.wfI x.2.2.2.2) :=
  opens_struct Tryd.underlying24 (by kernel_rfl) (opensF_cons opensI rfl (by kernel_rfl) (opensF_cons opensI rfl (by kernel_rfl) (opensF_cons opensI rfl (by kernel_rfl) (opensF_cons opensI rfl (by kernel_rfl) (opensF_one opensI64 rfl (by kernel_rfl))))))
theorem opensLn : Opens Tryd.prog 26 kdLn WfT :=
  opens_wf (opens_struct Tryd.underlying26 (by kernel_rfl) (opensF_cons (opens_string Tryd.underlying9) rfl (by kernel_rfl) (opensF_cons opensIns rfl (by kernel_rfl) (opensF_one (opens_string Tryd.underlying9) rfl (by kernel_rfl))))) fun _ h => h.2.1
def Ln.ofK (x : LnT) : Ln := ⟨x.1, x.2.1.1, x.2.1.2.1, x.2.1.2.2.1, x.2.1.2.2.2.1, x.2.1.2.2.2.2, x.2.2⟩
theorem agg_of {cs : Array Value} {l : List Value} (h : cs.toList = l) : Value.agg cs = .agg l.toArray := by rw [← h]
theorem ln_open {W : World} {x : LnT} {cs : Array Value} (h : kdLn.K W x cs.toList) (ν : Val) : Value.agg cs = (Ln.ofK x).av.den ν := by
  obtain ⟨c0, c1, he, rfl, d0, d1, rfl, hI, rfl⟩ := h
  obtain ⟨e0, e1, rfl, rfl, f0, f1, rfl, rfl, g0, g1, rfl, rfl, h0, h1, rfl, rfl, rfl⟩ := hI
  exact agg_of he
theorem wi_of {x : LnT} (h : WfT x) : (Ln.ofK x).Wi := ⟨int_in h.1, int_in h.2.1, int_in h.2.2.1, int_in h.2.2.2.1, int_in h.2.2.2.2⟩
theorem apart_walk (cs0 : Array Value) (x0 : LnT) (cs1 : Array Value) (x1 : LnT) (W : World) (hk : konD.ok W) (hK0 : kdLn.K W x0 cs0.toList) (hw0 : WfT x0) (hK1 : kdLn.K W x1 cs1.toList) (hw1 : WfT x1) :
    Calls Tryd.prog 7 #[.agg cs0, .agg cs1] W fun e w' => e = .returned (.bool true) ∧ Below W.heap.size W w' := by
  rw [ln_open hK0 nov, ln_open hK1 nov]
  exact walk_ros hk (apart_local (Ln.ofK x0) (Ln.ofK x1) (wi_of hw0) (wi_of hw1)) (W := W) (ν := nov) (fun k e he => by cases k <;> cases he) (v := .bool true) fun _ _ => rfl
end Go.Proofs.YtjbnkdpeohbakaaDoor.X.Ip

