/- A symbolic run of functions' texts, proved, and what it tells of the functions that the law InsBack reaches; no conditions. -/
import Derived.Test.YtjbnkdpeohbakaaDoorKInsBack2
import Derived.Lib.ItoaLen
import Derived.Lib.ItoaMem
set_option linter.unusedVariables false
set_option linter.unusedSimpArgs false
namespace Go.Proofs.YtjbnkdpeohbakaaDoor.X
open Go Go.RowKit Go.Proofs.YtjbnkdpeohbakaaDoorW.PrintWords Go.Proofs.YtjbnkdpeohbakaaDoor.Base Go.Proofs.YtjbnkdpeohbakaaDoor.Open
def CV.plB : CV → Bool
  | .v x => (CV.v x).one
  | _ => false
structure Rep {α : Type} (K : Kd α) (rep : α → List CV) : Prop where
  sz : ∀ x, (rep x).length = K.sz
  pos : 0 < K.sz
  pl : ∀ x, (rep x).all CV.plB = true
  den : ∀ W x cc, K.K W x cc → cc = (rep x).map (CV.den nov)
abbrev roRow {α : Type} (ty : Nat) (K : Kd α) (rep : α → List CV) (z : α) (cap : Nat) (xs : List α) : Ent := Ent.rw false ty K.sz xs.length cap fun i => rep (xs.getD i z)
def RoIn (W : World) (A : Option Addr) (e : Ent) : Prop := ∃ (α : Type) (ty cap : Nat) (K : Kd α) (rep : α → List CV) (z : α) (xs : List α), Rep K rep ∧ e = roRow ty K rep z cap xs ∧ K.C W A xs.length xs
theorem CV.plain_lt {N : Nat} {y : CV} (h : y.plB = true) : y.lt N = true ∧ y.one = true := by
  cases y with
  | v v => exact ⟨rfl, h⟩
  | _ => cases h
theorem den_plain {ν : Val} {y : CV} (h : y.plB = true) : y.den ν = y.den nov := by
  cases y with
  | v v => rfl
  | _ => cases h
theorem holds_ros {W : World} {ν : Val} {H : Hp} (hw : konD.ok W) (h : ∀ k e, H.get k = some e → RoIn W (ν k 0) e) : Holds (rootOf ν H W) ν H W := by
  have hno : ∀ g, ¬ ownF ν H g := fun g ⟨k, e, j, ad, h1, h2, _⟩ => by
    obtain ⟨α, ty, cap, K, rep, z, xs, R, rfl, -⟩ := h k e h1
    cases h2
  refine ⟨⟨hw, fun g _ => hno g⟩, Upd.refl _ _, fun k e he => ?_, fun k e j he ho => ?_, ⟨Nat.le_refl _, fun _ _ _ => rfl⟩⟩
  · obtain ⟨α, ty, cap, K, rep, z, xs, R, rfl, -, -, hr⟩ := h k e he
    refine ⟨⟨(fun h => by cases h), .inr (by show 0 < K.sz; exact R.pos)⟩, fun j hj i hi => ⟨R.sz _, fun x hx => CV.plain_lt (List.all_eq_true.1 (R.pl _) x hx)⟩, (fun h => by cases h), fun _ j hj hp => ?_⟩
    obtain rfl : j = 0 := by have : j < 1 := hj; omega
    have hp : 0 < xs.length := hp
    obtain ⟨ad, hA, hc⟩ := hr hp
    refine ⟨ad, hA, .inr (.inl ⟨k, _, 0, ad, he, rfl, Nat.one_pos, hp, hA, rfl⟩), fun i hi c x hx => ?_⟩
    have hi : i < xs.length := hi
    obtain ⟨cc, -, hK, hcell⟩ := hc i xs[i] (List.getElem?_eq_getElem hi)
    refine hcell c _ ?_
    have hg : xs.getD i z = xs[i] := by rw [List.getD_eq_getElem?_getD, List.getElem?_eq_getElem hi, Option.getD_some]
    have hx : (rep (xs.getD i z))[c]? = some x := hx
    rw [R.den W _ _ hK, List.getElem?_map, ← hg, hx, den_plain (List.all_eq_true.1 (R.pl _) x (List.mem_of_getElem? hx))]
    rfl
  · obtain ⟨α, ty, cap, K, rep, z, xs, R, rfl, -⟩ := h k e he
    cases ho
theorem below_of {ν ν' : Val} {H0 H : Hp} {W w' : World} (h : Holds (rootOf ν H0 W) ν' H w') (ho : ∀ k e, H0.get k = some e → e.own = false) : Below W.heap.size W w' :=
  h.upd.below (Nat.le_refl _) fun g ⟨k, e, j, ad, h1, h2, _⟩ => by rw [ho k e h1] at h2; cases h2
theorem ro_own {W : World} {ν : Val} {H : Hp} (h : ∀ k e, H.get k = some e → RoIn W (ν k 0) e) : ∀ k e, H.get k = some e → e.own = false := fun k e he => by
  obtain ⟨α, ty, cap, K, rep, z, xs, R, rfl, -⟩ := h k e he
  rfl
theorem walk_ros {P : Program} {f : FuncId} {C : CallSpec} {W : World} {ν : Val} (hw : konD.ok W) (hl : C.Local P f) (h : ∀ k e, C.H0.get k = some e → RoIn W (ν k 0) e) {v : Value} (hv : ∀ c ν', (C.x0 c).den ν' = v) : Calls P f (C.args0.map (AV.den ν)).toArray W fun e w' => e = .returned v ∧ Below W.heap.size W w' :=
  (hl ν W (holds_ros hw h)).mono fun e w' ⟨ν', c, _, h1, h2⟩ => ⟨by rw [h1, hv], below_of h2 (ro_own h)⟩
abbrev kdI : Kd Int := Kd.int .i64
abbrev wfI (x : Int) : Prop := (Lit.int .i64 x).wf = true
theorem int_in {x : Int} (h : wfI x) : -9223372036854775808 ≤ x ∧ x ≤ 9223372036854775807 := bounds_i64 h
end Go.Proofs.YtjbnkdpeohbakaaDoor.X

set_option linter.unusedVariables false
set_option linter.unusedSimpArgs false
namespace Go.Proofs.YtjbnkdpeohbakaaDoor.X.Ip
open Go Go.RowKit Go.Proofs.YtjbnkdpeohbakaaDoorW.PrintWords Go.Proofs.YtjbnkdpeohbakaaDoor.Base Go.Proofs.YtjbnkdpeohbakaaDoor.X
theorem up_call : Callable Tryd.prog 8 := ⟨_, Tryd.func8, by kernel_rfl, rfl⟩
theorem may_call : Callable Tryd.prog 13 := ⟨_, Tryd.func13, by kernel_rfl, rfl⟩
theorem access_call : Callable Tryd.prog 12 := ⟨_, Tryd.func12, by kernel_rfl, rfl⟩
theorem parseD_local (s : ByteArray) (hs : s.size ≤ 100000) {o : Option Ln} (h : parseF s = o) : (parseD s o).Local Tryd.prog 9 := by
  subst h
  exact parse_local s hs
theorem up_local : upC.Local Tryd.prog 8 := by
  refine local_ofP Tryd.func8 rfl (tup_eq ()) fun ν w => ?_
  refine ok_callf' parse_call (fits_of rfl rfl trivial fun c _ => ⟨⟨Nat.zero_le _, rfl⟩, ⟨rfl, rfl⟩, trivial⟩) (parseD_local casS (by decide) (by kernel_rfl)) fun c _ => ?_
  repeat refine ok_chk' (by first | exact fun h => h | rfl | exact fun _ => rfl | (exact fun h => by rw [h]; rfl) | exact fun h => absurd h (by decide) | (intro h1 h2; rw [h1, h2]; rfl)) ?_
  refine ok_callf' parse_call (fits_of rfl rfl trivial fun c _ => ⟨⟨Nat.zero_le _, rfl⟩, ⟨rfl, rfl⟩, trivial⟩) (parseD_local casT (by decide) (by kernel_rfl)) fun c2 _ => ?_
  repeat refine ok_chk' (by first | exact fun h => h | rfl | exact fun _ => rfl | (exact fun h => by rw [h]; rfl) | exact fun h => absurd h (by decide) | (intro h1 h2; rw [h1, h2]; rfl)) ?_
  refine ok_callf' access_call (fits_of rfl rfl trivial fun c _ => ⟨⟨Nat.zero_le _, rfl⟩, ⟨rfl, rfl⟩, trivial⟩) (access_local _) fun c3 _ => ?_
  repeat refine ok_chk' (by first | exact fun h => h | rfl | exact fun _ => rfl | (exact fun h => by rw [h]; rfl) | exact fun h => absurd h (by decide) | (intro h1 h2; rw [h1, h2]; rfl)) ?_
  refine ok_callf' may_call (fits_of rfl rfl trivial fun c _ => ⟨⟨Nat.zero_le _, rfl⟩, ⟨rfl, rfl⟩, trivial⟩) (may_local _) fun c4 _ => ?_
  repeat refine ok_chk' (by first | exact fun h => h | rfl | exact fun _ => rfl | (exact fun h => by rw [h]; rfl) | exact fun h => absurd h (by decide) | (intro h1 h2; rw [h1, h2]; rfl)) ?_
  exact ok_leaf (fun _ => 0) [] [] trivial rfl trivial rfl
theorem trim_tail (l cs : List UInt8) (b : UInt8) (hb : cs.contains b = true) : Lib.trimS (l ++ [b]) cs = Lib.trimS l cs := by
  unfold Lib.trimS Lib.trimRightS
  rw [List.reverse_append]
  show Lib.trimLeftS ((b :: l.reverse).dropWhile _).reverse cs = _
  rw [List.dropWhile_cons, if_pos hb]
theorem trim_head (l cs : List UInt8) (b : UInt8) (hb : cs.contains b = true) : Lib.trimS (b :: l) cs = Lib.trimS l cs := by
  unfold Lib.trimS Lib.trimRightS
  rw [List.reverse_cons, List.dropWhile_append]
  split
  · rename_i h
    have h : l.reverse.dropWhile (cs.contains ·) = [] := by simpa using h
    rw [h, List.dropWhile_cons, if_pos hb]
    rfl
  · rw [List.reverse_append]
    show (b :: (l.reverse.dropWhile _).reverse).dropWhile _ = _
    rw [List.dropWhile_cons, if_pos hb]
    rfl
theorem app_data (a b : ByteArray) : (a ++ b).data.toList = a.data.toList ++ b.data.toList := by
  rw [ByteArray.data_append, Array.toList_append]
theorem parse_same {s t : ByteArray} (h : trimW s tabS = trimW t tabS) : parseF s = parseF t := by
  unfold parseF
  rw [h]
theorem ba_beq (a : ByteArray) : (a == a) = true := by
  cases a with
  | mk d => show (d == d) = true; exact beq_self_eq_true d
theorem wrapn {i : Nat} (h : i ≤ 1000) : IntKind.wrap .i64 ((i : Int) + 1) = ((i + 1 : Nat) : Int) := (IntWalk.i64_in _ ⟨by omega, by omega⟩).trans (by omega)
end Go.Proofs.YtjbnkdpeohbakaaDoor.X.Ip

set_option linter.unusedVariables false
set_option linter.unusedSimpArgs false
namespace Go.Proofs.YtjbnkdpeohbakaaDoor.X.Ip
open Go Go.RowKit Go.Proofs.YtjbnkdpeohbakaaDoorW.PrintWords Go.Proofs.YtjbnkdpeohbakaaDoor.Base Go.Proofs.YtjbnkdpeohbakaaDoor.X
abbrev Ln.av (x : Ln) : AV := .agg x.cv
abbrev itoaC (n : Int) : CallSpec := .plain [.c (.v (.int .i64 n))] (.a (sv' (fmtW n)))
abbrev srS : ByteArray := ⟨#[32, 114]⟩
def partF (x : Ln) (w : Int) : ByteArray :=
  bif w == 65 then srS ++ fmtW x.a else bif w == 66 then srS ++ fmtW x.b else bif w == 67 then srS ++ fmtW x.c else bif w == 78 then spS ++ fmtW x.n else spS ++ x.tg
def wrF (x : Ln) : Nat → ByteArray
  | 0 => wordS x.op.toNat
  | i + 1 => wrF x i ++ partF x (bt' (hasS x.op.toNat) i)
def writtenF (x : Ln) : ByteArray :=
  bif !(x.lb.toList == ByteArray.empty.toList) then x.lb ++ colS else bif (bif decide (x.op < 1) then true else decide (x.op ≥ 23)) then ByteArray.empty else wrF x (hasS x.op.toNat).size
abbrev wrC (x : Ln) : CallSpec := .plain [x.av] (.a (sv' (writtenF x)))
abbrev WrS (x : Ln) : Type := { i : Nat // i ≤ (hasS x.op.toNat).size }
def wrG : Ctr := fun f args H => match args with
  | [] => some (shapesC H.length)
  | [.c (.v (.int _ n))] => some (itoaC n)
  | [.c (.v (.int _ n)), .c (.v (.int _ _))] => some (fmtC n)
  | _ => none
def wrI (x : Ln) (tm : Tm) (H : Hp) : LoopInv := ⟨WrS x, fun i => ((35, ia i.1) :: (4, .a (sv' (wrF x i.1))) :: onlyT [1, 2, 3, 34] tm, H), fun i => (hasS x.op.toNat).size - i.1, some ⟨0, Nat.zero_le _⟩, [], .l (List.range H.length), [], fun _ _ => .l (List.range H.length)⟩
def eqL (x y : Ln) : Bool := x.lb == y.lb && (x.op == y.op && (x.a == y.a && (x.b == y.b && (x.c == y.c && x.n == y.n))) && x.tg == y.tg)
def printX : Option ByteArray → XV
  | some s => .tup [sv' s, .c nilE]
  | none => .tup [sv' ByteArray.empty, .c (errE 1)]
def printF (x : Ln) : Option ByteArray := match parseF (writtenF x) with
  | some m => bif eqL m x then some (writtenF x) else none
  | none => none
def printG (x : Ln) (o : Option Ln) : Ctr := fun f args H => match args with
  | [.agg l] => some (wrC x)
  | [.c (.v (.string s))] => some (parseD s o)
  | _ => none
abbrev twr_0 : Ln → Ent :=
  fun x => { own := true, box := true, ty := 26, sz := 7, m := 1, n := fun x => 1, cap := fun x => 1, f := fun x_1 x_2 => [CV.v (Value.string x.1), CV.v (Value.int IntKind.i64 x.2), CV.v (Value.int IntKind.i64 x.3), CV.v (Value.int IntKind.i64 x.4), CV.v (Value.int IntKind.i64 x.5), CV.v (Value.int IntKind.i64 x.6), CV.v (Value.string x.7)], ov := [] }
abbrev twr_1 : Ent :=
  { own := true, box := false, ty := 51, sz := 2, m := 1, n := fun x => 23, cap := fun x => 23, f := fun x i => [CV.v (Value.string (wordS i)), CV.v (Value.string (hasS i))], ov := [] }
abbrev twr_2 : AV :=
  AV.c (CV.ptr { k := 0, j := 0, i := 0, sz := 7, c := 1, d := 0, dn := 0, cu := 0 })
abbrev twr_3 : Ln → List CV :=
  fun x => [CV.v (Value.string (wordS (Int.toNat x.2))), CV.v (Value.string (hasS (Int.toNat x.2)))]
abbrev twr_4 : Ln → AV :=
  fun x => AV.agg (twr_3 x)
abbrev twr_5 : Ln → AV :=
  fun x => AV.c (CV.ptr { k := 2, j := 0, i := Int.toNat x.2, sz := 2, c := 0, d := 0, dn := 0, cu := 28 })
abbrev twr_6 : XV :=
  XV.a (AV.c (CV.ptr { k := 0, j := 0, i := 0, sz := 7, c := 0, d := 0, dn := 0, cu := 0 }))
abbrev twr_7 : XV :=
  XV.a (AV.c (CV.ptr { k := 3, j := 0, i := 0, sz := 2, c := 0, d := 0, dn := 0, cu := 0 }))
abbrev twr_8 : List Nat :=
  [0, 1, 2, 3]
abbrev twr_9 : Ln → Ent :=
  fun x => { own := true, box := true, ty := 51, sz := 2, m := 1, n := fun a => 1, cap := fun a => 1, f := fun x_1 x_2 => twr_3 x, ov := [] }
abbrev twr_10 : Ln → List Ent :=
  fun x => [twr_0 x, twr_1, twr_1, twr_9 x]
abbrev twr_11 : (x : Ln) → WrS x → XV :=
  fun x s => XV.a (AV.c (CV.v (Value.int IntKind.i64 (IntKind.wrap IntKind.i64 ((↑(Subtype.val s) : Int) + (1 : Int))))))
abbrev twr_12 : (x : Ln) → WrS x → XV :=
  fun x s' => XV.a (AV.c (CV.v (Value.int IntKind.i64 (↑(Subtype.val s') : Int))))
abbrev twr_13 : (x : Ln) → WrS x → XV :=
  fun x s => XV.a (AV.c (CV.v (Value.string (wrF x (Subtype.val s) ++ ({ data := #[(32 : UInt8), (114 : UInt8)] } ++ fmtW x.3)))))
abbrev twr_14 : (x : Ln) → WrS x → XV :=
  fun x s' => XV.a (AV.c (CV.v (Value.string (wrF x (Subtype.val s')))))
abbrev twr_15 : (x : Ln) → WrS x → XV :=
  fun x s => XV.a (AV.c (CV.v (Value.string (wrF x (Subtype.val s) ++ ({ data := #[(32 : UInt8), (114 : UInt8)] } ++ fmtW x.4)))))
abbrev twr_16 : (x : Ln) → WrS x → XV :=
  fun x s => XV.a (AV.c (CV.v (Value.string (wrF x (Subtype.val s) ++ ({ data := #[(32 : UInt8), (114 : UInt8)] } ++ fmtW x.5)))))
abbrev twr_17 : Ln → List AV :=
  fun x => [AV.c (CV.v (Value.int IntKind.i64 x.6)), AV.c (CV.v (Value.int IntKind.i64 (10 : Int)))]
abbrev twr_18 : (x : Ln) → WrS x → XV :=
  fun x s => XV.a (AV.c (CV.v (Value.string (wrF x (Subtype.val s) ++ ({ data := #[(32 : UInt8)] } ++ fmtW x.6)))))
abbrev twr_19 : (x : Ln) → WrS x → XV :=
  fun x s => XV.a (AV.c (CV.v (Value.string (wrF x (Subtype.val s) ++ ({ data := #[(32 : UInt8)] } ++ x.7)))))
abbrev twr_20 : List Ent :=
  [Ent.dead, Ent.dead, Ent.dead, Ent.dead]
abbrev twr_21 : XV :=
  XV.a (AV.c (CV.ptr { k := 2, j := 0, i := 0, sz := 2, c := 0, d := 0, dn := 0, cu := 0 }))
abbrev twr_22 : Ln → List Ent :=
  fun x => [twr_0 x, twr_1, twr_9 x, twr_1]
def twr (x : Ln) : Tree :=
  Tree.br (!ByteArray.toList x.1 == ByteArray.toList { data := #[] })
 (Tree.chk (ByteArray.size x.1 + ByteArray.size { data := #[(58 : UInt8)] } ≤ 9223372036854775807)
 (Tree.done (XV.a (AV.c (CV.v (Value.string (x.1 ++ { data := #[(58 : UInt8)] }))))) [Ent.dead]))
 (Tree.chk ((!decide (x.2 < (1 : Int))) = true → (!decide (x.2 < (1 : Int))) = true)
 (Tree.chk ((!decide (x.2 < (1 : Int))) = true → (!decide (x.2 < (1 : Int))) = true)
 (Tree.br (!decide (x.2 < (1 : Int)))
 (Tree.callf 21 [] [twr_0 x] (shapesC 1) fun c => Tree.chk ((!decide (x.2 < (1 : Int))) = true → (!decide (x.2 < (1 : Int))) = true)
 (Tree.chk ((!decide (x.2 < (1 : Int))) = true → AV.c (CV.v (Value.int IntKind.i64 x.2)) = AV.c (CV.v (Value.int IntKind.i64 x.2)))
 (Tree.chk ((!decide (x.2 < (1 : Int))) = true → (!decide (x.2 < (1 : Int))) = true)
 (Tree.chk ((!decide (x.2 < (1 : Int))) = true → AV.c (CV.ptr { k := 0, j := 0, i := 0, sz := 7, c := 1, d := 0, dn := 0, cu := 0 }) = AV.c (CV.ptr { k := 0, j := 0, i := 0, sz := 7, c := 1, d := 0, dn := 0, cu := 0 }))
 (Tree.chk ((!decide (x.2 < (1 : Int))) = true → AV.c (CV.ptr { k := 0, j := 0, i := 0, sz := 7, c := 1, d := 0, dn := 0, cu := 0 }) = AV.c (CV.ptr { k := 0, j := 0, i := 0, sz := 7, c := 1, d := 0, dn := 0, cu := 0 }))
 (Tree.chk ((!decide (x.2 < (1 : Int))) = true → (!decide (x.2 < (1 : Int))) = true)
 (Tree.chk ((!decide (x.2 < (1 : Int))) = true → (!decide (x.2 < (1 : Int))) = true)
 (Tree.chk (decide (x.2 < (1 : Int)) = false → (!decide (x.2 < (1 : Int))) = true)
 (Tree.br (bif decide (x.2 < (1 : Int)) then true else decide (x.2 ≥ (↑23 : Int)))
 (Tree.done (XV.a (AV.c (CV.v (Value.string { data := #[] })))) [Ent.dead, Ent.dead])
 (Tree.both
 (Tree.callf 21 [] [twr_0 x, twr_1] (shapesC 2) fun c => Tree.chk (AV.c (CV.v (Value.int IntKind.i64 x.2)) = AV.c (CV.v (Value.int IntKind.i64 x.2)))
 (Tree.chk (twr_2 = twr_2)
 (Tree.chk (twr_2 = twr_2)
 (Tree.chk ((0 : Int) ≤ x.2 ∧ x.2 < (↑23 : Int) ∧ Int.toNat x.2 < 23 ∧ 0 < 1)
 (Tree.chk (0 < 1 ∧ Int.toNat x.2 < 23)
 (Tree.chk (0 < 1 ∧ Int.toNat x.2 < 23)
 (Tree.chk (twr_4 x = twr_4 x)
 (Tree.chk ((0 : Int) ≤ x.2 ∧ x.2 < (↑23 : Int) ∧ Int.toNat x.2 < 23 ∧ 0 < 1)
 (Tree.chk (twr_5 x = twr_5 x)
 (Tree.chk (AV.c (CV.v (Value.int IntKind.i64 x.2)) = AV.c (CV.v (Value.int IntKind.i64 x.2)))
 (Tree.chk (twr_2 = twr_2)
 (Tree.chk (twr_2 = twr_2)
 (Tree.both
 (Tree.chk (XV.a (AV.c (CV.v (Value.int IntKind.i64 (0 : Int)))) = XV.a (AV.c (CV.v (Value.int IntKind.i64 (0 : Int)))))
 (Tree.chk (XV.a (AV.c (CV.v (Value.string (wordS (Int.toNat x.2))))) = XV.a (AV.c (CV.v (Value.string (wrF x 0)))))
 (Tree.chk (twr_6 = twr_6)
 (Tree.chk (XV.a (AV.c (CV.v (Value.string { data := #[] }))) = XV.a (AV.c (CV.v (Value.string { data := #[] }))))
 (Tree.chk (twr_7 = twr_7)
 (Tree.chk (XV.a (AV.c (CV.v (Value.int IntKind.i64 (↑(ByteArray.size (hasS (Int.toNat x.2))) : Int)))) = XV.a (AV.c (CV.v (Value.int IntKind.i64 (↑(ByteArray.size (hasS (Int.toNat x.2))) : Int)))))
 (Tree.chk (EntRel 4 twr_8 4 (twr_0 x) (twr_0 x))
 (Tree.chk (EntRel 4 twr_8 4 twr_1 twr_1)
 (Tree.chk (EntRel 4 twr_8 4 twr_1 twr_1)
 (Tree.chk (EntRel 4 twr_8 4 (twr_9 x) (twr_9 x))
 (Tree.need True)))))))))))
 (Tree.every (WrS x) fun s => Tree.br (decide ((↑(Subtype.val s) : Int) < (↑(ByteArray.size (hasS (Int.toNat x.2))) : Int)))
 (Tree.chk ((0 : Int) ≤ (↑(Subtype.val s) : Int) ∧ (↑(Subtype.val s) : Int) < (↑(ByteArray.size (hasS (Int.toNat x.2))) : Int))
 (Tree.br (bt' (hasS (Int.toNat x.2)) (Int.toNat (↑(Subtype.val s) : Int)) == (65 : Int))
 (Tree.callf 45 [AV.c (CV.v (Value.int IntKind.i64 x.3))] (twr_10 x) (itoaC x.3) fun c => Tree.chk (ByteArray.size { data := #[(32 : UInt8), (114 : UInt8)] } + ByteArray.size (fmtW x.3) ≤ 9223372036854775807)
 (Tree.chk (ByteArray.size (wrF x (Subtype.val s)) + ByteArray.size ({ data := #[(32 : UInt8), (114 : UInt8)] } ++ fmtW x.3) ≤ 9223372036854775807)
 (Tree.some_ (WrS x) fun s' => Tree.chk (ByteArray.size (hasS (Int.toNat x.2)) - Subtype.val s' < ByteArray.size (hasS (Int.toNat x.2)) - Subtype.val s)
 (Tree.chk (twr_11 x s = twr_12 x s')
 (Tree.chk (twr_13 x s = twr_14 x s')
 (Tree.chk (twr_6 = twr_6)
 (Tree.chk (XV.a (AV.c (CV.v (Value.string { data := #[] }))) = XV.a (AV.c (CV.v (Value.string { data := #[] }))))
 (Tree.chk (twr_7 = twr_7)
 (Tree.chk (XV.a (AV.c (CV.v (Value.int IntKind.i64 (↑(ByteArray.size (hasS (Int.toNat x.2))) : Int)))) = XV.a (AV.c (CV.v (Value.int IntKind.i64 (↑(ByteArray.size (hasS (Int.toNat x.2))) : Int)))))
 (Tree.chk (EntRel 4 twr_8 4 (twr_0 x) (twr_0 x))
 (Tree.chk (EntRel 4 twr_8 4 twr_1 twr_1)
 (Tree.chk (EntRel 4 twr_8 4 twr_1 twr_1)
 (Tree.chk (EntRel 4 twr_8 4 (twr_9 x) (twr_9 x))
 (Tree.need True))))))))))))))
 (Tree.br (bt' (hasS (Int.toNat x.2)) (Int.toNat (↑(Subtype.val s) : Int)) == (66 : Int))
 (Tree.callf 45 [AV.c (CV.v (Value.int IntKind.i64 x.4))] (twr_10 x) (itoaC x.4) fun c => Tree.chk (ByteArray.size { data := #[(32 : UInt8), (114 : UInt8)] } + ByteArray.size (fmtW x.4) ≤ 9223372036854775807)
 (Tree.chk (ByteArray.size (wrF x (Subtype.val s)) + ByteArray.size ({ data := #[(32 : UInt8), (114 : UInt8)] } ++ fmtW x.4) ≤ 9223372036854775807)
 (Tree.some_ (WrS x) fun s' => Tree.chk (ByteArray.size (hasS (Int.toNat x.2)) - Subtype.val s' < ByteArray.size (hasS (Int.toNat x.2)) - Subtype.val s)
 (Tree.chk (twr_11 x s = twr_12 x s')
 (Tree.chk (twr_15 x s = twr_14 x s')
 (Tree.chk (twr_6 = twr_6)
 (Tree.chk (XV.a (AV.c (CV.v (Value.string { data := #[] }))) = XV.a (AV.c (CV.v (Value.string { data := #[] }))))
 (Tree.chk (twr_7 = twr_7)
 (Tree.chk (XV.a (AV.c (CV.v (Value.int IntKind.i64 (↑(ByteArray.size (hasS (Int.toNat x.2))) : Int)))) = XV.a (AV.c (CV.v (Value.int IntKind.i64 (↑(ByteArray.size (hasS (Int.toNat x.2))) : Int)))))
 (Tree.chk (EntRel 4 twr_8 4 (twr_0 x) (twr_0 x))
 (Tree.chk (EntRel 4 twr_8 4 twr_1 twr_1)
 (Tree.chk (EntRel 4 twr_8 4 twr_1 twr_1)
 (Tree.chk (EntRel 4 twr_8 4 (twr_9 x) (twr_9 x))
 (Tree.need True))))))))))))))
 (Tree.br (bt' (hasS (Int.toNat x.2)) (Int.toNat (↑(Subtype.val s) : Int)) == (67 : Int))
 (Tree.callf 45 [AV.c (CV.v (Value.int IntKind.i64 x.5))] (twr_10 x) (itoaC x.5) fun c => Tree.chk (ByteArray.size { data := #[(32 : UInt8), (114 : UInt8)] } + ByteArray.size (fmtW x.5) ≤ 9223372036854775807)
 (Tree.chk (ByteArray.size (wrF x (Subtype.val s)) + ByteArray.size ({ data := #[(32 : UInt8), (114 : UInt8)] } ++ fmtW x.5) ≤ 9223372036854775807)
 (Tree.some_ (WrS x) fun s' => Tree.chk (ByteArray.size (hasS (Int.toNat x.2)) - Subtype.val s' < ByteArray.size (hasS (Int.toNat x.2)) - Subtype.val s)
 (Tree.chk (twr_11 x s = twr_12 x s')
 (Tree.chk (twr_16 x s = twr_14 x s')
 (Tree.chk (twr_6 = twr_6)
 (Tree.chk (XV.a (AV.c (CV.v (Value.string { data := #[] }))) = XV.a (AV.c (CV.v (Value.string { data := #[] }))))
 (Tree.chk (twr_7 = twr_7)
 (Tree.chk (XV.a (AV.c (CV.v (Value.int IntKind.i64 (↑(ByteArray.size (hasS (Int.toNat x.2))) : Int)))) = XV.a (AV.c (CV.v (Value.int IntKind.i64 (↑(ByteArray.size (hasS (Int.toNat x.2))) : Int)))))
 (Tree.chk (EntRel 4 twr_8 4 (twr_0 x) (twr_0 x))
 (Tree.chk (EntRel 4 twr_8 4 twr_1 twr_1)
 (Tree.chk (EntRel 4 twr_8 4 twr_1 twr_1)
 (Tree.chk (EntRel 4 twr_8 4 (twr_9 x) (twr_9 x))
 (Tree.need True))))))))))))))
 (Tree.br (bt' (hasS (Int.toNat x.2)) (Int.toNat (↑(Subtype.val s) : Int)) == (78 : Int))
 (Tree.callf 46 (twr_17 x) (twr_10 x) (fmtC x.6) fun c => Tree.chk (ByteArray.size { data := #[(32 : UInt8)] } + ByteArray.size (fmtW x.6) ≤ 9223372036854775807)
 (Tree.chk (ByteArray.size (wrF x (Subtype.val s)) + ByteArray.size ({ data := #[(32 : UInt8)] } ++ fmtW x.6) ≤ 9223372036854775807)
 (Tree.some_ (WrS x) fun s' => Tree.chk (ByteArray.size (hasS (Int.toNat x.2)) - Subtype.val s' < ByteArray.size (hasS (Int.toNat x.2)) - Subtype.val s)
 (Tree.chk (twr_11 x s = twr_12 x s')
 (Tree.chk (twr_18 x s = twr_14 x s')
 (Tree.chk (twr_6 = twr_6)
 (Tree.chk (XV.a (AV.c (CV.v (Value.string { data := #[] }))) = XV.a (AV.c (CV.v (Value.string { data := #[] }))))
 (Tree.chk (twr_7 = twr_7)
 (Tree.chk (XV.a (AV.c (CV.v (Value.int IntKind.i64 (↑(ByteArray.size (hasS (Int.toNat x.2))) : Int)))) = XV.a (AV.c (CV.v (Value.int IntKind.i64 (↑(ByteArray.size (hasS (Int.toNat x.2))) : Int)))))
 (Tree.chk (EntRel 4 twr_8 4 (twr_0 x) (twr_0 x))
 (Tree.chk (EntRel 4 twr_8 4 twr_1 twr_1)
 (Tree.chk (EntRel 4 twr_8 4 twr_1 twr_1)
 (Tree.chk (EntRel 4 twr_8 4 (twr_9 x) (twr_9 x))
 (Tree.need True))))))))))))))
 (Tree.chk (ByteArray.size { data := #[(32 : UInt8)] } + ByteArray.size x.7 ≤ 9223372036854775807)
 (Tree.chk (ByteArray.size (wrF x (Subtype.val s)) + ByteArray.size ({ data := #[(32 : UInt8)] } ++ x.7) ≤ 9223372036854775807)
 (Tree.some_ (WrS x) fun s' => Tree.chk (ByteArray.size (hasS (Int.toNat x.2)) - Subtype.val s' < ByteArray.size (hasS (Int.toNat x.2)) - Subtype.val s)
 (Tree.chk (twr_11 x s = twr_12 x s')
 (Tree.chk (twr_19 x s = twr_14 x s')
 (Tree.chk (twr_6 = twr_6)
 (Tree.chk (XV.a (AV.c (CV.v (Value.string { data := #[] }))) = XV.a (AV.c (CV.v (Value.string { data := #[] }))))
 (Tree.chk (twr_7 = twr_7)
 (Tree.chk (XV.a (AV.c (CV.v (Value.int IntKind.i64 (↑(ByteArray.size (hasS (Int.toNat x.2))) : Int)))) = XV.a (AV.c (CV.v (Value.int IntKind.i64 (↑(ByteArray.size (hasS (Int.toNat x.2))) : Int)))))
 (Tree.chk (EntRel 4 twr_8 4 (twr_0 x) (twr_0 x))
 (Tree.chk (EntRel 4 twr_8 4 twr_1 twr_1)
 (Tree.chk (EntRel 4 twr_8 4 twr_1 twr_1)
 (Tree.chk (EntRel 4 twr_8 4 (twr_9 x) (twr_9 x))
 (Tree.need True)))))))))))))))))))
 (Tree.done (twr_14 x s) twr_20)))))))))))))))
 (Tree.chk (AV.c (CV.v (Value.int IntKind.i64 x.2)) = AV.c (CV.v (Value.int IntKind.i64 x.2)))
 (Tree.chk (twr_2 = twr_2)
 (Tree.chk (twr_2 = twr_2)
 (Tree.callf 21 [] [twr_0 x, twr_1, { own := true, box := true, ty := 51, sz := 2, m := 1, n := fun x => 1, cap := fun x => 1, f := fun x x_1 => [CV.v (Value.string ByteArray.empty), CV.v (Value.string ByteArray.empty)], ov := [] }] (shapesC 3) fun c => Tree.chk (AV.c (CV.v (Value.int IntKind.i64 x.2)) = AV.c (CV.v (Value.int IntKind.i64 x.2)))
 (Tree.chk (twr_2 = twr_2)
 (Tree.chk (twr_2 = twr_2)
 (Tree.chk ((0 : Int) ≤ x.2 ∧ x.2 < (↑23 : Int) ∧ Int.toNat x.2 < 23 ∧ 0 < 1)
 (Tree.chk (0 < 1 ∧ Int.toNat x.2 < 23)
 (Tree.both
 (Tree.chk (XV.a (AV.c (CV.v (Value.int IntKind.i64 (0 : Int)))) = XV.a (AV.c (CV.v (Value.int IntKind.i64 (0 : Int)))))
 (Tree.chk (XV.a (AV.c (CV.v (Value.string (wordS (Int.toNat x.2))))) = XV.a (AV.c (CV.v (Value.string (wrF x 0)))))
 (Tree.chk (twr_6 = twr_6)
 (Tree.chk (XV.a (AV.c (CV.v (Value.string { data := #[] }))) = XV.a (AV.c (CV.v (Value.string { data := #[] }))))
 (Tree.chk (twr_21 = twr_21)
 (Tree.chk (XV.a (AV.c (CV.v (Value.int IntKind.i64 (↑(ByteArray.size (hasS (Int.toNat x.2))) : Int)))) = XV.a (AV.c (CV.v (Value.int IntKind.i64 (↑(ByteArray.size (hasS (Int.toNat x.2))) : Int)))))
 (Tree.chk (EntRel 4 twr_8 4 (twr_0 x) (twr_0 x))
 (Tree.chk (EntRel 4 twr_8 4 twr_1 twr_1)
 (Tree.chk (EntRel 4 twr_8 4 (twr_9 x) (twr_9 x))
 (Tree.chk (EntRel 4 twr_8 4 twr_1 twr_1)
 (Tree.need True)))))))))))
 (Tree.every (WrS x) fun s => Tree.br (decide ((↑(Subtype.val s) : Int) < (↑(ByteArray.size (hasS (Int.toNat x.2))) : Int)))
 (Tree.chk ((0 : Int) ≤ (↑(Subtype.val s) : Int) ∧ (↑(Subtype.val s) : Int) < (↑(ByteArray.size (hasS (Int.toNat x.2))) : Int))
 (Tree.br (bt' (hasS (Int.toNat x.2)) (Int.toNat (↑(Subtype.val s) : Int)) == (65 : Int))
 (Tree.callf 45 [AV.c (CV.v (Value.int IntKind.i64 x.3))] (twr_22 x) (itoaC x.3) fun c => Tree.chk (ByteArray.size { data := #[(32 : UInt8), (114 : UInt8)] } + ByteArray.size (fmtW x.3) ≤ 9223372036854775807)
 (Tree.chk (ByteArray.size (wrF x (Subtype.val s)) + ByteArray.size ({ data := #[(32 : UInt8), (114 : UInt8)] } ++ fmtW x.3) ≤ 9223372036854775807)
 (Tree.some_ (WrS x) fun s' => Tree.chk (ByteArray.size (hasS (Int.toNat x.2)) - Subtype.val s' < ByteArray.size (hasS (Int.toNat x.2)) - Subtype.val s)
 (Tree.chk (twr_11 x s = twr_12 x s')
 (Tree.chk (twr_13 x s = twr_14 x s')
 (Tree.chk (twr_6 = twr_6)
 (Tree.chk (XV.a (AV.c (CV.v (Value.string { data := #[] }))) = XV.a (AV.c (CV.v (Value.string { data := #[] }))))
 (Tree.chk (twr_21 = twr_21)
 (Tree.chk (XV.a (AV.c (CV.v (Value.int IntKind.i64 (↑(ByteArray.size (hasS (Int.toNat x.2))) : Int)))) = XV.a (AV.c (CV.v (Value.int IntKind.i64 (↑(ByteArray.size (hasS (Int.toNat x.2))) : Int)))))
 (Tree.chk (EntRel 4 twr_8 4 (twr_0 x) (twr_0 x))
 (Tree.chk (EntRel 4 twr_8 4 twr_1 twr_1)
 (Tree.chk (EntRel 4 twr_8 4 (twr_9 x) (twr_9 x))
 (Tree.chk (EntRel 4 twr_8 4 twr_1 twr_1)
 (Tree.need True))))))))))))))
 (Tree.br (bt' (hasS (Int.toNat x.2)) (Int.toNat (↑(Subtype.val s) : Int)) == (66 : Int))
 (Tree.callf 45 [AV.c (CV.v (Value.int IntKind.i64 x.4))] (twr_22 x) (itoaC x.4) fun c => Tree.chk (ByteArray.size { data := #[(32 : UInt8), (114 : UInt8)] } + ByteArray.size (fmtW x.4) ≤ 9223372036854775807)
 (Tree.chk (ByteArray.size (wrF x (Subtype.val s)) + ByteArray.size ({ data := #[(32 : UInt8), (114 : UInt8)] } ++ fmtW x.4) ≤ 9223372036854775807)
 (Tree.some_ (WrS x) fun s' => Tree.chk (ByteArray.size (hasS (Int.toNat x.2)) - Subtype.val s' < ByteArray.size (hasS (Int.toNat x.2)) - Subtype.val s)
 (Tree.chk (twr_11 x s = twr_12 x s')
 (Tree.chk (twr_15 x s = twr_14 x s')
 (Tree.chk (twr_6 = twr_6)
 (Tree.chk (XV.a (AV.c (CV.v (Value.string { data := #[] }))) = XV.a (AV.c (CV.v (Value.string { data := #[] }))))
 (Tree.chk (twr_21 = twr_21)
 (Tree.chk (XV.a (AV.c (CV.v (Value.int IntKind.i64 (↑(ByteArray.size (hasS (Int.toNat x.2))) : Int)))) = XV.a (AV.c (CV.v (Value.int IntKind.i64 (↑(ByteArray.size (hasS (Int.toNat x.2))) : Int)))))
 (Tree.chk (EntRel 4 twr_8 4 (twr_0 x) (twr_0 x))
 (Tree.chk (EntRel 4 twr_8 4 twr_1 twr_1)
 (Tree.chk (EntRel 4 twr_8 4 (twr_9 x) (twr_9 x))
 (Tree.chk (EntRel 4 twr_8 4 twr_1 twr_1)
 (Tree.need True))))))))))))))
 (Tree.br (bt' (hasS (Int.toNat x.2)) (Int.toNat (↑(Subtype.val s) : Int)) == (67 : Int))
 (Tree.callf 45 [AV.c (CV.v (Value.int IntKind.i64 x.5))] (twr_22 x) (itoaC x.5) fun c => Tree.chk (ByteArray.size { data := #[(32 : UInt8), (114 : UInt8)] } + ByteArray.size (fmtW x.5) ≤ 9223372036854775807)
 (Tree.chk (ByteArray.size (wrF x (Subtype.val s)) + ByteArray.size ({ data := #[(32 : UInt8), (114 : UInt8)] } ++ fmtW x.5) ≤ 9223372036854775807)
 (Tree.some_ (WrS x) fun s' => Tree.chk (ByteArray.size (hasS (Int.toNat x.2)) - Subtype.val s' < ByteArray.size (hasS (Int.toNat x.2)) - Subtype.val s)
 (Tree.chk (twr_11 x s = twr_12 x s')
 (Tree.chk (twr_16 x s = twr_14 x s')
 (Tree.chk (twr_6 = twr_6)
 (Tree.chk (XV.a (AV.c (CV.v (Value.string { data := #[] }))) = XV.a (AV.c (CV.v (Value.string { data := #[] }))))
 (Tree.chk (twr_21 = twr_21)
 (Tree.chk (XV.a (AV.c (CV.v (Value.int IntKind.i64 (↑(ByteArray.size (hasS (Int.toNat x.2))) : Int)))) = XV.a (AV.c (CV.v (Value.int IntKind.i64 (↑(ByteArray.size (hasS (Int.toNat x.2))) : Int)))))
 (Tree.chk (EntRel 4 twr_8 4 (twr_0 x) (twr_0 x))
 (Tree.chk (EntRel 4 twr_8 4 twr_1 twr_1)
 (Tree.chk (EntRel 4 twr_8 4 (twr_9 x) (twr_9 x))
 (Tree.chk (EntRel 4 twr_8 4 twr_1 twr_1)
 (Tree.need True))))))))))))))
 (Tree.br (bt' (hasS (Int.toNat x.2)) (Int.toNat (↑(Subtype.val s) : Int)) == (78 : Int))
 (Tree.callf 46 (twr_17 x) (twr_22 x) (fmtC x.6) fun c => Tree.chk (ByteArray.size { data := #[(32 : UInt8)] } + ByteArray.size (fmtW x.6) ≤ 9223372036854775807)
 (Tree.chk (ByteArray.size (wrF x (Subtype.val s)) + ByteArray.size ({ data := #[(32 : UInt8)] } ++ fmtW x.6) ≤ 9223372036854775807)
 (Tree.some_ (WrS x) fun s' => Tree.chk (ByteArray.size (hasS (Int.toNat x.2)) - Subtype.val s' < ByteArray.size (hasS (Int.toNat x.2)) - Subtype.val s)
 (Tree.chk (twr_11 x s = twr_12 x s')
 (Tree.chk (twr_18 x s = twr_14 x s')
 (Tree.chk (twr_6 = twr_6)
 (Tree.chk (XV.a (AV.c (CV.v (Value.string { data := #[] }))) = XV.a (AV.c (CV.v (Value.string { data := #[] }))))
 (Tree.chk (twr_21 = twr_21)
 (Tree.chk (XV.a (AV.c (CV.v (Value.int IntKind.i64 (↑(ByteArray.size (hasS (Int.toNat x.2))) : Int)))) = XV.a (AV.c (CV.v (Value.int IntKind.i64 (↑(ByteArray.size (hasS (Int.toNat x.2))) : Int)))))
 (Tree.chk (EntRel 4 twr_8 4 (twr_0 x) (twr_0 x))
 (Tree.chk (EntRel 4 twr_8 4 twr_1 twr_1)
 (Tree.chk (EntRel 4 twr_8 4 (twr_9 x) (twr_9 x))
 (Tree.chk (EntRel 4 twr_8 4 twr_1 twr_1)
 (Tree.need True))))))))))))))
 (Tree.chk (ByteArray.size { data := #[(32 : UInt8)] } + ByteArray.size x.7 ≤ 9223372036854775807)
 (Tree.chk (ByteArray.size (wrF x (Subtype.val s)) + ByteArray.size ({ data := #[(32 : UInt8)] } ++ x.7) ≤ 9223372036854775807)
 (Tree.some_ (WrS x) fun s' => Tree.chk (ByteArray.size (hasS (Int.toNat x.2)) - Subtype.val s' < ByteArray.size (hasS (Int.toNat x.2)) - Subtype.val s)
 (Tree.chk (twr_11 x s = twr_12 x s')
 (Tree.chk (twr_19 x s = twr_14 x s')
 (Tree.chk (twr_6 = twr_6)
 (Tree.chk (XV.a (AV.c (CV.v (Value.string { data := #[] }))) = XV.a (AV.c (CV.v (Value.string { data := #[] }))))
 (Tree.chk (twr_21 = twr_21)
 (Tree.chk (XV.a (AV.c (CV.v (Value.int IntKind.i64 (↑(ByteArray.size (hasS (Int.toNat x.2))) : Int)))) = XV.a (AV.c (CV.v (Value.int IntKind.i64 (↑(ByteArray.size (hasS (Int.toNat x.2))) : Int)))))
 (Tree.chk (EntRel 4 twr_8 4 (twr_0 x) (twr_0 x))
 (Tree.chk (EntRel 4 twr_8 4 twr_1 twr_1)
 (Tree.chk (EntRel 4 twr_8 4 (twr_9 x) (twr_9 x))
 (Tree.chk (EntRel 4 twr_8 4 twr_1 twr_1)
 (Tree.need True)))))))))))))))))))
 (Tree.done (twr_14 x s) twr_20)))))))))))))))))))))
 (Tree.chk ((!decide (x.2 < (1 : Int))) = true → False)
 (Tree.chk ((!decide (x.2 < (1 : Int))) = true → False)
 (Tree.chk (decide (x.2 < (1 : Int)) = true)
 (Tree.chk (true = true)
 (Tree.done (XV.a (AV.c (CV.v (Value.string { data := #[] })))) [Ent.dead]))))))))
theorem twr_eq (x : Ln) : prune (.n .k (.cs 2 (.n .k (.cs 3 (.l .k))))) (xfunc tab wrG (lpI fun _ tm H => wrI x tm H) Go.Proofs.Tryd.f29 [x.av] [] []) = twr x := by kernel_rfl
abbrev tprint_0 : Ln → List CV :=
  fun x => [CV.v (Value.string x.1), CV.v (Value.int IntKind.i64 x.2), CV.v (Value.int IntKind.i64 x.3), CV.v (Value.int IntKind.i64 x.4), CV.v (Value.int IntKind.i64 x.5), CV.v (Value.int IntKind.i64 x.6), CV.v (Value.string x.7)]
abbrev tprint_1 : Ln → List Ent :=
  fun x => [{ own := true, box := true, ty := 26, sz := 7, m := 1, n := fun x => 1, cap := fun x => 1, f := fun x_1 x_2 => tprint_0 x, ov := [] }]
def tprint (x m : Ln) : Tree :=
  Tree.callf 29 [AV.agg (tprint_0 x)] (tprint_1 x) (wrC x) fun c => Tree.callf 9 [AV.c (CV.v (Value.string (writtenF x)))] (tprint_1 x) (parseD (writtenF x) (some m)) fun c => Tree.chk (true = true → true = true)
 (Tree.chk (true = true → true = true)
 (Tree.chk (false = false → true = true)
 (Tree.br (bif !true then true else !(m.1 == x.1 && (m.2 == x.2 && (m.3 == x.3 && (m.4 == x.4 && (m.5 == x.5 && m.6 == x.6))) && m.7 == x.7)))
 (Tree.done (XV.tup [AV.c (CV.v (Value.string { data := #[] })), AV.c (CV.v (Value.iface 33 (Value.int IntKind.i64 (1 : Int))))]) [Ent.dead, Ent.dead])
 (Tree.done (XV.tup [AV.c (CV.v (Value.string (writtenF x))), AV.c (CV.v Value.nilIface)]) [Ent.dead, Ent.dead]))))
theorem tprint_eq (x m : Ln) : prune (.k) (xfunc tab (printG x (some m)) noInv Go.Proofs.Tryd.f11 [x.av] [] []) = tprint x m := by kernel_rfl
abbrev tprintN_0 : Ln → List CV :=
  fun x => [CV.v (Value.string x.1), CV.v (Value.int IntKind.i64 x.2), CV.v (Value.int IntKind.i64 x.3), CV.v (Value.int IntKind.i64 x.4), CV.v (Value.int IntKind.i64 x.5), CV.v (Value.int IntKind.i64 x.6), CV.v (Value.string x.7)]
abbrev tprintN_1 : Ln → List Ent :=
  fun x => [{ own := true, box := true, ty := 26, sz := 7, m := 1, n := fun x => 1, cap := fun x => 1, f := fun x_1 x_2 => tprintN_0 x, ov := [] }]
def tprintN (x : Ln) : Tree :=
  Tree.callf 29 [AV.agg (tprintN_0 x)] (tprintN_1 x) (wrC x) fun c => Tree.callf 9 [AV.c (CV.v (Value.string (writtenF x)))] (tprintN_1 x) (parseD (writtenF x) none) fun c => Tree.chk (false = true → false = true)
 (Tree.chk (false = true → false = true)
 (Tree.chk (true = false → false = true)
 (Tree.chk (true = true)
 (Tree.done (XV.tup [AV.c (CV.v (Value.string { data := #[] })), AV.c (CV.v (Value.iface 33 (Value.int IntKind.i64 (1 : Int))))]) [Ent.dead, Ent.dead]))))
theorem tprintN_eq (x : Ln) : prune (.cs 5 (.l .k)) (xfunc tab (printG x none) noInv Go.Proofs.Tryd.f11 [x.av] [] []) = tprintN x := by kernel_rfl
end Go.Proofs.YtjbnkdpeohbakaaDoor.X.Ip

set_option linter.unusedVariables false
set_option linter.unusedSimpArgs false
namespace Go.Proofs.YtjbnkdpeohbakaaDoor.X.Ip
open Go Go.RowKit Go.Proofs.YtjbnkdpeohbakaaDoorW.PrintWords Go.Proofs.YtjbnkdpeohbakaaDoor.Base Go.Proofs.YtjbnkdpeohbakaaDoor.X
theorem itoa_call : Callable Tryd.prog 45 := ⟨_, Tryd.func45, by kernel_rfl, rfl⟩
theorem written_call : Callable Tryd.prog 29 := ⟨_, Tryd.func29, by kernel_rfl, rfl⟩
theorem print_call : Callable Tryd.prog 11 := ⟨_, Tryd.func11, by kernel_rfl, rfl⟩
theorem itoa_local (n : Int) (h0 : -9223372036854775808 ≤ n) (h1 : n ≤ 9223372036854775807) : (itoaC n).Local Tryd.prog 45 :=
  plain_local fun ν w hw => (Any.strconv_Itoa Tryd.laysM171 n h0 h1 w (hw.1 _ kon_g.choose_spec)).mono fun e w' ⟨h1, k, os, h2⟩ => ⟨h1, by
    rw [h2]; exact Lib.below_grow _ w (Nat.le_refl _) k os⟩
abbrev I64 (n : Int) : Prop := -9223372036854775808 ≤ n ∧ n ≤ 9223372036854775807
structure Ln.Wf (x : Ln) : Prop where
  lb : x.lb.size ≤ 1000
  tg : x.tg.size ≤ 1000
  op : I64 x.op
  a : I64 x.a
  b : I64 x.b
  c : I64 x.c
  n : I64 x.n
theorem fmt_size {n : Int} (h : I64 n) : (fmtW n).size ≤ 21 := by
  show (bs _).size ≤ 21
  rw [bs_size]
  exact Lib.itoa_length_le n h.1 h.2
theorem word_size (k : Nat) : (wordS k).size ≤ 6 ∧ (hasS k).size ≤ 3 := by
  match k with
  | 0 => decide
  | 1 => decide
  | 2 => decide
  | 3 => decide
  | 4 => decide
  | 5 => decide
  | 6 => decide
  | 7 => decide
  | 8 => decide
  | 9 => decide
  | 10 => decide
  | 11 => decide
  | 12 => decide
  | 13 => decide
  | 14 => decide
  | 15 => decide
  | 16 => decide
  | 17 => decide
  | 18 => decide
  | 19 => decide
  | 20 => decide
  | 21 => decide
  | 22 => decide
  | k + 23 => exact ⟨Nat.zero_le _, Nat.zero_le _⟩
theorem part_le {x : Ln} (hx : x.Wf) (w : Int) : (partF x w).size ≤ 1001 := by
  have h1 := fmt_size hx.a
  have h2 := fmt_size hx.b
  have h3 := fmt_size hx.c
  have h4 := fmt_size hx.n
  have h5 := hx.tg
  have e1 : srS.size = 2 := rfl
  have e2 : spS.size = 1 := rfl
  unfold partF
  cases w == 65 <;> cases w == 66 <;> cases w == 67 <;> cases w == 78 <;> simp only [cond_true, cond_false, ByteArray.size_append] <;> omega
theorem wr_size {x : Ln} (hx : x.Wf) : ∀ i, (wrF x i).size ≤ 6 + i * 1001
  | 0 => by show (wordS _).size ≤ _; have := (word_size x.op.toNat).1; omega
  | i + 1 => by
    have h1 := wr_size hx i
    have h2 := part_le hx (bt' (hasS x.op.toNat) i)
    show (wrF x i ++ partF x _).size ≤ _
    rw [ByteArray.size_append]
    omega
theorem written_size {x : Ln} (hx : x.Wf) : (writtenF x).size ≤ 4000 := by
  have h1 := wr_size hx (hasS x.op.toNat).size
  have h2 := (word_size x.op.toNat).2
  have h3 := hx.lb
  have e1 : colS.size = 1 := rfl
  unfold writtenF
  cases !(x.lb.toList == ByteArray.empty.toList) with
  | true => rw [cond_true, ByteArray.size_append]; omega
  | false =>
    rw [cond_false]
    cases (bif decide (x.op < 1) then true else decide (x.op ≥ 23)) with
    | true => exact Nat.zero_le _
    | false =>
      rw [cond_false]
      have : (hasS x.op.toNat).size * 1001 ≤ 3 * 1001 := Nat.mul_le_mul_right _ h2
      omega
theorem written_local (x : Ln) (hx : x.Wf) : (wrC x).Local Tryd.prog 29 := by
  refine local_ofP Tryd.func29 rfl (twr_eq x) fun ν w => ?_
  refine ok_br' (fun h1 => ?_) fun h1 => ?_
  · have h1 : (!(x.lb.toList == ByteArray.empty.toList)) = true := h1
    refine ok_chk' (by have := hx.lb; show _ + 1 ≤ 9223372036854775807; omega) ?_
    exact ok_leaf (fun _ => 0) [] [] trivial (by show _ = XV.a (sv' (writtenF x)); unfold writtenF; rw [h1]; rfl) trivial rfl
  have h1 : (!(x.lb.toList == ByteArray.empty.toList)) = false := h1
  repeat refine ok_chk' (by first | exact fun h => h | rfl | exact fun _ => rfl | (exact fun h => by rw [h]; rfl) | exact fun h => absurd h (by decide) | (intro h1 h2; rw [h1, h2]; rfl)) ?_
  refine ok_br' (fun h2 => ?_) fun h2 => ?_
  · have h2' : 1 ≤ x.op := by have h := h2; simp at h; omega
    refine ok_callf' shapes_call (fits_of rfl rfl trivial fun c _ => ⟨⟨Nat.zero_le _, rfl⟩, ⟨rfl, rfl⟩, ⟨⟨EntRel.plain rfl rfl rfl rfl (fun h => by cases h) (fun _ _ => ⟨rfl, rfl⟩) fun _ _ _ _ => ⟨rfl, rfl⟩, rfl, (fun h => by cases h), .inr rfl⟩, trivial⟩⟩) (shapes_local _) fun c _ => ?_
    repeat refine ok_chk' (by first | exact fun h => h | rfl | exact fun _ => rfl | (exact fun h => by rw [h]; rfl) | exact fun h => absurd h (by decide) | (intro h1 h2; rw [h1, h2]; rfl)) ?_
    refine ok_br' (fun h3 => ?_) fun h3 => ?_
    · exact ok_leaf (fun _ => 0) [] [] trivial (by show _ = XV.a (sv' (writtenF x)); unfold writtenF; rw [h1, show (bif decide (x.op < 1) then true else decide (x.op ≥ 23)) = true from h3]; rfl) trivial rfl
    have h3' : x.op < 23 := by have h := h3; simp at h; omega
    have hw : writtenF x = wrF x (hasS x.op.toNat).size := by
      unfold writtenF
      rw [h1, show (bif decide (x.op < 1) then true else decide (x.op ≥ 23)) = false from h3]
      rfl
    refine ok_both' ?_ ?_
    · (repeat refine ok_chk' (by first | exact fun h => h | rfl | exact fun _ => rfl | (exact fun h => by rw [h]; rfl) | exact fun h => absurd h (by decide) | (intro h1 h2; rw [h1, h2]; rfl)) ?_)
      refine ok_callf' shapes_call (fits_of rfl rfl trivial fun c _ => ⟨⟨Nat.zero_le _, rfl⟩, ⟨rfl, rfl⟩, ⟨⟨EntRel.plain rfl rfl rfl rfl (fun h => by cases h) (fun _ _ => ⟨rfl, rfl⟩) fun _ _ _ _ => ⟨rfl, rfl⟩, rfl, (fun h => by cases h), .inr rfl⟩, trivial⟩⟩) (shapes_local _) fun c2 _ => ?_
      (repeat refine ok_chk' (by first | exact fun h => h | rfl | exact fun _ => rfl | (exact fun h => by rw [h]; rfl) | exact fun h => absurd h (by decide) | (intro h1 h2; rw [h1, h2]; rfl)) ?_)
      refine ok_chk' ⟨by omega, by omega, by omega, by omega⟩ ?_
      (repeat refine ok_chk' (by first | exact fun h => h | rfl | exact fun _ => rfl | (exact fun h => by rw [h]; rfl) | exact fun h => absurd h (by decide) | (intro h1 h2; rw [h1, h2]; rfl)) ?_)
      refine ok_chk' ⟨by omega, by omega⟩ ?_
      (repeat refine ok_chk' (by first | exact fun h => h | rfl | exact fun _ => rfl | (exact fun h => by rw [h]; rfl) | exact fun h => absurd h (by decide) | (intro h1 h2; rw [h1, h2]; rfl)) ?_)
      refine ok_chk' ⟨by omega, by omega⟩ ?_
      (repeat refine ok_chk' (by first | exact fun h => h | rfl | exact fun _ => rfl | (exact fun h => by rw [h]; rfl) | exact fun h => absurd h (by decide) | (intro h1 h2; rw [h1, h2]; rfl)) ?_)
      refine ok_chk' ⟨by omega, by omega, by omega, by omega⟩ ?_
      (repeat refine ok_chk' (by first | exact fun h => h | rfl | exact fun _ => rfl | (exact fun h => by rw [h]; rfl) | exact fun h => absurd h (by decide) | (intro h1 h2; rw [h1, h2]; rfl)) ?_)
      refine ok_both' ?_ (ok_every' fun i => ok_br' (fun hi => ?_) fun hi => ?_)
      · repeat' first | exact rfl | exact trivial | exact EntRel.box' rfl rfl rfl rfl rfl | exact EntRel.plain rfl rfl rfl rfl (fun h => by cases h) (fun _ _ => ⟨rfl, rfl⟩) (fun _ _ _ _ => ⟨rfl, rfl⟩) | refine ok_chk' ?_ ?_
      · have hi : i.1 < (hasS x.op.toNat).size := by have h := of_decide_eq_true hi; omega
        refine ok_chk' ⟨by omega, by omega⟩ ?_
        (repeat refine ok_chk' (by first | exact fun h => h | rfl | exact fun _ => rfl | (exact fun h => by rw [h]; rfl) | exact fun h => absurd h (by decide) | (intro h1 h2; rw [h1, h2]; rfl)) ?_)
        refine ok_br' (fun c1 => ?_) fun c1 => ?_
        · have hpt : partF x (bt' (hasS x.op.toNat) i.1) = srS ++ fmtW x.a := by unfold partF; rw [show (bt' (hasS x.op.toNat) i.1 == 65) = true from c1]; rfl
          refine ok_callf' itoa_call (fits_of rfl rfl trivial fun c _ => ⟨⟨Nat.zero_le _, rfl⟩, ⟨rfl, rfl⟩, trivial⟩) (itoa_local _ hx.a.1 hx.a.2) fun c3 _ => ?_
          ((repeat refine ok_chk' (by first | exact fun h => h | rfl | exact fun _ => rfl | (exact fun h => by rw [h]; rfl) | exact fun h => absurd h (by decide) | (intro h1 h2; rw [h1, h2]; rfl)) ?_); refine ok_chk' (by (have e1 : srS.size = 2 := rfl); have e2 : spS.size = 1 := rfl; have h1 := fmt_size hx.a; have h2 := fmt_size hx.b; have h3 := fmt_size hx.c; have h4 := fmt_size hx.n; have h5 := hx.tg; have h6 := wr_size hx i.1; have h7 : i.1 * 1001 ≤ 3 * 1001 := Nat.mul_le_mul_right _ (Nat.le_trans i.2 (word_size x.op.toNat).2); (try simp only [ByteArray.size_append]); show _ ≤ (9223372036854775807 : Nat); first | omega | (show srS.size + _ ≤ _; omega) | (show spS.size + _ ≤ _; omega) | (show _ + (srS.size + _) ≤ _; omega) | (show _ + (spS.size + _) ≤ _; omega)) ?_; (repeat refine ok_chk' (by first | exact fun h => h | rfl | exact fun _ => rfl | (exact fun h => by rw [h]; rfl) | exact fun h => absurd h (by decide) | (intro h1 h2; rw [h1, h2]; rfl)) ?_); refine ok_chk' (by (have e1 : srS.size = 2 := rfl); have e2 : spS.size = 1 := rfl; have h1 := fmt_size hx.a; have h2 := fmt_size hx.b; have h3 := fmt_size hx.c; have h4 := fmt_size hx.n; have h5 := hx.tg; have h6 := wr_size hx i.1; have h7 : i.1 * 1001 ≤ 3 * 1001 := Nat.mul_le_mul_right _ (Nat.le_trans i.2 (word_size x.op.toNat).2); (try simp only [ByteArray.size_append]); show _ ≤ (9223372036854775807 : Nat); first | omega | (show srS.size + _ ≤ _; omega) | (show spS.size + _ ≤ _; omega) | (show _ + (srS.size + _) ≤ _; omega) | (show _ + (spS.size + _) ≤ _; omega)) ?_; (repeat refine ok_chk' (by first | exact fun h => h | rfl | exact fun _ => rfl | (exact fun h => by rw [h]; rfl) | exact fun h => absurd h (by decide) | (intro h1 h2; rw [h1, h2]; rfl)) ?_); refine ok_some' ⟨i.1 + 1, hi⟩ (ok_chk' (by show (hasS x.op.toNat).size - (i.1 + 1) < (hasS x.op.toNat).size - i.1; omega) (ok_chk' (by show XV.a (.c (.v (.int .i64 (IntKind.wrap .i64 ((i.1 : Int) + 1))))) = _; rw [wrapn (by have := (word_size x.op.toNat).2; omega)]) (ok_chk' (by show XV.a (.c (.v (.string _))) = XV.a (.c (.v (.string (wrF x i.1 ++ partF x (bt' (hasS x.op.toNat) i.1))))); rw [hpt]) ?_))); repeat' first | exact rfl | exact trivial | exact EntRel.box' rfl rfl rfl rfl rfl | exact EntRel.plain rfl rfl rfl rfl (fun h => by cases h) (fun _ _ => ⟨rfl, rfl⟩) (fun _ _ _ _ => ⟨rfl, rfl⟩) | refine ok_chk' ?_ ?_)
        (repeat refine ok_chk' (by first | exact fun h => h | rfl | exact fun _ => rfl | (exact fun h => by rw [h]; rfl) | exact fun h => absurd h (by decide) | (intro h1 h2; rw [h1, h2]; rfl)) ?_)
        refine ok_br' (fun c2 => ?_) fun c2 => ?_
        · have hpt : partF x (bt' (hasS x.op.toNat) i.1) = srS ++ fmtW x.b := by unfold partF; rw [show (bt' (hasS x.op.toNat) i.1 == 65) = false from c1, show (bt' (hasS x.op.toNat) i.1 == 66) = true from c2]; rfl
          refine ok_callf' itoa_call (fits_of rfl rfl trivial fun c _ => ⟨⟨Nat.zero_le _, rfl⟩, ⟨rfl, rfl⟩, trivial⟩) (itoa_local _ hx.b.1 hx.b.2) fun c3 _ => ?_
          ((repeat refine ok_chk' (by first | exact fun h => h | rfl | exact fun _ => rfl | (exact fun h => by rw [h]; rfl) | exact fun h => absurd h (by decide) | (intro h1 h2; rw [h1, h2]; rfl)) ?_); refine ok_chk' (by (have e1 : srS.size = 2 := rfl); have e2 : spS.size = 1 := rfl; have h1 := fmt_size hx.a; have h2 := fmt_size hx.b; have h3 := fmt_size hx.c; have h4 := fmt_size hx.n; have h5 := hx.tg; have h6 := wr_size hx i.1; have h7 : i.1 * 1001 ≤ 3 * 1001 := Nat.mul_le_mul_right _ (Nat.le_trans i.2 (word_size x.op.toNat).2); (try simp only [ByteArray.size_append]); show _ ≤ (9223372036854775807 : Nat); first | omega | (show srS.size + _ ≤ _; omega) | (show spS.size + _ ≤ _; omega) | (show _ + (srS.size + _) ≤ _; omega) | (show _ + (spS.size + _) ≤ _; omega)) ?_; (repeat refine ok_chk' (by first | exact fun h => h | rfl | exact fun _ => rfl | (exact fun h => by rw [h]; rfl) | exact fun h => absurd h (by decide) | (intro h1 h2; rw [h1, h2]; rfl)) ?_); refine ok_chk' (by (have e1 : srS.size = 2 := rfl); have e2 : spS.size = 1 := rfl; have h1 := fmt_size hx.a; have h2 := fmt_size hx.b; have h3 := fmt_size hx.c; have h4 := fmt_size hx.n; have h5 := hx.tg; have h6 := wr_size hx i.1; have h7 : i.1 * 1001 ≤ 3 * 1001 := Nat.mul_le_mul_right _ (Nat.le_trans i.2 (word_size x.op.toNat).2); (try simp only [ByteArray.size_append]); show _ ≤ (9223372036854775807 : Nat); first | omega | (show srS.size + _ ≤ _; omega) | (show spS.size + _ ≤ _; omega) | (show _ + (srS.size + _) ≤ _; omega) | (show _ + (spS.size + _) ≤ _; omega)) ?_; (repeat refine ok_chk' (by first | exact fun h => h | rfl | exact fun _ => rfl | (exact fun h => by rw [h]; rfl) | exact fun h => absurd h (by decide) | (intro h1 h2; rw [h1, h2]; rfl)) ?_); refine ok_some' ⟨i.1 + 1, hi⟩ (ok_chk' (by show (hasS x.op.toNat).size - (i.1 + 1) < (hasS x.op.toNat).size - i.1; omega) (ok_chk' (by show XV.a (.c (.v (.int .i64 (IntKind.wrap .i64 ((i.1 : Int) + 1))))) = _; rw [wrapn (by have := (word_size x.op.toNat).2; omega)]) (ok_chk' (by show XV.a (.c (.v (.string _))) = XV.a (.c (.v (.string (wrF x i.1 ++ partF x (bt' (hasS x.op.toNat) i.1))))); rw [hpt]) ?_))); repeat' first | exact rfl | exact trivial | exact EntRel.box' rfl rfl rfl rfl rfl | exact EntRel.plain rfl rfl rfl rfl (fun h => by cases h) (fun _ _ => ⟨rfl, rfl⟩) (fun _ _ _ _ => ⟨rfl, rfl⟩) | refine ok_chk' ?_ ?_)
        (repeat refine ok_chk' (by first | exact fun h => h | rfl | exact fun _ => rfl | (exact fun h => by rw [h]; rfl) | exact fun h => absurd h (by decide) | (intro h1 h2; rw [h1, h2]; rfl)) ?_)
        refine ok_br' (fun c3 => ?_) fun c3 => ?_
        · have hpt : partF x (bt' (hasS x.op.toNat) i.1) = srS ++ fmtW x.c := by unfold partF; rw [show (bt' (hasS x.op.toNat) i.1 == 65) = false from c1, show (bt' (hasS x.op.toNat) i.1 == 66) = false from c2, show (bt' (hasS x.op.toNat) i.1 == 67) = true from c3]; rfl
          refine ok_callf' itoa_call (fits_of rfl rfl trivial fun c _ => ⟨⟨Nat.zero_le _, rfl⟩, ⟨rfl, rfl⟩, trivial⟩) (itoa_local _ hx.c.1 hx.c.2) fun c3 _ => ?_
          ((repeat refine ok_chk' (by first | exact fun h => h | rfl | exact fun _ => rfl | (exact fun h => by rw [h]; rfl) | exact fun h => absurd h (by decide) | (intro h1 h2; rw [h1, h2]; rfl)) ?_); refine ok_chk' (by (have e1 : srS.size = 2 := rfl); have e2 : spS.size = 1 := rfl; have h1 := fmt_size hx.a; have h2 := fmt_size hx.b; have h3 := fmt_size hx.c; have h4 := fmt_size hx.n; have h5 := hx.tg; have h6 := wr_size hx i.1; have h7 : i.1 * 1001 ≤ 3 * 1001 := Nat.mul_le_mul_right _ (Nat.le_trans i.2 (word_size x.op.toNat).2); (try simp only [ByteArray.size_append]); show _ ≤ (9223372036854775807 : Nat); first | omega | (show srS.size + _ ≤ _; omega) | (show spS.size + _ ≤ _; omega) | (show _ + (srS.size + _) ≤ _; omega) | (show _ + (spS.size + _) ≤ _; omega)) ?_; (repeat refine ok_chk' (by first | exact fun h => h | rfl | exact fun _ => rfl | (exact fun h => by rw [h]; rfl) | exact fun h => absurd h (by decide) | (intro h1 h2; rw [h1, h2]; rfl)) ?_); refine ok_chk' (by (have e1 : srS.size = 2 := rfl); have e2 : spS.size = 1 := rfl; have h1 := fmt_size hx.a; have h2 := fmt_size hx.b; have h3 := fmt_size hx.c; have h4 := fmt_size hx.n; have h5 := hx.tg; have h6 := wr_size hx i.1; have h7 : i.1 * 1001 ≤ 3 * 1001 := Nat.mul_le_mul_right _ (Nat.le_trans i.2 (word_size x.op.toNat).2); (try simp only [ByteArray.size_append]); show _ ≤ (9223372036854775807 : Nat); first | omega | (show srS.size + _ ≤ _; omega) | (show spS.size + _ ≤ _; omega) | (show _ + (srS.size + _) ≤ _; omega) | (show _ + (spS.size + _) ≤ _; omega)) ?_; (repeat refine ok_chk' (by first | exact fun h => h | rfl | exact fun _ => rfl | (exact fun h => by rw [h]; rfl) | exact fun h => absurd h (by decide) | (intro h1 h2; rw [h1, h2]; rfl)) ?_); refine ok_some' ⟨i.1 + 1, hi⟩ (ok_chk' (by show (hasS x.op.toNat).size - (i.1 + 1) < (hasS x.op.toNat).size - i.1; omega) (ok_chk' (by show XV.a (.c (.v (.int .i64 (IntKind.wrap .i64 ((i.1 : Int) + 1))))) = _; rw [wrapn (by have := (word_size x.op.toNat).2; omega)]) (ok_chk' (by show XV.a (.c (.v (.string _))) = XV.a (.c (.v (.string (wrF x i.1 ++ partF x (bt' (hasS x.op.toNat) i.1))))); rw [hpt]) ?_))); repeat' first | exact rfl | exact trivial | exact EntRel.box' rfl rfl rfl rfl rfl | exact EntRel.plain rfl rfl rfl rfl (fun h => by cases h) (fun _ _ => ⟨rfl, rfl⟩) (fun _ _ _ _ => ⟨rfl, rfl⟩) | refine ok_chk' ?_ ?_)
        (repeat refine ok_chk' (by first | exact fun h => h | rfl | exact fun _ => rfl | (exact fun h => by rw [h]; rfl) | exact fun h => absurd h (by decide) | (intro h1 h2; rw [h1, h2]; rfl)) ?_)
        refine ok_br' (fun c4 => ?_) fun c4 => ?_
        · have hpt : partF x (bt' (hasS x.op.toNat) i.1) = spS ++ fmtW x.n := by unfold partF; rw [show (bt' (hasS x.op.toNat) i.1 == 65) = false from c1, show (bt' (hasS x.op.toNat) i.1 == 66) = false from c2, show (bt' (hasS x.op.toNat) i.1 == 67) = false from c3, show (bt' (hasS x.op.toNat) i.1 == 78) = true from c4]; rfl
          refine ok_callf' fmt_call (fits_of rfl rfl trivial fun c _ => ⟨⟨Nat.zero_le _, rfl⟩, ⟨rfl, rfl⟩, trivial⟩) (fmt_local _ hx.n.1 hx.n.2) fun c3 _ => ?_
          ((repeat refine ok_chk' (by first | exact fun h => h | rfl | exact fun _ => rfl | (exact fun h => by rw [h]; rfl) | exact fun h => absurd h (by decide) | (intro h1 h2; rw [h1, h2]; rfl)) ?_); refine ok_chk' (by (have e1 : srS.size = 2 := rfl); have e2 : spS.size = 1 := rfl; have h1 := fmt_size hx.a; have h2 := fmt_size hx.b; have h3 := fmt_size hx.c; have h4 := fmt_size hx.n; have h5 := hx.tg; have h6 := wr_size hx i.1; have h7 : i.1 * 1001 ≤ 3 * 1001 := Nat.mul_le_mul_right _ (Nat.le_trans i.2 (word_size x.op.toNat).2); (try simp only [ByteArray.size_append]); show _ ≤ (9223372036854775807 : Nat); first | omega | (show srS.size + _ ≤ _; omega) | (show spS.size + _ ≤ _; omega) | (show _ + (srS.size + _) ≤ _; omega) | (show _ + (spS.size + _) ≤ _; omega)) ?_; (repeat refine ok_chk' (by first | exact fun h => h | rfl | exact fun _ => rfl | (exact fun h => by rw [h]; rfl) | exact fun h => absurd h (by decide) | (intro h1 h2; rw [h1, h2]; rfl)) ?_); refine ok_chk' (by (have e1 : srS.size = 2 := rfl); have e2 : spS.size = 1 := rfl; have h1 := fmt_size hx.a; have h2 := fmt_size hx.b; have h3 := fmt_size hx.c; have h4 := fmt_size hx.n; have h5 := hx.tg; have h6 := wr_size hx i.1; have h7 : i.1 * 1001 ≤ 3 * 1001 := Nat.mul_le_mul_right _ (Nat.le_trans i.2 (word_size x.op.toNat).2); (try simp only [ByteArray.size_append]); show _ ≤ (9223372036854775807 : Nat); first | omega | (show srS.size + _ ≤ _; omega) | (show spS.size + _ ≤ _; omega) | (show _ + (srS.size + _) ≤ _; omega) | (show _ + (spS.size + _) ≤ _; omega)) ?_; (repeat refine ok_chk' (by first | exact fun h => h | rfl | exact fun _ => rfl | (exact fun h => by rw [h]; rfl) | exact fun h => absurd h (by decide) | (intro h1 h2; rw [h1, h2]; rfl)) ?_); refine ok_some' ⟨i.1 + 1, hi⟩ (ok_chk' (by show (hasS x.op.toNat).size - (i.1 + 1) < (hasS x.op.toNat).size - i.1; omega) (ok_chk' (by show XV.a (.c (.v (.int .i64 (IntKind.wrap .i64 ((i.1 : Int) + 1))))) = _; rw [wrapn (by have := (word_size x.op.toNat).2; omega)]) (ok_chk' (by show XV.a (.c (.v (.string _))) = XV.a (.c (.v (.string (wrF x i.1 ++ partF x (bt' (hasS x.op.toNat) i.1))))); rw [hpt]) ?_))); repeat' first | exact rfl | exact trivial | exact EntRel.box' rfl rfl rfl rfl rfl | exact EntRel.plain rfl rfl rfl rfl (fun h => by cases h) (fun _ _ => ⟨rfl, rfl⟩) (fun _ _ _ _ => ⟨rfl, rfl⟩) | refine ok_chk' ?_ ?_)
        · have hpt : partF x (bt' (hasS x.op.toNat) i.1) = spS ++ x.tg := by unfold partF; rw [show (bt' (hasS x.op.toNat) i.1 == 65) = false from c1, show (bt' (hasS x.op.toNat) i.1 == 66) = false from c2, show (bt' (hasS x.op.toNat) i.1 == 67) = false from c3, show (bt' (hasS x.op.toNat) i.1 == 78) = false from c4]; rfl
          ((repeat refine ok_chk' (by first | exact fun h => h | rfl | exact fun _ => rfl | (exact fun h => by rw [h]; rfl) | exact fun h => absurd h (by decide) | (intro h1 h2; rw [h1, h2]; rfl)) ?_); refine ok_chk' (by (have e1 : srS.size = 2 := rfl); have e2 : spS.size = 1 := rfl; have h1 := fmt_size hx.a; have h2 := fmt_size hx.b; have h3 := fmt_size hx.c; have h4 := fmt_size hx.n; have h5 := hx.tg; have h6 := wr_size hx i.1; have h7 : i.1 * 1001 ≤ 3 * 1001 := Nat.mul_le_mul_right _ (Nat.le_trans i.2 (word_size x.op.toNat).2); (try simp only [ByteArray.size_append]); show _ ≤ (9223372036854775807 : Nat); first | omega | (show srS.size + _ ≤ _; omega) | (show spS.size + _ ≤ _; omega) | (show _ + (srS.size + _) ≤ _; omega) | (show _ + (spS.size + _) ≤ _; omega)) ?_; (repeat refine ok_chk' (by first | exact fun h => h | rfl | exact fun _ => rfl | (exact fun h => by rw [h]; rfl) | exact fun h => absurd h (by decide) | (intro h1 h2; rw [h1, h2]; rfl)) ?_); refine ok_chk' (by (have e1 : srS.size = 2 := rfl); have e2 : spS.size = 1 := rfl; have h1 := fmt_size hx.a; have h2 := fmt_size hx.b; have h3 := fmt_size hx.c; have h4 := fmt_size hx.n; have h5 := hx.tg; have h6 := wr_size hx i.1; have h7 : i.1 * 1001 ≤ 3 * 1001 := Nat.mul_le_mul_right _ (Nat.le_trans i.2 (word_size x.op.toNat).2); (try simp only [ByteArray.size_append]); show _ ≤ (9223372036854775807 : Nat); first | omega | (show srS.size + _ ≤ _; omega) | (show spS.size + _ ≤ _; omega) | (show _ + (srS.size + _) ≤ _; omega) | (show _ + (spS.size + _) ≤ _; omega)) ?_; (repeat refine ok_chk' (by first | exact fun h => h | rfl | exact fun _ => rfl | (exact fun h => by rw [h]; rfl) | exact fun h => absurd h (by decide) | (intro h1 h2; rw [h1, h2]; rfl)) ?_); refine ok_some' ⟨i.1 + 1, hi⟩ (ok_chk' (by show (hasS x.op.toNat).size - (i.1 + 1) < (hasS x.op.toNat).size - i.1; omega) (ok_chk' (by show XV.a (.c (.v (.int .i64 (IntKind.wrap .i64 ((i.1 : Int) + 1))))) = _; rw [wrapn (by have := (word_size x.op.toNat).2; omega)]) (ok_chk' (by show XV.a (.c (.v (.string _))) = XV.a (.c (.v (.string (wrF x i.1 ++ partF x (bt' (hasS x.op.toNat) i.1))))); rw [hpt]) ?_))); repeat' first | exact rfl | exact trivial | exact EntRel.box' rfl rfl rfl rfl rfl | exact EntRel.plain rfl rfl rfl rfl (fun h => by cases h) (fun _ _ => ⟨rfl, rfl⟩) (fun _ _ _ _ => ⟨rfl, rfl⟩) | refine ok_chk' ?_ ?_)
      · have hi : i.1 = (hasS x.op.toNat).size := by
          have h := of_decide_eq_false hi
          have := i.2
          omega
        exact ok_leaf (fun _ => 0) [] [] trivial (by show XV.a (sv' (wrF x i.1)) = XV.a (sv' (writtenF x)); rw [hw, hi]) trivial rfl
    · (repeat refine ok_chk' (by first | exact fun h => h | rfl | exact fun _ => rfl | (exact fun h => by rw [h]; rfl) | exact fun h => absurd h (by decide) | (intro h1 h2; rw [h1, h2]; rfl)) ?_)
      refine ok_callf' shapes_call (fits_of rfl rfl trivial fun c _ => ⟨⟨Nat.zero_le _, rfl⟩, ⟨rfl, rfl⟩, ⟨⟨EntRel.plain rfl rfl rfl rfl (fun h => by cases h) (fun _ _ => ⟨rfl, rfl⟩) fun _ _ _ _ => ⟨rfl, rfl⟩, rfl, (fun h => by cases h), .inr rfl⟩, trivial⟩⟩) (shapes_local _) fun c2 _ => ?_
      (repeat refine ok_chk' (by first | exact fun h => h | rfl | exact fun _ => rfl | (exact fun h => by rw [h]; rfl) | exact fun h => absurd h (by decide) | (intro h1 h2; rw [h1, h2]; rfl)) ?_)
      refine ok_chk' ⟨by omega, by omega, by omega, by omega⟩ ?_
      (repeat refine ok_chk' (by first | exact fun h => h | rfl | exact fun _ => rfl | (exact fun h => by rw [h]; rfl) | exact fun h => absurd h (by decide) | (intro h1 h2; rw [h1, h2]; rfl)) ?_)
      refine ok_chk' ⟨by omega, by omega⟩ ?_
      (repeat refine ok_chk' (by first | exact fun h => h | rfl | exact fun _ => rfl | (exact fun h => by rw [h]; rfl) | exact fun h => absurd h (by decide) | (intro h1 h2; rw [h1, h2]; rfl)) ?_)
      refine ok_both' ?_ (ok_every' fun i => ok_br' (fun hi => ?_) fun hi => ?_)
      · repeat' first | exact rfl | exact trivial | exact EntRel.box' rfl rfl rfl rfl rfl | exact EntRel.plain rfl rfl rfl rfl (fun h => by cases h) (fun _ _ => ⟨rfl, rfl⟩) (fun _ _ _ _ => ⟨rfl, rfl⟩) | refine ok_chk' ?_ ?_
      · have hi : i.1 < (hasS x.op.toNat).size := by have h := of_decide_eq_true hi; omega
        refine ok_chk' ⟨by omega, by omega⟩ ?_
        (repeat refine ok_chk' (by first | exact fun h => h | rfl | exact fun _ => rfl | (exact fun h => by rw [h]; rfl) | exact fun h => absurd h (by decide) | (intro h1 h2; rw [h1, h2]; rfl)) ?_)
        refine ok_br' (fun c1 => ?_) fun c1 => ?_
        · have hpt : partF x (bt' (hasS x.op.toNat) i.1) = srS ++ fmtW x.a := by unfold partF; rw [show (bt' (hasS x.op.toNat) i.1 == 65) = true from c1]; rfl
          refine ok_callf' itoa_call (fits_of rfl rfl trivial fun c _ => ⟨⟨Nat.zero_le _, rfl⟩, ⟨rfl, rfl⟩, trivial⟩) (itoa_local _ hx.a.1 hx.a.2) fun c3 _ => ?_
          ((repeat refine ok_chk' (by first | exact fun h => h | rfl | exact fun _ => rfl | (exact fun h => by rw [h]; rfl) | exact fun h => absurd h (by decide) | (intro h1 h2; rw [h1, h2]; rfl)) ?_); refine ok_chk' (by (have e1 : srS.size = 2 := rfl); have e2 : spS.size = 1 := rfl; have h1 := fmt_size hx.a; have h2 := fmt_size hx.b; have h3 := fmt_size hx.c; have h4 := fmt_size hx.n; have h5 := hx.tg; have h6 := wr_size hx i.1; have h7 : i.1 * 1001 ≤ 3 * 1001 := Nat.mul_le_mul_right _ (Nat.le_trans i.2 (word_size x.op.toNat).2); (try simp only [ByteArray.size_append]); show _ ≤ (9223372036854775807 : Nat); first | omega | (show srS.size + _ ≤ _; omega) | (show spS.size + _ ≤ _; omega) | (show _ + (srS.size + _) ≤ _; omega) | (show _ + (spS.size + _) ≤ _; omega)) ?_; (repeat refine ok_chk' (by first | exact fun h => h | rfl | exact fun _ => rfl | (exact fun h => by rw [h]; rfl) | exact fun h => absurd h (by decide) | (intro h1 h2; rw [h1, h2]; rfl)) ?_); refine ok_chk' (by (have e1 : srS.size = 2 := rfl); have e2 : spS.size = 1 := rfl; have h1 := fmt_size hx.a; have h2 := fmt_size hx.b; have h3 := fmt_size hx.c; have h4 := fmt_size hx.n; have h5 := hx.tg; have h6 := wr_size hx i.1; have h7 : i.1 * 1001 ≤ 3 * 1001 := Nat.mul_le_mul_right _ (Nat.le_trans i.2 (word_size x.op.toNat).2); (try simp only [ByteArray.size_append]); show _ ≤ (9223372036854775807 : Nat); first | omega | (show srS.size + _ ≤ _; omega) | (show spS.size + _ ≤ _; omega) | (show _ + (srS.size + _) ≤ _; omega) | (show _ + (spS.size + _) ≤ _; omega)) ?_; (repeat refine ok_chk' (by first | exact fun h => h | rfl | exact fun _ => rfl | (exact fun h => by rw [h]; rfl) | exact fun h => absurd h (by decide) | (intro h1 h2; rw [h1, h2]; rfl)) ?_); refine ok_some' ⟨i.1 + 1, hi⟩ (ok_chk' (by show (hasS x.op.toNat).size - (i.1 + 1) < (hasS x.op.toNat).size - i.1; omega) (ok_chk' (by show XV.a (.c (.v (.int .i64 (IntKind.wrap .i64 ((i.1 : Int) + 1))))) = _; rw [wrapn (by have := (word_size x.op.toNat).2; omega)]) (ok_chk' (by show XV.a (.c (.v (.string _))) = XV.a (.c (.v (.string (wrF x i.1 ++ partF x (bt' (hasS x.op.toNat) i.1))))); rw [hpt]) ?_))); repeat' first | exact rfl | exact trivial | exact EntRel.box' rfl rfl rfl rfl rfl | exact EntRel.plain rfl rfl rfl rfl (fun h => by cases h) (fun _ _ => ⟨rfl, rfl⟩) (fun _ _ _ _ => ⟨rfl, rfl⟩) | refine ok_chk' ?_ ?_)
        (repeat refine ok_chk' (by first | exact fun h => h | rfl | exact fun _ => rfl | (exact fun h => by rw [h]; rfl) | exact fun h => absurd h (by decide) | (intro h1 h2; rw [h1, h2]; rfl)) ?_)
        refine ok_br' (fun c2 => ?_) fun c2 => ?_
        · have hpt : partF x (bt' (hasS x.op.toNat) i.1) = srS ++ fmtW x.b := by unfold partF; rw [show (bt' (hasS x.op.toNat) i.1 == 65) = false from c1, show (bt' (hasS x.op.toNat) i.1 == 66) = true from c2]; rfl
          refine ok_callf' itoa_call (fits_of rfl rfl trivial fun c _ => ⟨⟨Nat.zero_le _, rfl⟩, ⟨rfl, rfl⟩, trivial⟩) (itoa_local _ hx.b.1 hx.b.2) fun c3 _ => ?_
          ((repeat refine ok_chk' (by first | exact fun h => h | rfl | exact fun _ => rfl | (exact fun h => by rw [h]; rfl) | exact fun h => absurd h (by decide) | (intro h1 h2; rw [h1, h2]; rfl)) ?_); refine ok_chk' (by (have e1 : srS.size = 2 := rfl); have e2 : spS.size = 1 := rfl; have h1 := fmt_size hx.a; have h2 := fmt_size hx.b; have h3 := fmt_size hx.c; have h4 := fmt_size hx.n; have h5 := hx.tg; have h6 := wr_size hx i.1; have h7 : i.1 * 1001 ≤ 3 * 1001 := Nat.mul_le_mul_right _ (Nat.le_trans i.2 (word_size x.op.toNat).2); (try simp only [ByteArray.size_append]); show _ ≤ (9223372036854775807 : Nat); first | omega | (show srS.size + _ ≤ _; omega) | (show spS.size + _ ≤ _; omega) | (show _ + (srS.size + _) ≤ _; omega) | (show _ + (spS.size + _) ≤ _; omega)) ?_; (repeat refine ok_chk' (by first | exact fun h => h | rfl | exact fun _ => rfl | (exact fun h => by rw [h]; rfl) | exact fun h => absurd h (by decide) | (intro h1 h2; rw [h1, h2]; rfl)) ?_); refine ok_chk' (by (have e1 : srS.size = 2 := rfl); have e2 : spS.size = 1 := rfl; have h1 := fmt_size hx.a; have h2 := fmt_size hx.b; have h3 := fmt_size hx.c; have h4 := fmt_size hx.n; have h5 := hx.tg; have h6 := wr_size hx i.1; have h7 : i.1 * 1001 ≤ 3 * 1001 := Nat.mul_le_mul_right _ (Nat.le_trans i.2 (word_size x.op.toNat).2); (try simp only [ByteArray.size_append]); show _ ≤ (9223372036854775807 : Nat); first | omega | (show srS.size + _ ≤ _; omega) | (show spS.size + _ ≤ _; omega) | (show _ + (srS.size + _) ≤ _; omega) | (show _ + (spS.size + _) ≤ _; omega)) ?_; (repeat refine ok_chk' (by first | exact fun h => h | rfl | exact fun _ => rfl | (exact fun h => by rw [h]; rfl) | exact fun h => absurd h (by decide) | (intro h1 h2; rw [h1, h2]; rfl)) ?_); refine ok_some' ⟨i.1 + 1, hi⟩ (ok_chk' (by show (hasS x.op.toNat).size - (i.1 + 1) < (hasS x.op.toNat).size - i.1; omega) (ok_chk' (by show XV.a (.c (.v (.int .i64 (IntKind.wrap .i64 ((i.1 : Int) + 1))))) = _; rw [wrapn (by have := (word_size x.op.toNat).2; omega)]) (ok_chk' (by show XV.a (.c (.v (.string _))) = XV.a (.c (.v (.string (wrF x i.1 ++ partF x (bt' (hasS x.op.toNat) i.1))))); rw [hpt]) ?_))); repeat' first | exact rfl | exact trivial | exact EntRel.box' rfl rfl rfl rfl rfl | exact EntRel.plain rfl rfl rfl rfl (fun h => by cases h) (fun _ _ => ⟨rfl, rfl⟩) (fun _ _ _ _ => ⟨rfl, rfl⟩) | refine ok_chk' ?_ ?_)
        (repeat refine ok_chk' (by first | exact fun h => h | rfl | exact fun _ => rfl | (exact fun h => by rw [h]; rfl) | exact fun h => absurd h (by decide) | (intro h1 h2; rw [h1, h2]; rfl)) ?_)
        refine ok_br' (fun c3 => ?_) fun c3 => ?_
        · have hpt : partF x (bt' (hasS x.op.toNat) i.1) = srS ++ fmtW x.c := by unfold partF; rw [show (bt' (hasS x.op.toNat) i.1 == 65) = false from c1, show (bt' (hasS x.op.toNat) i.1 == 66) = false from c2, show (bt' (hasS x.op.toNat) i.1 == 67) = true from c3]; rfl
          refine ok_callf' itoa_call (fits_of rfl rfl trivial fun c _ => ⟨⟨Nat.zero_le _, rfl⟩, ⟨rfl, rfl⟩, trivial⟩) (itoa_local _ hx.c.1 hx.c.2) fun c3 _ => ?_
          ((repeat refine ok_chk' (by first | exact fun h => h | rfl | exact fun _ => rfl | (exact fun h => by rw [h]; rfl) | exact fun h => absurd h (by decide) | (intro h1 h2; rw [h1, h2]; rfl)) ?_); refine ok_chk' (by (have e1 : srS.size = 2 := rfl); have e2 : spS.size = 1 := rfl; have h1 := fmt_size hx.a; have h2 := fmt_size hx.b; have h3 := fmt_size hx.c; have h4 := fmt_size hx.n; have h5 := hx.tg; have h6 := wr_size hx i.1; have h7 : i.1 * 1001 ≤ 3 * 1001 := Nat.mul_le_mul_right _ (Nat.le_trans i.2 (word_size x.op.toNat).2); (try simp only [ByteArray.size_append]); show _ ≤ (9223372036854775807 : Nat); first | omega | (show srS.size + _ ≤ _; omega) | (show spS.size + _ ≤ _; omega) | (show _ + (srS.size + _) ≤ _; omega) | (show _ + (spS.size + _) ≤ _; omega)) ?_; (repeat refine ok_chk' (by first | exact fun h => h | rfl | exact fun _ => rfl | (exact fun h => by rw [h]; rfl) | exact fun h => absurd h (by decide) | (intro h1 h2; rw [h1, h2]; rfl)) ?_); refine ok_chk' (by (have e1 : srS.size = 2 := rfl); have e2 : spS.size = 1 := rfl; have h1 := fmt_size hx.a; have h2 := fmt_size hx.b; have h3 := fmt_size hx.c; have h4 := fmt_size hx.n; have h5 := hx.tg; have h6 := wr_size hx i.1; have h7 : i.1 * 1001 ≤ 3 * 1001 := Nat.mul_le_mul_right _ (Nat.le_trans i.2 (word_size x.op.toNat).2); (try simp only [ByteArray.size_append]); show _ ≤ (9223372036854775807 : Nat); first | omega | (show srS.size + _ ≤ _; omega) | (show spS.size + _ ≤ _; omega) | (show _ + (srS.size + _) ≤ _; omega) | (show _ + (spS.size + _) ≤ _; omega)) ?_; (repeat refine ok_chk' (by first | exact fun h => h | rfl | exact fun _ => rfl | (exact fun h => by rw [h]; rfl) | exact fun h => absurd h (by decide) | (intro h1 h2; rw [h1, h2]; rfl)) ?_); refine ok_some' ⟨i.1 + 1, hi⟩ (ok_chk' (by show (hasS x.op.toNat).size - (i.1 + 1) < (hasS x.op.toNat).size - i.1; omega) (ok_chk' (by show XV.a (.c (.v (.int .i64 (IntKind.wrap .i64 ((i.1 : Int) + 1))))) = _; rw [wrapn (by have := (word_size x.op.toNat).2; omega)]) (ok_chk' (by show XV.a (.c (.v (.string _))) = XV.a (.c (.v (.string (wrF x i.1 ++ partF x (bt' (hasS x.op.toNat) i.1))))); rw [hpt]) ?_))); repeat' first | exact rfl | exact trivial | exact EntRel.box' rfl rfl rfl rfl rfl | exact EntRel.plain rfl rfl rfl rfl (fun h => by cases h) (fun _ _ => ⟨rfl, rfl⟩) (fun _ _ _ _ => ⟨rfl, rfl⟩) | refine ok_chk' ?_ ?_)
        (repeat refine ok_chk' (by first | exact fun h => h | rfl | exact fun _ => rfl | (exact fun h => by rw [h]; rfl) | exact fun h => absurd h (by decide) | (intro h1 h2; rw [h1, h2]; rfl)) ?_)
        refine ok_br' (fun c4 => ?_) fun c4 => ?_
        · have hpt : partF x (bt' (hasS x.op.toNat) i.1) = spS ++ fmtW x.n := by unfold partF; rw [show (bt' (hasS x.op.toNat) i.1 == 65) = false from c1, show (bt' (hasS x.op.toNat) i.1 == 66) = false from c2, show (bt' (hasS x.op.toNat) i.1 == 67) = false from c3, show (bt' (hasS x.op.toNat) i.1 == 78) = true from c4]; rfl
          refine ok_callf' fmt_call (fits_of rfl rfl trivial fun c _ => ⟨⟨Nat.zero_le _, rfl⟩, ⟨rfl, rfl⟩, trivial⟩) (fmt_local _ hx.n.1 hx.n.2) fun c3 _ => ?_
          ((repeat refine ok_chk' (by first | exact fun h => h | rfl | exact fun _ => rfl | (exact fun h => by rw [h]; rfl) | exact fun h => absurd h (by decide) | (intro h1 h2; rw [h1, h2]; rfl)) ?_); refine ok_chk' (by (have e1 : srS.size = 2 := rfl); have e2 : spS.size = 1 := rfl; have h1 := fmt_size hx.a; have h2 := fmt_size hx.b; have h3 := fmt_size hx.c; have h4 := fmt_size hx.n; have h5 := hx.tg; have h6 := wr_size hx i.1; have h7 : i.1 * 1001 ≤ 3 * 1001 := Nat.mul_le_mul_right _ (Nat.le_trans i.2 (word_size x.op.toNat).2); (try simp only [ByteArray.size_append]); show _ ≤ (9223372036854775807 : Nat); first | omega | (show srS.size + _ ≤ _; omega) | (show spS.size + _ ≤ _; omega) | (show _ + (srS.size + _) ≤ _; omega) | (show _ + (spS.size + _) ≤ _; omega)) ?_; (repeat refine ok_chk' (by first | exact fun h => h | rfl | exact fun _ => rfl | (exact fun h => by rw [h]; rfl) | exact fun h => absurd h (by decide) | (intro h1 h2; rw [h1, h2]; rfl)) ?_); refine ok_chk' (by (have e1 : srS.size = 2 := rfl); have e2 : spS.size = 1 := rfl; have h1 := fmt_size hx.a; have h2 := fmt_size hx.b; have h3 := fmt_size hx.c; have h4 := fmt_size hx.n; have h5 := hx.tg; have h6 := wr_size hx i.1; have h7 : i.1 * 1001 ≤ 3 * 1001 := Nat.mul_le_mul_right _ (Nat.le_trans i.2 (word_size x.op.toNat).2); (try simp only [ByteArray.size_append]); show _ ≤ (9223372036854775807 : Nat); first | omega | (show srS.size + _ ≤ _; omega) | (show spS.size + _ ≤ _; omega) | (show _ + (srS.size + _) ≤ _; omega) | (show _ + (spS.size + _) ≤ _; omega)) ?_; (repeat refine ok_chk' (by first | exact fun h => h | rfl | exact fun _ => rfl | (exact fun h => by rw [h]; rfl) | exact fun h => absurd h (by decide) | (intro h1 h2; rw [h1, h2]; rfl)) ?_); refine ok_some' ⟨i.1 + 1, hi⟩ (ok_chk' (by show (hasS x.op.toNat).size - (i.1 + 1) < (hasS x.op.toNat).size - i.1; omega) (ok_chk' (by show XV.a (.c (.v (.int .i64 (IntKind.wrap .i64 ((i.1 : Int) + 1))))) = _; rw [wrapn (by have := (word_size x.op.toNat).2; omega)]) (ok_chk' (by show XV.a (.c (.v (.string _))) = XV.a (.c (.v (.string (wrF x i.1 ++ partF x (bt' (hasS x.op.toNat) i.1))))); rw [hpt]) ?_))); repeat' first | exact rfl | exact trivial | exact EntRel.box' rfl rfl rfl rfl rfl | exact EntRel.plain rfl rfl rfl rfl (fun h => by cases h) (fun _ _ => ⟨rfl, rfl⟩) (fun _ _ _ _ => ⟨rfl, rfl⟩) | refine ok_chk' ?_ ?_)
        · have hpt : partF x (bt' (hasS x.op.toNat) i.1) = spS ++ x.tg := by unfold partF; rw [show (bt' (hasS x.op.toNat) i.1 == 65) = false from c1, show (bt' (hasS x.op.toNat) i.1 == 66) = false from c2, show (bt' (hasS x.op.toNat) i.1 == 67) = false from c3, show (bt' (hasS x.op.toNat) i.1 == 78) = false from c4]; rfl
          ((repeat refine ok_chk' (by first | exact fun h => h | rfl | exact fun _ => rfl | (exact fun h => by rw [h]; rfl) | exact fun h => absurd h (by decide) | (intro h1 h2; rw [h1, h2]; rfl)) ?_); refine ok_chk' (by (have e1 : srS.size = 2 := rfl); have e2 : spS.size = 1 := rfl; have h1 := fmt_size hx.a; have h2 := fmt_size hx.b; have h3 := fmt_size hx.c; have h4 := fmt_size hx.n; have h5 := hx.tg; have h6 := wr_size hx i.1; have h7 : i.1 * 1001 ≤ 3 * 1001 := Nat.mul_le_mul_right _ (Nat.le_trans i.2 (word_size x.op.toNat).2); (try simp only [ByteArray.size_append]); show _ ≤ (9223372036854775807 : Nat); first | omega | (show srS.size + _ ≤ _; omega) | (show spS.size + _ ≤ _; omega) | (show _ + (srS.size + _) ≤ _; omega) | (show _ + (spS.size + _) ≤ _; omega)) ?_; (repeat refine ok_chk' (by first | exact fun h => h | rfl | exact fun _ => rfl | (exact fun h => by rw [h]; rfl) | exact fun h => absurd h (by decide) | (intro h1 h2; rw [h1, h2]; rfl)) ?_); refine ok_chk' (by (have e1 : srS.size = 2 := rfl); have e2 : spS.size = 1 := rfl; have h1 := fmt_size hx.a; have h2 := fmt_size hx.b; have h3 := fmt_size hx.c; have h4 := fmt_size hx.n; have h5 := hx.tg; have h6 := wr_size hx i.1; have h7 : i.1 * 1001 ≤ 3 * 1001 := Nat.mul_le_mul_right _ (Nat.le_trans i.2 (word_size x.op.toNat).2); (try simp only [ByteArray.size_append]); show _ ≤ (9223372036854775807 : Nat); first | omega | (show srS.size + _ ≤ _; omega) | (show spS.size + _ ≤ _; omega) | (show _ + (srS.size + _) ≤ _; omega) | (show _ + (spS.size + _) ≤ _; omega)) ?_; (repeat refine ok_chk' (by first | exact fun h => h | rfl | exact fun _ => rfl | (exact fun h => by rw [h]; rfl) | exact fun h => absurd h (by decide) | (intro h1 h2; rw [h1, h2]; rfl)) ?_); refine ok_some' ⟨i.1 + 1, hi⟩ (ok_chk' (by show (hasS x.op.toNat).size - (i.1 + 1) < (hasS x.op.toNat).size - i.1; omega) (ok_chk' (by show XV.a (.c (.v (.int .i64 (IntKind.wrap .i64 ((i.1 : Int) + 1))))) = _; rw [wrapn (by have := (word_size x.op.toNat).2; omega)]) (ok_chk' (by show XV.a (.c (.v (.string _))) = XV.a (.c (.v (.string (wrF x i.1 ++ partF x (bt' (hasS x.op.toNat) i.1))))); rw [hpt]) ?_))); repeat' first | exact rfl | exact trivial | exact EntRel.box' rfl rfl rfl rfl rfl | exact EntRel.plain rfl rfl rfl rfl (fun h => by cases h) (fun _ _ => ⟨rfl, rfl⟩) (fun _ _ _ _ => ⟨rfl, rfl⟩) | refine ok_chk' ?_ ?_)
      · have hi : i.1 = (hasS x.op.toNat).size := by
          have h := of_decide_eq_false hi
          have := i.2
          omega
        exact ok_leaf (fun _ => 0) [] [] trivial (by show XV.a (sv' (wrF x i.1)) = XV.a (sv' (writtenF x)); rw [hw, hi]) trivial rfl
  · have h2' : decide (x.op < 1) = true := not_f h2
    refine ok_chk' (fun h => by rw [h2] at h; cases h) (ok_chk' (fun h => by rw [h2] at h; cases h) (ok_chk' h2' ?_))
    repeat refine ok_chk' (by first | exact fun h => h | rfl | exact fun _ => rfl | (exact fun h => by rw [h]; rfl) | exact fun h => absurd h (by decide) | (intro h1 h2; rw [h1, h2]; rfl)) ?_
    exact ok_leaf (fun _ => 0) [] [] trivial (by show _ = XV.a (sv' (writtenF x)); unfold writtenF; rw [h1, h2']; rfl) trivial rfl
end Go.Proofs.YtjbnkdpeohbakaaDoor.X.Ip

set_option linter.unusedVariables false
set_option linter.unusedSimpArgs false
namespace Go.Proofs.YtjbnkdpeohbakaaDoor.X.Ip
open Go Go.RowKit Go.Proofs.YtjbnkdpeohbakaaDoorW.PrintWords Go.Proofs.YtjbnkdpeohbakaaDoor.Base Go.Proofs.YtjbnkdpeohbakaaDoor.X
abbrev printE (x : Ln) (o : Option ByteArray) (k : Nat) : CallSpec := mSpec [] k [x.av] [] (fun _ => True) (fun _ => printX o) fun _ => [Ent.dead]
theorem print_local (x : Ln) (k : Nat) (hx : x.Wf) {o : Option ByteArray} (h : printF x = o) : (printE x o k).Local Tryd.prog 11 := by
  have hs := written_size hx
  cases hp : parseF (writtenF x) with
  | none =>
    obtain rfl : o = none := by rw [← h]; unfold printF; rw [hp]
    refine local_ofP Tryd.func11 rfl (tprintN_eq x) fun ν w => ?_
    refine ok_callf' written_call (fits_of rfl rfl trivial fun c _ => ⟨⟨Nat.zero_le _, rfl⟩, ⟨rfl, rfl⟩, trivial⟩) (written_local x hx) fun c _ => ?_
    repeat refine ok_chk' (by first | exact fun h => h | rfl | exact fun _ => rfl | (exact fun h => by rw [h]; rfl) | exact fun h => absurd h (by decide) | (intro h1 h2; rw [h1, h2]; rfl)) ?_
    refine ok_callf' parse_call (fits_of rfl rfl trivial fun c _ => ⟨⟨Nat.zero_le _, rfl⟩, ⟨rfl, rfl⟩, trivial⟩) (parseD_local _ (by omega) hp) fun c2 _ => ?_
    repeat refine ok_chk' (by first | exact fun h => h | rfl | exact fun _ => rfl | (exact fun h => by rw [h]; rfl) | exact fun h => absurd h (by decide) | (intro h1 h2; rw [h1, h2]; rfl)) ?_
    exact ok_leaf (fun _ => 0) [] [0] trivial rfl ⟨⟨_, rfl, EntRel.dead⟩, trivial⟩ rfl
  | some m =>
    have hF : printF x = bif eqL m x then some (writtenF x) else none := by unfold printF; rw [hp]
    refine local_ofP Tryd.func11 rfl (tprint_eq x m) fun ν w => ?_
    refine ok_callf' written_call (fits_of rfl rfl trivial fun c _ => ⟨⟨Nat.zero_le _, rfl⟩, ⟨rfl, rfl⟩, trivial⟩) (written_local x hx) fun c _ => ?_
    repeat refine ok_chk' (by first | exact fun h => h | rfl | exact fun _ => rfl | (exact fun h => by rw [h]; rfl) | exact fun h => absurd h (by decide) | (intro h1 h2; rw [h1, h2]; rfl)) ?_
    refine ok_callf' parse_call (fits_of rfl rfl trivial fun c _ => ⟨⟨Nat.zero_le _, rfl⟩, ⟨rfl, rfl⟩, trivial⟩) (parseD_local _ (by omega) hp) fun c2 _ => ?_
    repeat refine ok_chk' (by first | exact fun h => h | rfl | exact fun _ => rfl | (exact fun h => by rw [h]; rfl) | exact fun h => absurd h (by decide) | (intro h1 h2; rw [h1, h2]; rfl)) ?_
    refine ok_br' (fun h1 => ?_) fun h1 => ?_
    · have h1 : (!(eqL m x)) = true := h1
      obtain rfl : o = none := by rw [← h, hF, not_t h1]; rfl
      exact ok_leaf (fun _ => 0) [] [0] trivial rfl ⟨⟨_, rfl, EntRel.dead⟩, trivial⟩ rfl
    · have h1 : (!(eqL m x)) = false := h1
      obtain rfl : o = some (writtenF x) := by rw [← h, hF, not_f h1]; rfl
      exact ok_leaf (fun _ => 0) [] [0] trivial rfl ⟨⟨_, rfl, EntRel.dead⟩, trivial⟩ rfl
end Go.Proofs.YtjbnkdpeohbakaaDoor.X.Ip

set_option linter.unusedVariables false
set_option linter.unusedSimpArgs false
namespace Go.Proofs.YtjbnkdpeohbakaaDoor.X.Ip
open Go Go.RowKit Go.Proofs.YtjbnkdpeohbakaaDoorW.PrintWords Go.Proofs.YtjbnkdpeohbakaaDoor.Base Go.Proofs.YtjbnkdpeohbakaaDoor.X
theorem reg_in {s : ByteArray} (h : (regF s).2 = true) : 0 ≤ (regF s).1 ∧ (regF s).1 < 16 := by
  have h' : (bif (bif (bif (bif hpreF s rS then (numF (tpreW s rS)).2 else false) then decide ((numF (tpreW s rS)).1 ≥ 0) else false) then decide ((numF (tpreW s rS)).1 < 16) else false) then (tpreW s rS).toList == (fmtW (numF (tpreW s rS)).1).toList else false) = true := h
  show 0 ≤ (numF (tpreW s rS)).1 ∧ (numF (tpreW s rS)).1 < 16
  generalize hv : (numF (tpreW s rS)).1 = v at h' ⊢
  cases h1 : (bif hpreF s rS then (numF (tpreW s rS)).2 else false) with
  | false => rw [h1] at h'; cases h'
  | true =>
    rw [h1, cond_true] at h'
    cases h2 : decide (v ≥ 0) with
    | false => rw [h2] at h'; cases h'
    | true =>
      rw [h2, cond_true] at h'
      cases h3 : decide (v < 16) with
      | false => rw [h3] at h'; cases h'
      | true => exact ⟨of_decide_eq_true h2, of_decide_eq_true h3⟩
theorem pars_in {l bare : List UInt8} (hb : bare = Lib.trimPrefix l [45]) (h1 : 1 ≤ bare.length) (h2 : bare.length ≤ 18) (hd : ∀ c ∈ bare, c ∈ digS.data.toList) : ∃ v, Lib.parseIntB 64 l = .ok v ∧ -999999999999999999 ≤ v ∧ v ≤ 999999999999999999 := by
  rw [Lib.parseIntB_64]
  have hdig : ∀ c ∈ bare, c.toNat ≠ 43 ∧ c.toNat ≠ 45 := fun c hc => by
    have hb : c ∈ ([48, 49, 50, 51, 52, 53, 54, 55, 56, 57] : List UInt8) := hd c hc
    simp only [List.mem_cons, List.not_mem_nil, or_false] at hb
    rcases hb with rfl | rfl | rfl | rfl | rfl | rfl | rfl | rfl | rfl | rfl <;> decide
  obtain ⟨m, hm⟩ := dec_some bare 0 hd
  have hne : bare ≠ [] := fun e => by rw [e] at h1; simp at h1
  have hdn : Lib.decNat bare = some m := by
    unfold Lib.decNat
    rw [if_neg (by simpa using hne)]
    exact hm
  have hmag := Lib.parseMag_short bare h2
  rw [hdn] at hmag
  have hlt : m < 1000000000000000000 := by
    have h3 := Lib.decFrom_lt bare 0 m hm
    have h4 : 10 ^ bare.length ≤ 10 ^ 18 := Nat.pow_le_pow_right (by decide) h2
    have h5 : (10 : Nat) ^ 18 = 1000000000000000000 := by decide
    omega
  have hmag : Lib.parseMag bare = .ok m := hmag
  unfold Lib.trimPrefix Lib.hasPrefix at hb
  match l, hb with
  | [], hb => exact absurd (by rw [hb]; rfl) hne
  | c :: r, hb =>
    by_cases hc : c = 45
    · subst hc
      have hb : bare = r := by rw [hb]; simp
      subst hb
      refine ⟨-(m : Int), ?_, by omega, by omega⟩
      unfold Lib.atoiAll
      have hn : ¬ 9223372036854775808 < m := by omega
      simp [hmag, hn]
    · have hb : bare = c :: r := by rw [hb]; simp [List.isPrefixOf, Ne.symm hc]
      have hc2 := hdig c (by rw [hb]; exact List.mem_cons_self)
      refine ⟨(m : Int), ?_, by omega, by omega⟩
      rw [hb] at hmag
      unfold Lib.atoiAll
      have hn : ¬ 9223372036854775808 ≤ m := by omega
      simp [hc2, hmag, hn]
theorem num_in (s : ByteArray) : -999999999999999999 ≤ (numF s).1 ∧ (numF s).1 ≤ 999999999999999999 := by
  unfold numF
  cases h : nonumF s with
  | true => rw [cond_true]; exact ⟨by decide, by decide⟩
  | false =>
    rw [cond_false]
    show -999999999999999999 ≤ valF s ∧ valF s ≤ 999999999999999999
    unfold nonumF at h
    cases h1 : (bif decide (((tpreW s minS).size : Int) < 1) then true else decide (((tpreW s minS).size : Int) > 18)) with
    | true => rw [h1] at h; cases h
    | false =>
      rw [h1, cond_false] at h
      have ht : trimW (tpreW s minS) digS = ByteArray.empty := (str_eq _ _).1 (not_f h)
      simp at h1
      have hsz : (tpreW s minS).size = (Lib.trimPrefix s.data.toList [45]).length := bs_size _
      have ht2 : Lib.trimS (Lib.trimPrefix s.data.toList [45]) digS.data.toList = [] := by
        have e := congrArg (fun b : ByteArray => b.data.toList) ht
        exact e
      obtain ⟨v, hv, hl⟩ := pars_in rfl (by omega) (by omega) (mem_of_trim ht2)
      unfold valF
      rw [hv]
      exact hl
theorem regs_in {v : Int} (h : 0 ≤ v ∧ v < 16) : inF v = true := by
  unfold inF
  rw [show decide (v ≥ 0) = true from decide_eq_true h.1]
  exact decide_eq_true h.2
structure Ln.Has (x : Ln) (i : Nat) (u : Bool × Bool × Bool × Bool) : Prop where
  op : x.op = i
  a : u.1 = false → x.a = 0
  b : u.2.1 = false → x.b = 0
  c : u.2.2.1 = false → x.c = 0
  n : u.2.2.2 = false → x.n = 0
  ia : inF x.a = true
  ib : inF x.b = true
  ic : inF x.c = true
  nn : -999999999999999999 ≤ x.n ∧ x.n ≤ 999999999999999999
def addU (u : Bool × Bool × Bool × Bool) (w : Int) : Bool × Bool × Bool × Bool :=
  bif w == 65 then (true, u.2) else bif w == 66 then (u.1, true, u.2.2) else bif w == 67 then (u.1, u.2.1, true, u.2.2.2) else bif w == 78 then (u.1, u.2.1, u.2.2.1, true) else u
theorem field_has {x : Ln} {i : Nat} {u : Bool × Bool × Bool × Bool} (h : x.Has i u) (w : Int) (s : ByteArray) (h2 : (fieldF x w s).2 = true) : (fieldF x w s).1.Has i (addU u w) := by
  unfold fieldF at h2 ⊢
  unfold addU
  cases h65 : (w == 65) with
  | true =>
    rw [h65] at h2
    exact ⟨h.op, (fun e => by cases e), h.b, h.c, h.n, regs_in (reg_in h2), h.ib, h.ic, h.nn⟩
  | false =>
    rw [h65] at h2
    cases h66 : (w == 66) with
    | true =>
      rw [h66] at h2
      exact ⟨h.op, h.a, (fun e => by cases e), h.c, h.n, h.ia, regs_in (reg_in h2), h.ic, h.nn⟩
    | false =>
      rw [h66] at h2
      cases h67 : (w == 67) with
      | true =>
        rw [h67] at h2
        exact ⟨h.op, h.a, h.b, (fun e => by cases e), h.n, h.ia, h.ib, regs_in (reg_in h2), h.nn⟩
      | false =>
        rw [h67] at h2
        cases h78 : (w == 78) with
        | true => exact ⟨h.op, h.a, h.b, h.c, (fun e => by cases e), h.ia, h.ib, h.ic, num_in s⟩
        | false => exact ⟨h.op, h.a, h.b, h.c, h.n, h.ia, h.ib, h.ic, h.nn⟩
def allU (has : ByteArray) : Nat → Nat → Bool × Bool × Bool × Bool → Bool × Bool × Bool × Bool
  | 0, _, u => u
  | f + 1, j, u => allU has f (j + 1) (addU u (bt' has j))
theorem fields_has (has : ByteArray) (ws : List ByteArray) {i : Nat} : ∀ (f j : Nat) (x y : Ln) (u : Bool × Bool × Bool × Bool), x.Has i u → fieldsF has ws f j x = some y → y.Has i (allU has f j u)
  | 0, j, x, y, u, h, e => by
    cases e
    exact h
  | f + 1, j, x, y, u, h, e => by
    have e : (bif (fieldF x (bt' has j) (ws.getD (j + 1) ByteArray.empty)).2 then fieldsF has ws f (j + 1) (fieldF x (bt' has j) (ws.getD (j + 1) ByteArray.empty)).1 else none) = some y := e
    cases h2 : (fieldF x (bt' has j) (ws.getD (j + 1) ByteArray.empty)).2 with
    | false => rw [h2] at e; cases e
    | true =>
      rw [h2, cond_true] at e
      exact fields_has has ws f (j + 1) _ y _ (field_has h _ _ h2) e
theorem ba_eq {a b : ByteArray} (h : (a == b) = true) : a = b := by
  cases a with
  | mk d =>
    cases b with
    | mk e =>
      have h : (d == e) = true := h
      rw [eq_of_beq h]
theorem eqL_of {x y : Ln} (h : eqL x y = true) : x = y := by
  unfold eqL at h
  simp only [Bool.and_eq_true] at h
  obtain ⟨h1, ⟨h2, h3, h4, h5, h6⟩, h7⟩ := h
  cases x
  cases y
  simp only at h1 h2 h3 h4 h5 h6 h7
  rw [ba_eq h1, eq_of_beq h2, eq_of_beq h3, eq_of_beq h4, eq_of_beq h5, eq_of_beq h6, ba_eq h7]
theorem eqL_self (x : Ln) : eqL x x = true := by
  unfold eqL
  simp only [beq_self_eq_true, ba_beq, Bool.and_true]
theorem print_back {x : Ln} {s : ByteArray} (h : printF x = some s) : s = writtenF x ∧ parseF s = some x := by
  unfold printF at h
  cases hp : parseF (writtenF x) with
  | none => rw [hp] at h; cases h
  | some m =>
    rw [hp] at h
    cases he : eqL m x with
    | false =>
      have h : (bif eqL m x then some (writtenF x) else none) = some s := h
      rw [he] at h
      cases h
    | true =>
      have h : (bif eqL m x then some (writtenF x) else none) = some s := h
      rw [he] at h
      cases h
      refine ⟨rfl, ?_⟩
      rw [hp, eqL_of he]
end Go.Proofs.YtjbnkdpeohbakaaDoor.X.Ip

set_option linter.unusedVariables false
set_option linter.unusedSimpArgs false
namespace Go.Proofs.YtjbnkdpeohbakaaDoor.X.Ip
open Go Go.RowKit Go.Proofs.YtjbnkdpeohbakaaDoorW.PrintWords Go.Proofs.YtjbnkdpeohbakaaDoor.Base Go.Proofs.YtjbnkdpeohbakaaDoor.X
structure Ln.Wi (x : Ln) : Prop where
  op : I64 x.op
  a : I64 x.a
  b : I64 x.b
  c : I64 x.c
  n : I64 x.n
theorem Ln.Wi.wf {x : Ln} (h : x.Wi) (h1 : x.lb.size ≤ 1000) (h2 : x.tg.size ≤ 1000) : x.Wf := ⟨h1, h2, h.op, h.a, h.b, h.c, h.n⟩
end Go.Proofs.YtjbnkdpeohbakaaDoor.X.Ip

set_option linter.unusedVariables false
set_option linter.unusedSimpArgs false
namespace Go.Proofs.YtjbnkdpeohbakaaDoor.X.Ip
open Go Go.RowKit Go.Proofs.YtjbnkdpeohbakaaDoorW.PrintWords Go.Proofs.YtjbnkdpeohbakaaDoor.Base Go.Proofs.YtjbnkdpeohbakaaDoor.X Go.Proofs.YtjbnkdpeohbakaaDoor.Open
abbrev InT : Type := Int × Int × Int × Int × Int
abbrev LnT : Type := ByteArray × InT × ByteArray
abbrev kdIns : Kd InT := Kd.pair kdI (Kd.pair kdI (Kd.pair kdI (Kd.pair kdI kdI)))
abbrev kdLn : Kd LnT := Kd.pair Kd.string (Kd.pair kdIns Kd.string)
abbrev WfT (x : LnT) : Prop := X.wfI x.2.1.1 ∧ X.wfI x.2.1.2.1 ∧ X.wfI x.2.1.2.2.1 ∧ X.wfI x.2.1.2.2.2.1 ∧ X.wfI x.2.1.2.2.2.2
theorem opensI : Opens Tryd.prog 3 kdI X.wfI := opens_int Tryd.underlying3
theorem opensI64 : Opens Tryd.prog 2 kdI X.wfI := opens_int Tryd.underlying2
theorem opensIns : Opens Tryd.prog 24 kdIns (fun x => X.wfI x.1 ∧ X.wfI x.2.1 ∧ X.wfI x.2.2.1 ∧ X.wfI x.2.2.2.1 ∧ X.wfI x.2.2.2.2) :=
  opens_struct Tryd.underlying24 (by kernel_rfl) (opensF_cons opensI rfl (by kernel_rfl) (opensF_cons opensI rfl (by kernel_rfl) (opensF_cons opensI rfl (by kernel_rfl) (opensF_cons opensI rfl (by kernel_rfl) (opensF_one opensI64 rfl (by kernel_rfl))))))
theorem opensLn : Opens Tryd.prog 26 kdLn WfT :=
  opens_wf (opens_struct Tryd.underlying26 (by kernel_rfl) (opensF_cons (opens_string Tryd.underlying9) rfl (by kernel_rfl) (opensF_cons opensIns rfl (by kernel_rfl) (opensF_one (opens_string Tryd.underlying9) rfl (by kernel_rfl))))) fun _ h => h.2.1
def Ln.ofK (x : LnT) : Ln := ⟨x.1, x.2.1.1, x.2.1.2.1, x.2.1.2.2.1, x.2.1.2.2.2.1, x.2.1.2.2.2.2, x.2.2⟩
theorem agg_of {cs : Array Value} {l : List Value} (h : cs.toList = l) : Value.agg cs = .agg l.toArray := by rw [← h]
theorem ln_open {W : World} {x : LnT} {cs : Array Value} (h : kdLn.K W x cs.toList) (ν : Val) : Value.agg cs = (Ln.ofK x).av.den ν := by
  obtain ⟨c0, c1, he, rfl, d0, d1, rfl, hI, rfl⟩ := h
  obtain ⟨e0, e1, rfl, rfl, f0, f1, rfl, rfl, g0, g1, rfl, rfl, h0, h1, rfl, rfl, rfl⟩ := hI
  exact agg_of he
theorem wi_of {x : LnT} (h : WfT x) : (Ln.ofK x).Wi := ⟨int_in h.1, int_in h.2.1, int_in h.2.2.1, int_in h.2.2.2.1, int_in h.2.2.2.2⟩
end Go.Proofs.YtjbnkdpeohbakaaDoor.X.Ip

set_option linter.unusedVariables false
set_option linter.unusedSimpArgs false
namespace Go.Proofs.YtjbnkdpeohbakaaDoor.X.Ip
open Go Go.RowKit Go.Proofs.YtjbnkdpeohbakaaDoorW.PrintWords Go.Proofs.YtjbnkdpeohbakaaDoor.Base Go.Proofs.YtjbnkdpeohbakaaDoor.X
def backG (l : Ln) (s : ByteArray) (o2 : Option Ln) (m : Ln) (t : ByteArray) : Ctr := fun f args H => match args with
  | [] => some upC
  | [.agg a] => match H with
    | [_] => some (printE l (some s) 1)
    | _ => some (printE m (some t) H.length)
  | [.c (.v (.string u))] => match H with
    | [_, _] => some (parseD u (some l))
    | [_, _, _] => some (parseD u (some l))
    | [_, _, _, _] => some (parseD u o2)
    | _ => some (parseD u (some m))
  | _ => none
def backN (l : Ln) (o2 : Option Ln) (m : Ln) (t : ByteArray) : Ctr := fun f args H => match args with
  | [] => some upC
  | [.agg a] => match H with
    | [_] => some (printE l none 1)
    | _ => some (printE m (some t) H.length)
  | [.c (.v (.string u))] => match H with
    | [_, _] => some (parseD u o2)
    | _ => some (parseD u (some m))
  | _ => none
abbrev tbkYY_0 : Ln → List CV :=
  fun l => [CV.v (Value.string l.1), CV.v (Value.int IntKind.i64 l.2), CV.v (Value.int IntKind.i64 l.3), CV.v (Value.int IntKind.i64 l.4), CV.v (Value.int IntKind.i64 l.5), CV.v (Value.int IntKind.i64 l.6), CV.v (Value.string l.7)]
abbrev tbkYY_1 : Ln → Ent :=
  fun l => { own := true, box := true, ty := 26, sz := 7, m := 1, n := fun x => 1, cap := fun x => 1, f := fun x x_1 => tbkYY_0 l, ov := [] }
abbrev tbkYY_2 : Ln → List Ent :=
  fun l => [tbkYY_1 l]
abbrev tbkYY_3 : Ln → List AV :=
  fun l => [AV.agg (tbkYY_0 l)]
def tbkYY (l : Ln) (line s : ByteArray) (m : Ln) (t : ByteArray) : Tree :=
  Tree.callf 8 [] (tbkYY_2 l) upC fun c => Tree.chk ((!decide ((↑(ByteArray.size l.1) : Int) > (1000 : Int))) = true → (!decide ((↑(ByteArray.size l.1) : Int) > (1000 : Int))) = true)
 (Tree.chk ((!decide ((↑(ByteArray.size l.1) : Int) > (1000 : Int))) = true → (!decide ((↑(ByteArray.size l.1) : Int) > (1000 : Int))) = true)
 (Tree.chk ((!decide ((↑(ByteArray.size l.1) : Int) > (1000 : Int))) = true → (!decide ((↑(ByteArray.size l.1) : Int) > (1000 : Int))) = true)
 (Tree.chk (decide ((↑(ByteArray.size l.1) : Int) > (1000 : Int)) = false → (!decide ((↑(ByteArray.size l.1) : Int) > (1000 : Int))) = true)
 (Tree.chk ((!bif decide ((↑(ByteArray.size l.1) : Int) > (1000 : Int)) then true else decide ((↑(ByteArray.size l.7) : Int) > (1000 : Int))) = true → (!bif decide ((↑(ByteArray.size l.1) : Int) > (1000 : Int)) then true else decide ((↑(ByteArray.size l.7) : Int) > (1000 : Int))) = true)
 (Tree.chk ((!bif decide ((↑(ByteArray.size l.1) : Int) > (1000 : Int)) then true else decide ((↑(ByteArray.size l.7) : Int) > (1000 : Int))) = true → (!bif decide ((↑(ByteArray.size l.1) : Int) > (1000 : Int)) then true else decide ((↑(ByteArray.size l.7) : Int) > (1000 : Int))) = true)
 (Tree.chk ((bif decide ((↑(ByteArray.size l.1) : Int) > (1000 : Int)) then true else decide ((↑(ByteArray.size l.7) : Int) > (1000 : Int))) = false → (!bif decide ((↑(ByteArray.size l.1) : Int) > (1000 : Int)) then true else decide ((↑(ByteArray.size l.7) : Int) > (1000 : Int))) = true)
 (Tree.br (bif bif decide ((↑(ByteArray.size l.1) : Int) > (1000 : Int)) then true else decide ((↑(ByteArray.size l.7) : Int) > (1000 : Int)) then true else decide ((↑(ByteArray.size line) : Int) > (1000 : Int)))
 (Tree.done (XV.a (AV.c (CV.v (Value.bool true)))) [Ent.dead])
 (Tree.callf 11 (tbkYY_3 l) (tbkYY_2 l) (printE l (some s) 1) fun c => Tree.chk (true = true)
 (Tree.callf 9 [AV.c (CV.v (Value.string s))] [tbkYY_1 l, Ent.dead] (parseD s (some l)) fun c => Tree.chk (ByteArray.size { data := #[(32 : UInt8), (9 : UInt8)] } + ByteArray.size s ≤ 9223372036854775807)
 (Tree.chk (ByteArray.size ({ data := #[(32 : UInt8), (9 : UInt8)] } ++ s) + ByteArray.size { data := #[(32 : UInt8)] } ≤ 9223372036854775807)
 (Tree.callf 9 [AV.c (CV.v (Value.string ({ data := #[(32 : UInt8), (9 : UInt8)] } ++ s ++ { data := #[(32 : UInt8)] })))] [tbkYY_1 l, Ent.dead, tbkYY_1 l] (parseD ({ data := #[(32 : UInt8), (9 : UInt8)] } ++ s ++ { data := #[(32 : UInt8)] }) (some l)) fun c => Tree.chk (true = true → true = true)
 (Tree.chk (false = false → true = true)
 (Tree.chk (true = true → true = true)
 (Tree.chk (true = true → true = true)
 (Tree.chk (false = false → true = true)
 (Tree.chk ((!bif bif !true then true else !true then true else !(l.1 == l.1 && (l.2 == l.2 && (l.3 == l.3 && (l.4 == l.4 && (l.5 == l.5 && l.6 == l.6))) && l.7 == l.7))) = true → (!bif bif !true then true else !true then true else !(l.1 == l.1 && (l.2 == l.2 && (l.3 == l.3 && (l.4 == l.4 && (l.5 == l.5 && l.6 == l.6))) && l.7 == l.7))) = true)
 (Tree.chk ((!bif bif !true then true else !true then true else !(l.1 == l.1 && (l.2 == l.2 && (l.3 == l.3 && (l.4 == l.4 && (l.5 == l.5 && l.6 == l.6))) && l.7 == l.7))) = true → (!bif bif !true then true else !true then true else !(l.1 == l.1 && (l.2 == l.2 && (l.3 == l.3 && (l.4 == l.4 && (l.5 == l.5 && l.6 == l.6))) && l.7 == l.7))) = true)
 (Tree.chk ((bif bif !true then true else !true then true else !(l.1 == l.1 && (l.2 == l.2 && (l.3 == l.3 && (l.4 == l.4 && (l.5 == l.5 && l.6 == l.6))) && l.7 == l.7))) = false → (!bif bif !true then true else !true then true else !(l.1 == l.1 && (l.2 == l.2 && (l.3 == l.3 && (l.4 == l.4 && (l.5 == l.5 && l.6 == l.6))) && l.7 == l.7))) = true)
 (Tree.br (bif bif bif !true then true else !true then true else !(l.1 == l.1 && (l.2 == l.2 && (l.3 == l.3 && (l.4 == l.4 && (l.5 == l.5 && l.6 == l.6))) && l.7 == l.7)) then true else !(l.1 == l.1 && (l.2 == l.2 && (l.3 == l.3 && (l.4 == l.4 && (l.5 == l.5 && l.6 == l.6))) && l.7 == l.7)))
 (Tree.done (XV.a (AV.c (CV.v (Value.bool false)))) [Ent.dead, Ent.dead, Ent.dead, Ent.dead])
 (Tree.callf 9 [AV.c (CV.v (Value.string line))] [tbkYY_1 l, Ent.dead, tbkYY_1 l, tbkYY_1 l] (parseD line (some m)) fun c => Tree.chk (false = false)
 (Tree.callf 11 (tbkYY_3 m) [tbkYY_1 l, Ent.dead, tbkYY_1 l, tbkYY_1 l, tbkYY_1 m] (printE m (some t) 5) fun c => Tree.callf 9 [AV.c (CV.v (Value.string t))] [tbkYY_1 l, Ent.dead, tbkYY_1 l, tbkYY_1 l, tbkYY_1 m, Ent.dead] (parseD t (some m)) fun c => Tree.chk (true = true → true = true)
 (Tree.chk (true = true → true = true)
 (Tree.chk (true = true → true = true)
 (Tree.chk (true = true → true = true)
 (Tree.chk (true = true → true = true)
 (Tree.chk (true = true → true = true)
 (Tree.chk (true = true → true = true)
 (Tree.done (XV.a (AV.c (CV.v (Value.bool (m.1 == m.1 && (m.2 == m.2 && (m.3 == m.3 && (m.4 == m.4 && (m.5 == m.5 && m.6 == m.6))) && m.7 == m.7)))))) [Ent.dead, Ent.dead, Ent.dead, Ent.dead, Ent.dead, Ent.dead, Ent.dead]))))))))))))))))))))))))))))
theorem tbkYY_eq (l : Ln) (line s : ByteArray) (m : Ln) (t : ByteArray) : prune (.cs 8 (.n .k (.cs 1 (.l (.cs 12 (.n .k (.cs 1 (.r .k)))))))) (xfunc tab (backG l s (some m) m t) noInv Go.Proofs.Tryd.f6 [l.av, sv' line] [] []) = tbkYY l line s m t := by kernel_rfl
abbrev tbkYN_0 : Ln → List CV :=
  fun l => [CV.v (Value.string l.1), CV.v (Value.int IntKind.i64 l.2), CV.v (Value.int IntKind.i64 l.3), CV.v (Value.int IntKind.i64 l.4), CV.v (Value.int IntKind.i64 l.5), CV.v (Value.int IntKind.i64 l.6), CV.v (Value.string l.7)]
abbrev tbkYN_1 : Ln → Ent :=
  fun l => { own := true, box := true, ty := 26, sz := 7, m := 1, n := fun x => 1, cap := fun x => 1, f := fun x x_1 => tbkYN_0 l, ov := [] }
abbrev tbkYN_2 : Ln → List Ent :=
  fun l => [tbkYN_1 l]
def tbkYN (l : Ln) (line s : ByteArray) : Tree :=
  Tree.callf 8 [] (tbkYN_2 l) upC fun c => Tree.chk ((!decide ((↑(ByteArray.size l.1) : Int) > (1000 : Int))) = true → (!decide ((↑(ByteArray.size l.1) : Int) > (1000 : Int))) = true)
 (Tree.chk ((!decide ((↑(ByteArray.size l.1) : Int) > (1000 : Int))) = true → (!decide ((↑(ByteArray.size l.1) : Int) > (1000 : Int))) = true)
 (Tree.chk ((!decide ((↑(ByteArray.size l.1) : Int) > (1000 : Int))) = true → (!decide ((↑(ByteArray.size l.1) : Int) > (1000 : Int))) = true)
 (Tree.chk (decide ((↑(ByteArray.size l.1) : Int) > (1000 : Int)) = false → (!decide ((↑(ByteArray.size l.1) : Int) > (1000 : Int))) = true)
 (Tree.chk ((!bif decide ((↑(ByteArray.size l.1) : Int) > (1000 : Int)) then true else decide ((↑(ByteArray.size l.7) : Int) > (1000 : Int))) = true → (!bif decide ((↑(ByteArray.size l.1) : Int) > (1000 : Int)) then true else decide ((↑(ByteArray.size l.7) : Int) > (1000 : Int))) = true)
 (Tree.chk ((!bif decide ((↑(ByteArray.size l.1) : Int) > (1000 : Int)) then true else decide ((↑(ByteArray.size l.7) : Int) > (1000 : Int))) = true → (!bif decide ((↑(ByteArray.size l.1) : Int) > (1000 : Int)) then true else decide ((↑(ByteArray.size l.7) : Int) > (1000 : Int))) = true)
 (Tree.chk ((bif decide ((↑(ByteArray.size l.1) : Int) > (1000 : Int)) then true else decide ((↑(ByteArray.size l.7) : Int) > (1000 : Int))) = false → (!bif decide ((↑(ByteArray.size l.1) : Int) > (1000 : Int)) then true else decide ((↑(ByteArray.size l.7) : Int) > (1000 : Int))) = true)
 (Tree.br (bif bif decide ((↑(ByteArray.size l.1) : Int) > (1000 : Int)) then true else decide ((↑(ByteArray.size l.7) : Int) > (1000 : Int)) then true else decide ((↑(ByteArray.size line) : Int) > (1000 : Int)))
 (Tree.done (XV.a (AV.c (CV.v (Value.bool true)))) [Ent.dead])
 (Tree.callf 11 [AV.agg (tbkYN_0 l)] (tbkYN_2 l) (printE l (some s) 1) fun c => Tree.chk (true = true)
 (Tree.callf 9 [AV.c (CV.v (Value.string s))] [tbkYN_1 l, Ent.dead] (parseD s (some l)) fun c => Tree.chk (ByteArray.size { data := #[(32 : UInt8), (9 : UInt8)] } + ByteArray.size s ≤ 9223372036854775807)
 (Tree.chk (ByteArray.size ({ data := #[(32 : UInt8), (9 : UInt8)] } ++ s) + ByteArray.size { data := #[(32 : UInt8)] } ≤ 9223372036854775807)
 (Tree.callf 9 [AV.c (CV.v (Value.string ({ data := #[(32 : UInt8), (9 : UInt8)] } ++ s ++ { data := #[(32 : UInt8)] })))] [tbkYN_1 l, Ent.dead, tbkYN_1 l] (parseD ({ data := #[(32 : UInt8), (9 : UInt8)] } ++ s ++ { data := #[(32 : UInt8)] }) (some l)) fun c => Tree.chk (true = true → true = true)
 (Tree.chk (false = false → true = true)
 (Tree.chk (true = true → true = true)
 (Tree.chk (true = true → true = true)
 (Tree.chk (false = false → true = true)
 (Tree.chk ((!bif bif !true then true else !true then true else !(l.1 == l.1 && (l.2 == l.2 && (l.3 == l.3 && (l.4 == l.4 && (l.5 == l.5 && l.6 == l.6))) && l.7 == l.7))) = true → (!bif bif !true then true else !true then true else !(l.1 == l.1 && (l.2 == l.2 && (l.3 == l.3 && (l.4 == l.4 && (l.5 == l.5 && l.6 == l.6))) && l.7 == l.7))) = true)
 (Tree.chk ((!bif bif !true then true else !true then true else !(l.1 == l.1 && (l.2 == l.2 && (l.3 == l.3 && (l.4 == l.4 && (l.5 == l.5 && l.6 == l.6))) && l.7 == l.7))) = true → (!bif bif !true then true else !true then true else !(l.1 == l.1 && (l.2 == l.2 && (l.3 == l.3 && (l.4 == l.4 && (l.5 == l.5 && l.6 == l.6))) && l.7 == l.7))) = true)
 (Tree.chk ((bif bif !true then true else !true then true else !(l.1 == l.1 && (l.2 == l.2 && (l.3 == l.3 && (l.4 == l.4 && (l.5 == l.5 && l.6 == l.6))) && l.7 == l.7))) = false → (!bif bif !true then true else !true then true else !(l.1 == l.1 && (l.2 == l.2 && (l.3 == l.3 && (l.4 == l.4 && (l.5 == l.5 && l.6 == l.6))) && l.7 == l.7))) = true)
 (Tree.br (bif bif bif !true then true else !true then true else !(l.1 == l.1 && (l.2 == l.2 && (l.3 == l.3 && (l.4 == l.4 && (l.5 == l.5 && l.6 == l.6))) && l.7 == l.7)) then true else !(l.1 == l.1 && (l.2 == l.2 && (l.3 == l.3 && (l.4 == l.4 && (l.5 == l.5 && l.6 == l.6))) && l.7 == l.7)))
 (Tree.done (XV.a (AV.c (CV.v (Value.bool false)))) [Ent.dead, Ent.dead, Ent.dead, Ent.dead])
 (Tree.callf 9 [AV.c (CV.v (Value.string line))] [tbkYN_1 l, Ent.dead, tbkYN_1 l, tbkYN_1 l] (parseD line none) fun c => Tree.chk (true = true)
 (Tree.done (XV.a (AV.c (CV.v (Value.bool true)))) [Ent.dead, Ent.dead, Ent.dead, Ent.dead, Ent.dead])))))))))))))))))))))
theorem tbkYN_eq (l : Ln) (line s : ByteArray) : prune (.cs 8 (.n .k (.cs 1 (.l (.cs 12 (.n .k (.cs 1 (.l .k)))))))) (xfunc tab (backG l s none l s) noInv Go.Proofs.Tryd.f6 [l.av, sv' line] [] []) = tbkYN l line s := by kernel_rfl
abbrev tbkNY_0 : Ln → List CV :=
  fun l => [CV.v (Value.string l.1), CV.v (Value.int IntKind.i64 l.2), CV.v (Value.int IntKind.i64 l.3), CV.v (Value.int IntKind.i64 l.4), CV.v (Value.int IntKind.i64 l.5), CV.v (Value.int IntKind.i64 l.6), CV.v (Value.string l.7)]
abbrev tbkNY_1 : Ln → Ent :=
  fun l => { own := true, box := true, ty := 26, sz := 7, m := 1, n := fun x => 1, cap := fun x => 1, f := fun x x_1 => tbkNY_0 l, ov := [] }
abbrev tbkNY_2 : Ln → List Ent :=
  fun l => [tbkNY_1 l]
abbrev tbkNY_3 : Ln → List AV :=
  fun l => [AV.agg (tbkNY_0 l)]
def tbkNY (l : Ln) (line : ByteArray) (m : Ln) (t : ByteArray) : Tree :=
  Tree.callf 8 [] (tbkNY_2 l) upC fun c => Tree.chk ((!decide ((↑(ByteArray.size l.1) : Int) > (1000 : Int))) = true → (!decide ((↑(ByteArray.size l.1) : Int) > (1000 : Int))) = true)
 (Tree.chk ((!decide ((↑(ByteArray.size l.1) : Int) > (1000 : Int))) = true → (!decide ((↑(ByteArray.size l.1) : Int) > (1000 : Int))) = true)
 (Tree.chk ((!decide ((↑(ByteArray.size l.1) : Int) > (1000 : Int))) = true → (!decide ((↑(ByteArray.size l.1) : Int) > (1000 : Int))) = true)
 (Tree.chk (decide ((↑(ByteArray.size l.1) : Int) > (1000 : Int)) = false → (!decide ((↑(ByteArray.size l.1) : Int) > (1000 : Int))) = true)
 (Tree.chk ((!bif decide ((↑(ByteArray.size l.1) : Int) > (1000 : Int)) then true else decide ((↑(ByteArray.size l.7) : Int) > (1000 : Int))) = true → (!bif decide ((↑(ByteArray.size l.1) : Int) > (1000 : Int)) then true else decide ((↑(ByteArray.size l.7) : Int) > (1000 : Int))) = true)
 (Tree.chk ((!bif decide ((↑(ByteArray.size l.1) : Int) > (1000 : Int)) then true else decide ((↑(ByteArray.size l.7) : Int) > (1000 : Int))) = true → (!bif decide ((↑(ByteArray.size l.1) : Int) > (1000 : Int)) then true else decide ((↑(ByteArray.size l.7) : Int) > (1000 : Int))) = true)
 (Tree.chk ((bif decide ((↑(ByteArray.size l.1) : Int) > (1000 : Int)) then true else decide ((↑(ByteArray.size l.7) : Int) > (1000 : Int))) = false → (!bif decide ((↑(ByteArray.size l.1) : Int) > (1000 : Int)) then true else decide ((↑(ByteArray.size l.7) : Int) > (1000 : Int))) = true)
 (Tree.br (bif bif decide ((↑(ByteArray.size l.1) : Int) > (1000 : Int)) then true else decide ((↑(ByteArray.size l.7) : Int) > (1000 : Int)) then true else decide ((↑(ByteArray.size line) : Int) > (1000 : Int)))
 (Tree.done (XV.a (AV.c (CV.v (Value.bool true)))) [Ent.dead])
 (Tree.callf 11 (tbkNY_3 l) (tbkNY_2 l) (printE l none 1) fun c => Tree.chk (false = false)
 (Tree.callf 9 [AV.c (CV.v (Value.string line))] [tbkNY_1 l, Ent.dead] (parseD line (some m)) fun c => Tree.chk (false = false)
 (Tree.callf 11 (tbkNY_3 m) [tbkNY_1 l, Ent.dead, tbkNY_1 m] (printE m (some t) 3) fun c => Tree.callf 9 [AV.c (CV.v (Value.string t))] [tbkNY_1 l, Ent.dead, tbkNY_1 m, Ent.dead] (parseD t (some m)) fun c => Tree.chk (true = true → true = true)
 (Tree.chk (true = true → true = true)
 (Tree.chk (true = true → true = true)
 (Tree.chk (true = true → true = true)
 (Tree.chk (true = true → true = true)
 (Tree.chk (true = true → true = true)
 (Tree.chk (true = true → true = true)
 (Tree.done (XV.a (AV.c (CV.v (Value.bool (m.1 == m.1 && (m.2 == m.2 && (m.3 == m.3 && (m.4 == m.4 && (m.5 == m.5 && m.6 == m.6))) && m.7 == m.7)))))) [Ent.dead, Ent.dead, Ent.dead, Ent.dead, Ent.dead])))))))))))))))))
theorem tbkNY_eq (l : Ln) (line : ByteArray) (m : Ln) (t : ByteArray) : prune (.cs 8 (.n .k (.cs 1 (.r (.cs 1 (.r .k)))))) (xfunc tab (backN l (some m) m t) noInv Go.Proofs.Tryd.f6 [l.av, sv' line] [] []) = tbkNY l line m t := by kernel_rfl
abbrev tbkNN_0 : Ln → List CV :=
  fun l => [CV.v (Value.string l.1), CV.v (Value.int IntKind.i64 l.2), CV.v (Value.int IntKind.i64 l.3), CV.v (Value.int IntKind.i64 l.4), CV.v (Value.int IntKind.i64 l.5), CV.v (Value.int IntKind.i64 l.6), CV.v (Value.string l.7)]
abbrev tbkNN_1 : Ln → Ent :=
  fun l => { own := true, box := true, ty := 26, sz := 7, m := 1, n := fun x => 1, cap := fun x => 1, f := fun x x_1 => tbkNN_0 l, ov := [] }
abbrev tbkNN_2 : Ln → List Ent :=
  fun l => [tbkNN_1 l]
def tbkNN (l : Ln) (line : ByteArray) : Tree :=
  Tree.callf 8 [] (tbkNN_2 l) upC fun c => Tree.chk ((!decide ((↑(ByteArray.size l.1) : Int) > (1000 : Int))) = true → (!decide ((↑(ByteArray.size l.1) : Int) > (1000 : Int))) = true)
 (Tree.chk ((!decide ((↑(ByteArray.size l.1) : Int) > (1000 : Int))) = true → (!decide ((↑(ByteArray.size l.1) : Int) > (1000 : Int))) = true)
 (Tree.chk ((!decide ((↑(ByteArray.size l.1) : Int) > (1000 : Int))) = true → (!decide ((↑(ByteArray.size l.1) : Int) > (1000 : Int))) = true)
 (Tree.chk (decide ((↑(ByteArray.size l.1) : Int) > (1000 : Int)) = false → (!decide ((↑(ByteArray.size l.1) : Int) > (1000 : Int))) = true)
 (Tree.chk ((!bif decide ((↑(ByteArray.size l.1) : Int) > (1000 : Int)) then true else decide ((↑(ByteArray.size l.7) : Int) > (1000 : Int))) = true → (!bif decide ((↑(ByteArray.size l.1) : Int) > (1000 : Int)) then true else decide ((↑(ByteArray.size l.7) : Int) > (1000 : Int))) = true)
 (Tree.chk ((!bif decide ((↑(ByteArray.size l.1) : Int) > (1000 : Int)) then true else decide ((↑(ByteArray.size l.7) : Int) > (1000 : Int))) = true → (!bif decide ((↑(ByteArray.size l.1) : Int) > (1000 : Int)) then true else decide ((↑(ByteArray.size l.7) : Int) > (1000 : Int))) = true)
 (Tree.chk ((bif decide ((↑(ByteArray.size l.1) : Int) > (1000 : Int)) then true else decide ((↑(ByteArray.size l.7) : Int) > (1000 : Int))) = false → (!bif decide ((↑(ByteArray.size l.1) : Int) > (1000 : Int)) then true else decide ((↑(ByteArray.size l.7) : Int) > (1000 : Int))) = true)
 (Tree.br (bif bif decide ((↑(ByteArray.size l.1) : Int) > (1000 : Int)) then true else decide ((↑(ByteArray.size l.7) : Int) > (1000 : Int)) then true else decide ((↑(ByteArray.size line) : Int) > (1000 : Int)))
 (Tree.done (XV.a (AV.c (CV.v (Value.bool true)))) [Ent.dead])
 (Tree.callf 11 [AV.agg (tbkNN_0 l)] (tbkNN_2 l) (printE l none 1) fun c => Tree.chk (false = false)
 (Tree.callf 9 [AV.c (CV.v (Value.string line))] [tbkNN_1 l, Ent.dead] (parseD line none) fun c => Tree.chk (true = true)
 (Tree.done (XV.a (AV.c (CV.v (Value.bool true)))) [Ent.dead, Ent.dead, Ent.dead]))))))))))
theorem tbkNN_eq (l : Ln) (line : ByteArray) : prune (.cs 8 (.n .k (.cs 1 (.r (.cs 1 (.l .k)))))) (xfunc tab (backN l none l line) noInv Go.Proofs.Tryd.f6 [l.av, sv' line] [] []) = tbkNN l line := by kernel_rfl
end Go.Proofs.YtjbnkdpeohbakaaDoor.X.Ip

set_option linter.unusedVariables false
set_option linter.unusedSimpArgs false
namespace Go.Proofs.YtjbnkdpeohbakaaDoor.X.Ip
open Go Go.RowKit Go.Proofs.YtjbnkdpeohbakaaDoorW.PrintWords Go.Proofs.YtjbnkdpeohbakaaDoor.Base Go.Proofs.YtjbnkdpeohbakaaDoor.X
theorem name_size {s : ByteArray} (h : nameF s = true) : s.size ≤ 24 := by
  unfold nameF at h
  cases h1 : headF s with
  | true => rw [h1] at h; cases h
  | false =>
    have h2 : (bif (bif decide ((s.size : Int) < 1) then true else decide ((s.size : Int) > 24)) then true else !(letterF (bt' s 0))) = false := h1
    cases h3 : (bif decide ((s.size : Int) < 1) then true else decide ((s.size : Int) > 24)) with
    | true => rw [h3] at h2; cases h2
    | false => simp at h3; omega
theorem field_tg {x : Ln} (w : Int) (s : ByteArray) (hx : x.tg.size ≤ 1000) (h2 : (fieldF x w s).2 = true) : (fieldF x w s).1.tg.size ≤ 1000 ∧ (fieldF x w s).1.lb = x.lb := by
  unfold fieldF at h2 ⊢
  cases h65 : (w == 65) with
  | true => exact ⟨hx, rfl⟩
  | false =>
    cases h66 : (w == 66) with
    | true => exact ⟨hx, rfl⟩
    | false =>
      cases h67 : (w == 67) with
      | true => exact ⟨hx, rfl⟩
      | false =>
        cases h78 : (w == 78) with
        | true => exact ⟨hx, rfl⟩
        | false =>
          rw [h65, h66, h67, h78] at h2
          have h2 : nameF s = true := h2
          have := name_size h2
          exact ⟨(by show s.size ≤ 1000; omega), rfl⟩
theorem fields_tg (has : ByteArray) (ws : List ByteArray) : ∀ (f j : Nat) (x y : Ln), x.tg.size ≤ 1000 → fieldsF has ws f j x = some y → y.tg.size ≤ 1000 ∧ y.lb = x.lb
  | 0, j, x, y, h, e => by
    cases e
    exact ⟨h, rfl⟩
  | f + 1, j, x, y, h, e => by
    have e : (bif (fieldF x (bt' has j) (ws.getD (j + 1) ByteArray.empty)).2 then fieldsF has ws f (j + 1) (fieldF x (bt' has j) (ws.getD (j + 1) ByteArray.empty)).1 else none) = some y := e
    cases h2 : (fieldF x (bt' has j) (ws.getD (j + 1) ByteArray.empty)).2 with
    | false => rw [h2] at e; cases e
    | true =>
      rw [h2, cond_true] at e
      have h3 := field_tg _ _ h h2
      have h4 := fields_tg has ws f (j + 1) _ y h3.1 e
      exact ⟨h4.1, h4.2.trans h3.2⟩
theorem in_of {v : Int} (h : inF v = true) : 0 ≤ v ∧ v < 16 := by
  unfold inF at h
  cases h1 : decide (v ≥ 0) with
  | false => rw [h1] at h; cases h
  | true =>
    rw [h1, cond_true] at h
    exact ⟨of_decide_eq_true h1, of_decide_eq_true h⟩
theorem op_wf (ws : List ByteArray) : ∀ (f i : Nat) (x : Ln), i + f = 23 → opF ws f i = some x → x.Wf
  | 0, i, x, hf, e => by cases e
  | f + 1, i, x, hf, e => by
    have e : (bif skipF ws i then opF ws f (i + 1) else (fieldsF (hasS i) ws (ws.length - 1) 0 { noLn with op := i }).bind (lastF i)) = some x := e
    cases hs : skipF ws i with
    | true =>
      rw [hs, cond_true] at e
      exact op_wf ws f (i + 1) x (by omega) e
    | false =>
      rw [hs, cond_false] at e
      cases hq : fieldsF (hasS i) ws (ws.length - 1) 0 { noLn with op := i } with
      | none => rw [hq] at e; cases e
      | some y =>
        rw [hq] at e
        have e : (bif (bif (i : Int) == 7 then decide (y.a > 13) else false) then none else some y) = some x := e
        cases h7 : (bif (i : Int) == 7 then decide (y.a > 13) else false) with
        | true => rw [h7] at e; cases e
        | false =>
          rw [h7, cond_false] at e
          obtain rfl : y = x := Option.some.inj e
          have hh := fields_has (hasS i) ws (ws.length - 1) 0 _ y (false, false, false, false) (i := i) ⟨rfl, (fun _ => rfl), (fun _ => rfl), (fun _ => rfl), (fun _ => rfl), rfl, rfl, rfl, (show -999999999999999999 ≤ (0 : Int) by decide), (show (0 : Int) ≤ 999999999999999999 by decide)⟩ hq
          have ht := fields_tg (hasS i) ws (ws.length - 1) 0 { noLn with op := i } y (show ByteArray.empty.size ≤ 1000 by decide) hq
          have ha := in_of hh.ia
          have hb := in_of hh.ib
          have hc := in_of hh.ic
          have hn := hh.nn
          have ho := hh.op
          exact ⟨(by rw [ht.2]; show (0 : Nat) ≤ 1000; decide), ht.1, ⟨by omega, by omega⟩, ⟨by omega, by omega⟩, ⟨by omega, by omega⟩, ⟨by omega, by omega⟩, ⟨by omega, by omega⟩⟩
theorem noLn_wf : noLn.Wf := ⟨by decide, by decide, ⟨by decide, by decide⟩, ⟨by decide, by decide⟩, ⟨by decide, by decide⟩, ⟨by decide, by decide⟩, ⟨by decide, by decide⟩⟩
theorem parse_wf {s : ByteArray} {x : Ln} (h : parseF s = some x) : x.Wf := by
  unfold parseF at h
  cases h1 : (bif (trimW s tabS).toList == ByteArray.empty.toList then true else bt' (trimW s tabS) 0 == 59) with
  | true =>
    rw [h1, cond_true] at h
    cases h
    exact noLn_wf
  | false =>
    rw [h1, cond_false] at h
    cases h2 : hsufF (trimW s tabS) colS with
    | true =>
      rw [h2, cond_true] at h
      cases h3 : nameF (tsufW (trimW s tabS) colS) with
      | true =>
        rw [h3, cond_true] at h
        cases h
        have h4 := name_size h3
        have w := noLn_wf
        exact ⟨(by show (tsufW (trimW s tabS) colS).size ≤ 1000; omega), w.tg, w.op, w.a, w.b, w.c, w.n⟩
      | false => rw [h3] at h; cases h
    | false =>
      rw [h2, cond_false] at h
      exact op_wf _ 23 0 x rfl h
theorem print_of {m : Ln} (h : parseF (writtenF m) = some m) : printF m = some (writtenF m) := by
  unfold printF
  rw [h]
  show (bif eqL m m then some (writtenF m) else none) = _
  rw [eqL_self]
  rfl
theorem trim_around (s : ByteArray) : trimW ((⟨#[32, 9]⟩ : ByteArray) ++ s ++ (⟨#[32]⟩ : ByteArray)) tabS = trimW s tabS := by
  unfold trimW
  rw [show ((⟨#[32, 9]⟩ : ByteArray) ++ s ++ (⟨#[32]⟩ : ByteArray)).data.toList = (32 :: 9 :: s.data.toList) ++ [32] by rw [app_data, app_data]; rfl, trim_tail _ _ _ (by decide), trim_head _ _ _ (by decide), trim_head _ _ _ (by decide)]
abbrev backC (l : Ln) (line : ByteArray) : CallSpec := .plain [l.av, sv' line] (bool true)
theorem back_local (RT : ∀ (s : ByteArray) (m : Ln), parseF s = some m → parseF (writtenF m) = some m) (l : Ln) (line : ByteArray) (wl : l.Wi) : (backC l line).Local Tryd.prog 6 := by
  have self : ∀ x : Ln, (x.lb == x.lb && (x.op == x.op && (x.a == x.a && (x.b == x.b && (x.c == x.c && x.n == x.n))) && x.tg == x.tg)) = true := eqL_self
  cases ha : printF l with
  | none =>
    cases hb : parseF line with
    | none =>
      refine local_ofP Tryd.func6 rfl (tbkNN_eq l line) fun ν w => ?_
      (repeat refine ok_chk' (by first | exact fun h => h | rfl | exact fun _ => rfl | (exact fun h => by rw [h]; rfl) | exact fun h => absurd h (by decide) | (intro h1 h2; rw [h1, h2]; rfl)) ?_); refine ok_callf' up_call (fits_of rfl rfl trivial fun c _ => ⟨⟨Nat.zero_le _, rfl⟩, ⟨rfl, rfl⟩, trivial⟩) up_local fun c _ => ?_; (repeat refine ok_chk' (by first | exact fun h => h | rfl | exact fun _ => rfl | (exact fun h => by rw [h]; rfl) | exact fun h => absurd h (by decide) | (intro h1 h2; rw [h1, h2]; rfl)) ?_); refine ok_br' (fun _ => ok_leaf (fun _ => 0) [] [] trivial rfl trivial rfl) fun h => ?_; have hb4 : l.lb.size ≤ 1000 ∧ l.tg.size ≤ 1000 ∧ line.size ≤ 1000 := (by have h := h; simp at h; omega); have hl := wl.wf hb4.1 hb4.2.1; (repeat refine ok_chk' (by first | exact fun h => h | rfl | exact fun _ => rfl | (exact fun h => by rw [h]; rfl) | exact fun h => absurd h (by decide) | (intro h1 h2; rw [h1, h2]; rfl)) ?_)
      refine ok_callf' print_call (fits_of rfl rfl trivial fun c _ => ⟨⟨Nat.zero_le _, rfl⟩, ⟨rfl, rfl⟩, ⟨⟨EntRel.dead, rfl, (fun h => by cases h), .inr rfl⟩, trivial⟩⟩) (print_local l 1 hl ha) fun c2 _ => ?_
      repeat refine ok_chk' (by first | exact fun h => h | rfl | exact fun _ => rfl | (exact fun h => by rw [h]; rfl) | exact fun h => absurd h (by decide) | (intro h1 h2; rw [h1, h2]; rfl)) ?_
      refine ok_callf' parse_call (fits_of rfl rfl trivial fun c _ => ⟨⟨Nat.zero_le _, rfl⟩, ⟨rfl, rfl⟩, trivial⟩) (parseD_local line (by omega) hb) fun c3 _ => ?_
      repeat refine ok_chk' (by first | exact fun h => h | rfl | exact fun _ => rfl | (exact fun h => by rw [h]; rfl) | exact fun h => absurd h (by decide) | (intro h1 h2; rw [h1, h2]; rfl)) ?_
      exact ok_leaf (fun _ => 0) [] [] trivial rfl trivial rfl
    | some m =>
      have hm := parse_wf hb
      have hr := RT line m hb
      refine local_ofP Tryd.func6 rfl (tbkNY_eq l line m (writtenF m)) fun ν w => ?_
      (repeat refine ok_chk' (by first | exact fun h => h | rfl | exact fun _ => rfl | (exact fun h => by rw [h]; rfl) | exact fun h => absurd h (by decide) | (intro h1 h2; rw [h1, h2]; rfl)) ?_); refine ok_callf' up_call (fits_of rfl rfl trivial fun c _ => ⟨⟨Nat.zero_le _, rfl⟩, ⟨rfl, rfl⟩, trivial⟩) up_local fun c _ => ?_; (repeat refine ok_chk' (by first | exact fun h => h | rfl | exact fun _ => rfl | (exact fun h => by rw [h]; rfl) | exact fun h => absurd h (by decide) | (intro h1 h2; rw [h1, h2]; rfl)) ?_); refine ok_br' (fun _ => ok_leaf (fun _ => 0) [] [] trivial rfl trivial rfl) fun h => ?_; have hb4 : l.lb.size ≤ 1000 ∧ l.tg.size ≤ 1000 ∧ line.size ≤ 1000 := (by have h := h; simp at h; omega); have hl := wl.wf hb4.1 hb4.2.1; (repeat refine ok_chk' (by first | exact fun h => h | rfl | exact fun _ => rfl | (exact fun h => by rw [h]; rfl) | exact fun h => absurd h (by decide) | (intro h1 h2; rw [h1, h2]; rfl)) ?_)
      refine ok_callf' print_call (fits_of rfl rfl trivial fun c _ => ⟨⟨Nat.zero_le _, rfl⟩, ⟨rfl, rfl⟩, ⟨⟨EntRel.dead, rfl, (fun h => by cases h), .inr rfl⟩, trivial⟩⟩) (print_local l 1 hl ha) fun c2 _ => ?_
      repeat refine ok_chk' (by first | exact fun h => h | rfl | exact fun _ => rfl | (exact fun h => by rw [h]; rfl) | exact fun h => absurd h (by decide) | (intro h1 h2; rw [h1, h2]; rfl)) ?_
      refine ok_callf' parse_call (fits_of rfl rfl trivial fun c _ => ⟨⟨Nat.zero_le _, rfl⟩, ⟨rfl, rfl⟩, trivial⟩) (parseD_local line (by omega) hb) fun c3 _ => ?_
      repeat refine ok_chk' (by first | exact fun h => h | rfl | exact fun _ => rfl | (exact fun h => by rw [h]; rfl) | exact fun h => absurd h (by decide) | (intro h1 h2; rw [h1, h2]; rfl)) ?_
      refine ok_callf' print_call (fits_of rfl rfl trivial fun c _ => ⟨⟨Nat.zero_le _, rfl⟩, ⟨rfl, rfl⟩, ⟨⟨EntRel.dead, rfl, (fun h => by cases h), .inr rfl⟩, trivial⟩⟩) (print_local m _ hm (print_of hr)) fun c4 _ => ?_
      repeat refine ok_chk' (by first | exact fun h => h | rfl | exact fun _ => rfl | (exact fun h => by rw [h]; rfl) | exact fun h => absurd h (by decide) | (intro h1 h2; rw [h1, h2]; rfl)) ?_
      refine ok_callf' parse_call (fits_of rfl rfl trivial fun c _ => ⟨⟨Nat.zero_le _, rfl⟩, ⟨rfl, rfl⟩, trivial⟩) (parseD_local _ (by have := written_size hm; omega) hr) fun c5 _ => ?_
      repeat refine ok_chk' (by first | exact fun h => h | rfl | exact fun _ => rfl | (exact fun h => by rw [h]; rfl) | exact fun h => absurd h (by decide) | (intro h1 h2; rw [h1, h2]; rfl)) ?_
      exact ok_leaf (fun _ => 0) [] [] trivial (by rw [self]; rfl) trivial rfl
  | some s =>
    have hs := print_back ha
    cases hb : parseF line with
    | none =>
      refine local_ofP Tryd.func6 rfl (tbkYN_eq l line s) fun ν w => ?_
      (repeat refine ok_chk' (by first | exact fun h => h | rfl | exact fun _ => rfl | (exact fun h => by rw [h]; rfl) | exact fun h => absurd h (by decide) | (intro h1 h2; rw [h1, h2]; rfl)) ?_); refine ok_callf' up_call (fits_of rfl rfl trivial fun c _ => ⟨⟨Nat.zero_le _, rfl⟩, ⟨rfl, rfl⟩, trivial⟩) up_local fun c _ => ?_; (repeat refine ok_chk' (by first | exact fun h => h | rfl | exact fun _ => rfl | (exact fun h => by rw [h]; rfl) | exact fun h => absurd h (by decide) | (intro h1 h2; rw [h1, h2]; rfl)) ?_); refine ok_br' (fun _ => ok_leaf (fun _ => 0) [] [] trivial rfl trivial rfl) fun h => ?_; have hb4 : l.lb.size ≤ 1000 ∧ l.tg.size ≤ 1000 ∧ line.size ≤ 1000 := (by have h := h; simp at h; omega); have hl := wl.wf hb4.1 hb4.2.1; (repeat refine ok_chk' (by first | exact fun h => h | rfl | exact fun _ => rfl | (exact fun h => by rw [h]; rfl) | exact fun h => absurd h (by decide) | (intro h1 h2; rw [h1, h2]; rfl)) ?_)
      have hz : s.size ≤ 4000 := by rw [hs.1]; exact written_size hl
      refine ok_callf' print_call (fits_of rfl rfl trivial fun c _ => ⟨⟨Nat.zero_le _, rfl⟩, ⟨rfl, rfl⟩, ⟨⟨EntRel.dead, rfl, (fun h => by cases h), .inr rfl⟩, trivial⟩⟩) (print_local l 1 hl ha) fun c2 _ => ?_
      repeat refine ok_chk' (by first | exact fun h => h | rfl | exact fun _ => rfl | (exact fun h => by rw [h]; rfl) | exact fun h => absurd h (by decide) | (intro h1 h2; rw [h1, h2]; rfl)) ?_
      refine ok_callf' parse_call (fits_of rfl rfl trivial fun c _ => ⟨⟨Nat.zero_le _, rfl⟩, ⟨rfl, rfl⟩, trivial⟩) (parseD_local s (by omega) hs.2) fun c3 _ => ?_
      (repeat refine ok_chk' (by first | exact fun h => h | rfl | exact fun _ => rfl | (exact fun h => by rw [h]; rfl) | exact fun h => absurd h (by decide) | (intro h1 h2; rw [h1, h2]; rfl)) ?_); refine ok_chk' (by show 2 + s.size ≤ 9223372036854775807; omega) ?_; (repeat refine ok_chk' (by first | exact fun h => h | rfl | exact fun _ => rfl | (exact fun h => by rw [h]; rfl) | exact fun h => absurd h (by decide) | (intro h1 h2; rw [h1, h2]; rfl)) ?_); refine ok_chk' (by rw [ByteArray.size_append]; show 2 + s.size + 1 ≤ 9223372036854775807; omega) ?_; (repeat refine ok_chk' (by first | exact fun h => h | rfl | exact fun _ => rfl | (exact fun h => by rw [h]; rfl) | exact fun h => absurd h (by decide) | (intro h1 h2; rw [h1, h2]; rfl)) ?_); refine ok_callf' parse_call (fits_of rfl rfl trivial fun c _ => ⟨⟨Nat.zero_le _, rfl⟩, ⟨rfl, rfl⟩, trivial⟩) (parseD_local _ (by rw [ByteArray.size_append, ByteArray.size_append]; show 2 + s.size + 1 ≤ 100000; omega) ((parse_same (trim_around s)).trans hs.2)) fun c4 _ => ?_; (repeat refine ok_chk' (by first | exact fun h => h | rfl | exact fun _ => rfl | (exact fun h => by rw [h]; rfl) | exact fun h => absurd h (by decide) | (intro h1 h2; rw [h1, h2]; rfl)) ?_); refine ok_br' (fun h9 => by rw [self] at h9; cases h9) fun _ => ?_; (repeat refine ok_chk' (by first | exact fun h => h | rfl | exact fun _ => rfl | (exact fun h => by rw [h]; rfl) | exact fun h => absurd h (by decide) | (intro h1 h2; rw [h1, h2]; rfl)) ?_)
      refine ok_callf' parse_call (fits_of rfl rfl trivial fun c _ => ⟨⟨Nat.zero_le _, rfl⟩, ⟨rfl, rfl⟩, trivial⟩) (parseD_local line (by omega) hb) fun c5 _ => ?_
      repeat refine ok_chk' (by first | exact fun h => h | rfl | exact fun _ => rfl | (exact fun h => by rw [h]; rfl) | exact fun h => absurd h (by decide) | (intro h1 h2; rw [h1, h2]; rfl)) ?_
      exact ok_leaf (fun _ => 0) [] [] trivial rfl trivial rfl
    | some m =>
      have hm := parse_wf hb
      have hr := RT line m hb
      refine local_ofP Tryd.func6 rfl (tbkYY_eq l line s m (writtenF m)) fun ν w => ?_
      (repeat refine ok_chk' (by first | exact fun h => h | rfl | exact fun _ => rfl | (exact fun h => by rw [h]; rfl) | exact fun h => absurd h (by decide) | (intro h1 h2; rw [h1, h2]; rfl)) ?_); refine ok_callf' up_call (fits_of rfl rfl trivial fun c _ => ⟨⟨Nat.zero_le _, rfl⟩, ⟨rfl, rfl⟩, trivial⟩) up_local fun c _ => ?_; (repeat refine ok_chk' (by first | exact fun h => h | rfl | exact fun _ => rfl | (exact fun h => by rw [h]; rfl) | exact fun h => absurd h (by decide) | (intro h1 h2; rw [h1, h2]; rfl)) ?_); refine ok_br' (fun _ => ok_leaf (fun _ => 0) [] [] trivial rfl trivial rfl) fun h => ?_; have hb4 : l.lb.size ≤ 1000 ∧ l.tg.size ≤ 1000 ∧ line.size ≤ 1000 := (by have h := h; simp at h; omega); have hl := wl.wf hb4.1 hb4.2.1; (repeat refine ok_chk' (by first | exact fun h => h | rfl | exact fun _ => rfl | (exact fun h => by rw [h]; rfl) | exact fun h => absurd h (by decide) | (intro h1 h2; rw [h1, h2]; rfl)) ?_)
      have hz : s.size ≤ 4000 := by rw [hs.1]; exact written_size hl
      refine ok_callf' print_call (fits_of rfl rfl trivial fun c _ => ⟨⟨Nat.zero_le _, rfl⟩, ⟨rfl, rfl⟩, ⟨⟨EntRel.dead, rfl, (fun h => by cases h), .inr rfl⟩, trivial⟩⟩) (print_local l 1 hl ha) fun c2 _ => ?_
      repeat refine ok_chk' (by first | exact fun h => h | rfl | exact fun _ => rfl | (exact fun h => by rw [h]; rfl) | exact fun h => absurd h (by decide) | (intro h1 h2; rw [h1, h2]; rfl)) ?_
      refine ok_callf' parse_call (fits_of rfl rfl trivial fun c _ => ⟨⟨Nat.zero_le _, rfl⟩, ⟨rfl, rfl⟩, trivial⟩) (parseD_local s (by omega) hs.2) fun c3 _ => ?_
      (repeat refine ok_chk' (by first | exact fun h => h | rfl | exact fun _ => rfl | (exact fun h => by rw [h]; rfl) | exact fun h => absurd h (by decide) | (intro h1 h2; rw [h1, h2]; rfl)) ?_); refine ok_chk' (by show 2 + s.size ≤ 9223372036854775807; omega) ?_; (repeat refine ok_chk' (by first | exact fun h => h | rfl | exact fun _ => rfl | (exact fun h => by rw [h]; rfl) | exact fun h => absurd h (by decide) | (intro h1 h2; rw [h1, h2]; rfl)) ?_); refine ok_chk' (by rw [ByteArray.size_append]; show 2 + s.size + 1 ≤ 9223372036854775807; omega) ?_; (repeat refine ok_chk' (by first | exact fun h => h | rfl | exact fun _ => rfl | (exact fun h => by rw [h]; rfl) | exact fun h => absurd h (by decide) | (intro h1 h2; rw [h1, h2]; rfl)) ?_); refine ok_callf' parse_call (fits_of rfl rfl trivial fun c _ => ⟨⟨Nat.zero_le _, rfl⟩, ⟨rfl, rfl⟩, trivial⟩) (parseD_local _ (by rw [ByteArray.size_append, ByteArray.size_append]; show 2 + s.size + 1 ≤ 100000; omega) ((parse_same (trim_around s)).trans hs.2)) fun c4 _ => ?_; (repeat refine ok_chk' (by first | exact fun h => h | rfl | exact fun _ => rfl | (exact fun h => by rw [h]; rfl) | exact fun h => absurd h (by decide) | (intro h1 h2; rw [h1, h2]; rfl)) ?_); refine ok_br' (fun h9 => by rw [self] at h9; cases h9) fun _ => ?_; (repeat refine ok_chk' (by first | exact fun h => h | rfl | exact fun _ => rfl | (exact fun h => by rw [h]; rfl) | exact fun h => absurd h (by decide) | (intro h1 h2; rw [h1, h2]; rfl)) ?_)
      refine ok_callf' parse_call (fits_of rfl rfl trivial fun c _ => ⟨⟨Nat.zero_le _, rfl⟩, ⟨rfl, rfl⟩, trivial⟩) (parseD_local line (by omega) hb) fun c5 _ => ?_
      repeat refine ok_chk' (by first | exact fun h => h | rfl | exact fun _ => rfl | (exact fun h => by rw [h]; rfl) | exact fun h => absurd h (by decide) | (intro h1 h2; rw [h1, h2]; rfl)) ?_
      refine ok_callf' print_call (fits_of rfl rfl trivial fun c _ => ⟨⟨Nat.zero_le _, rfl⟩, ⟨rfl, rfl⟩, ⟨⟨EntRel.dead, rfl, (fun h => by cases h), .inr rfl⟩, trivial⟩⟩) (print_local m _ hm (print_of hr)) fun c6 _ => ?_
      repeat refine ok_chk' (by first | exact fun h => h | rfl | exact fun _ => rfl | (exact fun h => by rw [h]; rfl) | exact fun h => absurd h (by decide) | (intro h1 h2; rw [h1, h2]; rfl)) ?_
      refine ok_callf' parse_call (fits_of rfl rfl trivial fun c _ => ⟨⟨Nat.zero_le _, rfl⟩, ⟨rfl, rfl⟩, trivial⟩) (parseD_local _ (by have := written_size hm; omega) hr) fun c7 _ => ?_
      repeat refine ok_chk' (by first | exact fun h => h | rfl | exact fun _ => rfl | (exact fun h => by rw [h]; rfl) | exact fun h => absurd h (by decide) | (intro h1 h2; rw [h1, h2]; rfl)) ?_
      exact ok_leaf (fun _ => 0) [] [] trivial (by rw [self]; rfl) trivial rfl
end Go.Proofs.YtjbnkdpeohbakaaDoor.X.Ip

set_option linter.unusedVariables false
set_option linter.unusedSimpArgs false
namespace Go.Proofs.YtjbnkdpeohbakaaDoor.X.Ip
open Go Go.RowKit Go.Proofs.YtjbnkdpeohbakaaDoorW.PrintWords Go.Proofs.YtjbnkdpeohbakaaDoor.Base Go.Proofs.YtjbnkdpeohbakaaDoor.X
theorem digit_val {d : Nat} (h : d < 10) : Lib.digitVal (UInt8.ofNat (48 + d)) = some d ∧ UInt8.ofNat (48 + d) ∈ digS.data.toList := by
  match d, h with
  | 0, _ => exact ⟨rfl, by decide⟩
  | 1, _ => exact ⟨rfl, by decide⟩
  | 2, _ => exact ⟨rfl, by decide⟩
  | 3, _ => exact ⟨rfl, by decide⟩
  | 4, _ => exact ⟨rfl, by decide⟩
  | 5, _ => exact ⟨rfl, by decide⟩
  | 6, _ => exact ⟨rfl, by decide⟩
  | 7, _ => exact ⟨rfl, by decide⟩
  | 8, _ => exact ⟨rfl, by decide⟩
  | 9, _ => exact ⟨rfl, by decide⟩
theorem dec_snoc : ∀ (l : List UInt8) (acc m d : Nat) (b : UInt8), Lib.decFrom acc l = some m → Lib.digitVal b = some d → Lib.decFrom acc (l ++ [b]) = some (m * 10 + d)
  | [], acc, m, d, b, h, hd => by
    have h : some acc = some m := h
    cases h
    show Lib.decFrom acc [b] = _
    unfold Lib.decFrom
    rw [hd]
    rfl
  | a :: r, acc, m, d, b, h, hd => by
    show Lib.decFrom acc (a :: (r ++ [b])) = _
    unfold Lib.decFrom at h ⊢
    cases ha : Lib.digitVal a with
    | none => rw [ha] at h; cases h
    | some e =>
      rw [ha] at h
      exact dec_snoc r _ m d b h hd
theorem dec_digits (u : Nat) : Lib.decFrom 0 (Lib.decDigits u) = some u := by
  induction u using Nat.strongRecOn with
  | ind u ih =>
    unfold Lib.decDigits
    split
    · rename_i h
      show Lib.decFrom 0 [UInt8.ofNat (48 + u)] = _
      unfold Lib.decFrom
      rw [(digit_val h).1]
      show some (0 * 10 + u) = some u
      rw [Nat.zero_mul, Nat.zero_add]
    · rename_i h
      rw [dec_snoc _ _ _ _ _ (ih (u / 10) (by omega)) (digit_val (Nat.mod_lt u (by decide))).1]
      congr 1
      omega
theorem digits_in (u : Nat) : ∀ c ∈ Lib.decDigits u, c ∈ digS.data.toList := by
  induction u using Nat.strongRecOn with
  | ind u ih =>
    unfold Lib.decDigits
    split
    · rename_i h
      intro c hc
      simp only [List.mem_cons, List.not_mem_nil, or_false] at hc
      rw [hc]
      exact (digit_val h).2
    · rename_i h
      intro c hc
      rcases List.mem_append.1 hc with hc | hc
      · exact ih (u / 10) (by omega) c hc
      · simp only [List.mem_cons, List.not_mem_nil, or_false] at hc
        rw [hc]
        exact (digit_val (Nat.mod_lt u (by decide))).2
theorem digits_len : ∀ (k u : Nat), u < 10 ^ (k + 1) → 1 ≤ (Lib.decDigits u).length ∧ (Lib.decDigits u).length ≤ k + 1
  | 0, u, h => by
    unfold Lib.decDigits
    rw [dif_pos (by simpa using h)]
    exact ⟨Nat.le_refl _, Nat.le_refl _⟩
  | k + 1, u, h => by
    unfold Lib.decDigits
    split
    · exact ⟨Nat.le_refl _, by show 1 ≤ _; omega⟩
    · rw [List.length_append]
      have e : 10 ^ (k + 1 + 1) = 10 ^ (k + 1) * 10 := Nat.pow_succ ..
      have := digits_len k (u / 10) (by omega)
      have e2 : ([UInt8.ofNat (48 + u % 10)] : List UInt8).length = 1 := rfl
      omega
theorem pars_pos {l : List UInt8} {m : Nat} (h1 : 1 ≤ l.length) (h2 : l.length ≤ 18) (hd : ∀ c ∈ l, c ∈ digS.data.toList) (hm : Lib.decFrom 0 l = some m) : Lib.parseIntB 64 l = .ok (m : Int) := by
  rw [Lib.parseIntB_64]
  match l, h1 with
  | c :: r, _ =>
    have hc : c.toNat ≠ 43 ∧ c.toNat ≠ 45 := by
      have hb : c ∈ ([48, 49, 50, 51, 52, 53, 54, 55, 56, 57] : List UInt8) := hd c List.mem_cons_self
      simp only [List.mem_cons, List.not_mem_nil, or_false] at hb
      rcases hb with rfl | rfl | rfl | rfl | rfl | rfl | rfl | rfl | rfl | rfl <;> decide
    have hdn : Lib.decNat (c :: r) = some m := by
      unfold Lib.decNat
      rw [if_neg (by simp)]
      exact hm
    have hmag := Lib.parseMag_short (c :: r) h2
    rw [hdn] at hmag
    have hlt := Lib.decFrom_lt18 hm h2
    have hmag : Lib.parseMag (c :: r) = .ok m := hmag
    unfold Lib.atoiAll
    have hn : ¬ 9223372036854775808 ≤ m := by omega
    simp [hc, hmag, hn]
theorem pars_neg {l : List UInt8} {m : Nat} (h1 : 1 ≤ l.length) (h2 : l.length ≤ 18) (hm : Lib.decFrom 0 l = some m) : Lib.parseIntB 64 (45 :: l) = .ok (-(m : Int)) := by
  rw [Lib.parseIntB_64]
  have hdn : Lib.decNat l = some m := by
    unfold Lib.decNat
    rw [if_neg (by intro e; have e : l = [] := by simpa using e
                   rw [e] at h1; simp at h1)]
    exact hm
  have hmag := Lib.parseMag_short l h2
  rw [hdn] at hmag
  have hlt := Lib.decFrom_lt18 hm h2
  have hmag : Lib.parseMag l = .ok m := hmag
  unfold Lib.atoiAll
  have hn : ¬ 9223372036854775808 < m := by omega
  simp [hmag, hn]
theorem drop_all {p : UInt8 → Bool} : ∀ {l : List UInt8}, (∀ c ∈ l, p c = true) → l.dropWhile p = []
  | [], _ => rfl
  | a :: r, h => by
    rw [List.dropWhile_cons, if_pos (h a List.mem_cons_self)]
    exact drop_all fun c hc => h c (List.mem_cons_of_mem _ hc)
theorem trim_all {l cs : List UInt8} (h : ∀ c ∈ l, c ∈ cs) : Lib.trimS l cs = [] := by
  unfold Lib.trimS Lib.trimRightS
  rw [drop_all (p := (cs.contains ·)) fun c hc => by simpa using h c (List.mem_reverse.1 hc)]
  rfl
theorem num_of {s : ByteArray} {bare : List UInt8} {v : Int} (hb : Lib.trimPrefix s.data.toList [45] = bare) (h1 : 1 ≤ bare.length) (h2 : bare.length ≤ 18) (hd : ∀ c ∈ bare, c ∈ digS.data.toList) (hv : Lib.parseIntB 64 s.data.toList = .ok v) : numF s = (v, true) := by
  have e1 : tpreW s minS = bs bare := by unfold tpreW; rw [← hb]
  have hz : (tpreW s minS).size = bare.length := by rw [e1, bs_size]
  have hn : nonumF s = false := by
    unfold nonumF
    have h3 : (bif decide (((tpreW s minS).size : Int) < 1) then true else decide (((tpreW s minS).size : Int) > 18)) = false := by
      rw [hz, decide_eq_false (by omega), decide_eq_false (by omega)]
      rfl
    rw [h3, cond_false]
    have e2 : trimW (tpreW s minS) digS = ByteArray.empty := by
      unfold trimW
      rw [e1, show (bs bare).data.toList = bare from rfl, trim_all hd]
      rfl
    rw [(str_eq _ _).2 e2]
    rfl
  unfold numF
  rw [hn, cond_false]
  unfold valF
  rw [hv]
theorem num_back {n : Int} (h : -999999999999999999 ≤ n ∧ n ≤ 999999999999999999) : numF (fmtW n) = (n, true) := by
  by_cases hn : n < 0
  · obtain ⟨u, rfl⟩ : ∃ u : Nat, n = -(u : Int) := ⟨n.natAbs, by omega⟩
    have hl := digits_len 17 u (by have : (10 : Nat) ^ (17 + 1) = 1000000000000000000 := by decide
                                   omega)
    have e : (fmtW (-(u : Int))).data.toList = 45 :: Lib.decDigits u := by
      exact (show (fmtW (-(u : Int))).data.toList = Lib.itoa (-(u : Int)) from rfl).trans (Lib.itoa_neg u (by omega))
    refine num_of (bare := Lib.decDigits u) (by rw [e]; unfold Lib.trimPrefix Lib.hasPrefix; simp) hl.1 hl.2 (digits_in u) ?_
    rw [e]
    exact pars_neg hl.1 hl.2 (dec_digits u)
  · obtain ⟨u, rfl⟩ : ∃ u : Nat, n = (u : Int) := ⟨n.toNat, by omega⟩
    have hl := digits_len 17 u (by have : (10 : Nat) ^ (17 + 1) = 1000000000000000000 := by decide
                                   omega)
    have e : (fmtW (u : Int)).data.toList = Lib.decDigits u := by
      exact (show (fmtW (u : Int)).data.toList = Lib.itoa (u : Int) from rfl).trans (Lib.itoa_nonneg u)
    have hpre : Lib.trimPrefix (Lib.decDigits u) [45] = Lib.decDigits u := by
      match hq : Lib.decDigits u, hl.1 with
      | c :: r, _ =>
        have hc := digits_in u c (by rw [hq]; exact List.mem_cons_self)
        have hc : (45 : UInt8) ≠ c := by
          have hb : c ∈ ([48, 49, 50, 51, 52, 53, 54, 55, 56, 57] : List UInt8) := hc
          simp only [List.mem_cons, List.not_mem_nil, or_false] at hb
          rcases hb with rfl | rfl | rfl | rfl | rfl | rfl | rfl | rfl | rfl | rfl <;> decide
        unfold Lib.trimPrefix Lib.hasPrefix
        simp [List.isPrefixOf, hc]
    refine num_of (bare := Lib.decDigits u) (by rw [e]; exact hpre) hl.1 hl.2 (digits_in u) ?_
    rw [e]
    exact pars_pos hl.1 hl.2 (digits_in u) (dec_digits u)
theorem reg_back {v : Int} (h : 0 ≤ v ∧ v < 16) : regF (rS ++ fmtW v) = (v, true) := by
  have hn := num_back (n := v) ⟨by omega, by omega⟩
  have e : tpreW (rS ++ fmtW v) rS = fmtW v := by
    unfold tpreW
    rw [app_data]
    unfold Lib.trimPrefix Lib.hasPrefix
    simp [List.isPrefixOf]
    rfl
  have ep : hpreF (rS ++ fmtW v) rS = true := by
    unfold hpreF
    rw [app_data]
    unfold Lib.hasPrefix
    simp [List.isPrefixOf]
  unfold regF
  rw [e, hn, ep, show decide (v ≥ 0) = true from decide_eq_true h.1, show decide (v < 16) = true from decide_eq_true h.2, (str_eq _ _).2 rfl]
  rfl
end Go.Proofs.YtjbnkdpeohbakaaDoor.X.Ip

set_option linter.unusedVariables false
set_option linter.unusedSimpArgs false
namespace Go.Proofs.YtjbnkdpeohbakaaDoor.X.Ip
open Go Go.RowKit Go.Proofs.YtjbnkdpeohbakaaDoorW.PrintWords Go.Proofs.YtjbnkdpeohbakaaDoor.Base Go.Proofs.YtjbnkdpeohbakaaDoor.X
theorem ba_ext {a b : ByteArray} (h : a.data.toList = b.data.toList) : a = b := by
  obtain ⟨x⟩ := a
  obtain ⟨y⟩ := b
  have e : x = y := Array.ext' h
  rw [e]
theorem index_at : ∀ (p r : List UInt8), (32 : UInt8) ∉ p → Lib.index (p ++ 32 :: r) [32] = (p.length : Int)
  | [], r, _ => by
    show Lib.index (32 :: r) [32] = 0
    rw [Lib.index]
    simp [List.isPrefixOf]
  | a :: p, r, h => by
    have ha : (32 : UInt8) ≠ a := fun e => h (by rw [e]; exact List.mem_cons_self)
    have ih := index_at p r fun hm => h (List.mem_cons_of_mem _ hm)
    show Lib.index (a :: (p ++ 32 :: r)) [32] = _
    rw [Lib.index]
    have hne : ((p.length : Int) == -1) = false := by rw [beq_eq_false_iff_ne]; omega
    simp only [List.isPrefixOf, beq_iff_eq, ha, ih, hne]
    simp
    exact fun e => absurd e ha
theorem index_no : ∀ (p : List UInt8), (32 : UInt8) ∉ p → Lib.index p [32] = -1
  | [], _ => by rw [Lib.index]; rfl
  | a :: p, h => by
    have ha : (32 : UInt8) ≠ a := fun e => h (by rw [e]; exact List.mem_cons_self)
    have ih := index_no p fun hm => h (List.mem_cons_of_mem _ hm)
    rw [Lib.index]
    simp [List.isPrefixOf, ha, ih]
def splitL (l : List UInt8) : List (List UInt8) := Lib.splitK [32] 0 (Lib.count l [32]) l
theorem splitL_one {p : List UInt8} (h : (32 : UInt8) ∉ p) : splitL p = [p] := by
  unfold splitL
  rw [Lib.count_miss (index_no p h)]
  rfl
theorem splitL_cons {p : List UInt8} (r : List UInt8) (h : (32 : UInt8) ∉ p) : splitL (p ++ 32 :: r) = p :: splitL r := by
  have hi := index_at p r h
  have hd : (p ++ 32 :: r).drop (p.length + 1) = r := by
    rw [List.drop_append]
    simp
  have hc : Lib.count (p ++ 32 :: r) [32] = Lib.count r [32] + 1 := by
    rw [Lib.count_hit (by simp) hi, show ([32] : List UInt8).length = 1 from rfl, hd, Nat.add_comm]
  unfold splitL
  rw [hc]
  have hne : ¬ ((Lib.index (p ++ 32 :: r) [32] == -1) = true) := by rw [hi]; intro e; have := beq_iff_eq.1 e; omega
  rw [Lib.splitK, if_neg hne, hi]
  show (p ++ 32 :: r).take (p.length + 0) :: Lib.splitK [32] 0 (Lib.count r [32]) ((p ++ 32 :: r).drop (p.length + 1)) = _
  rw [hd, Nat.add_zero, List.take_left]
theorem parts_map (T : ByteArray) : (partsW T spS).map (fun b : ByteArray => b.data.toList) = splitL T.data.toList := by
  unfold partsW
  rw [Lib.splitB_data]
  rfl
theorem map_inj : ∀ {l m : List ByteArray}, l.map (fun b : ByteArray => b.data.toList) = m.map (fun b : ByteArray => b.data.toList) → l = m
  | [], [], _ => rfl
  | [], _ :: _, h => by cases h
  | _ :: _, [], h => by cases h
  | a :: l, b :: m, h => by
    have h1 := List.head_eq_of_cons_eq h
    have h2 := List.tail_eq_of_cons_eq h
    rw [ba_ext h1, map_inj h2]
def joinL : List ByteArray → List UInt8
  | [] => []
  | [a] => a.data.toList
  | a :: b :: r => a.data.toList ++ 32 :: joinL (b :: r)
theorem splitL_join : ∀ (ws : List ByteArray), ws ≠ [] → (∀ a ∈ ws, (32 : UInt8) ∉ a.data.toList) → splitL (joinL ws) = ws.map fun b : ByteArray => b.data.toList
  | [], h, _ => absurd rfl h
  | [a], _, h => splitL_one (h a List.mem_cons_self)
  | a :: b :: r, _, h => by
    show splitL (a.data.toList ++ 32 :: joinL (b :: r)) = _
    rw [splitL_cons _ (h a List.mem_cons_self), splitL_join (b :: r) (by simp) fun c hc => h c (List.mem_cons_of_mem _ hc)]
    rfl
theorem parts_join {T : ByteArray} {ws : List ByteArray} (h : T.data.toList = joinL ws) (h0 : ws ≠ []) (hs : ∀ a ∈ ws, (32 : UInt8) ∉ a.data.toList) : partsW T spS = ws :=
  map_inj ((parts_map T).trans ((congrArg splitL h).trans (splitL_join ws h0 hs)))
theorem trim_none {l cs : List UInt8} {a b : UInt8} (ha : l.head? = some a) (hb : l.getLast? = some b) (h1 : cs.contains a = false) (h2 : cs.contains b = false) : Lib.trimS l cs = l := by
  have hr : Lib.trimRightS l cs = l := by
    unfold Lib.trimRightS
    have hh : l.reverse.head? = some b := by rw [List.head?_reverse]; exact hb
    match hq : l.reverse, hh with
    | c :: r, hh =>
      obtain rfl : c = b := Option.some.inj hh
      rw [List.dropWhile_cons, if_neg (by rw [h2]; decide), ← hq, List.reverse_reverse]
  unfold Lib.trimS
  rw [hr]
  unfold Lib.trimLeftS
  match l, ha with
  | c :: r, ha =>
    obtain rfl : c = a := Option.some.inj ha
    rw [List.dropWhile_cons, if_neg (by rw [h1]; decide)]
end Go.Proofs.YtjbnkdpeohbakaaDoor.X.Ip

set_option linter.unusedVariables false
set_option linter.unusedSimpArgs false
namespace Go.Proofs.YtjbnkdpeohbakaaDoor.X.Ip
open Go Go.RowKit Go.Proofs.YtjbnkdpeohbakaaDoorW.PrintWords Go.Proofs.YtjbnkdpeohbakaaDoor.Base Go.Proofs.YtjbnkdpeohbakaaDoor.X
def fieldT (x : Ln) (w : Int) : ByteArray :=
  bif w == 65 then rS ++ fmtW x.a else bif w == 66 then rS ++ fmtW x.b else bif w == 67 then rS ++ fmtW x.c else bif w == 78 then fmtW x.n else x.tg
theorem bk_AN (i : Nat) (ws vs : List ByteArray) (y : Ln) (h : fieldsF (⟨#[65, 78]⟩ : ByteArray) ws 2 0 { noLn with op := i } = some y) (e1 : vs.getD 1 ByteArray.empty = fieldT y 65) (e2 : vs.getD 2 ByteArray.empty = fieldT y 78) : fieldsF (⟨#[65, 78]⟩ : ByteArray) vs 2 0 { noLn with op := i } = some y := by
  have h : (bif (regF (ws.getD 1 ByteArray.empty)).2 then (bif (numF (ws.getD 2 ByteArray.empty)).2 then some ({ noLn with op := i, a := (regF (ws.getD 1 ByteArray.empty)).1, n := (numF (ws.getD 2 ByteArray.empty)).1 } : Ln) else none) else none) = some y := h
  cases h1 : (regF (ws.getD 1 ByteArray.empty)).2 with
  | false => rw [h1] at h; cases h
  | true =>
  rw [h1, cond_true] at h
  cases h2 : (numF (ws.getD 2 ByteArray.empty)).2 with
  | false => rw [h2] at h; cases h
  | true =>
  rw [h2, cond_true] at h
  cases h
  have r1 : regF (vs.getD 1 ByteArray.empty) = ((regF (ws.getD 1 ByteArray.empty)).1, true) := by rw [e1]; exact reg_back (reg_in h1)
  have r2 : numF (vs.getD 2 ByteArray.empty) = ((numF (ws.getD 2 ByteArray.empty)).1, true) := by rw [e2]; exact num_back (num_in _)
  show (bif (regF (vs.getD 1 ByteArray.empty)).2 then (bif (numF (vs.getD 2 ByteArray.empty)).2 then some ({ noLn with op := i, a := (regF (vs.getD 1 ByteArray.empty)).1, n := (numF (vs.getD 2 ByteArray.empty)).1 } : Ln) else none) else none) = _
  rw [r1, r2]
  rfl
theorem bk_AB (i : Nat) (ws vs : List ByteArray) (y : Ln) (h : fieldsF (⟨#[65, 66]⟩ : ByteArray) ws 2 0 { noLn with op := i } = some y) (e1 : vs.getD 1 ByteArray.empty = fieldT y 65) (e2 : vs.getD 2 ByteArray.empty = fieldT y 66) : fieldsF (⟨#[65, 66]⟩ : ByteArray) vs 2 0 { noLn with op := i } = some y := by
  have h : (bif (regF (ws.getD 1 ByteArray.empty)).2 then (bif (regF (ws.getD 2 ByteArray.empty)).2 then some ({ noLn with op := i, a := (regF (ws.getD 1 ByteArray.empty)).1, b := (regF (ws.getD 2 ByteArray.empty)).1 } : Ln) else none) else none) = some y := h
  cases h1 : (regF (ws.getD 1 ByteArray.empty)).2 with
  | false => rw [h1] at h; cases h
  | true =>
  rw [h1, cond_true] at h
  cases h2 : (regF (ws.getD 2 ByteArray.empty)).2 with
  | false => rw [h2] at h; cases h
  | true =>
  rw [h2, cond_true] at h
  cases h
  have r1 : regF (vs.getD 1 ByteArray.empty) = ((regF (ws.getD 1 ByteArray.empty)).1, true) := by rw [e1]; exact reg_back (reg_in h1)
  have r2 : regF (vs.getD 2 ByteArray.empty) = ((regF (ws.getD 2 ByteArray.empty)).1, true) := by rw [e2]; exact reg_back (reg_in h2)
  show (bif (regF (vs.getD 1 ByteArray.empty)).2 then (bif (regF (vs.getD 2 ByteArray.empty)).2 then some ({ noLn with op := i, a := (regF (vs.getD 1 ByteArray.empty)).1, b := (regF (vs.getD 2 ByteArray.empty)).1 } : Ln) else none) else none) = _
  rw [r1, r2]
  rfl
theorem bk_ABC (i : Nat) (ws vs : List ByteArray) (y : Ln) (h : fieldsF (⟨#[65, 66, 67]⟩ : ByteArray) ws 3 0 { noLn with op := i } = some y) (e1 : vs.getD 1 ByteArray.empty = fieldT y 65) (e2 : vs.getD 2 ByteArray.empty = fieldT y 66) (e3 : vs.getD 3 ByteArray.empty = fieldT y 67) : fieldsF (⟨#[65, 66, 67]⟩ : ByteArray) vs 3 0 { noLn with op := i } = some y := by
  have h : (bif (regF (ws.getD 1 ByteArray.empty)).2 then (bif (regF (ws.getD 2 ByteArray.empty)).2 then (bif (regF (ws.getD 3 ByteArray.empty)).2 then some ({ noLn with op := i, a := (regF (ws.getD 1 ByteArray.empty)).1, b := (regF (ws.getD 2 ByteArray.empty)).1, c := (regF (ws.getD 3 ByteArray.empty)).1 } : Ln) else none) else none) else none) = some y := h
  cases h1 : (regF (ws.getD 1 ByteArray.empty)).2 with
  | false => rw [h1] at h; cases h
  | true =>
  rw [h1, cond_true] at h
  cases h2 : (regF (ws.getD 2 ByteArray.empty)).2 with
  | false => rw [h2] at h; cases h
  | true =>
  rw [h2, cond_true] at h
  cases h3 : (regF (ws.getD 3 ByteArray.empty)).2 with
  | false => rw [h3] at h; cases h
  | true =>
  rw [h3, cond_true] at h
  cases h
  have r1 : regF (vs.getD 1 ByteArray.empty) = ((regF (ws.getD 1 ByteArray.empty)).1, true) := by rw [e1]; exact reg_back (reg_in h1)
  have r2 : regF (vs.getD 2 ByteArray.empty) = ((regF (ws.getD 2 ByteArray.empty)).1, true) := by rw [e2]; exact reg_back (reg_in h2)
  have r3 : regF (vs.getD 3 ByteArray.empty) = ((regF (ws.getD 3 ByteArray.empty)).1, true) := by rw [e3]; exact reg_back (reg_in h3)
  show (bif (regF (vs.getD 1 ByteArray.empty)).2 then (bif (regF (vs.getD 2 ByteArray.empty)).2 then (bif (regF (vs.getD 3 ByteArray.empty)).2 then some ({ noLn with op := i, a := (regF (vs.getD 1 ByteArray.empty)).1, b := (regF (vs.getD 2 ByteArray.empty)).1, c := (regF (vs.getD 3 ByteArray.empty)).1 } : Ln) else none) else none) else none) = _
  rw [r1, r2, r3]
  rfl
theorem bk_ABN (i : Nat) (ws vs : List ByteArray) (y : Ln) (h : fieldsF (⟨#[65, 66, 78]⟩ : ByteArray) ws 3 0 { noLn with op := i } = some y) (e1 : vs.getD 1 ByteArray.empty = fieldT y 65) (e2 : vs.getD 2 ByteArray.empty = fieldT y 66) (e3 : vs.getD 3 ByteArray.empty = fieldT y 78) : fieldsF (⟨#[65, 66, 78]⟩ : ByteArray) vs 3 0 { noLn with op := i } = some y := by
  have h : (bif (regF (ws.getD 1 ByteArray.empty)).2 then (bif (regF (ws.getD 2 ByteArray.empty)).2 then (bif (numF (ws.getD 3 ByteArray.empty)).2 then some ({ noLn with op := i, a := (regF (ws.getD 1 ByteArray.empty)).1, b := (regF (ws.getD 2 ByteArray.empty)).1, n := (numF (ws.getD 3 ByteArray.empty)).1 } : Ln) else none) else none) else none) = some y := h
  cases h1 : (regF (ws.getD 1 ByteArray.empty)).2 with
  | false => rw [h1] at h; cases h
  | true =>
  rw [h1, cond_true] at h
  cases h2 : (regF (ws.getD 2 ByteArray.empty)).2 with
  | false => rw [h2] at h; cases h
  | true =>
  rw [h2, cond_true] at h
  cases h3 : (numF (ws.getD 3 ByteArray.empty)).2 with
  | false => rw [h3] at h; cases h
  | true =>
  rw [h3, cond_true] at h
  cases h
  have r1 : regF (vs.getD 1 ByteArray.empty) = ((regF (ws.getD 1 ByteArray.empty)).1, true) := by rw [e1]; exact reg_back (reg_in h1)
  have r2 : regF (vs.getD 2 ByteArray.empty) = ((regF (ws.getD 2 ByteArray.empty)).1, true) := by rw [e2]; exact reg_back (reg_in h2)
  have r3 : numF (vs.getD 3 ByteArray.empty) = ((numF (ws.getD 3 ByteArray.empty)).1, true) := by rw [e3]; exact num_back (num_in _)
  show (bif (regF (vs.getD 1 ByteArray.empty)).2 then (bif (regF (vs.getD 2 ByteArray.empty)).2 then (bif (numF (vs.getD 3 ByteArray.empty)).2 then some ({ noLn with op := i, a := (regF (vs.getD 1 ByteArray.empty)).1, b := (regF (vs.getD 2 ByteArray.empty)).1, n := (numF (vs.getD 3 ByteArray.empty)).1 } : Ln) else none) else none) else none) = _
  rw [r1, r2, r3]
  rfl
theorem bk_T (i : Nat) (ws vs : List ByteArray) (y : Ln) (h : fieldsF (⟨#[84]⟩ : ByteArray) ws 1 0 { noLn with op := i } = some y) (e1 : vs.getD 1 ByteArray.empty = fieldT y 84) : fieldsF (⟨#[84]⟩ : ByteArray) vs 1 0 { noLn with op := i } = some y := by
  have h : (bif nameF (ws.getD 1 ByteArray.empty) then some ({ noLn with op := i, tg := (ws.getD 1 ByteArray.empty) } : Ln) else none) = some y := h
  cases h1 : nameF (ws.getD 1 ByteArray.empty) with
  | false => rw [h1] at h; cases h
  | true =>
  rw [h1, cond_true] at h
  cases h
  have q1 : (vs.getD 1 ByteArray.empty) = (ws.getD 1 ByteArray.empty) := e1
  show (bif nameF (vs.getD 1 ByteArray.empty) then some ({ noLn with op := i, tg := (vs.getD 1 ByteArray.empty) } : Ln) else none) = _
  rw [q1, h1]
  rfl
theorem bk_ABT (i : Nat) (ws vs : List ByteArray) (y : Ln) (h : fieldsF (⟨#[65, 66, 84]⟩ : ByteArray) ws 3 0 { noLn with op := i } = some y) (e1 : vs.getD 1 ByteArray.empty = fieldT y 65) (e2 : vs.getD 2 ByteArray.empty = fieldT y 66) (e3 : vs.getD 3 ByteArray.empty = fieldT y 84) : fieldsF (⟨#[65, 66, 84]⟩ : ByteArray) vs 3 0 { noLn with op := i } = some y := by
  have h : (bif (regF (ws.getD 1 ByteArray.empty)).2 then (bif (regF (ws.getD 2 ByteArray.empty)).2 then (bif nameF (ws.getD 3 ByteArray.empty) then some ({ noLn with op := i, a := (regF (ws.getD 1 ByteArray.empty)).1, b := (regF (ws.getD 2 ByteArray.empty)).1, tg := (ws.getD 3 ByteArray.empty) } : Ln) else none) else none) else none) = some y := h
  cases h1 : (regF (ws.getD 1 ByteArray.empty)).2 with
  | false => rw [h1] at h; cases h
  | true =>
  rw [h1, cond_true] at h
  cases h2 : (regF (ws.getD 2 ByteArray.empty)).2 with
  | false => rw [h2] at h; cases h
  | true =>
  rw [h2, cond_true] at h
  cases h3 : nameF (ws.getD 3 ByteArray.empty) with
  | false => rw [h3] at h; cases h
  | true =>
  rw [h3, cond_true] at h
  cases h
  have r1 : regF (vs.getD 1 ByteArray.empty) = ((regF (ws.getD 1 ByteArray.empty)).1, true) := by rw [e1]; exact reg_back (reg_in h1)
  have r2 : regF (vs.getD 2 ByteArray.empty) = ((regF (ws.getD 2 ByteArray.empty)).1, true) := by rw [e2]; exact reg_back (reg_in h2)
  have q3 : (vs.getD 3 ByteArray.empty) = (ws.getD 3 ByteArray.empty) := e3
  show (bif (regF (vs.getD 1 ByteArray.empty)).2 then (bif (regF (vs.getD 2 ByteArray.empty)).2 then (bif nameF (vs.getD 3 ByteArray.empty) then some ({ noLn with op := i, a := (regF (vs.getD 1 ByteArray.empty)).1, b := (regF (vs.getD 2 ByteArray.empty)).1, tg := (vs.getD 3 ByteArray.empty) } : Ln) else none) else none) else none) = _
  rw [r1, r2, q3, h3]
  rfl
theorem bk_A (i : Nat) (ws vs : List ByteArray) (y : Ln) (h : fieldsF (⟨#[65]⟩ : ByteArray) ws 1 0 { noLn with op := i } = some y) (e1 : vs.getD 1 ByteArray.empty = fieldT y 65) : fieldsF (⟨#[65]⟩ : ByteArray) vs 1 0 { noLn with op := i } = some y := by
  have h : (bif (regF (ws.getD 1 ByteArray.empty)).2 then some ({ noLn with op := i, a := (regF (ws.getD 1 ByteArray.empty)).1 } : Ln) else none) = some y := h
  cases h1 : (regF (ws.getD 1 ByteArray.empty)).2 with
  | false => rw [h1] at h; cases h
  | true =>
  rw [h1, cond_true] at h
  cases h
  have r1 : regF (vs.getD 1 ByteArray.empty) = ((regF (ws.getD 1 ByteArray.empty)).1, true) := by rw [e1]; exact reg_back (reg_in h1)
  show (bif (regF (vs.getD 1 ByteArray.empty)).2 then some ({ noLn with op := i, a := (regF (vs.getD 1 ByteArray.empty)).1 } : Ln) else none) = _
  rw [r1]
  rfl
theorem bk_NA (i : Nat) (ws vs : List ByteArray) (y : Ln) (h : fieldsF (⟨#[78, 65]⟩ : ByteArray) ws 2 0 { noLn with op := i } = some y) (e1 : vs.getD 1 ByteArray.empty = fieldT y 78) (e2 : vs.getD 2 ByteArray.empty = fieldT y 65) : fieldsF (⟨#[78, 65]⟩ : ByteArray) vs 2 0 { noLn with op := i } = some y := by
  have h : (bif (numF (ws.getD 1 ByteArray.empty)).2 then (bif (regF (ws.getD 2 ByteArray.empty)).2 then some ({ noLn with op := i, n := (numF (ws.getD 1 ByteArray.empty)).1, a := (regF (ws.getD 2 ByteArray.empty)).1 } : Ln) else none) else none) = some y := h
  cases h1 : (numF (ws.getD 1 ByteArray.empty)).2 with
  | false => rw [h1] at h; cases h
  | true =>
  rw [h1, cond_true] at h
  cases h2 : (regF (ws.getD 2 ByteArray.empty)).2 with
  | false => rw [h2] at h; cases h
  | true =>
  rw [h2, cond_true] at h
  cases h
  have r1 : numF (vs.getD 1 ByteArray.empty) = ((numF (ws.getD 1 ByteArray.empty)).1, true) := by rw [e1]; exact num_back (num_in _)
  have r2 : regF (vs.getD 2 ByteArray.empty) = ((regF (ws.getD 2 ByteArray.empty)).1, true) := by rw [e2]; exact reg_back (reg_in h2)
  show (bif (numF (vs.getD 1 ByteArray.empty)).2 then (bif (regF (vs.getD 2 ByteArray.empty)).2 then some ({ noLn with op := i, n := (numF (vs.getD 1 ByteArray.empty)).1, a := (regF (vs.getD 2 ByteArray.empty)).1 } : Ln) else none) else none) = _
  rw [r1, r2]
  rfl
end Go.Proofs.YtjbnkdpeohbakaaDoor.X.Ip

set_option linter.unusedVariables false
set_option linter.unusedSimpArgs false
namespace Go.Proofs.YtjbnkdpeohbakaaDoor.X.Ip
open Go Go.RowKit Go.Proofs.YtjbnkdpeohbakaaDoorW.PrintWords Go.Proofs.YtjbnkdpeohbakaaDoor.Base Go.Proofs.YtjbnkdpeohbakaaDoor.X
def wordsT (x : Ln) (i : Nat) : List ByteArray := wordS i :: (List.range (hasS i).size).map fun j => fieldT x (bt' (hasS i) j)
theorem fields_back (i : Nat) (h1 : 1 ≤ i) (h2 : i < 23) (ws : List ByteArray) (y : Ln) (h : fieldsF (hasS i) ws (hasS i).size 0 { noLn with op := i } = some y) : fieldsF (hasS i) (wordsT y i) (hasS i).size 0 { noLn with op := i } = some y := by
  match i, h1, h2, h with
  | 1, _, _, h => exact bk_AN 1 ws _ y h rfl rfl
  | 2, _, _, h => exact bk_AB 2 ws _ y h rfl rfl
  | 3, _, _, h => exact bk_ABC 3 ws _ y h rfl rfl rfl
  | 4, _, _, h => exact bk_ABN 4 ws _ y h rfl rfl rfl
  | 5, _, _, h => exact bk_ABN 5 ws _ y h rfl rfl rfl
  | 6, _, _, h => exact bk_ABN 6 ws _ y h rfl rfl rfl
  | 7, _, _, h => exact bk_ABN 7 ws _ y h rfl rfl rfl
  | 8, _, _, h => exact bk_T 8 ws _ y h rfl
  | 9, _, _, h => exact bk_ABT 9 ws _ y h rfl rfl rfl
  | 10, _, _, h => exact bk_ABT 10 ws _ y h rfl rfl rfl
  | 11, _, _, h => exact bk_ABT 11 ws _ y h rfl rfl rfl
  | 12, _, _, h => exact bk_T 12 ws _ y h rfl
  | 13, _, _, h => exact h
  | 14, _, _, h => exact bk_A 14 ws _ y h rfl
  | 15, _, _, h => exact bk_A 15 ws _ y h rfl
  | 16, _, _, h => exact bk_AN 16 ws _ y h rfl rfl
  | 17, _, _, h => exact bk_A 17 ws _ y h rfl
  | 18, _, _, h => exact bk_A 18 ws _ y h rfl
  | 19, _, _, h => exact bk_A 19 ws _ y h rfl
  | 20, _, _, h => exact h
  | 21, _, _, h => exact bk_NA 21 ws _ y h rfl rfl
  | 22, _, _, h => exact bk_A 22 ws _ y h rfl
  | k + 23, _, h, _ => exact absurd h (by omega)
theorem part_field (x : Ln) (w : Int) : partF x w = spS ++ fieldT x w := by
  have e : ∀ f : ByteArray, srS ++ f = spS ++ (rS ++ f) := fun f => ba_ext (by rw [app_data, app_data, app_data]; rfl)
  unfold partF fieldT
  cases w == 65 <;> cases w == 66 <;> cases w == 67 <;> cases w == 78 <;> simp only [cond_true, cond_false, e]
theorem join_snoc : ∀ (a : ByteArray) (l : List ByteArray) (b : ByteArray), joinL (a :: (l ++ [b])) = joinL (a :: l) ++ 32 :: b.data.toList
  | a, [], b => rfl
  | a, c :: r, b => by
    show a.data.toList ++ 32 :: joinL (c :: (r ++ [b])) = (a.data.toList ++ 32 :: joinL (c :: r)) ++ 32 :: b.data.toList
    rw [join_snoc c r b, List.append_assoc]
    rfl
theorem wr_join (x : Ln) : ∀ n, (wrF x n).data.toList = joinL (wordS x.op.toNat :: (List.range n).map fun j => fieldT x (bt' (hasS x.op.toNat) j))
  | 0 => rfl
  | n + 1 => by
    rw [List.range_succ, List.map_append]
    show (wrF x n ++ partF x (bt' (hasS x.op.toNat) n)).data.toList = joinL (_ :: (_ ++ [fieldT x (bt' (hasS x.op.toNat) n)]))
    rw [join_snoc, app_data, wr_join x n, part_field, app_data]
    rfl
def okC (c : UInt8) : Bool := c != 32 && (c != 9 && c != 58)
theorem word_ok (i : Nat) (h1 : 1 ≤ i) (h2 : i < 23) : (wordS i).data.toList.all okC = true ∧ ((wordS i).data.toList.head?.any fun a => a != 32 && (a != 9 && a != 59)) = true := by
  have : ∀ i < 23, 1 ≤ i → (wordS i).data.toList.all okC = true ∧ ((wordS i).data.toList.head?.any fun a => a != 32 && (a != 9 && a != 59)) = true := by decide +kernel
  exact this i h2 h1
theorem words_apart (i : Nat) (h2 : i < 23) (j : Nat) (h : j < i) : (wordS j).data.toList = [] ∨ (wordS j).data.toList ≠ (wordS i).data.toList := by
  have : ∀ i < 23, ∀ j < i, (wordS j).data.toList = [] ∨ (wordS j).data.toList ≠ (wordS i).data.toList := by decide +kernel
  exact this i h2 j h
theorem dig_ne (u : Nat) : Lib.decDigits u ≠ [] := by
  unfold Lib.decDigits
  split
  · simp
  · simp
theorem fmt_ok (n : Int) : (∀ c ∈ (fmtW n).data.toList, okC c = true) ∧ (fmtW n).data.toList ≠ [] := by
  have hd : ∀ u : Nat, ∀ c ∈ Lib.decDigits u, okC c = true := fun u c hc => by
    have hb : c ∈ ([48, 49, 50, 51, 52, 53, 54, 55, 56, 57] : List UInt8) := digits_in u c hc
    simp only [List.mem_cons, List.not_mem_nil, or_false] at hb
    rcases hb with rfl | rfl | rfl | rfl | rfl | rfl | rfl | rfl | rfl | rfl <;> decide
  by_cases hn : n < 0
  · obtain ⟨u, rfl⟩ : ∃ u : Nat, n = -(u : Int) := ⟨n.natAbs, by omega⟩
    have e : (fmtW (-(u : Int))).data.toList = 45 :: Lib.decDigits u := (show (fmtW (-(u : Int))).data.toList = Lib.itoa (-(u : Int)) from rfl).trans (Lib.itoa_neg u (by omega))
    rw [e]
    refine ⟨fun c hc => ?_, by simp⟩
    rcases List.mem_cons.1 hc with rfl | hc
    · decide
    · exact hd u c hc
  · obtain ⟨u, rfl⟩ : ∃ u : Nat, n = (u : Int) := ⟨n.toNat, by omega⟩
    have e : (fmtW (u : Int)).data.toList = Lib.decDigits u := (show (fmtW (u : Int)).data.toList = Lib.itoa (u : Int) from rfl).trans (Lib.itoa_nonneg u)
    rw [e]
    exact ⟨hd u, dig_ne u⟩
theorem name_byte {s : ByteArray} (h : nameF s = true) : s.data.toList ≠ [] ∧ ∀ c ∈ s.data.toList, okC c = true := by
  unfold nameF at h
  cases h1 : headF s with
  | true => rw [h1] at h; cases h
  | false =>
    rw [h1, cond_false] at h
    have h2 : (bif (bif decide ((s.size : Int) < 1) then true else decide ((s.size : Int) > 24)) then true else !(letterF (bt' s 0))) = false := h1
    have hz : 1 ≤ s.size := by
      cases h3 : (bif decide ((s.size : Int) < 1) then true else decide ((s.size : Int) > 24)) with
      | true => rw [h3] at h2; cases h2
      | false => simp at h3; omega
    have hl : s.data.toList.length = s.size := Array.length_toList
    refine ⟨fun e => by rw [e] at hl; simp at hl; omega, fun c hc => ?_⟩
    obtain ⟨n, hn, rfl⟩ := List.mem_iff_getElem.1 hc
    unfold allF at h
    have hb := List.all_eq_true.1 h n (List.mem_range.2 (by omega))
    have hn' : n < s.size := by omega
    have hbt : bt' s n = ((s.data.toList[n]).toNat : Int) := by
      unfold bt'
      rw [dif_pos hn']
      rfl
    rw [hbt] at hb
    have hb := not_t (by simpa using hb : (!(badF ((s.data.toList[n]).toNat : Int))) = true)
    have hne : ∀ k : UInt8, badF (k.toNat : Int) = true → s.data.toList[n] ≠ k := fun k hk e => by
      rw [e, hk] at hb
      cases hb
    unfold okC
    simp only [bne_iff_ne, Bool.and_eq_true, ne_eq]
    exact ⟨hne 32 (by decide), hne 9 (by decide), hne 58 (by decide)⟩
def isT (w : Int) : Bool := !(w == 65) && (!(w == 66) && (!(w == 67) && !(w == 78)))
theorem fieldF_T {x : Ln} {w : Int} (s : ByteArray) (hw : isT w = true) : fieldF x w s = ({ x with tg := s }, nameF s) := by
  unfold isT at hw
  simp only [Bool.and_eq_true] at hw
  unfold fieldF
  rw [not_t hw.1, not_t hw.2.1, not_t hw.2.2.1, not_t hw.2.2.2]
  rfl
theorem fieldF_N {x : Ln} {w : Int} (s : ByteArray) (hw : isT w = false) : (fieldF x w s).1.tg = x.tg := by
  unfold isT at hw
  unfold fieldF
  cases h65 : (w == 65) with
  | true => rfl
  | false =>
    cases h66 : (w == 66) with
    | true => rfl
    | false =>
      cases h67 : (w == 67) with
      | true => rfl
      | false =>
        cases h78 : (w == 78) with
        | true => rfl
        | false => rw [h65, h66, h67, h78] at hw; cases hw
theorem fields_name (has : ByteArray) (ws : List ByteArray) : ∀ (f j : Nat) (x y : Ln), fieldsF has ws f j x = some y → (nameF x.tg = true ∨ ∃ k, j ≤ k ∧ k < j + f ∧ isT (bt' has k) = true) → nameF y.tg = true
  | 0, j, x, y, e, h => by
    cases e
    rcases h with h | ⟨k, h1, h2, _⟩
    · exact h
    · omega
  | f + 1, j, x, y, e, h => by
    have e : (bif (fieldF x (bt' has j) (ws.getD (j + 1) ByteArray.empty)).2 then fieldsF has ws f (j + 1) (fieldF x (bt' has j) (ws.getD (j + 1) ByteArray.empty)).1 else none) = some y := e
    cases h2 : (fieldF x (bt' has j) (ws.getD (j + 1) ByteArray.empty)).2 with
    | false => rw [h2] at e; cases e
    | true =>
      rw [h2, cond_true] at e
      refine fields_name has ws f (j + 1) _ y e ?_
      cases hT : isT (bt' has j) with
      | true =>
        rw [fieldF_T _ hT] at h2 ⊢
        exact .inl h2
      | false =>
        rcases h with h | ⟨k, h1, h3, h4⟩
        · rw [fieldF_N _ hT]
          exact .inl h
        · refine .inr ⟨k, ?_, by omega, h4⟩
          rcases Nat.lt_or_ge j k with hk | hk
          · omega
          · have : k = j := by omega
            rw [this, hT] at h4
            cases h4
theorem field_ok {y : Ln} (w : Int) (h : isT w = true → nameF y.tg = true) : (∀ c ∈ (fieldT y w).data.toList, okC c = true) ∧ (fieldT y w).data.toList ≠ [] := by
  have hr : ∀ n : Int, (∀ c ∈ (rS ++ fmtW n).data.toList, okC c = true) ∧ (rS ++ fmtW n).data.toList ≠ [] := fun n => by
    rw [app_data]
    refine ⟨fun c hc => ?_, by simp⟩
    rcases List.mem_append.1 hc with hc | hc
    · have hc : c ∈ ([114] : List UInt8) := hc
      simp only [List.mem_cons, List.not_mem_nil, or_false] at hc
      rw [hc]
      decide
    · exact (fmt_ok n).1 c hc
  unfold isT at h
  unfold fieldT
  cases h65 : (w == 65) with
  | true => exact hr _
  | false =>
    cases h66 : (w == 66) with
    | true => exact hr _
    | false =>
      cases h67 : (w == 67) with
      | true => exact hr _
      | false =>
        cases h78 : (w == 78) with
        | true => exact fmt_ok _
        | false =>
          have hn := name_byte (h (by rw [h65, h66, h67, h78]; rfl))
          exact ⟨hn.2, hn.1⟩
theorem join_last : ∀ (a : ByteArray) (l : List ByteArray), (∀ b ∈ a :: l, (∀ c ∈ b.data.toList, okC c = true) ∧ b.data.toList ≠ []) → ∃ c, (joinL (a :: l)).getLast? = some c ∧ okC c = true
  | a, [], h => by
    have ha := h a List.mem_cons_self
    refine ⟨a.data.toList.getLast ha.2, ?_, ha.1 _ (List.getLast_mem ha.2)⟩
    show a.data.toList.getLast? = _
    exact List.getLast?_eq_some_getLast ha.2
  | a, b :: r, h => by
    obtain ⟨c, h1, h2⟩ := join_last b r fun x hx => h x (List.mem_cons_of_mem _ hx)
    refine ⟨c, ?_, h2⟩
    show (a.data.toList ++ 32 :: joinL (b :: r)).getLast? = some c
    rw [List.getLast?_append, List.getLast?_cons]
    rw [h1]
    rfl
end Go.Proofs.YtjbnkdpeohbakaaDoor.X.Ip

set_option linter.unusedVariables false
set_option linter.unusedSimpArgs false
namespace Go.Proofs.YtjbnkdpeohbakaaDoor.X.Ip
open Go Go.RowKit Go.Proofs.YtjbnkdpeohbakaaDoorW.PrintWords Go.Proofs.YtjbnkdpeohbakaaDoor.Base Go.Proofs.YtjbnkdpeohbakaaDoor.X
theorem join_head (a : ByteArray) (l : List ByteArray) {c : UInt8} (h : a.data.toList.head? = some c) : (joinL (a :: l)).head? = some c := by
  match l with
  | [] => exact h
  | b :: r =>
    show (a.data.toList ++ 32 :: joinL (b :: r)).head? = some c
    rw [List.head?_append, h]
    rfl
theorem suf_no {L : List UInt8} {c : UInt8} (h : L.getLast? = some c) (hc : c ≠ 58) : Lib.hasSuffix L [58] = false := by
  unfold Lib.hasSuffix
  have hh : L.reverse.head? = some c := by rw [List.head?_reverse]; exact h
  show ([58] : List UInt8).reverse.isPrefixOf L.reverse = false
  match hq : L.reverse, hh with
  | d :: r, hh =>
    obtain rfl : d = c := Option.some.inj hh
    show ((58 : UInt8) == d && _) = false
    have e : ((58 : UInt8) == d) = false := by
      cases hb : ((58 : UInt8) == d) with
      | false => rfl
      | true => exact absurd (eq_of_beq hb).symm hc
    rw [e]
    rfl
theorem bt_head {T : ByteArray} {c : UInt8} (h : T.data.toList.head? = some c) : bt' T 0 = (c.toNat : Int) := by
  have hl : T.data.toList.length = T.size := Array.length_toList
  match hq : T.data.toList, h with
  | d :: r, h =>
    obtain rfl : d = c := Option.some.inj h
    have hz : 0 < T.size := by rw [hq] at hl; simp at hl; omega
    unfold bt'
    rw [dif_pos hz]
    have : T.data.toList[0]'(by rw [hl]; exact hz) = d := by simp only [hq]; rfl
    rw [← this]
    rfl
theorem ne_empty {T : ByteArray} {c : UInt8} (h : T.data.toList.head? = some c) : (T.toList == ByteArray.empty.toList) = false := by
  cases hb : (T.toList == ByteArray.empty.toList) with
  | false => rfl
  | true =>
    rw [(str_eq _ _).1 hb] at h
    cases h
theorem op_skip (ws : List ByteArray) : ∀ i, i < 23 → (∀ j, j < i → skipF ws j = true) → opF ws 23 0 = opF ws (23 - i) i
  | 0, _, _ => rfl
  | i + 1, hi, h => by
    rw [op_skip ws i (by omega) fun j hj => h j (by omega), opF_step ws (by omega : i < 23), h i (Nat.lt_succ_self i)]
    rfl
theorem op_back (i : Nat) (h1 : 1 ≤ i) (h2 : i < 23) (ws : List ByteArray) (y : Ln) (hq : fieldsF (hasS i) ws (hasS i).size 0 { noLn with op := i } = some y) (h7 : (bif (i : Int) == 7 then decide (y.a > 13) else false) = false) : parseF (writtenF y) = some y := by
  have hh := fields_has (hasS i) ws (hasS i).size 0 _ y (false, false, false, false) (i := i) ⟨rfl, (fun _ => rfl), (fun _ => rfl), (fun _ => rfl), (fun _ => rfl), rfl, rfl, rfl, (show -999999999999999999 ≤ (0 : Int) by decide), (show (0 : Int) ≤ 999999999999999999 by decide)⟩ hq
  have ht := fields_tg (hasS i) ws (hasS i).size 0 { noLn with op := i } y (show ByteArray.empty.size ≤ 1000 by decide) hq
  have ho : y.op = i := hh.op
  have hon : y.op.toNat = i := by omega
  have hlb : y.lb = ByteArray.empty := ht.2
  have hw : writtenF y = wrF y (hasS i).size := by
    unfold writtenF
    rw [hlb, (str_eq _ _).2 rfl, ho, decide_eq_false (by omega), decide_eq_false (by omega), Int.toNat_natCast]
    rfl
  have hL : (writtenF y).data.toList = joinL (wordsT y i) := by
    rw [hw, wr_join, hon]
    rfl
  obtain ⟨hwk, hwh⟩ := word_ok i h1 h2
  obtain ⟨c0, hc0, hc1⟩ : ∃ c, (wordS i).data.toList.head? = some c ∧ (c != 32 && (c != 9 && c != 59)) = true := by
    cases hd : (wordS i).data.toList.head? with
    | none => rw [hd] at hwh; cases hwh
    | some c => rw [hd] at hwh; exact ⟨c, rfl, hwh⟩
  simp only [bne_iff_ne, Bool.and_eq_true, ne_eq] at hc1
  have hall : ∀ b ∈ wordsT y i, (∀ c ∈ b.data.toList, okC c = true) ∧ b.data.toList ≠ [] := fun b hb => by
    rcases List.mem_cons.1 hb with rfl | hb
    · exact ⟨fun c hc => List.all_eq_true.1 hwk c hc, fun e => by rw [e] at hc0; cases hc0⟩
    · obtain ⟨j, hj, rfl⟩ := List.mem_map.1 hb
      have hj := List.mem_range.1 hj
      exact field_ok _ fun hT => fields_name (hasS i) ws (hasS i).size 0 _ y hq (.inr ⟨j, Nat.zero_le _, by omega, hT⟩)
  obtain ⟨c9, hc9, hk9⟩ := join_last _ _ hall
  have hk9 : (c9 != 32 && (c9 != 9 && c9 != 58)) = true := hk9
  simp only [bne_iff_ne, Bool.and_eq_true, ne_eq] at hk9
  have hhead : (writtenF y).data.toList.head? = some c0 := by rw [hL]; exact join_head _ _ hc0
  have hlast : (writtenF y).data.toList.getLast? = some c9 := by rw [hL]; exact hc9
  have htab : ∀ c : UInt8, c ≠ 32 → c ≠ 9 → tabS.data.toList.contains c = false := fun c e1 e2 => by
    show ([32, 9] : List UInt8).contains c = false
    simp [e1, e2]
  have hT : trimW (writtenF y) tabS = writtenF y := by
    unfold trimW
    rw [trim_none hhead hlast (htab _ hc1.1 hc1.2.1) (htab _ hk9.1 hk9.2.1)]
    exact ba_ext rfl
  have hparts : partsW (writtenF y) spS = wordsT y i := parts_join hL (by unfold wordsT; simp) fun a ha hm => by
    have := (hall a ha).1 32 hm
    revert this
    decide
  have hsz : (wordsT y i).length = (hasS i).size + 1 := by
    unfold wordsT
    simp
  have hs1 : ∀ j, j < i → skipF (wordsT y i) j = true := fun j hj => by
    unfold skipF
    rcases words_apart i h2 j hj with e | e
    · rw [(str_eq (wordS j) ByteArray.empty).2 (ba_ext e)]
      rfl
    · have : ((wordS j).toList == ((wordsT y i).getD 0 ByteArray.empty).toList) = false := by
        cases hb : ((wordS j).toList == ((wordsT y i).getD 0 ByteArray.empty).toList) with
        | false => rfl
        | true =>
          have e2 : wordS j = wordS i := (str_eq _ _).1 hb
          exact absurd (by rw [e2]) e
      rw [this]
      cases ((wordS j).toList == ByteArray.empty.toList) <;> rfl
  have hs2 : skipF (wordsT y i) i = false := by
    unfold skipF
    rw [ne_empty hc0, show ((wordS i).toList == ((wordsT y i).getD 0 ByteArray.empty).toList) = true from (str_eq _ _).2 rfl, hsz]
    have : (((hasS i).size : Int) == (((hasS i).size + 1 : Nat) : Int) - 1) = true := by
      rw [beq_iff_eq]
      omega
    rw [this]
    rfl
  have hF := fields_back i h1 h2 ws y hq
  have hop : opF (wordsT y i) 23 0 = some y := by
    rw [op_skip _ i h2 hs1, opF_step _ h2, hs2, hsz, Nat.add_sub_cancel, hF]
    show (bif (bif (i : Int) == 7 then decide (y.a > 13) else false) then none else some y) = some y
    rw [h7]
    rfl
  have h59 : (bt' (writtenF y) 0 == 59) = false := by
    rw [bt_head hhead]
    cases hb : ((c0.toNat : Int) == 59) with
    | false => rfl
    | true =>
      have := eq_of_beq hb
      exact absurd (UInt8.toNat_inj.1 (by show c0.toNat = 59; omega)) hc1.2.2
  have hcol : hsufF (writtenF y) colS = false := by
    unfold hsufF
    exact suf_no hlast hk9.2.2
  unfold parseF
  rw [hT, ne_empty hhead, h59, hcol, hparts]
  exact hop
end Go.Proofs.YtjbnkdpeohbakaaDoor.X.Ip

set_option linter.unusedVariables false
set_option linter.unusedSimpArgs false
namespace Go.Proofs.YtjbnkdpeohbakaaDoor.X.Ip
open Go Go.RowKit Go.Proofs.YtjbnkdpeohbakaaDoorW.PrintWords Go.Proofs.YtjbnkdpeohbakaaDoor.Base Go.Proofs.YtjbnkdpeohbakaaDoor.X
theorem name_head {s : ByteArray} (h : nameF s = true) : ∃ c, s.data.toList.head? = some c ∧ c ≠ 32 ∧ c ≠ 9 ∧ c ≠ 59 := by
  have hb := name_byte h
  match hq : s.data.toList, hb.1 with
  | c :: r, _ =>
    have hk := hb.2 c (by rw [hq]; exact List.mem_cons_self)
    have hk : (c != 32 && (c != 9 && c != 58)) = true := hk
    simp only [bne_iff_ne, Bool.and_eq_true, ne_eq] at hk
    refine ⟨c, rfl, hk.1, hk.2.1, fun e => ?_⟩
    unfold nameF at h
    cases h1 : headF s with
    | true => rw [h1] at h; cases h
    | false =>
      have h2 : (bif (bif decide ((s.size : Int) < 1) then true else decide ((s.size : Int) > 24)) then true else !(letterF (bt' s 0))) = false := h1
      cases h3 : (bif decide ((s.size : Int) < 1) then true else decide ((s.size : Int) > 24)) with
      | true => rw [h3] at h2; cases h2
      | false =>
        rw [h3, cond_false, bt_head (c := c) (by rw [hq]; rfl), e] at h2
        revert h2
        decide
theorem label_back {l : ByteArray} (h : nameF l = true) : parseF (writtenF { noLn with lb := l }) = some { noLn with lb := l } := by
  obtain ⟨c0, hc0, e1, e2, e3⟩ := name_head h
  have hw : writtenF { noLn with lb := l } = l ++ colS := by
    unfold writtenF
    rw [ne_empty (T := l) hc0]
    rfl
  have hL : (l ++ colS).data.toList = l.data.toList ++ [58] := app_data _ _
  have hhead : (l ++ colS).data.toList.head? = some c0 := by rw [hL, List.head?_append, hc0]; rfl
  have hlast : (l ++ colS).data.toList.getLast? = some 58 := by rw [hL]; simp
  have htab : ∀ c : UInt8, c ≠ 32 → c ≠ 9 → tabS.data.toList.contains c = false := fun c e1 e2 => by
    show ([32, 9] : List UInt8).contains c = false
    simp [e1, e2]
  have hT : trimW (l ++ colS) tabS = l ++ colS := by
    unfold trimW
    rw [trim_none hhead hlast (htab _ e1 e2) (by decide)]
    exact ba_ext rfl
  have h59 : (bt' (l ++ colS) 0 == 59) = false := by
    rw [bt_head hhead]
    cases hb : ((c0.toNat : Int) == 59) with
    | false => rfl
    | true =>
      have := eq_of_beq hb
      exact absurd (UInt8.toNat_inj.1 (by show c0.toNat = 59; omega)) e3
  have hs : Lib.hasSuffix (l ++ colS).data.toList [58] = true := by
    unfold Lib.hasSuffix
    rw [hL]
    simp
  have ht : tsufW (l ++ colS) colS = l := by
    unfold tsufW Lib.trimSuffix
    rw [show Lib.hasSuffix (l ++ colS).data.toList colS.data.toList = true from hs, if_pos rfl, hL]
    refine ba_ext ?_
    show (l.data.toList ++ [58]).take ((l.data.toList ++ [58]).length - 1) = l.data.toList
    simp
  rw [hw]
  unfold parseF
  rw [hT, ne_empty hhead, h59, show hsufF (l ++ colS) colS = true from hs, ht, h]
  rfl
theorem op_rt (ws : List ByteArray) : ∀ (f i : Nat) (x : Ln), i + f = 23 → opF ws f i = some x → parseF (writtenF x) = some x
  | 0, i, x, hf, e => by cases e
  | f + 1, i, x, hf, e => by
    have e : (bif skipF ws i then opF ws f (i + 1) else (fieldsF (hasS i) ws (ws.length - 1) 0 { noLn with op := i }).bind (lastF i)) = some x := e
    cases hs : skipF ws i with
    | true =>
      rw [hs, cond_true] at e
      exact op_rt ws f (i + 1) x (by omega) e
    | false =>
      rw [hs, cond_false] at e
      cases hq : fieldsF (hasS i) ws (ws.length - 1) 0 { noLn with op := i } with
      | none => rw [hq] at e; cases e
      | some y =>
        rw [hq] at e
        have e : (bif (bif (i : Int) == 7 then decide (y.a > 13) else false) then none else some y) = some x := e
        cases h7 : (bif (i : Int) == 7 then decide (y.a > 13) else false) with
        | true => rw [h7] at e; cases e
        | false =>
          rw [h7, cond_false] at e
          obtain rfl : y = x := Option.some.inj e
          have h1 : 1 ≤ i := by
            refine Nat.pos_of_ne_zero fun h0 => ?_
            subst h0
            have hz : skipF ws 0 = true := by
              unfold skipF
              rw [show ((wordS 0).toList == ByteArray.empty.toList) = true from (str_eq _ _).2 rfl]
              rfl
            rw [hz] at hs
            cases hs
          have hl : ws.length - 1 = (hasS i).size := by
            have h4 := hs
            unfold skipF at h4
            cases h5 : (bif (wordS i).toList == ByteArray.empty.toList then true else !((wordS i).toList == (ws.getD 0 ByteArray.empty).toList)) with
            | true => rw [h5] at h4; cases h4
            | false =>
              rw [h5, cond_false] at h4
              have := eq_of_beq (not_f h4)
              omega
          rw [hl] at hq
          exact op_back i h1 (by omega) ws y hq h7
theorem parse_back (s : ByteArray) (m : Ln) (h : parseF s = some m) : parseF (writtenF m) = some m := by
  unfold parseF at h
  cases h1 : (bif (trimW s tabS).toList == ByteArray.empty.toList then true else bt' (trimW s tabS) 0 == 59) with
  | true =>
    rw [h1, cond_true] at h
    cases h
    kernel_rfl
  | false =>
    rw [h1, cond_false] at h
    cases h2 : hsufF (trimW s tabS) colS with
    | true =>
      rw [h2, cond_true] at h
      cases h3 : nameF (tsufW (trimW s tabS) colS) with
      | true =>
        rw [h3, cond_true] at h
        cases h
        exact label_back h3
      | false => rw [h3] at h; cases h
    | false =>
      rw [h2, cond_false] at h
      exact op_rt _ 23 0 m rfl h
theorem back_walk (cs0 : Array Value) (x0 : LnT) (s : ByteArray) (W : World) (hk : konD.ok W) (hK0 : kdLn.K W x0 cs0.toList) (hw0 : WfT x0) (ws : s.size ≤ 140737488351232) :
    Calls Tryd.prog 6 #[.agg cs0, .string s] W fun e w' => e = .returned (.bool true) ∧ Below W.heap.size W w' := by
  rw [ln_open hK0 nov]
  exact walk_ros hk (back_local parse_back (Ln.ofK x0) s (wi_of hw0)) (W := W) (ν := nov) (fun k e he => by cases k <;> cases he) (v := .bool true) fun _ _ => rfl
end Go.Proofs.YtjbnkdpeohbakaaDoor.X.Ip

