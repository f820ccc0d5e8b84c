/- A symbolic run of functions' texts, proved, and what it tells of the functions that the law MicroOne reaches; no conditions. -/
import Derived.Test.YtehecaipmdfjmaaKMicroOne3
import Derived.WalkMore
import Derived.ProofKit
import Derived.Lib.SmallJoins
import Derived.OpenShut
set_option linter.unusedVariables false
set_option linter.unusedSimpArgs false
namespace Go.Proofs.Ytehecaipmdfjmaa.X.Mi
open Go Go.RowKit Go.Proofs.YtehecaipmdfjmaaW.PrintWords Go.Proofs.Ytehecaipmdfjmaa.Base Go.Proofs.Ytehecaipmdfjmaa.X
abbrev irow (own : Bool) (n cap : Nat) (z : Nat → Int) : Ent := Ent.rw own 2 1 n cap fun i => [iv (z i)]
def startF (at_ : Int) (n : Nat) (z : Nat → Int) : Fr := ⟨at_, fun k => if k < n then z k else 0⟩
abbrev startC (at_ : Int) (own : Bool) (n cap : Nat) (z : Nat → Int) (ρ : List Nat) (k : Nat) : CallSpec := mSpec ρ k [iav at_, .c (.sl 0 0 0 1 n cap)] [irow own n cap z] (fun _ => True) (fun _ => .a (.c (.sl 1 0 0 17 1 1))) fun _ => [irow own n cap z, frow true 1 1 fun _ => startF at_ n z]
abbrev start0C (at_ : Int) (k : Nat) : CallSpec := mSpec [] k [iav at_, .c (.v (.slice none 0 0))] [] (fun _ => True) (fun _ => .a (.c (.sl 0 0 0 17 1 1))) fun _ => [frow true 1 1 fun _ => ⟨at_, fun _ => 0⟩]
def newA : Ar := ⟨1, 1, fun _ => 0, 4096⟩
def newT (k : Nat) : Tb := ⟨k, k, fun _ => ⟨false, false, false, 0⟩, 0⟩
abbrev newAC (k : Nat) : CallSpec := mSpec [] k [iav 4096] [] (fun _ => True) (fun _ => .tup [bptr 0 2, .c nilE]) fun _ => [newA.box 1, newA.row]
abbrev newTC (n : Nat) (k : Nat) : CallSpec := mSpec [] k [iav n] [] (fun _ => True) (fun _ => .tup [bptr 0 2, .c nilE]) fun _ => [(newT n).box 1, (newT n).row]
abbrev acloneC (a : Ar) (ρ : List Nat) (k : Nat) : CallSpec := mSpec ρ k [bptr 0 2] [a.box 1, a.row] (fun _ => True) (fun _ => .a (bptr 2 2)) fun c => [a.box 1, a.row, ({ a with cap := c 0 } : Ar).box 3, ({ a with cap := c 0 } : Ar).row]
def cloneG (a : Ar) (t : Tb) : Ctr := fun f args H => match args with
  | [.c (.sl k _ _ _ _ _)] => bif Nat.beq f 28 then some (icloneC a [k] H.length) else some (pcloneC t [k] H.length)
  | _ => none
def taclone (a : Ar) (t : Tb) : Tree :=
  Tree.callf 28 [AV.c (CV.sl 1 0 0 1 a.1 a.2)] [{ own := true, box := true, ty := 72, sz := 2, m := 1, n := fun x => 1, cap := fun x => 1, f := fun x x_1 => [CV.sl 1 0 0 1 a.1 a.2, CV.v (Value.int IntKind.i64 a.4)], ov := [] }, (Ent.rw true 2 1 a.1 a.2 fun ii => [CV.v (Value.int IntKind.i64 (a.3 ii))])] (icloneC a [1] 2) fun c => Tree.chk (AV.c (CV.v (Value.int IntKind.i64 a.4)) = AV.c (CV.v (Value.int IntKind.i64 a.4)))
   (Tree.chk (AV.c (CV.ptr ⟨0, 0, 0, 2, 1, 0, 0, 0⟩) = AV.c (CV.ptr ⟨0, 0, 0, 2, 1, 0, 0, 0⟩))
   (Tree.chk (AV.c (CV.ptr ⟨0, 0, 0, 2, 0, 0, 0, 0⟩) = AV.c (CV.ptr ⟨0, 0, 0, 2, 0, 0, 0, 0⟩))
   (Tree.chk (AV.c (CV.ptr ⟨0, 0, 0, 2, 0, 0, 0, 0⟩) = AV.c (CV.ptr ⟨0, 0, 0, 2, 0, 0, 0, 0⟩))
   (Tree.done (XV.a (AV.c (CV.ptr ⟨3, 0, 0, 2, 0, 0, 0, 0⟩))) [{ own := true, box := true, ty := 72, sz := 2, m := 1, n := fun x => 1, cap := fun x => 1, f := fun x x_1 => [CV.sl 1 0 0 1 a.1 a.2, CV.v (Value.int IntKind.i64 a.4)], ov := [] }, (Ent.rw true 2 1 a.1 a.2 fun ii => [CV.v (Value.int IntKind.i64 (a.3 ii))]), (Ent.rw true 2 1 a.1 (c 0) fun ii => [CV.v (Value.int IntKind.i64 (a.3 ii))]), { own := true, box := true, ty := 72, sz := 2, m := 1, n := fun x => 1, cap := fun x => 1, f := fun x x_1 => [CV.sl 2 0 0 1 a.1 (c 0), CV.v (Value.int IntKind.i64 a.4)], ov := [] }]))))
theorem taclone_eq (a : Ar) (t : Tb) : xfunc tab (cloneG a t) noInv Go.Proofs.Try.f14 [bptr 0 2] [a.box 1, a.row] [0, 1, 2, 3] = taclone a t := by kernel_rfl
def tstart (at_ : Int) (own : Bool) (n cap : Nat) (z : Nat → Int) : Tree :=
  Tree.chk (0 < 1 ∧ 0 + n ≤ n)
   (Tree.chk (∀ (q : Nat), q < n → q < 16 → [CV.v (Value.int IntKind.i64 (z q))] = [CV.v (Value.int IntKind.i64 (z q))])
   (Tree.done (XV.a (AV.c (CV.sl 2 0 0 17 1 1))) [(Ent.rw own 2 1 n cap fun ii => [CV.v (Value.int IntKind.i64 (z ii))]), { own := true, box := true, ty := 66, sz := 17, m := 1, n := fun a => 1, cap := fun a => 1, f := fun x x_1 => [CV.v (Value.int IntKind.i64 at_), CV.v (Value.int IntKind.i64 (if 0 < n then z 0 else (0 : Int))), CV.v (Value.int IntKind.i64 (if 1 < n then z 1 else (0 : Int))), CV.v (Value.int IntKind.i64 (if 2 < n then z 2 else (0 : Int))), CV.v (Value.int IntKind.i64 (if 3 < n then z 3 else (0 : Int))), CV.v (Value.int IntKind.i64 (if 4 < n then z 4 else (0 : Int))), CV.v (Value.int IntKind.i64 (if 5 < n then z 5 else (0 : Int))), CV.v (Value.int IntKind.i64 (if 6 < n then z 6 else (0 : Int))), CV.v (Value.int IntKind.i64 (if 7 < n then z 7 else (0 : Int))), CV.v (Value.int IntKind.i64 (if 8 < n then z 8 else (0 : Int))), CV.v (Value.int IntKind.i64 (if 9 < n then z 9 else (0 : Int))), CV.v (Value.int IntKind.i64 (if 10 < n then z 10 else (0 : Int))), CV.v (Value.int IntKind.i64 (if 11 < n then z 11 else (0 : Int))), CV.v (Value.int IntKind.i64 (if 12 < n then z 12 else (0 : Int))), CV.v (Value.int IntKind.i64 (if 13 < n then z 13 else (0 : Int))), CV.v (Value.int IntKind.i64 (if 14 < n then z 14 else (0 : Int))), CV.v (Value.int IntKind.i64 (if 15 < n then z 15 else (0 : Int)))], ov := [] }, (Ent.rw true 66 17 1 1 fun ii => [CV.v (Value.int IntKind.i64 at_), CV.v (Value.int IntKind.i64 (if 0 < n then z 0 else (0 : Int))), CV.v (Value.int IntKind.i64 (if 1 < n then z 1 else (0 : Int))), CV.v (Value.int IntKind.i64 (if 2 < n then z 2 else (0 : Int))), CV.v (Value.int IntKind.i64 (if 3 < n then z 3 else (0 : Int))), CV.v (Value.int IntKind.i64 (if 4 < n then z 4 else (0 : Int))), CV.v (Value.int IntKind.i64 (if 5 < n then z 5 else (0 : Int))), CV.v (Value.int IntKind.i64 (if 6 < n then z 6 else (0 : Int))), CV.v (Value.int IntKind.i64 (if 7 < n then z 7 else (0 : Int))), CV.v (Value.int IntKind.i64 (if 8 < n then z 8 else (0 : Int))), CV.v (Value.int IntKind.i64 (if 9 < n then z 9 else (0 : Int))), CV.v (Value.int IntKind.i64 (if 10 < n then z 10 else (0 : Int))), CV.v (Value.int IntKind.i64 (if 11 < n then z 11 else (0 : Int))), CV.v (Value.int IntKind.i64 (if 12 < n then z 12 else (0 : Int))), CV.v (Value.int IntKind.i64 (if 13 < n then z 13 else (0 : Int))), CV.v (Value.int IntKind.i64 (if 14 < n then z 14 else (0 : Int))), CV.v (Value.int IntKind.i64 (if 15 < n then z 15 else (0 : Int)))])]))
theorem tstart_eq (at_ : Int) (own : Bool) (n cap : Nat) (z : Nat → Int) : xfunc tab noCtr noInv Go.Proofs.Try.f12 [iav at_, .c (.sl 0 0 0 1 n cap)] [irow own n cap z] [0, 1, 2] = tstart at_ own n cap z := by kernel_rfl
def tstart0 (at_ : Int) : Tree :=
  Tree.chk (∀ (q : Nat), q < 0 → q < 16 → [] = [CV.v (Value.int IntKind.i64 (0 : Int))])
   (Tree.done (XV.a (AV.c (CV.sl 1 0 0 17 1 1))) [{ own := true, box := true, ty := 66, sz := 17, m := 1, n := fun a => 1, cap := fun a => 1, f := fun x x_1 => [CV.v (Value.int IntKind.i64 at_), CV.v (Value.int IntKind.i64 (0 : Int)), CV.v (Value.int IntKind.i64 (0 : Int)), CV.v (Value.int IntKind.i64 (0 : Int)), CV.v (Value.int IntKind.i64 (0 : Int)), CV.v (Value.int IntKind.i64 (0 : Int)), CV.v (Value.int IntKind.i64 (0 : Int)), CV.v (Value.int IntKind.i64 (0 : Int)), CV.v (Value.int IntKind.i64 (0 : Int)), CV.v (Value.int IntKind.i64 (0 : Int)), CV.v (Value.int IntKind.i64 (0 : Int)), CV.v (Value.int IntKind.i64 (0 : Int)), CV.v (Value.int IntKind.i64 (0 : Int)), CV.v (Value.int IntKind.i64 (0 : Int)), CV.v (Value.int IntKind.i64 (0 : Int)), CV.v (Value.int IntKind.i64 (0 : Int)), CV.v (Value.int IntKind.i64 (0 : Int))], ov := [] }, (Ent.rw true 66 17 1 1 fun ii => [CV.v (Value.int IntKind.i64 at_), CV.v (Value.int IntKind.i64 (0 : Int)), CV.v (Value.int IntKind.i64 (0 : Int)), CV.v (Value.int IntKind.i64 (0 : Int)), CV.v (Value.int IntKind.i64 (0 : Int)), CV.v (Value.int IntKind.i64 (0 : Int)), CV.v (Value.int IntKind.i64 (0 : Int)), CV.v (Value.int IntKind.i64 (0 : Int)), CV.v (Value.int IntKind.i64 (0 : Int)), CV.v (Value.int IntKind.i64 (0 : Int)), CV.v (Value.int IntKind.i64 (0 : Int)), CV.v (Value.int IntKind.i64 (0 : Int)), CV.v (Value.int IntKind.i64 (0 : Int)), CV.v (Value.int IntKind.i64 (0 : Int)), CV.v (Value.int IntKind.i64 (0 : Int)), CV.v (Value.int IntKind.i64 (0 : Int)), CV.v (Value.int IntKind.i64 (0 : Int))])])
theorem tstart0_eq (at_ : Int) : xfunc tab noCtr noInv Go.Proofs.Try.f12 [iav at_, .c (.v (.slice none 0 0))] [] [0, 1] = tstart0 at_ := by kernel_rfl
def madeF (n i cap : Nat) (z : Nat → Int) : Ar := ⟨1 + n, cap, fun j => if j = 0 then 0 else if j ≤ i then z (j - 1) else 0, 4096⟩
def onlyT : List Nat → Tm → Tm
  | [], _ => []
  | t :: r, tm => match tm.get t with | some x => (t, x) :: onlyT r tm | none => onlyT r tm
def capAt (H : Hp) (k : Nat) : Nat := match H.get k with | some e => e.cap 0 | none => 0
def madeI (n : Nat) (z : Nat → Int) (b : Nat) (tm : Tm) (H : Hp) : LoopInv :=
  ⟨{ i : Nat // i ≤ n }, fun i => ((12, ia i.1) :: onlyT [0, 4, 5, 6, 8] tm, (H.set b ((madeF n i.1 (capAt H (slAt H b 0)) z).box (slAt H b 0))).set (slAt H b 0) (madeF n i.1 (capAt H (slAt H b 0)) z).row), fun i => n - i.1, some ⟨0, Nat.zero_le _⟩, [], .l (List.range H.length), [], fun _ _ => .l (List.range H.length)⟩
def madeG (k : Nat) : Ctr := fun f args H => match args with
  | [.c (.v (.int _ x))] => bif Nat.beq f 18 then some (newAC H.length) else some (newTC k H.length)
  | [.c (.ptr r), .c (.v (.int _ x))] => some (allocG newA x [r.k, slAt H r.k 0] H.length)
  | [.c (.ptr r), .c (.v (.int _ x)), .c (.v (.int _ y))] => some (.ex Ar fun a => storeC a (a.set x.toNat y) x y nilE [r.k, slAt H r.k 0])
  | _ => none
def tmade (own : Bool) (n cap k : Nat) (z : Nat → Int) : Tree :=
  Tree.callf 18 [AV.c (CV.v (Value.int IntKind.i64 (4096 : Int)))] [(Ent.rw own 2 1 n cap fun ii => [CV.v (Value.int IntKind.i64 (z ii))])] (newAC 1) fun c => Tree.callf 19 [AV.c (CV.v (Value.int IntKind.i64 (↑k : Int)))] [(Ent.rw own 2 1 n cap fun ii => [CV.v (Value.int IntKind.i64 (z ii))]), { own := true, box := true, ty := 72, sz := 2, m := 1, n := fun a => 1, cap := fun a => 1, f := fun x x_1 => [CV.sl 2 0 0 1 1 1, CV.v (Value.int IntKind.i64 (4096 : Int))], ov := [] }, (Ent.rw true 2 1 1 1 fun ii => [CV.v (Value.int IntKind.i64 (0 : Int))])] (newTC k 3) fun c_1 => Tree.chk (true = true → true = true)
   (Tree.chk (false = false → true = true)
   (Tree.chk (true = true → true = true)
   (Tree.chk (false = false → true = true)
   (Tree.chk (true = true → true = true)
   (Tree.chk (false = false → true = true)
   (Tree.br false
   (Tree.done (XV.tup [AV.c (CV.v (Value.pointer none)), AV.c (CV.v (Value.pointer none))]) [(Ent.rw own 2 1 n cap fun ii => [CV.v (Value.int IntKind.i64 (z ii))]), { own := true, box := true, ty := 72, sz := 2, m := 1, n := fun a => 1, cap := fun a => 1, f := fun x x_1 => [CV.sl 2 0 0 1 1 1, CV.v (Value.int IntKind.i64 (4096 : Int))], ov := [] }, (Ent.rw true 2 1 1 1 fun ii => [CV.v (Value.int IntKind.i64 (0 : Int))]), { own := true, box := true, ty := 78, sz := 2, m := 1, n := fun a => 1, cap := fun a => 1, f := fun x x_1 => [CV.sl 4 0 0 4 k k, CV.v (Value.int IntKind.i64 (0 : Int))], ov := [] }, (Ent.rw true 59 4 k k fun ii => [CV.v (Value.bool false), CV.v (Value.bool false), CV.v (Value.bool false), CV.v (Value.int IntKind.i64 (0 : Int))])])
   (Tree.br (decide ((↑n : Int) > (0 : Int)))
   (Tree.br (decide ((↑n : Int) < (1 : Int)))
   (Tree.callf 20 [AV.c (CV.ptr ⟨1, 0, 0, 2, 0, 0, 0, 0⟩), AV.c (CV.v (Value.int IntKind.i64 (↑n : Int)))] [(Ent.rw own 2 1 n cap fun ii => [CV.v (Value.int IntKind.i64 (z ii))]), { own := true, box := true, ty := 72, sz := 2, m := 1, n := fun a => 1, cap := fun a => 1, f := fun x x_1 => [CV.sl 2 0 0 1 1 1, CV.v (Value.int IntKind.i64 (4096 : Int))], ov := [] }, (Ent.rw true 2 1 1 1 fun ii => [CV.v (Value.int IntKind.i64 (0 : Int))]), { own := true, box := true, ty := 78, sz := 2, m := 1, n := fun a => 1, cap := fun a => 1, f := fun x x_1 => [CV.sl 4 0 0 4 k k, CV.v (Value.int IntKind.i64 (0 : Int))], ov := [] }, (Ent.rw true 59 4 k k fun ii => [CV.v (Value.bool false), CV.v (Value.bool false), CV.v (Value.bool false), CV.v (Value.int IntKind.i64 (0 : Int))])] (allocC { n := 1, cap := 1, C := fun x => (0 : Int), most := (4096 : Int) } { n := 1, cap := 1, C := fun x => (0 : Int), most := (4096 : Int) } (↑n : Int) (0 : Int) (CV.v (Value.iface 36 (Value.int IntKind.i64 (1 : Int)))) [1, 2] 5) fun c_2 => Tree.br true
   (Tree.done (XV.tup [AV.c (CV.v (Value.pointer none)), AV.c (CV.v (Value.pointer none))]) [(Ent.rw own 2 1 n cap fun ii => [CV.v (Value.int IntKind.i64 (z ii))]), { own := true, box := true, ty := 72, sz := 2, m := 1, n := fun a => 1, cap := fun a => 1, f := fun x x_1 => [CV.sl 5 0 0 1 1 (c_2 0), CV.v (Value.int IntKind.i64 (4096 : Int))], ov := [] }, Ent.dead, { own := true, box := true, ty := 78, sz := 2, m := 1, n := fun a => 1, cap := fun a => 1, f := fun x x_1 => [CV.sl 4 0 0 4 k k, CV.v (Value.int IntKind.i64 (0 : Int))], ov := [] }, (Ent.rw true 59 4 k k fun ii => [CV.v (Value.bool false), CV.v (Value.bool false), CV.v (Value.bool false), CV.v (Value.int IntKind.i64 (0 : Int))]), (Ent.rw true 2 1 1 (c_2 0) fun ii => [CV.v (Value.int IntKind.i64 (0 : Int))])])
   (Tree.both
   (Tree.chk (XV.a (AV.c (CV.v (Value.int IntKind.i64 (0 : Int)))) = XV.a (AV.c (CV.v (Value.int IntKind.i64 (0 : Int)))))
   (Tree.chk (XV.a (AV.c (CV.sl 0 0 0 1 n cap)) = XV.a (AV.c (CV.sl 0 0 0 1 n cap)))
   (Tree.chk (XV.a (AV.c (CV.v (Value.pointer none))) = XV.a (AV.c (CV.v (Value.pointer none))))
   (Tree.chk (XV.a (AV.c (CV.v (Value.pointer none))) = XV.a (AV.c (CV.v (Value.pointer none))))
   (Tree.chk (XV.a (AV.c (CV.ptr ⟨1, 0, 0, 2, 0, 0, 0, 0⟩)) = XV.a (AV.c (CV.ptr ⟨1, 0, 0, 2, 0, 0, 0, 0⟩)))
   (Tree.chk (XV.a (AV.c (CV.ptr ⟨3, 0, 0, 2, 0, 0, 0, 0⟩)) = XV.a (AV.c (CV.ptr ⟨3, 0, 0, 2, 0, 0, 0, 0⟩)))
   (Tree.chk (EntRel 6 [0, 1, 2, 3, 4, 5] 6 (Ent.rw own 2 1 n cap fun ii => [CV.v (Value.int IntKind.i64 (z ii))]) (Ent.rw own 2 1 n cap fun ii => [CV.v (Value.int IntKind.i64 (z ii))]))
   (Tree.chk (EntRel 6 [0, 1, 2, 3, 4, 5] 6 { own := true, box := true, ty := 72, sz := 2, m := 1, n := fun a => 1, cap := fun a => 1, f := fun x x_1 => [CV.sl 5 0 0 1 1 (c_2 0), CV.v (Value.int IntKind.i64 (4096 : Int))], ov := [] } { own := true, box := true, ty := 72, sz := 2, m := 1, n := fun x => 1, cap := fun x => 1, f := fun x x_1 => [CV.sl 5 0 0 1 (1 + n) (c_2 0), CV.v (Value.int IntKind.i64 (4096 : Int))], ov := [] })
   (Tree.chk (EntRel 6 [0, 1, 2, 3, 4, 5] 6 Ent.dead Ent.dead)
   (Tree.chk (EntRel 6 [0, 1, 2, 3, 4, 5] 6 { own := true, box := true, ty := 78, sz := 2, m := 1, n := fun a => 1, cap := fun a => 1, f := fun x x_1 => [CV.sl 4 0 0 4 k k, CV.v (Value.int IntKind.i64 (0 : Int))], ov := [] } { own := true, box := true, ty := 78, sz := 2, m := 1, n := fun a => 1, cap := fun a => 1, f := fun x x_1 => [CV.sl 4 0 0 4 k k, CV.v (Value.int IntKind.i64 (0 : Int))], ov := [] })
   (Tree.chk (EntRel 6 [0, 1, 2, 3, 4, 5] 6 (Ent.rw true 59 4 k k fun ii => [CV.v (Value.bool false), CV.v (Value.bool false), CV.v (Value.bool false), CV.v (Value.int IntKind.i64 (0 : Int))]) (Ent.rw true 59 4 k k fun ii => [CV.v (Value.bool false), CV.v (Value.bool false), CV.v (Value.bool false), CV.v (Value.int IntKind.i64 (0 : Int))]))
   (Tree.chk (EntRel 6 [0, 1, 2, 3, 4, 5] 6 (Ent.rw true 2 1 1 (c_2 0) fun ii => [CV.v (Value.int IntKind.i64 (0 : Int))]) (Ent.rw true 2 1 (1 + n) (c_2 0) fun ii => [CV.v (Value.int IntKind.i64 (if ii = 0 then (0 : Int) else if ii ≤ 0 then z (ii - 1) else (0 : Int)))]))
   (Tree.need True)))))))))))))
   (Tree.every { i // i ≤ n } fun s => Tree.br (decide ((↑(Subtype.val s) : Int) < (↑n : Int)))
   (Tree.chk ((0 : Int) ≤ (↑(Subtype.val s) : Int) ∧ (↑(Subtype.val s) : Int) < (↑n : Int) ∧ Int.toNat (↑(Subtype.val s) : Int) < n ∧ 0 < 1)
   (Tree.chk (0 < 1 ∧ Int.toNat (↑(Subtype.val s) : Int) < n)
   (Tree.some_ Ar fun s_1 => Tree.callf 21 [AV.c (CV.ptr ⟨1, 0, 0, 2, 0, 0, 0, 0⟩), AV.c (CV.v (Value.int IntKind.i64 (IntKind.wrap IntKind.i64 ((↑(Subtype.val s) : Int) + (1 : Int))))), AV.c (CV.v (Value.int IntKind.i64 (z (Int.toNat (↑(Subtype.val s) : Int)))))] [(Ent.rw own 2 1 n cap fun ii => [CV.v (Value.int IntKind.i64 (z ii))]), { own := true, box := true, ty := 72, sz := 2, m := 1, n := fun x => 1, cap := fun x => 1, f := fun x x_1 => [CV.sl 5 0 0 1 (1 + n) (c_2 0), CV.v (Value.int IntKind.i64 (4096 : Int))], ov := [] }, Ent.dead, { own := true, box := true, ty := 78, sz := 2, m := 1, n := fun a => 1, cap := fun a => 1, f := fun x x_1 => [CV.sl 4 0 0 4 k k, CV.v (Value.int IntKind.i64 (0 : Int))], ov := [] }, (Ent.rw true 59 4 k k fun ii => [CV.v (Value.bool false), CV.v (Value.bool false), CV.v (Value.bool false), CV.v (Value.int IntKind.i64 (0 : Int))]), (Ent.rw true 2 1 (1 + n) (c_2 0) fun ii => [CV.v (Value.int IntKind.i64 (if ii = 0 then (0 : Int) else if ii ≤ Subtype.val s then z (ii - 1) else (0 : Int)))])] (storeC s_1 { n := s_1.1, cap := s_1.2, C := fun j => if j = Int.toNat (IntKind.wrap IntKind.i64 ((↑(Subtype.val s) : Int) + (1 : Int))) then z (Int.toNat (↑(Subtype.val s) : Int)) else s_1.3 j, most := s_1.4 } (IntKind.wrap IntKind.i64 ((↑(Subtype.val s) : Int) + (1 : Int))) (z (Int.toNat (↑(Subtype.val s) : Int))) (CV.v Value.nilIface) [1, 5]) fun c_3 => Tree.br false
   (Tree.done (XV.tup [AV.c (CV.v (Value.pointer none)), AV.c (CV.v (Value.pointer none))]) [(Ent.rw own 2 1 n cap fun ii => [CV.v (Value.int IntKind.i64 (z ii))]), { own := true, box := true, ty := 72, sz := 2, m := 1, n := fun a => 1, cap := fun a => 1, f := fun x x_1 => [CV.sl 5 0 0 1 s_1.1 s_1.2, CV.v (Value.int IntKind.i64 s_1.4)], ov := [] }, Ent.dead, { own := true, box := true, ty := 78, sz := 2, m := 1, n := fun a => 1, cap := fun a => 1, f := fun x x_1 => [CV.sl 4 0 0 4 k k, CV.v (Value.int IntKind.i64 (0 : Int))], ov := [] }, (Ent.rw true 59 4 k k fun ii => [CV.v (Value.bool false), CV.v (Value.bool false), CV.v (Value.bool false), CV.v (Value.int IntKind.i64 (0 : Int))]), (Ent.rw true 2 1 s_1.1 s_1.2 fun ii => [CV.v (Value.int IntKind.i64 (if ii = Int.toNat (IntKind.wrap IntKind.i64 ((↑(Subtype.val s) : Int) + (1 : Int))) then z (Int.toNat (↑(Subtype.val s) : Int)) else s_1.3 ii))])])
   (Tree.some_ { i // i ≤ n } fun s' => Tree.chk (n - Subtype.val s' < n - Subtype.val s)
   (Tree.chk (XV.a (AV.c (CV.v (Value.int IntKind.i64 (IntKind.wrap IntKind.i64 ((↑(Subtype.val s) : Int) + (1 : Int)))))) = XV.a (AV.c (CV.v (Value.int IntKind.i64 (↑(Subtype.val s') : Int)))))
   (Tree.chk (XV.a (AV.c (CV.sl 0 0 0 1 n cap)) = XV.a (AV.c (CV.sl 0 0 0 1 n cap)))
   (Tree.chk (XV.a (AV.c (CV.v (Value.pointer none))) = XV.a (AV.c (CV.v (Value.pointer none))))
   (Tree.chk (XV.a (AV.c (CV.v (Value.pointer none))) = XV.a (AV.c (CV.v (Value.pointer none))))
   (Tree.chk (XV.a (AV.c (CV.ptr ⟨1, 0, 0, 2, 0, 0, 0, 0⟩)) = XV.a (AV.c (CV.ptr ⟨1, 0, 0, 2, 0, 0, 0, 0⟩)))
   (Tree.chk (XV.a (AV.c (CV.ptr ⟨3, 0, 0, 2, 0, 0, 0, 0⟩)) = XV.a (AV.c (CV.ptr ⟨3, 0, 0, 2, 0, 0, 0, 0⟩)))
   (Tree.chk (EntRel 6 [0, 1, 2, 3, 4, 5] 6 (Ent.rw own 2 1 n cap fun ii => [CV.v (Value.int IntKind.i64 (z ii))]) (Ent.rw own 2 1 n cap fun ii => [CV.v (Value.int IntKind.i64 (z ii))]))
   (Tree.chk (EntRel 6 [0, 1, 2, 3, 4, 5] 6 { own := true, box := true, ty := 72, sz := 2, m := 1, n := fun a => 1, cap := fun a => 1, f := fun x x_1 => [CV.sl 5 0 0 1 s_1.1 s_1.2, CV.v (Value.int IntKind.i64 s_1.4)], ov := [] } { own := true, box := true, ty := 72, sz := 2, m := 1, n := fun x => 1, cap := fun x => 1, f := fun x x_1 => [CV.sl 5 0 0 1 (1 + n) (c_2 0), CV.v (Value.int IntKind.i64 (4096 : Int))], ov := [] })
   (Tree.chk (EntRel 6 [0, 1, 2, 3, 4, 5] 6 Ent.dead Ent.dead)
   (Tree.chk (EntRel 6 [0, 1, 2, 3, 4, 5] 6 { own := true, box := true, ty := 78, sz := 2, m := 1, n := fun a => 1, cap := fun a => 1, f := fun x x_1 => [CV.sl 4 0 0 4 k k, CV.v (Value.int IntKind.i64 (0 : Int))], ov := [] } { own := true, box := true, ty := 78, sz := 2, m := 1, n := fun a => 1, cap := fun a => 1, f := fun x x_1 => [CV.sl 4 0 0 4 k k, CV.v (Value.int IntKind.i64 (0 : Int))], ov := [] })
   (Tree.chk (EntRel 6 [0, 1, 2, 3, 4, 5] 6 (Ent.rw true 59 4 k k fun ii => [CV.v (Value.bool false), CV.v (Value.bool false), CV.v (Value.bool false), CV.v (Value.int IntKind.i64 (0 : Int))]) (Ent.rw true 59 4 k k fun ii => [CV.v (Value.bool false), CV.v (Value.bool false), CV.v (Value.bool false), CV.v (Value.int IntKind.i64 (0 : Int))]))
   (Tree.chk (EntRel 6 [0, 1, 2, 3, 4, 5] 6 (Ent.rw true 2 1 s_1.1 s_1.2 fun ii => [CV.v (Value.int IntKind.i64 (if ii = Int.toNat (IntKind.wrap IntKind.i64 ((↑(Subtype.val s) : Int) + (1 : Int))) then z (Int.toNat (↑(Subtype.val s) : Int)) else s_1.3 ii))]) (Ent.rw true 2 1 (1 + n) (c_2 0) fun ii => [CV.v (Value.int IntKind.i64 (if ii = 0 then (0 : Int) else if ii ≤ Subtype.val s' then z (ii - 1) else (0 : Int)))]))
   (Tree.need True)))))))))))))))))
   (Tree.done (XV.tup [AV.c (CV.ptr ⟨1, 0, 0, 2, 0, 0, 0, 0⟩), AV.c (CV.ptr ⟨3, 0, 0, 2, 0, 0, 0, 0⟩)]) [(Ent.rw own 2 1 n cap fun ii => [CV.v (Value.int IntKind.i64 (z ii))]), { own := true, box := true, ty := 72, sz := 2, m := 1, n := fun x => 1, cap := fun x => 1, f := fun x x_1 => [CV.sl 5 0 0 1 (1 + n) (c_2 0), CV.v (Value.int IntKind.i64 (4096 : Int))], ov := [] }, Ent.dead, { own := true, box := true, ty := 78, sz := 2, m := 1, n := fun a => 1, cap := fun a => 1, f := fun x x_1 => [CV.sl 4 0 0 4 k k, CV.v (Value.int IntKind.i64 (0 : Int))], ov := [] }, (Ent.rw true 59 4 k k fun ii => [CV.v (Value.bool false), CV.v (Value.bool false), CV.v (Value.bool false), CV.v (Value.int IntKind.i64 (0 : Int))]), (Ent.rw true 2 1 (1 + n) (c_2 0) fun ii => [CV.v (Value.int IntKind.i64 (if ii = 0 then (0 : Int) else if ii ≤ Subtype.val s then z (ii - 1) else (0 : Int)))])]))))
   (Tree.br (fullF { n := 1, cap := 1, C := fun x => (0 : Int), most := (4096 : Int) } (↑n : Int))
   (Tree.callf 20 [AV.c (CV.ptr ⟨1, 0, 0, 2, 0, 0, 0, 0⟩), AV.c (CV.v (Value.int IntKind.i64 (↑n : Int)))] [(Ent.rw own 2 1 n cap fun ii => [CV.v (Value.int IntKind.i64 (z ii))]), { own := true, box := true, ty := 72, sz := 2, m := 1, n := fun a => 1, cap := fun a => 1, f := fun x x_1 => [CV.sl 2 0 0 1 1 1, CV.v (Value.int IntKind.i64 (4096 : Int))], ov := [] }, (Ent.rw true 2 1 1 1 fun ii => [CV.v (Value.int IntKind.i64 (0 : Int))]), { own := true, box := true, ty := 78, sz := 2, m := 1, n := fun a => 1, cap := fun a => 1, f := fun x x_1 => [CV.sl 4 0 0 4 k k, CV.v (Value.int IntKind.i64 (0 : Int))], ov := [] }, (Ent.rw true 59 4 k k fun ii => [CV.v (Value.bool false), CV.v (Value.bool false), CV.v (Value.bool false), CV.v (Value.int IntKind.i64 (0 : Int))])] (allocC { n := 1, cap := 1, C := fun x => (0 : Int), most := (4096 : Int) } { n := 1, cap := 1, C := fun x => (0 : Int), most := (4096 : Int) } (↑n : Int) (0 : Int) (CV.v (Value.iface 36 (Value.int IntKind.i64 (3 : Int)))) [1, 2] 5) fun c_2 => Tree.br true
   (Tree.done (XV.tup [AV.c (CV.v (Value.pointer none)), AV.c (CV.v (Value.pointer none))]) [(Ent.rw own 2 1 n cap fun ii => [CV.v (Value.int IntKind.i64 (z ii))]), { own := true, box := true, ty := 72, sz := 2, m := 1, n := fun a => 1, cap := fun a => 1, f := fun x x_1 => [CV.sl 5 0 0 1 1 (c_2 0), CV.v (Value.int IntKind.i64 (4096 : Int))], ov := [] }, Ent.dead, { own := true, box := true, ty := 78, sz := 2, m := 1, n := fun a => 1, cap := fun a => 1, f := fun x x_1 => [CV.sl 4 0 0 4 k k, CV.v (Value.int IntKind.i64 (0 : Int))], ov := [] }, (Ent.rw true 59 4 k k fun ii => [CV.v (Value.bool false), CV.v (Value.bool false), CV.v (Value.bool false), CV.v (Value.int IntKind.i64 (0 : Int))]), (Ent.rw true 2 1 1 (c_2 0) fun ii => [CV.v (Value.int IntKind.i64 (0 : Int))])])
   (Tree.both
   (Tree.chk (XV.a (AV.c (CV.v (Value.int IntKind.i64 (0 : Int)))) = XV.a (AV.c (CV.v (Value.int IntKind.i64 (0 : Int)))))
   (Tree.chk (XV.a (AV.c (CV.sl 0 0 0 1 n cap)) = XV.a (AV.c (CV.sl 0 0 0 1 n cap)))
   (Tree.chk (XV.a (AV.c (CV.v (Value.pointer none))) = XV.a (AV.c (CV.v (Value.pointer none))))
   (Tree.chk (XV.a (AV.c (CV.v (Value.pointer none))) = XV.a (AV.c (CV.v (Value.pointer none))))
   (Tree.chk (XV.a (AV.c (CV.ptr ⟨1, 0, 0, 2, 0, 0, 0, 0⟩)) = XV.a (AV.c (CV.ptr ⟨1, 0, 0, 2, 0, 0, 0, 0⟩)))
   (Tree.chk (XV.a (AV.c (CV.ptr ⟨3, 0, 0, 2, 0, 0, 0, 0⟩)) = XV.a (AV.c (CV.ptr ⟨3, 0, 0, 2, 0, 0, 0, 0⟩)))
   (Tree.chk (EntRel 6 [0, 1, 2, 3, 4, 5] 6 (Ent.rw own 2 1 n cap fun ii => [CV.v (Value.int IntKind.i64 (z ii))]) (Ent.rw own 2 1 n cap fun ii => [CV.v (Value.int IntKind.i64 (z ii))]))
   (Tree.chk (EntRel 6 [0, 1, 2, 3, 4, 5] 6 { own := true, box := true, ty := 72, sz := 2, m := 1, n := fun a => 1, cap := fun a => 1, f := fun x x_1 => [CV.sl 5 0 0 1 1 (c_2 0), CV.v (Value.int IntKind.i64 (4096 : Int))], ov := [] } { own := true, box := true, ty := 72, sz := 2, m := 1, n := fun x => 1, cap := fun x => 1, f := fun x x_1 => [CV.sl 5 0 0 1 (1 + n) (c_2 0), CV.v (Value.int IntKind.i64 (4096 : Int))], ov := [] })
   (Tree.chk (EntRel 6 [0, 1, 2, 3, 4, 5] 6 Ent.dead Ent.dead)
   (Tree.chk (EntRel 6 [0, 1, 2, 3, 4, 5] 6 { own := true, box := true, ty := 78, sz := 2, m := 1, n := fun a => 1, cap := fun a => 1, f := fun x x_1 => [CV.sl 4 0 0 4 k k, CV.v (Value.int IntKind.i64 (0 : Int))], ov := [] } { own := true, box := true, ty := 78, sz := 2, m := 1, n := fun a => 1, cap := fun a => 1, f := fun x x_1 => [CV.sl 4 0 0 4 k k, CV.v (Value.int IntKind.i64 (0 : Int))], ov := [] })
   (Tree.chk (EntRel 6 [0, 1, 2, 3, 4, 5] 6 (Ent.rw true 59 4 k k fun ii => [CV.v (Value.bool false), CV.v (Value.bool false), CV.v (Value.bool false), CV.v (Value.int IntKind.i64 (0 : Int))]) (Ent.rw true 59 4 k k fun ii => [CV.v (Value.bool false), CV.v (Value.bool false), CV.v (Value.bool false), CV.v (Value.int IntKind.i64 (0 : Int))]))
   (Tree.chk (EntRel 6 [0, 1, 2, 3, 4, 5] 6 (Ent.rw true 2 1 1 (c_2 0) fun ii => [CV.v (Value.int IntKind.i64 (0 : Int))]) (Ent.rw true 2 1 (1 + n) (c_2 0) fun ii => [CV.v (Value.int IntKind.i64 (if ii = 0 then (0 : Int) else if ii ≤ 0 then z (ii - 1) else (0 : Int)))]))
   (Tree.need True)))))))))))))
   (Tree.every { i // i ≤ n } fun s => Tree.br (decide ((↑(Subtype.val s) : Int) < (↑n : Int)))
   (Tree.chk ((0 : Int) ≤ (↑(Subtype.val s) : Int) ∧ (↑(Subtype.val s) : Int) < (↑n : Int) ∧ Int.toNat (↑(Subtype.val s) : Int) < n ∧ 0 < 1)
   (Tree.chk (0 < 1 ∧ Int.toNat (↑(Subtype.val s) : Int) < n)
   (Tree.some_ Ar fun s_1 => Tree.callf 21 [AV.c (CV.ptr ⟨1, 0, 0, 2, 0, 0, 0, 0⟩), AV.c (CV.v (Value.int IntKind.i64 (IntKind.wrap IntKind.i64 ((↑(Subtype.val s) : Int) + (1 : Int))))), AV.c (CV.v (Value.int IntKind.i64 (z (Int.toNat (↑(Subtype.val s) : Int)))))] [(Ent.rw own 2 1 n cap fun ii => [CV.v (Value.int IntKind.i64 (z ii))]), { own := true, box := true, ty := 72, sz := 2, m := 1, n := fun x => 1, cap := fun x => 1, f := fun x x_1 => [CV.sl 5 0 0 1 (1 + n) (c_2 0), CV.v (Value.int IntKind.i64 (4096 : Int))], ov := [] }, Ent.dead, { own := true, box := true, ty := 78, sz := 2, m := 1, n := fun a => 1, cap := fun a => 1, f := fun x x_1 => [CV.sl 4 0 0 4 k k, CV.v (Value.int IntKind.i64 (0 : Int))], ov := [] }, (Ent.rw true 59 4 k k fun ii => [CV.v (Value.bool false), CV.v (Value.bool false), CV.v (Value.bool false), CV.v (Value.int IntKind.i64 (0 : Int))]), (Ent.rw true 2 1 (1 + n) (c_2 0) fun ii => [CV.v (Value.int IntKind.i64 (if ii = 0 then (0 : Int) else if ii ≤ Subtype.val s then z (ii - 1) else (0 : Int)))])] (storeC s_1 { n := s_1.1, cap := s_1.2, C := fun j => if j = Int.toNat (IntKind.wrap IntKind.i64 ((↑(Subtype.val s) : Int) + (1 : Int))) then z (Int.toNat (↑(Subtype.val s) : Int)) else s_1.3 j, most := s_1.4 } (IntKind.wrap IntKind.i64 ((↑(Subtype.val s) : Int) + (1 : Int))) (z (Int.toNat (↑(Subtype.val s) : Int))) (CV.v Value.nilIface) [1, 5]) fun c_3 => Tree.br false
   (Tree.done (XV.tup [AV.c (CV.v (Value.pointer none)), AV.c (CV.v (Value.pointer none))]) [(Ent.rw own 2 1 n cap fun ii => [CV.v (Value.int IntKind.i64 (z ii))]), { own := true, box := true, ty := 72, sz := 2, m := 1, n := fun a => 1, cap := fun a => 1, f := fun x x_1 => [CV.sl 5 0 0 1 s_1.1 s_1.2, CV.v (Value.int IntKind.i64 s_1.4)], ov := [] }, Ent.dead, { own := true, box := true, ty := 78, sz := 2, m := 1, n := fun a => 1, cap := fun a => 1, f := fun x x_1 => [CV.sl 4 0 0 4 k k, CV.v (Value.int IntKind.i64 (0 : Int))], ov := [] }, (Ent.rw true 59 4 k k fun ii => [CV.v (Value.bool false), CV.v (Value.bool false), CV.v (Value.bool false), CV.v (Value.int IntKind.i64 (0 : Int))]), (Ent.rw true 2 1 s_1.1 s_1.2 fun ii => [CV.v (Value.int IntKind.i64 (if ii = Int.toNat (IntKind.wrap IntKind.i64 ((↑(Subtype.val s) : Int) + (1 : Int))) then z (Int.toNat (↑(Subtype.val s) : Int)) else s_1.3 ii))])])
   (Tree.some_ { i // i ≤ n } fun s' => Tree.chk (n - Subtype.val s' < n - Subtype.val s)
   (Tree.chk (XV.a (AV.c (CV.v (Value.int IntKind.i64 (IntKind.wrap IntKind.i64 ((↑(Subtype.val s) : Int) + (1 : Int)))))) = XV.a (AV.c (CV.v (Value.int IntKind.i64 (↑(Subtype.val s') : Int)))))
   (Tree.chk (XV.a (AV.c (CV.sl 0 0 0 1 n cap)) = XV.a (AV.c (CV.sl 0 0 0 1 n cap)))
   (Tree.chk (XV.a (AV.c (CV.v (Value.pointer none))) = XV.a (AV.c (CV.v (Value.pointer none))))
   (Tree.chk (XV.a (AV.c (CV.v (Value.pointer none))) = XV.a (AV.c (CV.v (Value.pointer none))))
   (Tree.chk (XV.a (AV.c (CV.ptr ⟨1, 0, 0, 2, 0, 0, 0, 0⟩)) = XV.a (AV.c (CV.ptr ⟨1, 0, 0, 2, 0, 0, 0, 0⟩)))
   (Tree.chk (XV.a (AV.c (CV.ptr ⟨3, 0, 0, 2, 0, 0, 0, 0⟩)) = XV.a (AV.c (CV.ptr ⟨3, 0, 0, 2, 0, 0, 0, 0⟩)))
   (Tree.chk (EntRel 6 [0, 1, 2, 3, 4, 5] 6 (Ent.rw own 2 1 n cap fun ii => [CV.v (Value.int IntKind.i64 (z ii))]) (Ent.rw own 2 1 n cap fun ii => [CV.v (Value.int IntKind.i64 (z ii))]))
   (Tree.chk (EntRel 6 [0, 1, 2, 3, 4, 5] 6 { own := true, box := true, ty := 72, sz := 2, m := 1, n := fun a => 1, cap := fun a => 1, f := fun x x_1 => [CV.sl 5 0 0 1 s_1.1 s_1.2, CV.v (Value.int IntKind.i64 s_1.4)], ov := [] } { own := true, box := true, ty := 72, sz := 2, m := 1, n := fun x => 1, cap := fun x => 1, f := fun x x_1 => [CV.sl 5 0 0 1 (1 + n) (c_2 0), CV.v (Value.int IntKind.i64 (4096 : Int))], ov := [] })
   (Tree.chk (EntRel 6 [0, 1, 2, 3, 4, 5] 6 Ent.dead Ent.dead)
   (Tree.chk (EntRel 6 [0, 1, 2, 3, 4, 5] 6 { own := true, box := true, ty := 78, sz := 2, m := 1, n := fun a => 1, cap := fun a => 1, f := fun x x_1 => [CV.sl 4 0 0 4 k k, CV.v (Value.int IntKind.i64 (0 : Int))], ov := [] } { own := true, box := true, ty := 78, sz := 2, m := 1, n := fun a => 1, cap := fun a => 1, f := fun x x_1 => [CV.sl 4 0 0 4 k k, CV.v (Value.int IntKind.i64 (0 : Int))], ov := [] })
   (Tree.chk (EntRel 6 [0, 1, 2, 3, 4, 5] 6 (Ent.rw true 59 4 k k fun ii => [CV.v (Value.bool false), CV.v (Value.bool false), CV.v (Value.bool false), CV.v (Value.int IntKind.i64 (0 : Int))]) (Ent.rw true 59 4 k k fun ii => [CV.v (Value.bool false), CV.v (Value.bool false), CV.v (Value.bool false), CV.v (Value.int IntKind.i64 (0 : Int))]))
   (Tree.chk (EntRel 6 [0, 1, 2, 3, 4, 5] 6 (Ent.rw true 2 1 s_1.1 s_1.2 fun ii => [CV.v (Value.int IntKind.i64 (if ii = Int.toNat (IntKind.wrap IntKind.i64 ((↑(Subtype.val s) : Int) + (1 : Int))) then z (Int.toNat (↑(Subtype.val s) : Int)) else s_1.3 ii))]) (Ent.rw true 2 1 (1 + n) (c_2 0) fun ii => [CV.v (Value.int IntKind.i64 (if ii = 0 then (0 : Int) else if ii ≤ Subtype.val s' then z (ii - 1) else (0 : Int)))]))
   (Tree.need True)))))))))))))))))
   (Tree.done (XV.tup [AV.c (CV.ptr ⟨1, 0, 0, 2, 0, 0, 0, 0⟩), AV.c (CV.ptr ⟨3, 0, 0, 2, 0, 0, 0, 0⟩)]) [(Ent.rw own 2 1 n cap fun ii => [CV.v (Value.int IntKind.i64 (z ii))]), { own := true, box := true, ty := 72, sz := 2, m := 1, n := fun x => 1, cap := fun x => 1, f := fun x x_1 => [CV.sl 5 0 0 1 (1 + n) (c_2 0), CV.v (Value.int IntKind.i64 (4096 : Int))], ov := [] }, Ent.dead, { own := true, box := true, ty := 78, sz := 2, m := 1, n := fun a => 1, cap := fun a => 1, f := fun x x_1 => [CV.sl 4 0 0 4 k k, CV.v (Value.int IntKind.i64 (0 : Int))], ov := [] }, (Ent.rw true 59 4 k k fun ii => [CV.v (Value.bool false), CV.v (Value.bool false), CV.v (Value.bool false), CV.v (Value.int IntKind.i64 (0 : Int))]), (Ent.rw true 2 1 (1 + n) (c_2 0) fun ii => [CV.v (Value.int IntKind.i64 (if ii = 0 then (0 : Int) else if ii ≤ Subtype.val s then z (ii - 1) else (0 : Int)))])]))))
   (Tree.callf 20 [AV.c (CV.ptr ⟨1, 0, 0, 2, 0, 0, 0, 0⟩), AV.c (CV.v (Value.int IntKind.i64 (↑n : Int)))] [(Ent.rw own 2 1 n cap fun ii => [CV.v (Value.int IntKind.i64 (z ii))]), { own := true, box := true, ty := 72, sz := 2, m := 1, n := fun a => 1, cap := fun a => 1, f := fun x x_1 => [CV.sl 2 0 0 1 1 1, CV.v (Value.int IntKind.i64 (4096 : Int))], ov := [] }, (Ent.rw true 2 1 1 1 fun ii => [CV.v (Value.int IntKind.i64 (0 : Int))]), { own := true, box := true, ty := 78, sz := 2, m := 1, n := fun a => 1, cap := fun a => 1, f := fun x x_1 => [CV.sl 4 0 0 4 k k, CV.v (Value.int IntKind.i64 (0 : Int))], ov := [] }, (Ent.rw true 59 4 k k fun ii => [CV.v (Value.bool false), CV.v (Value.bool false), CV.v (Value.bool false), CV.v (Value.int IntKind.i64 (0 : Int))])] (allocC { n := 1, cap := 1, C := fun x => (0 : Int), most := (4096 : Int) } { n := 1 + Int.toNat (↑n : Int), cap := 1, C := fun j => if j < 1 then (0 : Int) else (0 : Int), most := (4096 : Int) } (↑n : Int) (1 : Int) (CV.v Value.nilIface) [1, 2] 5) fun c_2 => Tree.br false
   (Tree.done (XV.tup [AV.c (CV.v (Value.pointer none)), AV.c (CV.v (Value.pointer none))]) [(Ent.rw own 2 1 n cap fun ii => [CV.v (Value.int IntKind.i64 (z ii))]), { own := true, box := true, ty := 72, sz := 2, m := 1, n := fun a => 1, cap := fun a => 1, f := fun x x_1 => [CV.sl 5 0 0 1 (1 + Int.toNat (↑n : Int)) (c_2 0), CV.v (Value.int IntKind.i64 (4096 : Int))], ov := [] }, Ent.dead, { own := true, box := true, ty := 78, sz := 2, m := 1, n := fun a => 1, cap := fun a => 1, f := fun x x_1 => [CV.sl 4 0 0 4 k k, CV.v (Value.int IntKind.i64 (0 : Int))], ov := [] }, (Ent.rw true 59 4 k k fun ii => [CV.v (Value.bool false), CV.v (Value.bool false), CV.v (Value.bool false), CV.v (Value.int IntKind.i64 (0 : Int))]), (Ent.rw true 2 1 (1 + Int.toNat (↑n : Int)) (c_2 0) fun ii => [CV.v (Value.int IntKind.i64 (if ii < 1 then (0 : Int) else (0 : Int)))])])
   (Tree.both
   (Tree.chk (XV.a (AV.c (CV.v (Value.int IntKind.i64 (0 : Int)))) = XV.a (AV.c (CV.v (Value.int IntKind.i64 (0 : Int)))))
   (Tree.chk (XV.a (AV.c (CV.sl 0 0 0 1 n cap)) = XV.a (AV.c (CV.sl 0 0 0 1 n cap)))
   (Tree.chk (XV.a (AV.c (CV.v (Value.pointer none))) = XV.a (AV.c (CV.v (Value.pointer none))))
   (Tree.chk (XV.a (AV.c (CV.v (Value.pointer none))) = XV.a (AV.c (CV.v (Value.pointer none))))
   (Tree.chk (XV.a (AV.c (CV.ptr ⟨1, 0, 0, 2, 0, 0, 0, 0⟩)) = XV.a (AV.c (CV.ptr ⟨1, 0, 0, 2, 0, 0, 0, 0⟩)))
   (Tree.chk (XV.a (AV.c (CV.ptr ⟨3, 0, 0, 2, 0, 0, 0, 0⟩)) = XV.a (AV.c (CV.ptr ⟨3, 0, 0, 2, 0, 0, 0, 0⟩)))
   (Tree.chk (EntRel 6 [0, 1, 2, 3, 4, 5] 6 (Ent.rw own 2 1 n cap fun ii => [CV.v (Value.int IntKind.i64 (z ii))]) (Ent.rw own 2 1 n cap fun ii => [CV.v (Value.int IntKind.i64 (z ii))]))
   (Tree.chk (EntRel 6 [0, 1, 2, 3, 4, 5] 6 { own := true, box := true, ty := 72, sz := 2, m := 1, n := fun a => 1, cap := fun a => 1, f := fun x x_1 => [CV.sl 5 0 0 1 (1 + Int.toNat (↑n : Int)) (c_2 0), CV.v (Value.int IntKind.i64 (4096 : Int))], ov := [] } { own := true, box := true, ty := 72, sz := 2, m := 1, n := fun x => 1, cap := fun x => 1, f := fun x x_1 => [CV.sl 5 0 0 1 (1 + n) (c_2 0), CV.v (Value.int IntKind.i64 (4096 : Int))], ov := [] })
   (Tree.chk (EntRel 6 [0, 1, 2, 3, 4, 5] 6 Ent.dead Ent.dead)
   (Tree.chk (EntRel 6 [0, 1, 2, 3, 4, 5] 6 { own := true, box := true, ty := 78, sz := 2, m := 1, n := fun a => 1, cap := fun a => 1, f := fun x x_1 => [CV.sl 4 0 0 4 k k, CV.v (Value.int IntKind.i64 (0 : Int))], ov := [] } { own := true, box := true, ty := 78, sz := 2, m := 1, n := fun a => 1, cap := fun a => 1, f := fun x x_1 => [CV.sl 4 0 0 4 k k, CV.v (Value.int IntKind.i64 (0 : Int))], ov := [] })
   (Tree.chk (EntRel 6 [0, 1, 2, 3, 4, 5] 6 (Ent.rw true 59 4 k k fun ii => [CV.v (Value.bool false), CV.v (Value.bool false), CV.v (Value.bool false), CV.v (Value.int IntKind.i64 (0 : Int))]) (Ent.rw true 59 4 k k fun ii => [CV.v (Value.bool false), CV.v (Value.bool false), CV.v (Value.bool false), CV.v (Value.int IntKind.i64 (0 : Int))]))
   (Tree.chk (EntRel 6 [0, 1, 2, 3, 4, 5] 6 (Ent.rw true 2 1 (1 + Int.toNat (↑n : Int)) (c_2 0) fun ii => [CV.v (Value.int IntKind.i64 (if ii < 1 then (0 : Int) else (0 : Int)))]) (Ent.rw true 2 1 (1 + n) (c_2 0) fun ii => [CV.v (Value.int IntKind.i64 (if ii = 0 then (0 : Int) else if ii ≤ 0 then z (ii - 1) else (0 : Int)))]))
   (Tree.need True)))))))))))))
   (Tree.every { i // i ≤ n } fun s => Tree.br (decide ((↑(Subtype.val s) : Int) < (↑n : Int)))
   (Tree.chk ((0 : Int) ≤ (↑(Subtype.val s) : Int) ∧ (↑(Subtype.val s) : Int) < (↑n : Int) ∧ Int.toNat (↑(Subtype.val s) : Int) < n ∧ 0 < 1)
   (Tree.chk (0 < 1 ∧ Int.toNat (↑(Subtype.val s) : Int) < n)
   (Tree.some_ Ar fun s_1 => Tree.callf 21 [AV.c (CV.ptr ⟨1, 0, 0, 2, 0, 0, 0, 0⟩), AV.c (CV.v (Value.int IntKind.i64 (IntKind.wrap IntKind.i64 ((↑(Subtype.val s) : Int) + (1 : Int))))), AV.c (CV.v (Value.int IntKind.i64 (z (Int.toNat (↑(Subtype.val s) : Int)))))] [(Ent.rw own 2 1 n cap fun ii => [CV.v (Value.int IntKind.i64 (z ii))]), { own := true, box := true, ty := 72, sz := 2, m := 1, n := fun x => 1, cap := fun x => 1, f := fun x x_1 => [CV.sl 5 0 0 1 (1 + n) (c_2 0), CV.v (Value.int IntKind.i64 (4096 : Int))], ov := [] }, Ent.dead, { own := true, box := true, ty := 78, sz := 2, m := 1, n := fun a => 1, cap := fun a => 1, f := fun x x_1 => [CV.sl 4 0 0 4 k k, CV.v (Value.int IntKind.i64 (0 : Int))], ov := [] }, (Ent.rw true 59 4 k k fun ii => [CV.v (Value.bool false), CV.v (Value.bool false), CV.v (Value.bool false), CV.v (Value.int IntKind.i64 (0 : Int))]), (Ent.rw true 2 1 (1 + n) (c_2 0) fun ii => [CV.v (Value.int IntKind.i64 (if ii = 0 then (0 : Int) else if ii ≤ Subtype.val s then z (ii - 1) else (0 : Int)))])] (storeC s_1 { n := s_1.1, cap := s_1.2, C := fun j => if j = Int.toNat (IntKind.wrap IntKind.i64 ((↑(Subtype.val s) : Int) + (1 : Int))) then z (Int.toNat (↑(Subtype.val s) : Int)) else s_1.3 j, most := s_1.4 } (IntKind.wrap IntKind.i64 ((↑(Subtype.val s) : Int) + (1 : Int))) (z (Int.toNat (↑(Subtype.val s) : Int))) (CV.v Value.nilIface) [1, 5]) fun c_3 => Tree.br false
   (Tree.done (XV.tup [AV.c (CV.v (Value.pointer none)), AV.c (CV.v (Value.pointer none))]) [(Ent.rw own 2 1 n cap fun ii => [CV.v (Value.int IntKind.i64 (z ii))]), { own := true, box := true, ty := 72, sz := 2, m := 1, n := fun a => 1, cap := fun a => 1, f := fun x x_1 => [CV.sl 5 0 0 1 s_1.1 s_1.2, CV.v (Value.int IntKind.i64 s_1.4)], ov := [] }, Ent.dead, { own := true, box := true, ty := 78, sz := 2, m := 1, n := fun a => 1, cap := fun a => 1, f := fun x x_1 => [CV.sl 4 0 0 4 k k, CV.v (Value.int IntKind.i64 (0 : Int))], ov := [] }, (Ent.rw true 59 4 k k fun ii => [CV.v (Value.bool false), CV.v (Value.bool false), CV.v (Value.bool false), CV.v (Value.int IntKind.i64 (0 : Int))]), (Ent.rw true 2 1 s_1.1 s_1.2 fun ii => [CV.v (Value.int IntKind.i64 (if ii = Int.toNat (IntKind.wrap IntKind.i64 ((↑(Subtype.val s) : Int) + (1 : Int))) then z (Int.toNat (↑(Subtype.val s) : Int)) else s_1.3 ii))])])
   (Tree.some_ { i // i ≤ n } fun s' => Tree.chk (n - Subtype.val s' < n - Subtype.val s)
   (Tree.chk (XV.a (AV.c (CV.v (Value.int IntKind.i64 (IntKind.wrap IntKind.i64 ((↑(Subtype.val s) : Int) + (1 : Int)))))) = XV.a (AV.c (CV.v (Value.int IntKind.i64 (↑(Subtype.val s') : Int)))))
   (Tree.chk (XV.a (AV.c (CV.sl 0 0 0 1 n cap)) = XV.a (AV.c (CV.sl 0 0 0 1 n cap)))
   (Tree.chk (XV.a (AV.c (CV.v (Value.pointer none))) = XV.a (AV.c (CV.v (Value.pointer none))))
   (Tree.chk (XV.a (AV.c (CV.v (Value.pointer none))) = XV.a (AV.c (CV.v (Value.pointer none))))
   (Tree.chk (XV.a (AV.c (CV.ptr ⟨1, 0, 0, 2, 0, 0, 0, 0⟩)) = XV.a (AV.c (CV.ptr ⟨1, 0, 0, 2, 0, 0, 0, 0⟩)))
   (Tree.chk (XV.a (AV.c (CV.ptr ⟨3, 0, 0, 2, 0, 0, 0, 0⟩)) = XV.a (AV.c (CV.ptr ⟨3, 0, 0, 2, 0, 0, 0, 0⟩)))
   (Tree.chk (EntRel 6 [0, 1, 2, 3, 4, 5] 6 (Ent.rw own 2 1 n cap fun ii => [CV.v (Value.int IntKind.i64 (z ii))]) (Ent.rw own 2 1 n cap fun ii => [CV.v (Value.int IntKind.i64 (z ii))]))
   (Tree.chk (EntRel 6 [0, 1, 2, 3, 4, 5] 6 { own := true, box := true, ty := 72, sz := 2, m := 1, n := fun a => 1, cap := fun a => 1, f := fun x x_1 => [CV.sl 5 0 0 1 s_1.1 s_1.2, CV.v (Value.int IntKind.i64 s_1.4)], ov := [] } { own := true, box := true, ty := 72, sz := 2, m := 1, n := fun x => 1, cap := fun x => 1, f := fun x x_1 => [CV.sl 5 0 0 1 (1 + n) (c_2 0), CV.v (Value.int IntKind.i64 (4096 : Int))], ov := [] })
   (Tree.chk (EntRel 6 [0, 1, 2, 3, 4, 5] 6 Ent.dead Ent.dead)
   (Tree.chk (EntRel 6 [0, 1, 2, 3, 4, 5] 6 { own := true, box := true, ty := 78, sz := 2, m := 1, n := fun a => 1, cap := fun a => 1, f := fun x x_1 => [CV.sl 4 0 0 4 k k, CV.v (Value.int IntKind.i64 (0 : Int))], ov := [] } { own := true, box := true, ty := 78, sz := 2, m := 1, n := fun a => 1, cap := fun a => 1, f := fun x x_1 => [CV.sl 4 0 0 4 k k, CV.v (Value.int IntKind.i64 (0 : Int))], ov := [] })
   (Tree.chk (EntRel 6 [0, 1, 2, 3, 4, 5] 6 (Ent.rw true 59 4 k k fun ii => [CV.v (Value.bool false), CV.v (Value.bool false), CV.v (Value.bool false), CV.v (Value.int IntKind.i64 (0 : Int))]) (Ent.rw true 59 4 k k fun ii => [CV.v (Value.bool false), CV.v (Value.bool false), CV.v (Value.bool false), CV.v (Value.int IntKind.i64 (0 : Int))]))
   (Tree.chk (EntRel 6 [0, 1, 2, 3, 4, 5] 6 (Ent.rw true 2 1 s_1.1 s_1.2 fun ii => [CV.v (Value.int IntKind.i64 (if ii = Int.toNat (IntKind.wrap IntKind.i64 ((↑(Subtype.val s) : Int) + (1 : Int))) then z (Int.toNat (↑(Subtype.val s) : Int)) else s_1.3 ii))]) (Ent.rw true 2 1 (1 + n) (c_2 0) fun ii => [CV.v (Value.int IntKind.i64 (if ii = 0 then (0 : Int) else if ii ≤ Subtype.val s' then z (ii - 1) else (0 : Int)))]))
   (Tree.need True)))))))))))))))))
   (Tree.done (XV.tup [AV.c (CV.ptr ⟨1, 0, 0, 2, 0, 0, 0, 0⟩), AV.c (CV.ptr ⟨3, 0, 0, 2, 0, 0, 0, 0⟩)]) [(Ent.rw own 2 1 n cap fun ii => [CV.v (Value.int IntKind.i64 (z ii))]), { own := true, box := true, ty := 72, sz := 2, m := 1, n := fun x => 1, cap := fun x => 1, f := fun x x_1 => [CV.sl 5 0 0 1 (1 + n) (c_2 0), CV.v (Value.int IntKind.i64 (4096 : Int))], ov := [] }, Ent.dead, { own := true, box := true, ty := 78, sz := 2, m := 1, n := fun a => 1, cap := fun a => 1, f := fun x x_1 => [CV.sl 4 0 0 4 k k, CV.v (Value.int IntKind.i64 (0 : Int))], ov := [] }, (Ent.rw true 59 4 k k fun ii => [CV.v (Value.bool false), CV.v (Value.bool false), CV.v (Value.bool false), CV.v (Value.int IntKind.i64 (0 : Int))]), (Ent.rw true 2 1 (1 + n) (c_2 0) fun ii => [CV.v (Value.int IntKind.i64 (if ii = 0 then (0 : Int) else if ii ≤ Subtype.val s then z (ii - 1) else (0 : Int)))])]))))))
   (Tree.both
   (Tree.chk (XV.a (AV.c (CV.v (Value.int IntKind.i64 (0 : Int)))) = XV.a (AV.c (CV.v (Value.int IntKind.i64 (0 : Int)))))
   (Tree.chk (XV.a (AV.c (CV.sl 0 0 0 1 n cap)) = XV.a (AV.c (CV.sl 0 0 0 1 n cap)))
   (Tree.chk (XV.a (AV.c (CV.v (Value.pointer none))) = XV.a (AV.c (CV.v (Value.pointer none))))
   (Tree.chk (XV.a (AV.c (CV.v (Value.pointer none))) = XV.a (AV.c (CV.v (Value.pointer none))))
   (Tree.chk (XV.a (AV.c (CV.ptr ⟨1, 0, 0, 2, 0, 0, 0, 0⟩)) = XV.a (AV.c (CV.ptr ⟨1, 0, 0, 2, 0, 0, 0, 0⟩)))
   (Tree.chk (XV.a (AV.c (CV.ptr ⟨3, 0, 0, 2, 0, 0, 0, 0⟩)) = XV.a (AV.c (CV.ptr ⟨3, 0, 0, 2, 0, 0, 0, 0⟩)))
   (Tree.chk (EntRel 5 [0, 1, 2, 3, 4] 5 (Ent.rw own 2 1 n cap fun ii => [CV.v (Value.int IntKind.i64 (z ii))]) (Ent.rw own 2 1 n cap fun ii => [CV.v (Value.int IntKind.i64 (z ii))]))
   (Tree.chk (EntRel 5 [0, 1, 2, 3, 4] 5 { own := true, box := true, ty := 72, sz := 2, m := 1, n := fun a => 1, cap := fun a => 1, f := fun x x_1 => [CV.sl 2 0 0 1 1 1, CV.v (Value.int IntKind.i64 (4096 : Int))], ov := [] } { own := true, box := true, ty := 72, sz := 2, m := 1, n := fun x => 1, cap := fun x => 1, f := fun x x_1 => [CV.sl 2 0 0 1 (1 + n) 1, CV.v (Value.int IntKind.i64 (4096 : Int))], ov := [] })
   (Tree.chk (EntRel 5 [0, 1, 2, 3, 4] 5 (Ent.rw true 2 1 1 1 fun ii => [CV.v (Value.int IntKind.i64 (0 : Int))]) (Ent.rw true 2 1 (1 + n) 1 fun ii => [CV.v (Value.int IntKind.i64 (if ii = 0 then (0 : Int) else if ii ≤ 0 then z (ii - 1) else (0 : Int)))]))
   (Tree.chk (EntRel 5 [0, 1, 2, 3, 4] 5 { own := true, box := true, ty := 78, sz := 2, m := 1, n := fun a => 1, cap := fun a => 1, f := fun x x_1 => [CV.sl 4 0 0 4 k k, CV.v (Value.int IntKind.i64 (0 : Int))], ov := [] } { own := true, box := true, ty := 78, sz := 2, m := 1, n := fun a => 1, cap := fun a => 1, f := fun x x_1 => [CV.sl 4 0 0 4 k k, CV.v (Value.int IntKind.i64 (0 : Int))], ov := [] })
   (Tree.chk (EntRel 5 [0, 1, 2, 3, 4] 5 (Ent.rw true 59 4 k k fun ii => [CV.v (Value.bool false), CV.v (Value.bool false), CV.v (Value.bool false), CV.v (Value.int IntKind.i64 (0 : Int))]) (Ent.rw true 59 4 k k fun ii => [CV.v (Value.bool false), CV.v (Value.bool false), CV.v (Value.bool false), CV.v (Value.int IntKind.i64 (0 : Int))]))
   (Tree.need True))))))))))))
   (Tree.every { i // i ≤ n } fun s => Tree.br (decide ((↑(Subtype.val s) : Int) < (↑n : Int)))
   (Tree.chk ((0 : Int) ≤ (↑(Subtype.val s) : Int) ∧ (↑(Subtype.val s) : Int) < (↑n : Int) ∧ Int.toNat (↑(Subtype.val s) : Int) < n ∧ 0 < 1)
   (Tree.chk (0 < 1 ∧ Int.toNat (↑(Subtype.val s) : Int) < n)
   (Tree.some_ Ar fun s_1 => Tree.callf 21 [AV.c (CV.ptr ⟨1, 0, 0, 2, 0, 0, 0, 0⟩), AV.c (CV.v (Value.int IntKind.i64 (IntKind.wrap IntKind.i64 ((↑(Subtype.val s) : Int) + (1 : Int))))), AV.c (CV.v (Value.int IntKind.i64 (z (Int.toNat (↑(Subtype.val s) : Int)))))] [(Ent.rw own 2 1 n cap fun ii => [CV.v (Value.int IntKind.i64 (z ii))]), { own := true, box := true, ty := 72, sz := 2, m := 1, n := fun x => 1, cap := fun x => 1, f := fun x x_1 => [CV.sl 2 0 0 1 (1 + n) 1, CV.v (Value.int IntKind.i64 (4096 : Int))], ov := [] }, (Ent.rw true 2 1 (1 + n) 1 fun ii => [CV.v (Value.int IntKind.i64 (if ii = 0 then (0 : Int) else if ii ≤ Subtype.val s then z (ii - 1) else (0 : Int)))]), { own := true, box := true, ty := 78, sz := 2, m := 1, n := fun a => 1, cap := fun a => 1, f := fun x x_1 => [CV.sl 4 0 0 4 k k, CV.v (Value.int IntKind.i64 (0 : Int))], ov := [] }, (Ent.rw true 59 4 k k fun ii => [CV.v (Value.bool false), CV.v (Value.bool false), CV.v (Value.bool false), CV.v (Value.int IntKind.i64 (0 : Int))])] (storeC s_1 { n := s_1.1, cap := s_1.2, C := fun j => if j = Int.toNat (IntKind.wrap IntKind.i64 ((↑(Subtype.val s) : Int) + (1 : Int))) then z (Int.toNat (↑(Subtype.val s) : Int)) else s_1.3 j, most := s_1.4 } (IntKind.wrap IntKind.i64 ((↑(Subtype.val s) : Int) + (1 : Int))) (z (Int.toNat (↑(Subtype.val s) : Int))) (CV.v Value.nilIface) [1, 2]) fun c_2 => Tree.br false
   (Tree.done (XV.tup [AV.c (CV.v (Value.pointer none)), AV.c (CV.v (Value.pointer none))]) [(Ent.rw own 2 1 n cap fun ii => [CV.v (Value.int IntKind.i64 (z ii))]), { own := true, box := true, ty := 72, sz := 2, m := 1, n := fun a => 1, cap := fun a => 1, f := fun x x_1 => [CV.sl 2 0 0 1 s_1.1 s_1.2, CV.v (Value.int IntKind.i64 s_1.4)], ov := [] }, (Ent.rw true 2 1 s_1.1 s_1.2 fun ii => [CV.v (Value.int IntKind.i64 (if ii = Int.toNat (IntKind.wrap IntKind.i64 ((↑(Subtype.val s) : Int) + (1 : Int))) then z (Int.toNat (↑(Subtype.val s) : Int)) else s_1.3 ii))]), { own := true, box := true, ty := 78, sz := 2, m := 1, n := fun a => 1, cap := fun a => 1, f := fun x x_1 => [CV.sl 4 0 0 4 k k, CV.v (Value.int IntKind.i64 (0 : Int))], ov := [] }, (Ent.rw true 59 4 k k fun ii => [CV.v (Value.bool false), CV.v (Value.bool false), CV.v (Value.bool false), CV.v (Value.int IntKind.i64 (0 : Int))])])
   (Tree.some_ { i // i ≤ n } fun s' => Tree.chk (n - Subtype.val s' < n - Subtype.val s)
   (Tree.chk (XV.a (AV.c (CV.v (Value.int IntKind.i64 (IntKind.wrap IntKind.i64 ((↑(Subtype.val s) : Int) + (1 : Int)))))) = XV.a (AV.c (CV.v (Value.int IntKind.i64 (↑(Subtype.val s') : Int)))))
   (Tree.chk (XV.a (AV.c (CV.sl 0 0 0 1 n cap)) = XV.a (AV.c (CV.sl 0 0 0 1 n cap)))
   (Tree.chk (XV.a (AV.c (CV.v (Value.pointer none))) = XV.a (AV.c (CV.v (Value.pointer none))))
   (Tree.chk (XV.a (AV.c (CV.v (Value.pointer none))) = XV.a (AV.c (CV.v (Value.pointer none))))
   (Tree.chk (XV.a (AV.c (CV.ptr ⟨1, 0, 0, 2, 0, 0, 0, 0⟩)) = XV.a (AV.c (CV.ptr ⟨1, 0, 0, 2, 0, 0, 0, 0⟩)))
   (Tree.chk (XV.a (AV.c (CV.ptr ⟨3, 0, 0, 2, 0, 0, 0, 0⟩)) = XV.a (AV.c (CV.ptr ⟨3, 0, 0, 2, 0, 0, 0, 0⟩)))
   (Tree.chk (EntRel 5 [0, 1, 2, 3, 4] 5 (Ent.rw own 2 1 n cap fun ii => [CV.v (Value.int IntKind.i64 (z ii))]) (Ent.rw own 2 1 n cap fun ii => [CV.v (Value.int IntKind.i64 (z ii))]))
   (Tree.chk (EntRel 5 [0, 1, 2, 3, 4] 5 { own := true, box := true, ty := 72, sz := 2, m := 1, n := fun a => 1, cap := fun a => 1, f := fun x x_1 => [CV.sl 2 0 0 1 s_1.1 s_1.2, CV.v (Value.int IntKind.i64 s_1.4)], ov := [] } { own := true, box := true, ty := 72, sz := 2, m := 1, n := fun x => 1, cap := fun x => 1, f := fun x x_1 => [CV.sl 2 0 0 1 (1 + n) 1, CV.v (Value.int IntKind.i64 (4096 : Int))], ov := [] })
   (Tree.chk (EntRel 5 [0, 1, 2, 3, 4] 5 (Ent.rw true 2 1 s_1.1 s_1.2 fun ii => [CV.v (Value.int IntKind.i64 (if ii = Int.toNat (IntKind.wrap IntKind.i64 ((↑(Subtype.val s) : Int) + (1 : Int))) then z (Int.toNat (↑(Subtype.val s) : Int)) else s_1.3 ii))]) (Ent.rw true 2 1 (1 + n) 1 fun ii => [CV.v (Value.int IntKind.i64 (if ii = 0 then (0 : Int) else if ii ≤ Subtype.val s' then z (ii - 1) else (0 : Int)))]))
   (Tree.chk (EntRel 5 [0, 1, 2, 3, 4] 5 { own := true, box := true, ty := 78, sz := 2, m := 1, n := fun a => 1, cap := fun a => 1, f := fun x x_1 => [CV.sl 4 0 0 4 k k, CV.v (Value.int IntKind.i64 (0 : Int))], ov := [] } { own := true, box := true, ty := 78, sz := 2, m := 1, n := fun a => 1, cap := fun a => 1, f := fun x x_1 => [CV.sl 4 0 0 4 k k, CV.v (Value.int IntKind.i64 (0 : Int))], ov := [] })
   (Tree.chk (EntRel 5 [0, 1, 2, 3, 4] 5 (Ent.rw true 59 4 k k fun ii => [CV.v (Value.bool false), CV.v (Value.bool false), CV.v (Value.bool false), CV.v (Value.int IntKind.i64 (0 : Int))]) (Ent.rw true 59 4 k k fun ii => [CV.v (Value.bool false), CV.v (Value.bool false), CV.v (Value.bool false), CV.v (Value.int IntKind.i64 (0 : Int))]))
   (Tree.need True))))))))))))))))
   (Tree.done (XV.tup [AV.c (CV.ptr ⟨1, 0, 0, 2, 0, 0, 0, 0⟩), AV.c (CV.ptr ⟨3, 0, 0, 2, 0, 0, 0, 0⟩)]) [(Ent.rw own 2 1 n cap fun ii => [CV.v (Value.int IntKind.i64 (z ii))]), { own := true, box := true, ty := 72, sz := 2, m := 1, n := fun x => 1, cap := fun x => 1, f := fun x x_1 => [CV.sl 2 0 0 1 (1 + n) 1, CV.v (Value.int IntKind.i64 (4096 : Int))], ov := [] }, (Ent.rw true 2 1 (1 + n) 1 fun ii => [CV.v (Value.int IntKind.i64 (if ii = 0 then (0 : Int) else if ii ≤ Subtype.val s then z (ii - 1) else (0 : Int)))]), { own := true, box := true, ty := 78, sz := 2, m := 1, n := fun a => 1, cap := fun a => 1, f := fun x x_1 => [CV.sl 4 0 0 4 k k, CV.v (Value.int IntKind.i64 (0 : Int))], ov := [] }, (Ent.rw true 59 4 k k fun ii => [CV.v (Value.bool false), CV.v (Value.bool false), CV.v (Value.bool false), CV.v (Value.int IntKind.i64 (0 : Int))])]))))))))))
theorem tmade_eq (own : Bool) (n cap k : Nat) (z : Nat → Int) : xfunc tab (madeG k) (lpI fun _ tm H => madeI n z 1 tm H) Go.Proofs.Try.f8 [.c (.sl 0 0 0 1 n cap), iav k] [irow own n cap z] [0, 1, 2, 3, 4, 5] = tmade own n cap k z := by kernel_rfl
def tmade0 (k : Nat) : Tree :=
  Tree.callf 18 [AV.c (CV.v (Value.int IntKind.i64 (4096 : Int)))] [] (newAC 0) fun c => Tree.callf 19 [AV.c (CV.v (Value.int IntKind.i64 (↑k : Int)))] [{ own := true, box := true, ty := 72, sz := 2, m := 1, n := fun a => 1, cap := fun a => 1, f := fun x x_1 => [CV.sl 1 0 0 1 1 1, CV.v (Value.int IntKind.i64 (4096 : Int))], ov := [] }, (Ent.rw true 2 1 1 1 fun ii => [CV.v (Value.int IntKind.i64 (0 : Int))])] (newTC k 2) fun c_1 => Tree.chk (true = true → true = true)
   (Tree.chk (false = false → true = true)
   (Tree.chk (true = true → true = true)
   (Tree.chk (false = false → true = true)
   (Tree.chk (true = true → true = true)
   (Tree.chk (false = false → true = true)
   (Tree.br false
   (Tree.done (XV.tup [AV.c (CV.v (Value.pointer none)), AV.c (CV.v (Value.pointer none))]) [{ own := true, box := true, ty := 72, sz := 2, m := 1, n := fun a => 1, cap := fun a => 1, f := fun x x_1 => [CV.sl 1 0 0 1 1 1, CV.v (Value.int IntKind.i64 (4096 : Int))], ov := [] }, (Ent.rw true 2 1 1 1 fun ii => [CV.v (Value.int IntKind.i64 (0 : Int))]), { own := true, box := true, ty := 78, sz := 2, m := 1, n := fun a => 1, cap := fun a => 1, f := fun x x_1 => [CV.sl 3 0 0 4 k k, CV.v (Value.int IntKind.i64 (0 : Int))], ov := [] }, (Ent.rw true 59 4 k k fun ii => [CV.v (Value.bool false), CV.v (Value.bool false), CV.v (Value.bool false), CV.v (Value.int IntKind.i64 (0 : Int))])])
   (Tree.br false
   (Tree.br true
   (Tree.callf 20 [AV.c (CV.ptr ⟨0, 0, 0, 2, 0, 0, 0, 0⟩), AV.c (CV.v (Value.int IntKind.i64 (0 : Int)))] [{ own := true, box := true, ty := 72, sz := 2, m := 1, n := fun a => 1, cap := fun a => 1, f := fun x x_1 => [CV.sl 1 0 0 1 1 1, CV.v (Value.int IntKind.i64 (4096 : Int))], ov := [] }, (Ent.rw true 2 1 1 1 fun ii => [CV.v (Value.int IntKind.i64 (0 : Int))]), { own := true, box := true, ty := 78, sz := 2, m := 1, n := fun a => 1, cap := fun a => 1, f := fun x x_1 => [CV.sl 3 0 0 4 k k, CV.v (Value.int IntKind.i64 (0 : Int))], ov := [] }, (Ent.rw true 59 4 k k fun ii => [CV.v (Value.bool false), CV.v (Value.bool false), CV.v (Value.bool false), CV.v (Value.int IntKind.i64 (0 : Int))])] (allocC { n := 1, cap := 1, C := fun x => (0 : Int), most := (4096 : Int) } { n := 1, cap := 1, C := fun x => (0 : Int), most := (4096 : Int) } (0 : Int) (0 : Int) (CV.v (Value.iface 36 (Value.int IntKind.i64 (1 : Int)))) [0, 1] 4) fun c_2 => Tree.br true
   (Tree.done (XV.tup [AV.c (CV.v (Value.pointer none)), AV.c (CV.v (Value.pointer none))]) [{ own := true, box := true, ty := 72, sz := 2, m := 1, n := fun a => 1, cap := fun a => 1, f := fun x x_1 => [CV.sl 4 0 0 1 1 (c_2 0), CV.v (Value.int IntKind.i64 (4096 : Int))], ov := [] }, Ent.dead, { own := true, box := true, ty := 78, sz := 2, m := 1, n := fun a => 1, cap := fun a => 1, f := fun x x_1 => [CV.sl 3 0 0 4 k k, CV.v (Value.int IntKind.i64 (0 : Int))], ov := [] }, (Ent.rw true 59 4 k k fun ii => [CV.v (Value.bool false), CV.v (Value.bool false), CV.v (Value.bool false), CV.v (Value.int IntKind.i64 (0 : Int))]), (Ent.rw true 2 1 1 (c_2 0) fun ii => [CV.v (Value.int IntKind.i64 (0 : Int))])])
   (Tree.both
   (Tree.chk (XV.a (AV.c (CV.v (Value.int IntKind.i64 (0 : Int)))) = XV.a (AV.c (CV.v (Value.int IntKind.i64 (0 : Int)))))
   (Tree.chk (XV.a (AV.c (CV.v (Value.slice none 0 0))) = XV.a (AV.c (CV.v (Value.slice none 0 0))))
   (Tree.chk (XV.a (AV.c (CV.v (Value.pointer none))) = XV.a (AV.c (CV.v (Value.pointer none))))
   (Tree.chk (XV.a (AV.c (CV.v (Value.pointer none))) = XV.a (AV.c (CV.v (Value.pointer none))))
   (Tree.chk (XV.a (AV.c (CV.ptr ⟨0, 0, 0, 2, 0, 0, 0, 0⟩)) = XV.a (AV.c (CV.ptr ⟨0, 0, 0, 2, 0, 0, 0, 0⟩)))
   (Tree.chk (XV.a (AV.c (CV.ptr ⟨2, 0, 0, 2, 0, 0, 0, 0⟩)) = XV.a (AV.c (CV.ptr ⟨2, 0, 0, 2, 0, 0, 0, 0⟩)))
   (Tree.chk (EntRel 5 [0, 1, 2, 3, 4] 5 { own := true, box := true, ty := 72, sz := 2, m := 1, n := fun a => 1, cap := fun a => 1, f := fun x x_1 => [CV.sl 4 0 0 1 1 (c_2 0), CV.v (Value.int IntKind.i64 (4096 : Int))], ov := [] } { own := true, box := true, ty := 72, sz := 2, m := 1, n := fun x => 1, cap := fun x => 1, f := fun x x_1 => [CV.sl 4 0 0 1 1 (c_2 0), CV.v (Value.int IntKind.i64 (4096 : Int))], ov := [] })
   (Tree.chk (EntRel 5 [0, 1, 2, 3, 4] 5 Ent.dead Ent.dead)
   (Tree.chk (EntRel 5 [0, 1, 2, 3, 4] 5 { own := true, box := true, ty := 78, sz := 2, m := 1, n := fun a => 1, cap := fun a => 1, f := fun x x_1 => [CV.sl 3 0 0 4 k k, CV.v (Value.int IntKind.i64 (0 : Int))], ov := [] } { own := true, box := true, ty := 78, sz := 2, m := 1, n := fun a => 1, cap := fun a => 1, f := fun x x_1 => [CV.sl 3 0 0 4 k k, CV.v (Value.int IntKind.i64 (0 : Int))], ov := [] })
   (Tree.chk (EntRel 5 [0, 1, 2, 3, 4] 5 (Ent.rw true 59 4 k k fun ii => [CV.v (Value.bool false), CV.v (Value.bool false), CV.v (Value.bool false), CV.v (Value.int IntKind.i64 (0 : Int))]) (Ent.rw true 59 4 k k fun ii => [CV.v (Value.bool false), CV.v (Value.bool false), CV.v (Value.bool false), CV.v (Value.int IntKind.i64 (0 : Int))]))
   (Tree.chk (EntRel 5 [0, 1, 2, 3, 4] 5 (Ent.rw true 2 1 1 (c_2 0) fun ii => [CV.v (Value.int IntKind.i64 (0 : Int))]) (Ent.rw true 2 1 1 (c_2 0) fun ii => [CV.v (Value.int IntKind.i64 (if ii = 0 then (0 : Int) else if ii ≤ 0 then (0 : Int) else (0 : Int)))]))
   (Tree.need True))))))))))))
   (Tree.every { i // i ≤ 0 } fun s => Tree.br false
   (Tree.fail 67)
   (Tree.done (XV.tup [AV.c (CV.ptr ⟨0, 0, 0, 2, 0, 0, 0, 0⟩), AV.c (CV.ptr ⟨2, 0, 0, 2, 0, 0, 0, 0⟩)]) [{ own := true, box := true, ty := 72, sz := 2, m := 1, n := fun x => 1, cap := fun x => 1, f := fun x x_1 => [CV.sl 4 0 0 1 1 (c_2 0), CV.v (Value.int IntKind.i64 (4096 : Int))], ov := [] }, Ent.dead, { own := true, box := true, ty := 78, sz := 2, m := 1, n := fun a => 1, cap := fun a => 1, f := fun x x_1 => [CV.sl 3 0 0 4 k k, CV.v (Value.int IntKind.i64 (0 : Int))], ov := [] }, (Ent.rw true 59 4 k k fun ii => [CV.v (Value.bool false), CV.v (Value.bool false), CV.v (Value.bool false), CV.v (Value.int IntKind.i64 (0 : Int))]), (Ent.rw true 2 1 1 (c_2 0) fun ii => [CV.v (Value.int IntKind.i64 (if ii = 0 then (0 : Int) else if ii ≤ Subtype.val s then (0 : Int) else (0 : Int)))])]))))
   (Tree.br false
   (Tree.callf 20 [AV.c (CV.ptr ⟨0, 0, 0, 2, 0, 0, 0, 0⟩), AV.c (CV.v (Value.int IntKind.i64 (0 : Int)))] [{ own := true, box := true, ty := 72, sz := 2, m := 1, n := fun a => 1, cap := fun a => 1, f := fun x x_1 => [CV.sl 1 0 0 1 1 1, CV.v (Value.int IntKind.i64 (4096 : Int))], ov := [] }, (Ent.rw true 2 1 1 1 fun ii => [CV.v (Value.int IntKind.i64 (0 : Int))]), { own := true, box := true, ty := 78, sz := 2, m := 1, n := fun a => 1, cap := fun a => 1, f := fun x x_1 => [CV.sl 3 0 0 4 k k, CV.v (Value.int IntKind.i64 (0 : Int))], ov := [] }, (Ent.rw true 59 4 k k fun ii => [CV.v (Value.bool false), CV.v (Value.bool false), CV.v (Value.bool false), CV.v (Value.int IntKind.i64 (0 : Int))])] (allocC { n := 1, cap := 1, C := fun x => (0 : Int), most := (4096 : Int) } { n := 1, cap := 1, C := fun x => (0 : Int), most := (4096 : Int) } (0 : Int) (0 : Int) (CV.v (Value.iface 36 (Value.int IntKind.i64 (3 : Int)))) [0, 1] 4) fun c_2 => Tree.br true
   (Tree.done (XV.tup [AV.c (CV.v (Value.pointer none)), AV.c (CV.v (Value.pointer none))]) [{ own := true, box := true, ty := 72, sz := 2, m := 1, n := fun a => 1, cap := fun a => 1, f := fun x x_1 => [CV.sl 4 0 0 1 1 (c_2 0), CV.v (Value.int IntKind.i64 (4096 : Int))], ov := [] }, Ent.dead, { own := true, box := true, ty := 78, sz := 2, m := 1, n := fun a => 1, cap := fun a => 1, f := fun x x_1 => [CV.sl 3 0 0 4 k k, CV.v (Value.int IntKind.i64 (0 : Int))], ov := [] }, (Ent.rw true 59 4 k k fun ii => [CV.v (Value.bool false), CV.v (Value.bool false), CV.v (Value.bool false), CV.v (Value.int IntKind.i64 (0 : Int))]), (Ent.rw true 2 1 1 (c_2 0) fun ii => [CV.v (Value.int IntKind.i64 (0 : Int))])])
   (Tree.both
   (Tree.chk (XV.a (AV.c (CV.v (Value.int IntKind.i64 (0 : Int)))) = XV.a (AV.c (CV.v (Value.int IntKind.i64 (0 : Int)))))
   (Tree.chk (XV.a (AV.c (CV.v (Value.slice none 0 0))) = XV.a (AV.c (CV.v (Value.slice none 0 0))))
   (Tree.chk (XV.a (AV.c (CV.v (Value.pointer none))) = XV.a (AV.c (CV.v (Value.pointer none))))
   (Tree.chk (XV.a (AV.c (CV.v (Value.pointer none))) = XV.a (AV.c (CV.v (Value.pointer none))))
   (Tree.chk (XV.a (AV.c (CV.ptr ⟨0, 0, 0, 2, 0, 0, 0, 0⟩)) = XV.a (AV.c (CV.ptr ⟨0, 0, 0, 2, 0, 0, 0, 0⟩)))
   (Tree.chk (XV.a (AV.c (CV.ptr ⟨2, 0, 0, 2, 0, 0, 0, 0⟩)) = XV.a (AV.c (CV.ptr ⟨2, 0, 0, 2, 0, 0, 0, 0⟩)))
   (Tree.chk (EntRel 5 [0, 1, 2, 3, 4] 5 { own := true, box := true, ty := 72, sz := 2, m := 1, n := fun a => 1, cap := fun a => 1, f := fun x x_1 => [CV.sl 4 0 0 1 1 (c_2 0), CV.v (Value.int IntKind.i64 (4096 : Int))], ov := [] } { own := true, box := true, ty := 72, sz := 2, m := 1, n := fun x => 1, cap := fun x => 1, f := fun x x_1 => [CV.sl 4 0 0 1 1 (c_2 0), CV.v (Value.int IntKind.i64 (4096 : Int))], ov := [] })
   (Tree.chk (EntRel 5 [0, 1, 2, 3, 4] 5 Ent.dead Ent.dead)
   (Tree.chk (EntRel 5 [0, 1, 2, 3, 4] 5 { own := true, box := true, ty := 78, sz := 2, m := 1, n := fun a => 1, cap := fun a => 1, f := fun x x_1 => [CV.sl 3 0 0 4 k k, CV.v (Value.int IntKind.i64 (0 : Int))], ov := [] } { own := true, box := true, ty := 78, sz := 2, m := 1, n := fun a => 1, cap := fun a => 1, f := fun x x_1 => [CV.sl 3 0 0 4 k k, CV.v (Value.int IntKind.i64 (0 : Int))], ov := [] })
   (Tree.chk (EntRel 5 [0, 1, 2, 3, 4] 5 (Ent.rw true 59 4 k k fun ii => [CV.v (Value.bool false), CV.v (Value.bool false), CV.v (Value.bool false), CV.v (Value.int IntKind.i64 (0 : Int))]) (Ent.rw true 59 4 k k fun ii => [CV.v (Value.bool false), CV.v (Value.bool false), CV.v (Value.bool false), CV.v (Value.int IntKind.i64 (0 : Int))]))
   (Tree.chk (EntRel 5 [0, 1, 2, 3, 4] 5 (Ent.rw true 2 1 1 (c_2 0) fun ii => [CV.v (Value.int IntKind.i64 (0 : Int))]) (Ent.rw true 2 1 1 (c_2 0) fun ii => [CV.v (Value.int IntKind.i64 (if ii = 0 then (0 : Int) else if ii ≤ 0 then (0 : Int) else (0 : Int)))]))
   (Tree.need True))))))))))))
   (Tree.every { i // i ≤ 0 } fun s => Tree.br false
   (Tree.fail 67)
   (Tree.done (XV.tup [AV.c (CV.ptr ⟨0, 0, 0, 2, 0, 0, 0, 0⟩), AV.c (CV.ptr ⟨2, 0, 0, 2, 0, 0, 0, 0⟩)]) [{ own := true, box := true, ty := 72, sz := 2, m := 1, n := fun x => 1, cap := fun x => 1, f := fun x x_1 => [CV.sl 4 0 0 1 1 (c_2 0), CV.v (Value.int IntKind.i64 (4096 : Int))], ov := [] }, Ent.dead, { own := true, box := true, ty := 78, sz := 2, m := 1, n := fun a => 1, cap := fun a => 1, f := fun x x_1 => [CV.sl 3 0 0 4 k k, CV.v (Value.int IntKind.i64 (0 : Int))], ov := [] }, (Ent.rw true 59 4 k k fun ii => [CV.v (Value.bool false), CV.v (Value.bool false), CV.v (Value.bool false), CV.v (Value.int IntKind.i64 (0 : Int))]), (Ent.rw true 2 1 1 (c_2 0) fun ii => [CV.v (Value.int IntKind.i64 (if ii = 0 then (0 : Int) else if ii ≤ Subtype.val s then (0 : Int) else (0 : Int)))])]))))
   (Tree.callf 20 [AV.c (CV.ptr ⟨0, 0, 0, 2, 0, 0, 0, 0⟩), AV.c (CV.v (Value.int IntKind.i64 (0 : Int)))] [{ own := true, box := true, ty := 72, sz := 2, m := 1, n := fun a => 1, cap := fun a => 1, f := fun x x_1 => [CV.sl 1 0 0 1 1 1, CV.v (Value.int IntKind.i64 (4096 : Int))], ov := [] }, (Ent.rw true 2 1 1 1 fun ii => [CV.v (Value.int IntKind.i64 (0 : Int))]), { own := true, box := true, ty := 78, sz := 2, m := 1, n := fun a => 1, cap := fun a => 1, f := fun x x_1 => [CV.sl 3 0 0 4 k k, CV.v (Value.int IntKind.i64 (0 : Int))], ov := [] }, (Ent.rw true 59 4 k k fun ii => [CV.v (Value.bool false), CV.v (Value.bool false), CV.v (Value.bool false), CV.v (Value.int IntKind.i64 (0 : Int))])] (allocC { n := 1, cap := 1, C := fun x => (0 : Int), most := (4096 : Int) } { n := 1, cap := 1, C := fun j => if j < 1 then (0 : Int) else (0 : Int), most := (4096 : Int) } (0 : Int) (1 : Int) (CV.v Value.nilIface) [0, 1] 4) fun c_2 => Tree.br false
   (Tree.done (XV.tup [AV.c (CV.v (Value.pointer none)), AV.c (CV.v (Value.pointer none))]) [{ own := true, box := true, ty := 72, sz := 2, m := 1, n := fun a => 1, cap := fun a => 1, f := fun x x_1 => [CV.sl 4 0 0 1 1 (c_2 0), CV.v (Value.int IntKind.i64 (4096 : Int))], ov := [] }, Ent.dead, { own := true, box := true, ty := 78, sz := 2, m := 1, n := fun a => 1, cap := fun a => 1, f := fun x x_1 => [CV.sl 3 0 0 4 k k, CV.v (Value.int IntKind.i64 (0 : Int))], ov := [] }, (Ent.rw true 59 4 k k fun ii => [CV.v (Value.bool false), CV.v (Value.bool false), CV.v (Value.bool false), CV.v (Value.int IntKind.i64 (0 : Int))]), (Ent.rw true 2 1 1 (c_2 0) fun ii => [CV.v (Value.int IntKind.i64 (if ii < 1 then (0 : Int) else (0 : Int)))])])
   (Tree.both
   (Tree.chk (XV.a (AV.c (CV.v (Value.int IntKind.i64 (0 : Int)))) = XV.a (AV.c (CV.v (Value.int IntKind.i64 (0 : Int)))))
   (Tree.chk (XV.a (AV.c (CV.v (Value.slice none 0 0))) = XV.a (AV.c (CV.v (Value.slice none 0 0))))
   (Tree.chk (XV.a (AV.c (CV.v (Value.pointer none))) = XV.a (AV.c (CV.v (Value.pointer none))))
   (Tree.chk (XV.a (AV.c (CV.v (Value.pointer none))) = XV.a (AV.c (CV.v (Value.pointer none))))
   (Tree.chk (XV.a (AV.c (CV.ptr ⟨0, 0, 0, 2, 0, 0, 0, 0⟩)) = XV.a (AV.c (CV.ptr ⟨0, 0, 0, 2, 0, 0, 0, 0⟩)))
   (Tree.chk (XV.a (AV.c (CV.ptr ⟨2, 0, 0, 2, 0, 0, 0, 0⟩)) = XV.a (AV.c (CV.ptr ⟨2, 0, 0, 2, 0, 0, 0, 0⟩)))
   (Tree.chk (EntRel 5 [0, 1, 2, 3, 4] 5 { own := true, box := true, ty := 72, sz := 2, m := 1, n := fun a => 1, cap := fun a => 1, f := fun x x_1 => [CV.sl 4 0 0 1 1 (c_2 0), CV.v (Value.int IntKind.i64 (4096 : Int))], ov := [] } { own := true, box := true, ty := 72, sz := 2, m := 1, n := fun x => 1, cap := fun x => 1, f := fun x x_1 => [CV.sl 4 0 0 1 1 (c_2 0), CV.v (Value.int IntKind.i64 (4096 : Int))], ov := [] })
   (Tree.chk (EntRel 5 [0, 1, 2, 3, 4] 5 Ent.dead Ent.dead)
   (Tree.chk (EntRel 5 [0, 1, 2, 3, 4] 5 { own := true, box := true, ty := 78, sz := 2, m := 1, n := fun a => 1, cap := fun a => 1, f := fun x x_1 => [CV.sl 3 0 0 4 k k, CV.v (Value.int IntKind.i64 (0 : Int))], ov := [] } { own := true, box := true, ty := 78, sz := 2, m := 1, n := fun a => 1, cap := fun a => 1, f := fun x x_1 => [CV.sl 3 0 0 4 k k, CV.v (Value.int IntKind.i64 (0 : Int))], ov := [] })
   (Tree.chk (EntRel 5 [0, 1, 2, 3, 4] 5 (Ent.rw true 59 4 k k fun ii => [CV.v (Value.bool false), CV.v (Value.bool false), CV.v (Value.bool false), CV.v (Value.int IntKind.i64 (0 : Int))]) (Ent.rw true 59 4 k k fun ii => [CV.v (Value.bool false), CV.v (Value.bool false), CV.v (Value.bool false), CV.v (Value.int IntKind.i64 (0 : Int))]))
   (Tree.chk (EntRel 5 [0, 1, 2, 3, 4] 5 (Ent.rw true 2 1 1 (c_2 0) fun ii => [CV.v (Value.int IntKind.i64 (if ii < 1 then (0 : Int) else (0 : Int)))]) (Ent.rw true 2 1 1 (c_2 0) fun ii => [CV.v (Value.int IntKind.i64 (if ii = 0 then (0 : Int) else if ii ≤ 0 then (0 : Int) else (0 : Int)))]))
   (Tree.need True))))))))))))
   (Tree.every { i // i ≤ 0 } fun s => Tree.br false
   (Tree.fail 67)
   (Tree.done (XV.tup [AV.c (CV.ptr ⟨0, 0, 0, 2, 0, 0, 0, 0⟩), AV.c (CV.ptr ⟨2, 0, 0, 2, 0, 0, 0, 0⟩)]) [{ own := true, box := true, ty := 72, sz := 2, m := 1, n := fun x => 1, cap := fun x => 1, f := fun x x_1 => [CV.sl 4 0 0 1 1 (c_2 0), CV.v (Value.int IntKind.i64 (4096 : Int))], ov := [] }, Ent.dead, { own := true, box := true, ty := 78, sz := 2, m := 1, n := fun a => 1, cap := fun a => 1, f := fun x x_1 => [CV.sl 3 0 0 4 k k, CV.v (Value.int IntKind.i64 (0 : Int))], ov := [] }, (Ent.rw true 59 4 k k fun ii => [CV.v (Value.bool false), CV.v (Value.bool false), CV.v (Value.bool false), CV.v (Value.int IntKind.i64 (0 : Int))]), (Ent.rw true 2 1 1 (c_2 0) fun ii => [CV.v (Value.int IntKind.i64 (if ii = 0 then (0 : Int) else if ii ≤ Subtype.val s then (0 : Int) else (0 : Int)))])]))))))
   (Tree.both
   (Tree.chk (XV.a (AV.c (CV.v (Value.int IntKind.i64 (0 : Int)))) = XV.a (AV.c (CV.v (Value.int IntKind.i64 (0 : Int)))))
   (Tree.chk (XV.a (AV.c (CV.v (Value.slice none 0 0))) = XV.a (AV.c (CV.v (Value.slice none 0 0))))
   (Tree.chk (XV.a (AV.c (CV.v (Value.pointer none))) = XV.a (AV.c (CV.v (Value.pointer none))))
   (Tree.chk (XV.a (AV.c (CV.v (Value.pointer none))) = XV.a (AV.c (CV.v (Value.pointer none))))
   (Tree.chk (XV.a (AV.c (CV.ptr ⟨0, 0, 0, 2, 0, 0, 0, 0⟩)) = XV.a (AV.c (CV.ptr ⟨0, 0, 0, 2, 0, 0, 0, 0⟩)))
   (Tree.chk (XV.a (AV.c (CV.ptr ⟨2, 0, 0, 2, 0, 0, 0, 0⟩)) = XV.a (AV.c (CV.ptr ⟨2, 0, 0, 2, 0, 0, 0, 0⟩)))
   (Tree.chk (EntRel 4 [0, 1, 2, 3] 4 { own := true, box := true, ty := 72, sz := 2, m := 1, n := fun a => 1, cap := fun a => 1, f := fun x x_1 => [CV.sl 1 0 0 1 1 1, CV.v (Value.int IntKind.i64 (4096 : Int))], ov := [] } { own := true, box := true, ty := 72, sz := 2, m := 1, n := fun x => 1, cap := fun x => 1, f := fun x x_1 => [CV.sl 1 0 0 1 1 1, CV.v (Value.int IntKind.i64 (4096 : Int))], ov := [] })
   (Tree.chk (EntRel 4 [0, 1, 2, 3] 4 (Ent.rw true 2 1 1 1 fun ii => [CV.v (Value.int IntKind.i64 (0 : Int))]) (Ent.rw true 2 1 1 1 fun ii => [CV.v (Value.int IntKind.i64 (if ii = 0 then (0 : Int) else if ii ≤ 0 then (0 : Int) else (0 : Int)))]))
   (Tree.chk (EntRel 4 [0, 1, 2, 3] 4 { own := true, box := true, ty := 78, sz := 2, m := 1, n := fun a => 1, cap := fun a => 1, f := fun x x_1 => [CV.sl 3 0 0 4 k k, CV.v (Value.int IntKind.i64 (0 : Int))], ov := [] } { own := true, box := true, ty := 78, sz := 2, m := 1, n := fun a => 1, cap := fun a => 1, f := fun x x_1 => [CV.sl 3 0 0 4 k k, CV.v (Value.int IntKind.i64 (0 : Int))], ov := [] })
   (Tree.chk (EntRel 4 [0, 1, 2, 3] 4 (Ent.rw true 59 4 k k fun ii => [CV.v (Value.bool false), CV.v (Value.bool false), CV.v (Value.bool false), CV.v (Value.int IntKind.i64 (0 : Int))]) (Ent.rw true 59 4 k k fun ii => [CV.v (Value.bool false), CV.v (Value.bool false), CV.v (Value.bool false), CV.v (Value.int IntKind.i64 (0 : Int))]))
   (Tree.need True)))))))))))
   (Tree.every { i // i ≤ 0 } fun s => Tree.br false
   (Tree.fail 67)
   (Tree.done (XV.tup [AV.c (CV.ptr ⟨0, 0, 0, 2, 0, 0, 0, 0⟩), AV.c (CV.ptr ⟨2, 0, 0, 2, 0, 0, 0, 0⟩)]) [{ own := true, box := true, ty := 72, sz := 2, m := 1, n := fun x => 1, cap := fun x => 1, f := fun x x_1 => [CV.sl 1 0 0 1 1 1, CV.v (Value.int IntKind.i64 (4096 : Int))], ov := [] }, (Ent.rw true 2 1 1 1 fun ii => [CV.v (Value.int IntKind.i64 (if ii = 0 then (0 : Int) else if ii ≤ Subtype.val s then (0 : Int) else (0 : Int)))]), { own := true, box := true, ty := 78, sz := 2, m := 1, n := fun a => 1, cap := fun a => 1, f := fun x x_1 => [CV.sl 3 0 0 4 k k, CV.v (Value.int IntKind.i64 (0 : Int))], ov := [] }, (Ent.rw true 59 4 k k fun ii => [CV.v (Value.bool false), CV.v (Value.bool false), CV.v (Value.bool false), CV.v (Value.int IntKind.i64 (0 : Int))])]))))))))))
theorem tmade0_eq (k : Nat) : xfunc tab (madeG k) (lpI fun _ tm H => madeI 0 (fun _ => 0) 0 tm H) Go.Proofs.Try.f8 [.c (.v (.slice none 0 0)), iav k] [] [0, 1, 2, 3, 4, 5] = tmade0 k := by kernel_rfl
end Go.Proofs.Ytehecaipmdfjmaa.X.Mi

set_option linter.unusedVariables false
set_option linter.unusedSimpArgs false
namespace Go.Proofs.Ytehecaipmdfjmaa.X.Mi
open Go Go.RowKit Go.Proofs.YtehecaipmdfjmaaW.PrintWords Go.Proofs.Ytehecaipmdfjmaa.Base Go.Proofs.Ytehecaipmdfjmaa.X
theorem iclone_call : Callable Try.prog 28 := ⟨_, Try.func28, by kernel_rfl, rfl⟩
theorem newA_call : Callable Try.prog 18 := ⟨_, Try.func18, by kernel_rfl, rfl⟩
theorem newT_call : Callable Try.prog 19 := ⟨_, Try.func19, by kernel_rfl, rfl⟩
theorem iclone_local (a : Ar) (ρ : List Nat) (k : Nat) (hl : a.n ≤ 1000000) : (icloneC a ρ k).Local Try.prog 28 := by
  refine local_of Try.func28 rfl (ticlone_eq a) fun ν w => ?_
  refine ok_chk' Nat.one_pos (ok_every' fun b => ok_br' (fun h => ok_br' (fun hb => ?_) fun hb => ?_) fun h => trivial)
  · have hn : a.n = 0 := by
      rw [hb] at h
      rcases Nat.eq_zero_or_pos a.n with h0 | h0
      · exact h0
      · rw [show Nat.blt 0 a.1 = true from Nat.blt_eq.mpr h0] at h; cases h
    refine ok_leaf (fun _ => 0) [(2, 1)] [0, 1] ⟨Nat.le_of_eq hn, Nat.zero_le _⟩ (by show _ = XV.nilz _ (XV.ren _ (.a (.c (.sl 1 0 0 1 a.n 0)))); rw [hn]; rfl) ⟨⟨_, rfl, EntRel.rw rfl rfl (fun _ _ => rfl) fun _ _ => rfl⟩, ⟨_, rfl, EntRel.rw hn rfl (fun i hi => absurd hi (Nat.not_lt_zero _)) fun i hi => absurd hi (Nat.not_lt_zero _)⟩, trivial⟩ rfl
  · refine ok_chk' (by omega) (ok_chk' ⟨by omega, by omega⟩ (ok_chk' ⟨rfl, rfl⟩ (ok_all' fun c hc => ?_)))
    exact ok_leaf c [] [0, 2] ⟨by have := hc.1; omega, hc.2⟩ (by simp only [Nat.zero_add]; rfl) ⟨⟨_, rfl, EntRel.rw rfl rfl (fun _ _ => rfl) fun _ _ => rfl⟩, ⟨_, rfl, EntRel.rw (by simp) rfl (fun i hi => rfl) fun _ _ => rfl⟩, trivial⟩ rfl
theorem aclone_local (a : Ar) (t : Tb) (ρ : List Nat) (k : Nat) (hl : a.n ≤ 1000000) : (acloneC a ρ k).Local Try.prog 14 := by
  refine local_of Try.func14 rfl (taclone_eq a t) fun ν w => ?_
  refine ok_callf' iclone_call (fits_of rfl rfl ⟨⟨_, rfl, EntRel.rw rfl rfl (fun _ _ => rfl) fun _ _ => rfl⟩, trivial⟩ fun c _ => ⟨⟨(by show 1 ≤ 2; decide), rfl⟩, ⟨rfl, rfl⟩, ⟨⟨EntRel.rw rfl rfl (fun _ _ => rfl) fun _ _ => rfl, rfl, (fun h => by cases h), .inr rfl⟩, ⟨EntRel.rw rfl rfl (fun _ _ => rfl) fun _ _ => rfl, rfl, (fun h => by cases h), .inr rfl⟩, trivial⟩⟩) (iclone_local a _ _ hl) fun c hc => ?_
  repeat (refine ok_chk' rfl ?_)
  exact ok_leaf c [] [0, 1, 3, 2] trivial rfl ⟨⟨_, rfl, EntRel.box' rfl rfl rfl rfl rfl⟩, ⟨_, rfl, EntRel.rw rfl rfl (fun _ _ => rfl) fun _ _ => rfl⟩, ⟨_, rfl, EntRel.box' rfl rfl rfl rfl rfl⟩, ⟨_, rfl, EntRel.rw rfl rfl (fun _ _ => rfl) fun _ _ => rfl⟩, trivial⟩ rfl
theorem start_local (at_ : Int) (own : Bool) (n cap : Nat) (z : Nat → Int) (ρ : List Nat) (k : Nat) : (startC at_ own n cap z ρ k).Local Try.prog 12 := by
  refine local_of Try.func12 rfl (tstart_eq at_ own n cap z) fun ν w => ?_
  refine ok_chk' ⟨Nat.one_pos, by omega⟩ (ok_chk' (fun _ _ _ => rfl) ?_)
  exact ok_leaf (fun _ => 0) [] [0, 2] trivial rfl ⟨⟨_, rfl, EntRel.rw rfl rfl (fun _ _ => rfl) fun _ _ => rfl⟩, ⟨_, rfl, EntRel.rw rfl rfl (fun _ _ => rfl) fun _ _ => rfl⟩, trivial⟩ rfl
theorem start0_local (at_ : Int) (k : Nat) : (start0C at_ k).Local Try.prog 12 := by
  refine local_of Try.func12 rfl (tstart0_eq at_) fun ν w => ?_
  repeat refine ok_chk' (by first | rfl | (intro q hq; omega) | exact ⟨by omega, by omega⟩) ?_
  exact ok_leaf (fun _ => 0) [] [1] trivial rfl ⟨⟨_, rfl, EntRel.rw rfl rfl (fun _ _ => rfl) fun _ _ => rfl⟩, trivial⟩ rfl
theorem newA_local (k : Nat) : (newAC k).Local Try.prog 18 := by
  refine local_of Try.func18 rfl (tnew_eq 4096) fun ν w => ?_
  repeat refine ok_chk' (fun h => h) ?_
  refine ok_chk' (fun _ => rfl) (ok_br' (fun h => by cases h) fun _ => ?_)
  exact ok_leaf (fun _ => 0) [] [1, 0] trivial rfl ⟨⟨_, rfl, EntRel.box' rfl rfl rfl rfl rfl⟩, ⟨_, rfl, EntRel.rw rfl rfl (fun _ _ => rfl) fun _ _ => rfl⟩, trivial⟩ rfl
theorem newT_local (n k : Nat) (h1 : 1 ≤ n) (h2 : n ≤ 8) : (newTC n k).Local Try.prog 19 := by
  refine local_of Try.func19 rfl (tnewt_eq n) fun ν w => ?_
  repeat refine ok_chk' (fun h => h) ?_
  refine ok_chk' (fun h => by rw [h]; rfl) (ok_br' (fun h => by simp at h; omega) fun _ => ok_chk' ⟨by omega, by omega, by omega⟩ ?_)
  exact ok_leaf (fun _ => 0) [] [1, 0] trivial rfl ⟨⟨_, rfl, EntRel.box' rfl rfl rfl rfl rfl⟩, ⟨_, rfl, EntRel.rw (by show n = Int.toNat n; simp) (by show n = Int.toNat n; simp) (fun _ _ => rfl) fun _ _ => rfl⟩, trivial⟩ rfl
end Go.Proofs.Ytehecaipmdfjmaa.X.Mi

set_option linter.unusedVariables false
set_option linter.unusedSimpArgs false
namespace Go.Proofs.Ytehecaipmdfjmaa.X.Mi
open Go Go.RowKit Go.Proofs.YtehecaipmdfjmaaW.PrintWords Go.Proofs.Ytehecaipmdfjmaa.Base Go.Proofs.Ytehecaipmdfjmaa.X
abbrev madeC (own : Bool) (n cap k : Nat) (z : Nat → Int) (ρ : List Nat) (kk : Nat) : CallSpec := mSpec ρ kk [.c (.sl 0 0 0 1 n cap), iav k] [irow own n cap z] (fun _ => True) (fun _ => .tup [bptr 1 2, bptr 3 2]) fun c => [irow own n cap z, (madeF n n (c 0) z).box 2, (madeF n n (c 0) z).row, (newT k).box 4, (newT k).row]
abbrev made0C (k kk : Nat) : CallSpec := mSpec [] kk [.c (.v (.slice none 0 0)), iav k] [] (fun _ => True) (fun _ => .tup [bptr 0 2, bptr 2 2]) fun c => [newA.box 1, newA.row, (newT k).box 3, (newT k).row]
theorem newA_ok : newA.Ok := ⟨Nat.le_refl _, by decide, by decide, by decide⟩
theorem newA_full {n : Nat} (h : n ≤ 100) : fullF newA n = false := by
  unfold fullF
  rw [lenF_eq newA_ok]
  have : IntKind.wrap .i64 (newA.most - ((newA.n : Int) - 1)) = 4096 := rfl
  rw [this]
  simp
  omega
theorem madeF_ok {n i cap : Nat} {z : Nat → Int} (h : n ≤ 100) : (madeF n i cap z).Ok := ⟨by show 1 ≤ 1 + n; omega, by show (0 : Int) ≤ 4096; decide, by show (4096 : Int) ≤ 4096; decide, by show ((1 + n : Nat) : Int) ≤ 4096 + 1; omega⟩
set_option maxHeartbeats 2000000 in
theorem made_local (own : Bool) (n cap k : Nat) (z : Nat → Int) (ρ : List Nat) (kk : Nat) (hn : n ≤ 100) (hk : 1 ≤ k) (hk8 : k ≤ 8) : (madeC own n cap k z ρ kk).Local Try.prog 8 := by
  refine local_of Try.func8 rfl (tmade_eq own n cap k z) fun ν w => ?_
  refine ok_callf' newA_call (fits_of rfl rfl trivial fun c _ => ⟨⟨Nat.zero_le _, rfl⟩, ⟨rfl, rfl⟩, ⟨⟨EntRel.box' rfl rfl rfl rfl rfl, rfl, (fun _ => ⟨rfl, rfl⟩), .inr rfl⟩, ⟨EntRel.rw rfl rfl (fun _ _ => rfl) fun _ _ => rfl, rfl, (fun h => by cases h), .inr rfl⟩, trivial⟩⟩) (newA_local _) fun c1 _ => ok_callf' newT_call (fits_of rfl rfl trivial fun c _ => ⟨⟨Nat.zero_le _, rfl⟩, ⟨rfl, rfl⟩, ⟨⟨EntRel.box' rfl rfl rfl rfl rfl, rfl, (fun _ => ⟨rfl, rfl⟩), .inr rfl⟩, ⟨EntRel.rw rfl rfl (fun _ _ => rfl) fun _ _ => rfl, rfl, (fun h => by cases h), .inr rfl⟩, trivial⟩⟩) (newT_local k _ hk hk8) fun c2 _ => ?_
  repeat refine ok_chk' (by first | rfl | exact fun h => h | exact fun _ => rfl) ?_
  refine ok_br' (fun h => by cases h) fun _ => ok_br' (fun h1 => ?_) fun h1 => ?_
  · refine ok_br' (fun h => by simp at h h1; omega) fun h2 => ok_br' (fun h => by have h : fullF newA n = true := h; rw [newA_full hn] at h; cases h) fun h3 => ?_
    refine ok_callf' alloc_call (fits_of rfl rfl ⟨⟨_, rfl, EntRel.box' rfl rfl rfl rfl rfl⟩, ⟨_, rfl, EntRel.rw rfl rfl (fun _ _ => rfl) fun _ _ => rfl⟩, trivial⟩ fun c _ => ⟨⟨(by show 2 ≤ 3; decide), rfl⟩, ⟨rfl, rfl⟩, ⟨⟨EntRel.box' rfl rfl rfl rfl rfl, rfl, (fun _ => ⟨rfl, rfl⟩), .inr rfl⟩, ⟨EntRel.dead, rfl, (fun h => by cases h), .inr rfl⟩, ⟨EntRel.rw rfl rfl (fun _ _ => rfl) fun _ _ => rfl, rfl, (fun h => by cases h), .inr rfl⟩, trivial⟩⟩) ((alloc_local newA n _ _ newA_ok).2.2 h2 (newA_full hn)) fun c3 _ => ok_br' (fun h => by cases h) fun _ => ?_
    refine ok_both' ?_ (ok_every' fun s => ok_br' (fun h4 => ?_) fun h4 => ?_)
    · repeat (refine ok_chk' rfl ?_)
      refine ok_chk' (EntRel.rw rfl rfl (fun _ _ => rfl) fun _ _ => rfl) (ok_chk' (EntRel.box' rfl rfl rfl rfl rfl) (ok_chk' EntRel.dead (ok_chk' (EntRel.box' rfl rfl rfl rfl rfl) (ok_chk' (EntRel.rw rfl rfl (fun _ _ => rfl) fun _ _ => rfl) (ok_chk' (EntRel.rw rfl rfl (fun i _ => ?_) fun _ _ => rfl) trivial)))))
      show [iv (if i < 1 then 0 else 0)] = [iv (if i = 0 then 0 else if i ≤ 0 then z (i - 1) else 0)]
      by_cases h5 : i = 0
      · simp [h5]
      · have : ¬ i ≤ 0 := by omega
        simp [h5]
    · have h4 : s.1 < n := by simpa using h4
      have hw : IntKind.wrap .i64 ((s.1 : Int) + 1) = (s.1 : Int) + 1 := wrap64 (by omega) (by omega)
      have hh : hereF (madeF n s.1 (c3 0) z) (IntKind.wrap .i64 ((s.1 : Int) + 1)) = true := by
        unfold hereF
        rw [hw]
        have e1 : decide ((s.1 : Int) + 1 ≥ 1) = true := by simp; omega
        have e2 : decide ((s.1 : Int) + 1 < ((1 + n : Nat) : Int)) = true := by simp; omega
        rw [e1, cond_true]
        exact e2
      refine ok_chk' ⟨by omega, by omega, by omega, Nat.one_pos⟩ (ok_chk' ⟨Nat.one_pos, by omega⟩ (ok_some' (madeF n s.1 (c3 0) z) (ok_callf' store_call (fits_of rfl rfl ⟨⟨_, rfl, EntRel.box' rfl rfl rfl rfl rfl⟩, ⟨_, rfl, EntRel.rw rfl rfl (fun _ _ => rfl) fun _ _ => rfl⟩, trivial⟩ fun c _ => ⟨⟨Nat.le_refl _, rfl⟩, ⟨rfl, rfl⟩, ⟨⟨EntRel.box' rfl rfl rfl rfl rfl, rfl, (fun _ => ⟨rfl, rfl⟩), .inr rfl⟩, ⟨EntRel.rw rfl rfl (fun _ _ => rfl) fun _ _ => rfl, rfl, (fun h => by cases h), .inr rfl⟩, trivial⟩⟩) ((store_local _ _ _ _).1 hh) fun c4 _ => ok_br' (fun h => by cases h) fun _ => ?_)))
      refine ok_some' ⟨s.1 + 1, h4⟩ (ok_chk' (by show n - (s.1 + 1) < n - s.1; omega) (ok_chk' (by rw [hw]; rfl) ?_))
      repeat (refine ok_chk' rfl ?_)
      refine ok_chk' (EntRel.rw rfl rfl (fun _ _ => rfl) fun _ _ => rfl) (ok_chk' (EntRel.box' rfl rfl rfl rfl rfl) (ok_chk' EntRel.dead (ok_chk' (EntRel.box' rfl rfl rfl rfl rfl) (ok_chk' (EntRel.rw rfl rfl (fun _ _ => rfl) fun _ _ => rfl) (ok_chk' (EntRel.rw rfl rfl (fun i _ => ?_) fun _ _ => rfl) trivial)))))
      show [iv (if i = (IntKind.wrap .i64 ((s.1 : Int) + 1)).toNat then z (s.1 : Int).toNat else (if i = 0 then 0 else if i ≤ s.1 then z (i - 1) else 0))] = [iv (if i = 0 then 0 else if i ≤ s.1 + 1 then z (i - 1) else 0)]
      rw [hw, show ((s.1 : Int) + 1).toNat = s.1 + 1 by omega, Int.toNat_natCast]
      by_cases h5 : i = s.1 + 1
      · subst h5; simp
      · by_cases h6 : i ≤ s.1
        · have : i ≤ s.1 + 1 := by omega
          simp [h5, h6, this]
        · have : ¬ i ≤ s.1 + 1 := by omega
          simp [h5, h6, this]
    · have h5 : s.1 = n := by have := s.2; simp at h4; omega
      obtain ⟨i, hi⟩ := s
      have h5 : i = n := h5
      subst h5
      exact ok_leaf2 c3 [] [0, 1, 5, 3, 4] trivial rfl ⟨.inr ⟨_, rfl, EntRel.rw rfl rfl (fun _ _ => rfl) fun _ _ => rfl⟩, .inr ⟨_, rfl, EntRel.box' rfl rfl rfl rfl rfl⟩, .inr ⟨_, rfl, EntRel.rw rfl rfl (fun _ _ => rfl) fun _ _ => rfl⟩, .inr ⟨_, rfl, EntRel.box' rfl rfl rfl rfl rfl⟩, .inr ⟨_, rfl, EntRel.rw rfl rfl (fun _ _ => rfl) fun _ _ => rfl⟩, trivial⟩ rfl
  · have h2 : n = 0 := by simp at h1; omega
    subst h2
    refine ok_both' ?_ (ok_every' fun s => ok_br' (fun h4 => ?_) fun h4 => ?_)
    · repeat (refine ok_chk' rfl ?_)
      refine ok_chk' (EntRel.rw rfl rfl (fun _ _ => rfl) fun _ _ => rfl) (ok_chk' (EntRel.box' rfl rfl rfl rfl rfl) (ok_chk' (EntRel.rw rfl rfl (fun i hi => ?_) fun _ _ => rfl) (ok_chk' (EntRel.box' rfl rfl rfl rfl rfl) (ok_chk' (EntRel.rw rfl rfl (fun _ _ => rfl) fun _ _ => rfl) trivial))))
      have : i = 0 := by omega
      subst this
      rfl
    · exfalso; simp at h4; omega
    · obtain ⟨i, hi⟩ := s
      have h5 : i = 0 := by omega
      subst h5
      exact ok_leaf2 (fun _ => 1) [] [0, 1, 2, 3, 4] trivial rfl ⟨.inr ⟨_, rfl, EntRel.rw rfl rfl (fun _ _ => rfl) fun _ _ => rfl⟩, .inr ⟨_, rfl, EntRel.box' rfl rfl rfl rfl rfl⟩, .inr ⟨_, rfl, EntRel.rw rfl rfl (fun _ _ => rfl) fun _ _ => rfl⟩, .inr ⟨_, rfl, EntRel.box' rfl rfl rfl rfl rfl⟩, .inr ⟨_, rfl, EntRel.rw rfl rfl (fun _ _ => rfl) fun _ _ => rfl⟩, trivial⟩ rfl
theorem made0_local (k kk : Nat) (hk : 1 ≤ k) (hk8 : k ≤ 8) : (made0C k kk).Local Try.prog 8 := by
  refine local_of Try.func8 rfl (tmade0_eq k) fun ν w => ?_
  refine ok_callf' newA_call (fits_of rfl rfl trivial fun c _ => ⟨⟨Nat.zero_le _, rfl⟩, ⟨rfl, rfl⟩, ⟨⟨EntRel.box' rfl rfl rfl rfl rfl, rfl, (fun _ => ⟨rfl, rfl⟩), .inr rfl⟩, ⟨EntRel.rw rfl rfl (fun _ _ => rfl) fun _ _ => rfl, rfl, (fun h => by cases h), .inr rfl⟩, trivial⟩⟩) (newA_local _) fun c1 _ => ok_callf' newT_call (fits_of rfl rfl trivial fun c _ => ⟨⟨Nat.zero_le _, rfl⟩, ⟨rfl, rfl⟩, ⟨⟨EntRel.box' rfl rfl rfl rfl rfl, rfl, (fun _ => ⟨rfl, rfl⟩), .inr rfl⟩, ⟨EntRel.rw rfl rfl (fun _ _ => rfl) fun _ _ => rfl, rfl, (fun h => by cases h), .inr rfl⟩, trivial⟩⟩) (newT_local k _ hk hk8) fun c2 _ => ?_
  repeat refine ok_chk' (by first | rfl | exact fun h => h | exact fun _ => rfl) ?_
  refine ok_br' (fun h => by cases h) fun _ => ok_br' (fun h => by cases h) fun h1 => ?_
  refine ok_both' ?_ (ok_every' fun s => ok_br' (fun h => by cases h) fun h4 => ?_)
  · repeat (refine ok_chk' rfl ?_)
    refine ok_chk' (EntRel.box' rfl rfl rfl rfl rfl) (ok_chk' (EntRel.rw rfl rfl (fun i hi => ?_) fun _ _ => rfl) (ok_chk' (EntRel.box' rfl rfl rfl rfl rfl) (ok_chk' (EntRel.rw rfl rfl (fun _ _ => rfl) fun _ _ => rfl) trivial)))
    have : i = 0 := by have hi : i < 1 := hi; omega
    subst this
    rfl
  · obtain ⟨i, hi⟩ := s
    have h5 : i = 0 := by omega
    subst h5
    refine ok_leaf2 (fun _ => 1) [] [0, 1, 2, 3] trivial rfl ⟨.inr ⟨_, rfl, EntRel.box' rfl rfl rfl rfl rfl⟩, .inr ⟨_, rfl, EntRel.rw rfl rfl (fun i hi => ?_) fun _ _ => rfl⟩, .inr ⟨_, rfl, EntRel.box' rfl rfl rfl rfl rfl⟩, .inr ⟨_, rfl, EntRel.rw rfl rfl (fun _ _ => rfl) fun _ _ => rfl⟩, trivial⟩ rfl
    have : i = 0 := by have hi : i < 1 := hi; omega
    subst this
    rfl
end Go.Proofs.Ytehecaipmdfjmaa.X.Mi

set_option linter.unusedVariables false
set_option linter.unusedSimpArgs false
namespace Go.Proofs.Ytehecaipmdfjmaa.X.Mi
open Go Go.RowKit Go.Proofs.YtehecaipmdfjmaaW.PrintWords Go.Proofs.Ytehecaipmdfjmaa.Base Go.Proofs.Ytehecaipmdfjmaa.X
abbrev errX : XV := .tup [.c (.v (.slice none 0 0)), .c (.v (.slice none 0 0)), iav 0, iav 0, .c (errE 1)]
abbrev stepAC (d : Cd) (t : Tb) (i : Int) (ol : Bool) (n cap : Nat) (F : Nat → Fr) (ρ : List Nat) : CallSpec := mSpec ρ 0 [.c (.sl 0 0 0 5 d.n d.cap), .c (.v (.pointer none)), bptr 1 2, iav i, .c (.sl 3 0 0 17 n cap)] [d.row, t.box 2, t.row, frow ol n cap F] (fun _ => True) (fun _ => errX) fun _ => [d.row, t.box 2, t.row, frow ol n cap F]
abbrev StT : Type := Mc × Mc × Int × Int × Cd
abbrev upC (k : Nat) : CallSpec := mSpec [] k [] [] (fun _ => True) (fun _ => bool true) fun _ => []
def lawG : Ctr := fun f args H => match args with
  | [] => some (upC H.length)
  | [.c (.v (.slice _ _ _)), .c (.v (.int _ k))] => some (made0C k.toNat H.length)
  | [.c (.sl kc _ _ _ n cap), .c (.v (.int _ k))] => some (.ex ((Nat → Int) × Bool) fun z => madeC z.2 n cap k.toNat z.1 [kc] H.length)
  | [.c (.v (.int _ at_)), .c (.v (.slice _ _ _))] => some (start0C at_ H.length)
  | [.c (.v (.int _ at_)), .c (.sl kc _ _ _ n cap)] => some (.ex ((Nat → Int) × Bool) fun z => startC at_ z.2 n cap z.1 [kc] H.length)
  | [.c (.sl kd _ _ _ _ _), .c (.ptr ra), .c (.ptr rt), _, .c (.sl kf _ _ _ _ _)] => some (.ex StT fun s => stepC s.1 s.2.1 s.2.2.1 s.2.2.2.1 s.2.2.2.2 true [kd, ra.k, slAt H ra.k 0, rt.k, slAt H rt.k 0, kf] H.length)
  | [.c (.sl kd _ _ _ _ _), .c (.v (.pointer none)), .c (.ptr rt), .c (.v (.int _ i)), .c (.sl kf _ _ _ n cap)] => some (.ex (Cd × Tb × (Nat → Fr)) fun s => stepAC s.1 s.2.1 i true n cap s.2.2 [kd, rt.k, slAt H rt.k 0, kf])
  | [.c (.ptr r), .c (.v (.int _ x))] => some (.ex (Ar × Int) fun s => loadC s.1 x s.2 nilE [r.k, slAt H r.k 0])
  | _ => none
def tup (u : Unit) : Tree :=
  Tree.callf 8 [AV.c (CV.v (Value.slice none 0 0)), AV.c (CV.v (Value.int IntKind.i64 (1 : Int)))] [] (made0C 1 0) fun c => Tree.br false
   (Tree.done (XV.a (AV.c (CV.v (Value.bool false)))) [Ent.dead, Ent.dead, Ent.dead, Ent.dead])
   (Tree.callf 12 [AV.c (CV.v (Value.int IntKind.i64 (0 : Int))), AV.c (CV.v (Value.slice none 0 0))] [{ own := true, box := true, ty := 72, sz := 2, m := 1, n := fun a => 1, cap := fun a => 1, f := fun x x_1 => [CV.sl 1 0 0 1 1 1, CV.v (Value.int IntKind.i64 (4096 : Int))], ov := [] }, (Ent.rw true 2 1 1 1 fun ii => [CV.v (Value.int IntKind.i64 (0 : Int))]), { own := true, box := true, ty := 78, sz := 2, m := 1, n := fun a => 1, cap := fun a => 1, f := fun x x_1 => [CV.sl 3 0 0 4 1 1, CV.v (Value.int IntKind.i64 (0 : Int))], ov := [] }, (Ent.rw true 59 4 1 1 fun ii => [CV.v (Value.bool false), CV.v (Value.bool false), CV.v (Value.bool false), CV.v (Value.int IntKind.i64 (0 : Int))]), (Ent.rw true 40 5 2 2 fun ii => List.getD [[CV.v (Value.int IntKind.i64 (1 : Int)), CV.v (Value.int IntKind.i64 (0 : Int)), CV.v (Value.int IntKind.i64 (0 : Int)), CV.v (Value.int IntKind.i64 (0 : Int)), CV.v (Value.int IntKind.i64 (5 : Int))], [CV.v (Value.int IntKind.i64 (22 : Int)), CV.v (Value.int IntKind.i64 (0 : Int)), CV.v (Value.int IntKind.i64 (0 : Int)), CV.v (Value.int IntKind.i64 (0 : Int)), CV.v (Value.int IntKind.i64 (0 : Int))]] ii [])] (start0C (0 : Int) 5) fun c => Tree.some_ (Mc × Mc × Int × Int × Cd) fun s => Tree.callf 10 [AV.c (CV.sl 4 0 0 5 2 2), AV.c (CV.ptr ⟨0, 0, 0, 2, 0, 0, 0, 0⟩), AV.c (CV.ptr ⟨2, 0, 0, 2, 0, 0, 0, 0⟩), AV.c (CV.v (Value.int IntKind.i64 (0 : Int))), AV.c (CV.sl 5 0 0 17 1 1)] [{ own := true, box := true, ty := 72, sz := 2, m := 1, n := fun a => 1, cap := fun a => 1, f := fun x x_1 => [CV.sl 1 0 0 1 1 1, CV.v (Value.int IntKind.i64 (4096 : Int))], ov := [] }, (Ent.rw true 2 1 1 1 fun ii => [CV.v (Value.int IntKind.i64 (0 : Int))]), { own := true, box := true, ty := 78, sz := 2, m := 1, n := fun a => 1, cap := fun a => 1, f := fun x x_1 => [CV.sl 3 0 0 4 1 1, CV.v (Value.int IntKind.i64 (0 : Int))], ov := [] }, (Ent.rw true 59 4 1 1 fun ii => [CV.v (Value.bool false), CV.v (Value.bool false), CV.v (Value.bool false), CV.v (Value.int IntKind.i64 (0 : Int))]), (Ent.rw true 40 5 2 2 fun ii => List.getD [[CV.v (Value.int IntKind.i64 (1 : Int)), CV.v (Value.int IntKind.i64 (0 : Int)), CV.v (Value.int IntKind.i64 (0 : Int)), CV.v (Value.int IntKind.i64 (0 : Int)), CV.v (Value.int IntKind.i64 (5 : Int))], [CV.v (Value.int IntKind.i64 (22 : Int)), CV.v (Value.int IntKind.i64 (0 : Int)), CV.v (Value.int IntKind.i64 (0 : Int)), CV.v (Value.int IntKind.i64 (0 : Int)), CV.v (Value.int IntKind.i64 (0 : Int))]] ii []), (Ent.rw true 66 17 1 1 fun ii => [CV.v (Value.int IntKind.i64 (0 : Int)), CV.v (Value.int IntKind.i64 (0 : Int)), CV.v (Value.int IntKind.i64 (0 : Int)), CV.v (Value.int IntKind.i64 (0 : Int)), CV.v (Value.int IntKind.i64 (0 : Int)), CV.v (Value.int IntKind.i64 (0 : Int)), CV.v (Value.int IntKind.i64 (0 : Int)), CV.v (Value.int IntKind.i64 (0 : Int)), CV.v (Value.int IntKind.i64 (0 : Int)), CV.v (Value.int IntKind.i64 (0 : Int)), CV.v (Value.int IntKind.i64 (0 : Int)), CV.v (Value.int IntKind.i64 (0 : Int)), CV.v (Value.int IntKind.i64 (0 : Int)), CV.v (Value.int IntKind.i64 (0 : Int)), CV.v (Value.int IntKind.i64 (0 : Int)), CV.v (Value.int IntKind.i64 (0 : Int)), CV.v (Value.int IntKind.i64 (0 : Int))])] (stepC (Prod.fst s) (Prod.fst (Prod.snd s)) (Prod.fst (Prod.snd (Prod.snd s))) (Prod.fst (Prod.snd (Prod.snd (Prod.snd s)))) (Prod.snd (Prod.snd (Prod.snd (Prod.snd s)))) true [4, 0, 1, 2, 3, 5] 6) fun c => Tree.callf 12 [AV.c (CV.v (Value.int IntKind.i64 (0 : Int))), AV.c (CV.v (Value.slice none 0 0))] [{ own := true, box := true, ty := 72, sz := 2, m := 1, n := fun a => 1, cap := fun a => 1, f := fun x x_1 => [CV.sl 6 0 0 1 (Prod.fst (Prod.snd s)).1.1 (c 0), CV.v (Value.int IntKind.i64 (Prod.fst (Prod.snd s)).1.4)], ov := [] }, Ent.dead, { own := true, box := true, ty := 78, sz := 2, m := 1, n := fun a => 1, cap := fun a => 1, f := fun x x_1 => [CV.sl 3 0 0 4 (Prod.fst (Prod.snd s)).2.1 (Prod.fst (Prod.snd s)).2.2, CV.v (Value.int IntKind.i64 (Prod.fst (Prod.snd s)).2.4)], ov := [] }, (Ent.rw true 59 4 (Prod.fst (Prod.snd s)).2.1 (Prod.fst (Prod.snd s)).2.2 fun ii => [CV.v (Value.bool ((Prod.fst (Prod.snd s)).2.3 ii).1), CV.v (Value.bool ((Prod.fst (Prod.snd s)).2.3 ii).2), CV.v (Value.bool ((Prod.fst (Prod.snd s)).2.3 ii).3), CV.v (Value.int IntKind.i64 ((Prod.fst (Prod.snd s)).2.3 ii).4)]), (Ent.rw (Prod.snd (Prod.snd (Prod.snd (Prod.snd s)))).1 40 5 (Prod.snd (Prod.snd (Prod.snd (Prod.snd s)))).2 (Prod.snd (Prod.snd (Prod.snd (Prod.snd s)))).3 fun ii => [CV.v (Value.int IntKind.i64 ((Prod.snd (Prod.snd (Prod.snd (Prod.snd s)))).4 ii).1), CV.v (Value.int IntKind.i64 ((Prod.snd (Prod.snd (Prod.snd (Prod.snd s)))).4 ii).2), CV.v (Value.int IntKind.i64 ((Prod.snd (Prod.snd (Prod.snd (Prod.snd s)))).4 ii).3), CV.v (Value.int IntKind.i64 ((Prod.snd (Prod.snd (Prod.snd (Prod.snd s)))).4 ii).4), CV.v (Value.int IntKind.i64 ((Prod.snd (Prod.snd (Prod.snd (Prod.snd s)))).4 ii).5)]), (Ent.rw true 66 17 (Mc.nF (Prod.fst s)) (Mc.cF (Prod.fst s)) fun ii => [CV.v (Value.int IntKind.i64 (Mc.F (Prod.fst s) ii).1), CV.v (Value.int IntKind.i64 ((Mc.F (Prod.fst s) ii).2 0)), CV.v (Value.int IntKind.i64 ((Mc.F (Prod.fst s) ii).2 1)), CV.v (Value.int IntKind.i64 ((Mc.F (Prod.fst s) ii).2 2)), CV.v (Value.int IntKind.i64 ((Mc.F (Prod.fst s) ii).2 3)), CV.v (Value.int IntKind.i64 ((Mc.F (Prod.fst s) ii).2 4)), CV.v (Value.int IntKind.i64 ((Mc.F (Prod.fst s) ii).2 5)), CV.v (Value.int IntKind.i64 ((Mc.F (Prod.fst s) ii).2 6)), CV.v (Value.int IntKind.i64 ((Mc.F (Prod.fst s) ii).2 7)), CV.v (Value.int IntKind.i64 ((Mc.F (Prod.fst s) ii).2 8)), CV.v (Value.int IntKind.i64 ((Mc.F (Prod.fst s) ii).2 9)), CV.v (Value.int IntKind.i64 ((Mc.F (Prod.fst s) ii).2 10)), CV.v (Value.int IntKind.i64 ((Mc.F (Prod.fst s) ii).2 11)), CV.v (Value.int IntKind.i64 ((Mc.F (Prod.fst s) ii).2 12)), CV.v (Value.int IntKind.i64 ((Mc.F (Prod.fst s) ii).2 13)), CV.v (Value.int IntKind.i64 ((Mc.F (Prod.fst s) ii).2 14)), CV.v (Value.int IntKind.i64 ((Mc.F (Prod.fst s) ii).2 15))]), (Ent.rw true 2 1 (Prod.fst (Prod.snd s)).1.1 (c 0) fun ii => [CV.v (Value.int IntKind.i64 ((Prod.fst (Prod.snd s)).1.3 ii))]), (Ent.rw true 66 17 (Mc.nF (Prod.fst (Prod.snd s))) (c 1) fun ii => [CV.v (Value.int IntKind.i64 (Mc.F (Prod.fst (Prod.snd s)) ii).1), CV.v (Value.int IntKind.i64 ((Mc.F (Prod.fst (Prod.snd s)) ii).2 0)), CV.v (Value.int IntKind.i64 ((Mc.F (Prod.fst (Prod.snd s)) ii).2 1)), CV.v (Value.int IntKind.i64 ((Mc.F (Prod.fst (Prod.snd s)) ii).2 2)), CV.v (Value.int IntKind.i64 ((Mc.F (Prod.fst (Prod.snd s)) ii).2 3)), CV.v (Value.int IntKind.i64 ((Mc.F (Prod.fst (Prod.snd s)) ii).2 4)), CV.v (Value.int IntKind.i64 ((Mc.F (Prod.fst (Prod.snd s)) ii).2 5)), CV.v (Value.int IntKind.i64 ((Mc.F (Prod.fst (Prod.snd s)) ii).2 6)), CV.v (Value.int IntKind.i64 ((Mc.F (Prod.fst (Prod.snd s)) ii).2 7)), CV.v (Value.int IntKind.i64 ((Mc.F (Prod.fst (Prod.snd s)) ii).2 8)), CV.v (Value.int IntKind.i64 ((Mc.F (Prod.fst (Prod.snd s)) ii).2 9)), CV.v (Value.int IntKind.i64 ((Mc.F (Prod.fst (Prod.snd s)) ii).2 10)), CV.v (Value.int IntKind.i64 ((Mc.F (Prod.fst (Prod.snd s)) ii).2 11)), CV.v (Value.int IntKind.i64 ((Mc.F (Prod.fst (Prod.snd s)) ii).2 12)), CV.v (Value.int IntKind.i64 ((Mc.F (Prod.fst (Prod.snd s)) ii).2 13)), CV.v (Value.int IntKind.i64 ((Mc.F (Prod.fst (Prod.snd s)) ii).2 14)), CV.v (Value.int IntKind.i64 ((Mc.F (Prod.fst (Prod.snd s)) ii).2 15))]), (Ent.rw true 80 2 (Prod.fst (Prod.snd s)).8 (c 2) fun ii => [CV.v (Value.int IntKind.i64 (Prod.fst ((Prod.fst (Prod.snd s)).10 ii))), CV.v (Value.int IntKind.i64 (Prod.snd ((Prod.fst (Prod.snd s)).10 ii)))])] (start0C (0 : Int) 9) fun c_1 => Tree.some_ (Cd × Tb × (Nat → Fr)) fun s_1 => Tree.callf 10 [AV.c (CV.sl 4 0 0 5 2 2), AV.c (CV.v (Value.pointer none)), AV.c (CV.ptr ⟨2, 0, 0, 2, 0, 0, 0, 0⟩), AV.c (CV.v (Value.int IntKind.i64 (0 : Int))), AV.c (CV.sl 9 0 0 17 1 1)] [{ own := true, box := true, ty := 72, sz := 2, m := 1, n := fun a => 1, cap := fun a => 1, f := fun x x_1 => [CV.sl 6 0 0 1 (Prod.fst (Prod.snd s)).1.1 (c 0), CV.v (Value.int IntKind.i64 (Prod.fst (Prod.snd s)).1.4)], ov := [] }, Ent.dead, { own := true, box := true, ty := 78, sz := 2, m := 1, n := fun a => 1, cap := fun a => 1, f := fun x x_1 => [CV.sl 3 0 0 4 (Prod.fst (Prod.snd s)).2.1 (Prod.fst (Prod.snd s)).2.2, CV.v (Value.int IntKind.i64 (Prod.fst (Prod.snd s)).2.4)], ov := [] }, (Ent.rw true 59 4 (Prod.fst (Prod.snd s)).2.1 (Prod.fst (Prod.snd s)).2.2 fun ii => [CV.v (Value.bool ((Prod.fst (Prod.snd s)).2.3 ii).1), CV.v (Value.bool ((Prod.fst (Prod.snd s)).2.3 ii).2), CV.v (Value.bool ((Prod.fst (Prod.snd s)).2.3 ii).3), CV.v (Value.int IntKind.i64 ((Prod.fst (Prod.snd s)).2.3 ii).4)]), (Ent.rw (Prod.snd (Prod.snd (Prod.snd (Prod.snd s)))).1 40 5 (Prod.snd (Prod.snd (Prod.snd (Prod.snd s)))).2 (Prod.snd (Prod.snd (Prod.snd (Prod.snd s)))).3 fun ii => [CV.v (Value.int IntKind.i64 ((Prod.snd (Prod.snd (Prod.snd (Prod.snd s)))).4 ii).1), CV.v (Value.int IntKind.i64 ((Prod.snd (Prod.snd (Prod.snd (Prod.snd s)))).4 ii).2), CV.v (Value.int IntKind.i64 ((Prod.snd (Prod.snd (Prod.snd (Prod.snd s)))).4 ii).3), CV.v (Value.int IntKind.i64 ((Prod.snd (Prod.snd (Prod.snd (Prod.snd s)))).4 ii).4), CV.v (Value.int IntKind.i64 ((Prod.snd (Prod.snd (Prod.snd (Prod.snd s)))).4 ii).5)]), (Ent.rw true 66 17 (Mc.nF (Prod.fst s)) (Mc.cF (Prod.fst s)) fun ii => [CV.v (Value.int IntKind.i64 (Mc.F (Prod.fst s) ii).1), CV.v (Value.int IntKind.i64 ((Mc.F (Prod.fst s) ii).2 0)), CV.v (Value.int IntKind.i64 ((Mc.F (Prod.fst s) ii).2 1)), CV.v (Value.int IntKind.i64 ((Mc.F (Prod.fst s) ii).2 2)), CV.v (Value.int IntKind.i64 ((Mc.F (Prod.fst s) ii).2 3)), CV.v (Value.int IntKind.i64 ((Mc.F (Prod.fst s) ii).2 4)), CV.v (Value.int IntKind.i64 ((Mc.F (Prod.fst s) ii).2 5)), CV.v (Value.int IntKind.i64 ((Mc.F (Prod.fst s) ii).2 6)), CV.v (Value.int IntKind.i64 ((Mc.F (Prod.fst s) ii).2 7)), CV.v (Value.int IntKind.i64 ((Mc.F (Prod.fst s) ii).2 8)), CV.v (Value.int IntKind.i64 ((Mc.F (Prod.fst s) ii).2 9)), CV.v (Value.int IntKind.i64 ((Mc.F (Prod.fst s) ii).2 10)), CV.v (Value.int IntKind.i64 ((Mc.F (Prod.fst s) ii).2 11)), CV.v (Value.int IntKind.i64 ((Mc.F (Prod.fst s) ii).2 12)), CV.v (Value.int IntKind.i64 ((Mc.F (Prod.fst s) ii).2 13)), CV.v (Value.int IntKind.i64 ((Mc.F (Prod.fst s) ii).2 14)), CV.v (Value.int IntKind.i64 ((Mc.F (Prod.fst s) ii).2 15))]), (Ent.rw true 2 1 (Prod.fst (Prod.snd s)).1.1 (c 0) fun ii => [CV.v (Value.int IntKind.i64 ((Prod.fst (Prod.snd s)).1.3 ii))]), (Ent.rw true 66 17 (Mc.nF (Prod.fst (Prod.snd s))) (c 1) fun ii => [CV.v (Value.int IntKind.i64 (Mc.F (Prod.fst (Prod.snd s)) ii).1), CV.v (Value.int IntKind.i64 ((Mc.F (Prod.fst (Prod.snd s)) ii).2 0)), CV.v (Value.int IntKind.i64 ((Mc.F (Prod.fst (Prod.snd s)) ii).2 1)), CV.v (Value.int IntKind.i64 ((Mc.F (Prod.fst (Prod.snd s)) ii).2 2)), CV.v (Value.int IntKind.i64 ((Mc.F (Prod.fst (Prod.snd s)) ii).2 3)), CV.v (Value.int IntKind.i64 ((Mc.F (Prod.fst (Prod.snd s)) ii).2 4)), CV.v (Value.int IntKind.i64 ((Mc.F (Prod.fst (Prod.snd s)) ii).2 5)), CV.v (Value.int IntKind.i64 ((Mc.F (Prod.fst (Prod.snd s)) ii).2 6)), CV.v (Value.int IntKind.i64 ((Mc.F (Prod.fst (Prod.snd s)) ii).2 7)), CV.v (Value.int IntKind.i64 ((Mc.F (Prod.fst (Prod.snd s)) ii).2 8)), CV.v (Value.int IntKind.i64 ((Mc.F (Prod.fst (Prod.snd s)) ii).2 9)), CV.v (Value.int IntKind.i64 ((Mc.F (Prod.fst (Prod.snd s)) ii).2 10)), CV.v (Value.int IntKind.i64 ((Mc.F (Prod.fst (Prod.snd s)) ii).2 11)), CV.v (Value.int IntKind.i64 ((Mc.F (Prod.fst (Prod.snd s)) ii).2 12)), CV.v (Value.int IntKind.i64 ((Mc.F (Prod.fst (Prod.snd s)) ii).2 13)), CV.v (Value.int IntKind.i64 ((Mc.F (Prod.fst (Prod.snd s)) ii).2 14)), CV.v (Value.int IntKind.i64 ((Mc.F (Prod.fst (Prod.snd s)) ii).2 15))]), (Ent.rw true 80 2 (Prod.fst (Prod.snd s)).8 (c 2) fun ii => [CV.v (Value.int IntKind.i64 (Prod.fst ((Prod.fst (Prod.snd s)).10 ii))), CV.v (Value.int IntKind.i64 (Prod.snd ((Prod.fst (Prod.snd s)).10 ii)))]), (Ent.rw true 66 17 1 1 fun ii => [CV.v (Value.int IntKind.i64 (0 : Int)), CV.v (Value.int IntKind.i64 (0 : Int)), CV.v (Value.int IntKind.i64 (0 : Int)), CV.v (Value.int IntKind.i64 (0 : Int)), CV.v (Value.int IntKind.i64 (0 : Int)), CV.v (Value.int IntKind.i64 (0 : Int)), CV.v (Value.int IntKind.i64 (0 : Int)), CV.v (Value.int IntKind.i64 (0 : Int)), CV.v (Value.int IntKind.i64 (0 : Int)), CV.v (Value.int IntKind.i64 (0 : Int)), CV.v (Value.int IntKind.i64 (0 : Int)), CV.v (Value.int IntKind.i64 (0 : Int)), CV.v (Value.int IntKind.i64 (0 : Int)), CV.v (Value.int IntKind.i64 (0 : Int)), CV.v (Value.int IntKind.i64 (0 : Int)), CV.v (Value.int IntKind.i64 (0 : Int)), CV.v (Value.int IntKind.i64 (0 : Int))])] (stepAC (Prod.fst s_1) (Prod.fst (Prod.snd s_1)) (0 : Int) true 1 1 (fun a => Prod.snd (Prod.snd s_1) a) [4, 2, 3, 9]) fun c => Tree.chk (true = true → true = true)
   (Tree.chk (true = true → true = true)
   (Tree.chk ((bif true then Prod.fst (Prod.snd (Prod.snd s)) == (2 : Int) else false) = true → (bif true then Prod.fst (Prod.snd (Prod.snd s)) == (2 : Int) else false) = true)
   (Tree.chk ((bif true then Prod.fst (Prod.snd (Prod.snd s)) == (2 : Int) else false) = true → (bif true then Prod.fst (Prod.snd (Prod.snd s)) == (2 : Int) else false) = true)
   (Tree.chk ((bif bif true then Prod.fst (Prod.snd (Prod.snd s)) == (2 : Int) else false then Prod.fst (Prod.snd (Prod.snd (Prod.snd s))) == (5 : Int) else false) = true → (bif bif true then Prod.fst (Prod.snd (Prod.snd s)) == (2 : Int) else false then Prod.fst (Prod.snd (Prod.snd (Prod.snd s))) == (5 : Int) else false) = true)
   (Tree.chk ((bif bif true then Prod.fst (Prod.snd (Prod.snd s)) == (2 : Int) else false then Prod.fst (Prod.snd (Prod.snd (Prod.snd s))) == (5 : Int) else false) = true → (bif bif true then Prod.fst (Prod.snd (Prod.snd s)) == (2 : Int) else false then Prod.fst (Prod.snd (Prod.snd (Prod.snd s))) == (5 : Int) else false) = true)
   (Tree.chk ((bif bif true then Prod.fst (Prod.snd (Prod.snd s)) == (2 : Int) else false then Prod.fst (Prod.snd (Prod.snd (Prod.snd s))) == (5 : Int) else false) = true → (bif bif true then Prod.fst (Prod.snd (Prod.snd s)) == (2 : Int) else false then Prod.fst (Prod.snd (Prod.snd (Prod.snd s))) == (5 : Int) else false) = true)
   (Tree.done (XV.a (AV.c (CV.v (Value.bool (bif bif bif true then Prod.fst (Prod.snd (Prod.snd s)) == (2 : Int) else false then Prod.fst (Prod.snd (Prod.snd (Prod.snd s))) == (5 : Int) else false then (1 : Int) == (1 : Int) else false))))) [Ent.dead, Ent.dead, Ent.dead, Ent.dead, Ent.dead, Ent.dead, Ent.dead, Ent.dead, Ent.dead, Ent.dead]))))))))
theorem tup_eq (u : Unit) : xfunc tab lawG noInv Go.Proofs.Try.f7 [] [] [] = tup u := by kernel_rfl
end Go.Proofs.Ytehecaipmdfjmaa.X.Mi

set_option linter.unusedVariables false
set_option linter.unusedSimpArgs false
namespace Go.Proofs.Ytehecaipmdfjmaa.X.Mi
open Go Go.RowKit Go.Proofs.YtehecaipmdfjmaaW.PrintWords Go.Proofs.Ytehecaipmdfjmaa.Base Go.Proofs.Ytehecaipmdfjmaa.X
theorem step_call : Callable Try.prog 10 := ⟨_, Try.func10, by kernel_rfl, rfl⟩
theorem start_call : Callable Try.prog 12 := ⟨_, Try.func12, by kernel_rfl, rfl⟩
theorem made_call : Callable Try.prog 8 := ⟨_, Try.func8, by kernel_rfl, rfl⟩
theorem up_call : Callable Try.prog 7 := ⟨_, Try.func7, by kernel_rfl, rfl⟩
theorem results_tmp5 {fn : Func} {t u v x y : Tmp} (h : fn.results = #[.tmp t, .tmp u, .tmp v, .tmp x, .tmp y]) (tmps : Array Value) (P : Program) (w : World) :
    (results fn tmps).run P w = .ok (.tuple #[tmps.getD t undef, tmps.getD u undef, tmps.getD v undef, tmps.getD x undef, tmps.getD y undef]) w := by
  simp [results, h]
def errV : Value := .tuple #[.slice none 0 0, .slice none 0 0, .int .i64 0, .int .i64 0, .iface 36 (.int .i64 1)]
set_option maxRecDepth 4000 in
theorem stepA_calls (w : World) (a c e : Value) (i : Int) : Calls Try.prog 10 #[a, .pointer none, c, .int .i64 i, e] w fun r w' => r = .returned errV ∧ w' = w := by
  go_enter Try.func10, Try.ntmps10
  go_wp2
  go_step3
  go_wp2
  simp only [Exit.noGoto]
  show bodyPost Try.prog Go.Proofs.Try.f10 (fun r w' => r = .returned errV ∧ w' = w) _ _ _
  refine bodyPost_ret (results_tmp5 rfl _ _ _) rfl ?_
  exact ⟨by simp [errV], rfl⟩
theorem stepA_local (d : Cd) (t : Tb) (i : Int) (ol : Bool) (n cap : Nat) (F : Nat → Fr) (ρ : List Nat) : (stepAC d t i ol n cap F ρ).Local Try.prog 10 := fun ν w hh =>
  (stepA_calls w _ _ _ i).mono fun r w' ⟨h1, h2⟩ => ⟨ν, fun _ => 0, trivial, h1, by rw [h2]; exact hh⟩
def dU : Cd := ⟨true, 2, 2, fun i => match i with | 0 => ⟨1, 0, 0, 0, 5⟩ | _ => ⟨22, 0, 0, 0, 0⟩⟩
def mU : Mc := ⟨newA, newT 1, 0, 0, 1, 1, fun _ => ⟨0, fun _ => 0⟩, 0, 0, fun _ => (0, 0)⟩
theorem runU : (runF dU mU).2 = (2, 5) := by kernel_rfl
theorem canU : canF mU = true := by kernel_rfl
theorem run_eq {d : Cd} {m : Mc} {how v : Int} (h : (runF d m).2 = (how, v)) : runF d m = ((runF d m).1, how, v) := by rw [← h]
theorem up_local (k : Nat) : (upC k).Local Try.prog 7 := by
  refine local_of Try.func7 rfl (tup_eq ()) fun ν w => ?_
  refine ok_callf' made_call (fits_of rfl rfl trivial fun c _ => ⟨⟨Nat.zero_le _, rfl⟩, ⟨rfl, rfl⟩, ⟨⟨EntRel.box' rfl rfl rfl rfl rfl, rfl, (fun _ => ⟨rfl, rfl⟩), .inr rfl⟩, ⟨EntRel.rw rfl rfl (fun _ _ => rfl) fun _ _ => rfl, rfl, (fun h => by cases h), .inr rfl⟩, ⟨EntRel.box' rfl rfl rfl rfl rfl, rfl, (fun _ => ⟨rfl, rfl⟩), .inr rfl⟩, ⟨EntRel.rw rfl rfl (fun _ _ => rfl) fun _ _ => rfl, rfl, (fun h => by cases h), .inr rfl⟩, trivial⟩⟩) (made0_local 1 _ (by decide) (by decide)) fun c1 _ => ok_br' (fun h => by cases h) fun _ => ?_
  refine ok_callf' start_call (fits_of rfl rfl trivial fun c _ => ⟨⟨Nat.zero_le _, rfl⟩, ⟨rfl, rfl⟩, ⟨⟨EntRel.rw rfl rfl (fun _ _ => rfl) fun _ _ => rfl, rfl, (fun h => by cases h), .inr rfl⟩, trivial⟩⟩) (start0_local 0 _) fun c2 _ => ok_some' (mU, (runF dU mU).1, 2, 5, dU) ?_
  refine ok_callf' step_call (fits_of rfl rfl ⟨⟨_, rfl, EntRel.rw rfl rfl (fun i hi => by match i, hi with | 0, _ => rfl | 1, _ => rfl) fun _ _ => rfl⟩, ⟨_, rfl, EntRel.box' rfl rfl rfl rfl rfl⟩, ⟨_, rfl, EntRel.rw rfl rfl (fun _ _ => rfl) fun _ _ => rfl⟩, ⟨_, rfl, EntRel.box' rfl rfl rfl rfl rfl⟩, ⟨_, rfl, EntRel.rw rfl rfl (fun _ _ => rfl) fun _ _ => rfl⟩, ⟨_, rfl, EntRel.rw rfl rfl (fun _ _ => rfl) fun _ _ => rfl⟩, trivial⟩ fun c _ => ⟨⟨(by show 6 ≤ 9; decide), rfl⟩, ⟨rfl, rfl⟩, ⟨⟨EntRel.rw rfl rfl (fun _ _ => rfl) fun _ _ => rfl, rfl, (fun h => by cases h), .inr rfl⟩, ⟨EntRel.box' rfl rfl rfl rfl rfl, rfl, (fun _ => ⟨rfl, rfl⟩), .inr rfl⟩, ⟨EntRel.dead, rfl, (fun h => by cases h), .inr rfl⟩, ⟨EntRel.box' rfl rfl rfl rfl rfl, rfl, (fun _ => ⟨rfl, rfl⟩), .inr rfl⟩, ⟨EntRel.rw rfl rfl (fun _ _ => rfl) fun _ _ => rfl, rfl, (fun h => by cases h), .inr rfl⟩, ⟨EntRel.rw rfl rfl (fun _ _ => rfl) fun _ _ => rfl, rfl, (fun h => by cases h), .inr rfl⟩, ⟨EntRel.rw rfl rfl (fun _ _ => rfl) fun _ _ => rfl, rfl, (fun h => by cases h), .inr rfl⟩, ⟨EntRel.rw rfl rfl (fun _ _ => rfl) fun _ _ => rfl, rfl, (fun h => by cases h), .inr rfl⟩, ⟨EntRel.rw rfl rfl (fun _ _ => rfl) fun _ _ => rfl, rfl, (fun h => by cases h), .inr rfl⟩, trivial⟩⟩) (step_local may_local mU _ 2 5 dU true _ _ newA_ok canU (run_eq runU)) fun c3 hc3 => ?_
  refine ok_callf' start_call (fits_of rfl rfl trivial fun c _ => ⟨⟨Nat.zero_le _, rfl⟩, ⟨rfl, rfl⟩, ⟨⟨EntRel.rw rfl rfl (fun _ _ => rfl) fun _ _ => rfl, rfl, (fun h => by cases h), .inr rfl⟩, trivial⟩⟩) (start0_local 0 _) fun c4 _ => ok_some' (dU, (runF dU mU).1.tb, fun _ => ⟨0, fun _ => 0⟩) ?_
  refine ok_callf' step_call (fits_of rfl rfl ⟨⟨_, rfl, EntRel.rw rfl rfl (fun _ _ => rfl) fun _ _ => rfl⟩, ⟨_, rfl, EntRel.box' rfl rfl rfl rfl rfl⟩, ⟨_, rfl, EntRel.rw rfl rfl (fun _ _ => rfl) fun _ _ => rfl⟩, ⟨_, rfl, EntRel.rw rfl rfl (fun _ _ => rfl) fun _ _ => rfl⟩, trivial⟩ fun c _ => ⟨⟨Nat.le_refl _, rfl⟩, ⟨rfl, rfl⟩, ⟨⟨EntRel.rw rfl rfl (fun _ _ => rfl) fun _ _ => rfl, rfl, (fun h => by cases h), .inr rfl⟩, ⟨EntRel.box' rfl rfl rfl rfl rfl, rfl, (fun _ => ⟨rfl, rfl⟩), .inr rfl⟩, ⟨EntRel.rw rfl rfl (fun _ _ => rfl) fun _ _ => rfl, rfl, (fun h => by cases h), .inr rfl⟩, ⟨EntRel.rw rfl rfl (fun _ _ => rfl) fun _ _ => rfl, rfl, (fun h => by cases h), .inr rfl⟩, trivial⟩⟩) (stepA_local _ _ _ _ _ _ _ _) fun c5 _ => ?_
  repeat refine ok_chk' (fun h => h) ?_
  exact ok_leaf (fun _ => 0) [] [] trivial rfl trivial rfl
def dL : Cd := ⟨true, 4, 4, fun i => match i with | 0 => ⟨6, 0, 2, 0, 1⟩ | 1 => ⟨5, 3, 2, 0, 1⟩ | 2 => ⟨6, 1, 2, 0, 1⟩ | _ => ⟨22, 3, 0, 0, 0⟩⟩
def nextM (m : Mc) (c : Nat → Nat) : Mc := { m with ar := { m.ar with cap := c 0 }, cF := c 1, i := 0, v := 0, nN := 0, cN := 0, N := fun _ => (0, 0) }
end Go.Proofs.Ytehecaipmdfjmaa.X.Mi

set_option linter.unusedVariables false
set_option linter.unusedSimpArgs false
namespace Go.Proofs.Ytehecaipmdfjmaa.X.Mi
open Go Go.RowKit Go.Proofs.YtehecaipmdfjmaaW.PrintWords Go.Proofs.Ytehecaipmdfjmaa.Base Go.Proofs.Ytehecaipmdfjmaa.X
structure Kept (m m' : Mc) : Prop where
  n1 : 1 ≤ m'.nF
  n2 : m'.nF ≤ 16
  ar : m'.ar.Ok
  i : m'.i = m.i
  tn : m'.tb.n = m.tb.n
  now : m'.tb.now = m.tb.now
  most : m'.ar.most = m.ar.most
  an : m.ar.n ≤ m'.ar.n
theorem stepF_kept (d : Cd) : ∀ (g n : Nat) (m : Mc), 1 ≤ m.nF → m.nF ≤ 16 → m.ar.Ok → Kept m (stepF d g n m).1
  | 0, n, m, h1, h2, ha => ⟨h1, h2, ha, rfl, rfl, rfl, rfl, Nat.le_refl _⟩
  | g + 1, n, m, h1, h2, ha => by
    have K := oneF_keeps m (codeF m d) h1 h2 ha
    have Z : Kept m m := ⟨h1, h2, ha, rfl, rfl, rfl, rfl, Nat.le_refl _⟩
    unfold stepF
    cases stopF m d n with
    | true => exact Z
    | false =>
      cases (bif decide ((n : Int) > 0) then accessF (codeF m d) else false) with
      | true => exact Z
      | false =>
        simp only [cond_false]
        cases ((oneF m (codeF m d)).2 == 0) with
        | true =>
          simp only [cond_true]
          have R := stepF_kept d g (n + 1) (oneF m (codeF m d)).1 K.n1 K.n2 K.ar
          exact ⟨R.n1, R.n2, R.ar, R.i.trans K.i, R.tn.trans K.tn, R.now.trans K.now, R.most.trans K.most, Nat.le_trans K.an R.an⟩
        | false => exact ⟨K.n1, K.n2, K.ar, K.i, K.tn, K.now, K.most, K.an⟩
theorem runF_kept (d : Cd) (m : Mc) (h1 : 1 ≤ m.nF) (h2 : m.nF ≤ 16) (ha : m.ar.Ok) : Kept m (runF d m).1 := by
  have R := stepF_kept d (201 - 0) 0 (startM m 0) h1 h2 ha
  exact ⟨R.n1, R.n2, ⟨R.ar.n1, R.ar.m0, R.ar.m1, R.ar.nm⟩, R.i, R.tn, R.now, R.most, R.an⟩
theorem load_at {a : Ar} {x v : Int} {ρ : List Nat} (h : hereF a x = true) (hv : a.C x.toNat = v) : (loadC a x v nilE ρ).Local Try.prog 13 := by
  rw [← hv]; exact (load_local a x ρ).1 h
structure RunL (m R : Mc) (how u v : Int) : Prop where
  run : runF dL m = (R, how, u)
  at2 : R.ar.C 2 = v
  here : hereF R.ar 2 = true
  can : canF m = true
  ok : R.ar.Ok
theorem RunL.of {m : Mc} {how u v : Int} (h1 : (runF dL m).2 = (how, u)) (h2 : (runF dL m).1.ar.C 2 = v) (h3 : hereF (runF dL m).1.ar 2 = true) (h4 : canF m = true) (k : Kept m (runF dL m).1) : RunL m (runF dL m).1 how u v := ⟨run_eq h1, h2, h3, h4, k.ar⟩
abbrev wfI (x : Int) : Prop := (Lit.int .i64 x).wf = true
end Go.Proofs.Ytehecaipmdfjmaa.X.Mi

set_option linter.unusedVariables false
set_option linter.unusedSimpArgs false
namespace Go.Proofs.Ytehecaipmdfjmaa.X.Mi
open Go Go.RowKit Go.Proofs.YtehecaipmdfjmaaW.PrintWords Go.Proofs.Ytehecaipmdfjmaa.Base Go.Proofs.Ytehecaipmdfjmaa.X
def tpick30 (c : Int) : Tree :=
  Tree.br (decide (c < (0 : Int)))
   (Tree.done (XV.a (AV.c (CV.v (Value.int IntKind.i64 (Int.tmod (IntKind.wrap IntKind.i64 ((0 : Int) - IntKind.wrap IntKind.i64 (c + (1 : Int)))) (30 : Int)))))) [])
   (Tree.done (XV.a (AV.c (CV.v (Value.int IntKind.i64 (Int.tmod c (30 : Int)))))) [])
theorem tpick30_eq (c : Int) : xfunc tab noCtr noInv Go.Proofs.Try.f9 [iav c, iav 30] [] [] = tpick30 c := by kernel_rfl
def pickF (c n : Int) : Int := Int.tmod (bif decide (c < 0) then wr (-(wr (c + 1))) else c) n
abbrev pickC (c n z : Int) : CallSpec := mSpec [] 0 [iav c, iav n] [] (fun _ => True) (fun _ => ia z) fun _ => []
end Go.Proofs.Ytehecaipmdfjmaa.X.Mi

set_option linter.unusedVariables false
set_option linter.unusedSimpArgs false
namespace Go.Proofs.Ytehecaipmdfjmaa.X.Mi
open Go Go.RowKit Go.Proofs.YtehecaipmdfjmaaW.PrintWords Go.Proofs.Ytehecaipmdfjmaa.Base Go.Proofs.Ytehecaipmdfjmaa.X
end Go.Proofs.Ytehecaipmdfjmaa.X.Mi

set_option linter.unusedVariables false
set_option linter.unusedSimpArgs false
namespace Go.Proofs.Ytehecaipmdfjmaa.X.Mi
open Go Go.RowKit Go.Proofs.YtehecaipmdfjmaaW.PrintWords Go.Proofs.Ytehecaipmdfjmaa.Base Go.Proofs.Ytehecaipmdfjmaa.X
theorem pick_call : Callable Try.prog 9 := ⟨_, Try.func9, by kernel_rfl, rfl⟩
theorem pick30_local (c : Int) : (pickC c 30 (pickF c 30)).Local Try.prog 9 := by
  refine local_of Try.func9 rfl (tpick30_eq c) fun ν w => ok_br' (fun h => ?_) fun h => ?_
  · refine ok_leaf (fun _ => 0) [] [] trivial ?_ trivial rfl
    show XV.a _ = XV.a (.c (iv (pickF c 30)))
    unfold pickF
    rw [h, cond_true, show -(wr (c + 1)) = 0 - wr (c + 1) by omega]
  · refine ok_leaf (fun _ => 0) [] [] trivial ?_ trivial rfl
    show XV.a _ = XV.a (.c (iv (pickF c 30)))
    unfold pickF
    rw [h, cond_false]
theorem pickF_in {c n : Int} (hc : -9223372036854775808 ≤ c) (hc2 : c ≤ 9223372036854775807) (hn : 0 < n) : 0 ≤ pickF c n ∧ pickF c n < n := by
  have key : ∀ x : Int, 0 ≤ x → 0 ≤ Int.tmod x n ∧ Int.tmod x n < n := fun x hx => ⟨Int.tmod_nonneg _ hx, Int.tmod_lt_of_pos _ hn⟩
  unfold pickF
  by_cases h : c < 0
  · rw [show decide (c < 0) = true by simpa using h, cond_true]
    have : wr (c + 1) = c + 1 := wrap64 (by omega) (by omega)
    rw [this, show wr (-(c + 1)) = -(c + 1) from wrap64 (by omega) (by omega)]
    exact key _ (by omega)
  · rw [show decide (c < 0) = false by simpa using h, cond_false]
    exact key _ (by omega)
end Go.Proofs.Ytehecaipmdfjmaa.X.Mi

set_option linter.unusedVariables false
set_option linter.unusedSimpArgs false
namespace Go.Proofs.Ytehecaipmdfjmaa.X
open Go.RowKit Go.Proofs.YtehecaipmdfjmaaW.PrintWords Go.Proofs.Ytehecaipmdfjmaa.Base
inductive Hint where
  | k
  | l (h : Hint)
  | r (h : Hint)
  | n (a b : Hint)
  | c (h : Hint)
def Hint.cs : Nat → Hint → Hint
  | 0, h => h
  | m + 1, h => .c (Hint.cs m h)
def prune : Hint → Tree → Tree
  | .l h, .br b t _ => .chk (b = true) (prune h t)
  | .r h, .br b _ e => .chk (b = false) (prune h e)
  | .n h g, .br b t e => .br b (prune h t) (prune g e)
  | .n h g, .both t e => .both (prune h t) (prune g e)
  | .c h, .chk p t => .chk p (prune h t)
  | .c h, .callf f args H C k => .callf f args H C fun c => prune h (k c)
  | .c h, .all g k => .all g fun c => prune h (k c)
  | .c h, .every σ k => .every σ fun c => prune h (k c)
  | .c h, .some_ σ k => .some_ σ fun c => prune h (k c)
  | .c h, .hyp p t => .hyp p (prune h t)
  | .c h, .sub t => .sub (prune h t)
  | _, t => t
theorem ok_prune {P : Program} {nt : Nat} : ∀ {h : Hint} {T : Tree} {R : Root} {Rp : Ending → World → Prop}, ok P R nt Rp (prune h T) → ok P R nt Rp T := by
  intro h
  induction h with
  | k => intro T R Rp o; unfold prune at o; exact o
  | l h ih =>
    intro T R Rp o
    cases T with
    | br b t e => exact ⟨fun _ => ih o.2, fun hb => (by rw [show b = true from o.1] at hb; cases hb)⟩
    | _ => exact o
  | r h ih =>
    intro T R Rp o
    cases T with
    | br b t e => exact ⟨fun hb => (by rw [show b = false from o.1] at hb; cases hb), fun _ => ih o.2⟩
    | _ => exact o
  | n h g ih1 ih2 =>
    intro T R Rp o
    cases T with
    | br b t e => exact ⟨fun hb => ih1 (o.1 hb), fun hb => ih2 (o.2 hb)⟩
    | both t e => exact ⟨ih1 o.1, ih2 o.2⟩
    | _ => exact o
  | c h ih =>
    intro T R Rp o
    cases T with
    | chk p t => exact ⟨o.1, ih o.2⟩
    | callf f args H C k => exact ⟨o.1, o.2.1, o.2.2.1, fun c hc => ih (o.2.2.2 c hc)⟩
    | all g k => exact fun c hc => ih (o c hc)
    | every σ k => exact fun s => ih (o s)
    | some_ σ k => exact ⟨o.choose, ih o.choose_spec⟩
    | hyp p t => exact fun hp => ih (o hp)
    | sub t => exact fun R Rp => ih (o R Rp)
    | _ => exact o
theorem local_ofP {G : Ctr} {I : Inv} {f : FuncId} {fn : Func} (hf : Try.prog.funcs[f]? = some fn) {C : CallSpec} (hl : C.args0.all (AV.lt C.H0.length) = true) {keep : List Nat} {h : Hint} {T : Tree} (he : prune h (xfunc tab G I fn C.args0 C.H0 keep) = T) (hok : ∀ ν w, ok Try.prog (rootOf ν C.H0 w) fn.ntmps (C.Post ν w) T) : C.Local Try.prog f :=
  fun ν w hh => calls_of tab_ok mixed hf rfl hh hl (ok_prune (he ▸ hok ν w))
end Go.Proofs.Ytehecaipmdfjmaa.X

set_option linter.unusedVariables false
set_option linter.unusedSimpArgs false
namespace Go.Proofs.Ytehecaipmdfjmaa.X.Mi
open Go Go.RowKit Go.Proofs.YtehecaipmdfjmaaW.PrintWords Go.Proofs.Ytehecaipmdfjmaa.Base Go.Proofs.Ytehecaipmdfjmaa.X
abbrev agH (d : Cd) (n cap : Nat) (z : Nat → Int) (n2 cap2 : Nat) (y : Nat → Int) : Hp := [d.row, irow false n cap z, irow false n2 cap2 y]
end Go.Proofs.Ytehecaipmdfjmaa.X.Mi

set_option linter.unusedVariables false
set_option linter.unusedSimpArgs false
namespace Go.Proofs.Ytehecaipmdfjmaa.X.Mi
open Go Go.RowKit Go.Proofs.YtehecaipmdfjmaaW.PrintWords Go.Proofs.Ytehecaipmdfjmaa.Base Go.Proofs.Ytehecaipmdfjmaa.X
theorem aclone_call : Callable Try.prog 14 := ⟨_, Try.func14, by kernel_rfl, rfl⟩
end Go.Proofs.Ytehecaipmdfjmaa.X.Mi

set_option linter.unusedVariables false
set_option linter.unusedSimpArgs false
namespace Go.Proofs.Ytehecaipmdfjmaa.X.Mi
open Go Go.RowKit Go.Proofs.YtehecaipmdfjmaaW.PrintWords Go.Proofs.Ytehecaipmdfjmaa.Base Go.Proofs.Ytehecaipmdfjmaa.X
abbrev gE (H : Hp) (k : Nat) : Ent := match H.get k with | some e => e | none => Ent.dead
def diffF (a b : Ar) : Nat → Nat
  | 0 => 0
  | k + 1 => diffF a b k + (bif a.C (k + 1) != b.C (k + 1) then 1 else 0)
def OneOk (m : Mc) : Prop := m.ar.Ok ∧ 1 ≤ m.nF ∧ m.nF ≤ 16 ∧ m.i = 0 ∧ m.v = 0 ∧ m.nN = 0 ∧ m.cN = 0 ∧ canF m = true
abbrev OneS (k : Int) : Type := { s : Nat × Mc // OneOk s.2 ∧ (s.1 : Int) ≤ k }
def onlL (p : Int) (d : Cd) (tm : Tm) (H : Hp) : LoopInv :=
  ⟨OneS p, fun s => ((14, .a (.c (.sl 7 0 0 17 s.1.2.nF s.1.2.cF))) :: (15, ia s.1.1) :: onlyT [0, 4, 10, 11, 12, 13] tm, [d.row, gE H 1, gE H 2, s.1.2.ar.box 4, s.1.2.ar.row, s.1.2.tb.box 6, s.1.2.tb.row, frow true s.1.2.nF s.1.2.cF s.1.2.F]), fun s => (p - s.1.1).toNat, none, [], .l (List.range 8), [], fun _ _ => .l [0, 1, 2, 3, 10, 5, 6, 11]⟩
structure CmpT where
  i : Nat
  b : Ar
  m : Mc
  m0 : Mc
def CmpOk (x : CmpT) : Prop := x.i + 1 ≤ x.b.n ∧ x.b.Ok ∧ x.b.n ≤ x.m.ar.n ∧ x.m.ar.Ok ∧ OneOk (nextM x.m fun q => match q with | 0 => x.m.ar.cap | _ => x.m.cF) ∧ ∀ k, k < x.b.n → diffF x.b x.m.ar k ≤ 1
abbrev CmpS : Type := { x : CmpT // CmpOk x }
def cmpL (d : Cd) (tm : Tm) (H : Hp) : LoopInv :=
  ⟨CmpS, fun x => ((23, ia ((x.1.i : Int) + 1)) :: (22, ia (diffF x.1.b x.1.m.ar x.1.i)) :: (16, .a (bptr 8 2)) :: (17, .a (.c (.sl 11 0 0 17 x.1.m.nF x.1.m.cF))) :: onlyT [0, 4, 10, 11, 12, 13, 15] tm,
    [d.row, gE H 1, gE H 2, x.1.m.ar.box 10, Ent.dead, x.1.m.tb.box 6, x.1.m.tb.row, frow true x.1.m0.nF x.1.m0.cF x.1.m0.F, x.1.b.box 9, x.1.b.row, x.1.m.ar.row, frow true x.1.m.nF x.1.m.cF x.1.m.F, nrow true x.1.m.nN x.1.m.cN x.1.m.N]), fun x => x.1.b.n - x.1.i, none, [], .l (List.range 13), [], fun _ _ => .l (List.range 13)⟩
def onlG : Ctr := fun f args H => match args with
  | [] => some (upC H.length)
  | [.c (.v (.int _ x)), .c (.v (.int _ k))] => some (.ex Int fun z => pickC x k z)
  | [.c (.sl kc _ _ _ n cap), .c (.v (.int _ k))] => some (.ex ((Nat → Int) × Bool) fun z => madeC z.2 n cap k.toNat z.1 [kc] H.length)
  | [.c (.v (.int _ at_)), .c (.sl kc _ _ _ n cap)] => some (.ex ((Nat → Int) × Bool) fun z => startC at_ z.2 n cap z.1 [kc] H.length)
  | [.c (.ptr r)] => bif Nat.beq f 14 then some (.ex Ar fun a => acloneC a [r.k, slAt H r.k 0] H.length) else some (.ex Ar fun a => lenC a [r.k, slAt H r.k 0])
  | [.c (.sl kd _ _ _ _ _), .c (.ptr ra), .c (.ptr rt), _, .c (.sl kf _ _ _ _ _)] => some (.ex StT fun s => stepC s.1 s.2.1 s.2.2.1 s.2.2.2.1 s.2.2.2.2 true [kd, ra.k, slAt H ra.k 0, rt.k, slAt H rt.k 0, kf] H.length)
  | [.c (.ptr r), .c (.v (.int _ x))] => some (.ex (Ar × Int) fun s => loadC s.1 x s.2 nilE [r.k, slAt H r.k 0])
  | _ => none
def onlI (d : Cd) (p : Int) : Inv := fun li tm H => bif Nat.beq li 0 then some (onlL p d tm H) else bif Nat.blt li 1000 then some (cmpL d tm H) else none
abbrev onArgs (d : Cd) (n cap : Nat) (at_ : Int) (n2 cap2 : Nat) (steps : Int) : List AV := [.c (.sl 0 0 0 5 d.n d.cap), .c (.sl 1 0 0 1 n cap), iav at_, .c (.sl 2 0 0 1 n2 cap2), iav steps]
abbrev tlone_0 : Cd → Ent :=
  fun d => { own := d.1, box := false, ty := 40, sz := 5, m := 1, n := fun x => d.2, cap := fun x => d.3, f := fun x i => [CV.v (Value.int IntKind.i64 (d.4 i).1), CV.v (Value.int IntKind.i64 (d.4 i).2), CV.v (Value.int IntKind.i64 (d.4 i).3), CV.v (Value.int IntKind.i64 (d.4 i).4), CV.v (Value.int IntKind.i64 (d.4 i).5)], ov := [] }
abbrev tlone_1 : Nat → Nat → (Nat → Int) → Ent :=
  fun n cap z => { own := false, box := false, ty := 2, sz := 1, m := 1, n := fun x => n, cap := fun x => cap, f := fun x i => [CV.v (Value.int IntKind.i64 (z i))], ov := [] }
abbrev tlone_2 : Cd → Nat → Nat → (Nat → Int) → Nat → Nat → (Nat → Int) → List Ent :=
  fun d n cap z n2 cap2 y => [tlone_0 d, tlone_1 n cap z, tlone_1 n2 cap2 y]
abbrev tlone_3 : Nat → Nat → (Nat → Int) × Bool → Ent :=
  fun n cap s => { own := Prod.snd s, box := false, ty := 2, sz := 1, m := 1, n := fun x => n, cap := fun x => cap, f := fun x i => [CV.v (Value.int IntKind.i64 (Prod.fst s i))], ov := [] }
abbrev tlone_4 : Nat → (Nat → Nat) → Ent :=
  fun n c => { own := true, box := true, ty := 72, sz := 2, m := 1, n := fun a => 1, cap := fun a => 1, f := fun x x_1 => [CV.sl 4 0 0 1 (1 + n) (c 0), CV.v (Value.int IntKind.i64 (4096 : Int))], ov := [] }
abbrev tlone_5 : Nat → (Nat → Int) × Bool → (Nat → Nat) → Ent :=
  fun n s c => { own := true, box := false, ty := 2, sz := 1, m := 1, n := fun x => 1 + n, cap := fun x => c 0, f := fun x i => [CV.v (Value.int IntKind.i64 (if i = 0 then (0 : Int) else if i ≤ n then Prod.fst s (i - 1) else (0 : Int)))], ov := [] }
abbrev tlone_6 : Ent :=
  { own := true, box := true, ty := 78, sz := 2, m := 1, n := fun a => 1, cap := fun a => 1, f := fun x x_1 => [CV.sl 6 0 0 4 1 1, CV.v (Value.int IntKind.i64 (0 : Int))], ov := [] }
abbrev tlone_7 : Ent :=
  { own := true, box := false, ty := 59, sz := 4, m := 1, n := fun x => 1, cap := fun x => 1, f := fun x i => [CV.v (Value.bool false), CV.v (Value.bool false), CV.v (Value.bool false), CV.v (Value.int IntKind.i64 (0 : Int))], ov := [] }
abbrev tlone_8 : (p : Int) → OneS p → Mc :=
  fun p s => Prod.snd (Subtype.val s)
abbrev tlone_9 : (p : Int) → OneS p → AV :=
  fun p s => AV.c (CV.sl 7 0 0 17 (Mc.nF (tlone_8 p s)) (Mc.cF (tlone_8 p s)))
abbrev tlone_10 : (p : Int) → OneS p → XV :=
  fun p s => XV.a (AV.c (CV.v (Value.int IntKind.i64 (↑(Prod.fst (Subtype.val s)) : Int))))
abbrev tlone_11 : Cd → AV :=
  fun d => AV.c (CV.sl 0 0 0 5 d.2 d.3)
abbrev tlone_12 : Cd → XV :=
  fun d => XV.a (tlone_11 d)
abbrev tlone_13 : AV :=
  AV.c (CV.ptr { k := 3, j := 0, i := 0, sz := 2, c := 0, d := 0, dn := 0, cu := 0 })
abbrev tlone_14 : XV :=
  XV.a tlone_13
abbrev tlone_15 : AV :=
  AV.c (CV.ptr { k := 5, j := 0, i := 0, sz := 2, c := 0, d := 0, dn := 0, cu := 0 })
abbrev tlone_16 : XV :=
  XV.a tlone_15
abbrev tlone_17 : List Nat :=
  [0, 1, 2, 3, 4, 5, 6, 7]
abbrev tlone_18 : (p : Int) → OneS p → Ent :=
  fun p s => { own := true, box := true, ty := 72, sz := 2, m := 1, n := fun x => 1, cap := fun x => 1, f := fun x x_1 => [CV.sl 4 0 0 1 (Prod.snd (Subtype.val s)).1.1 (Prod.snd (Subtype.val s)).1.2, CV.v (Value.int IntKind.i64 (Prod.snd (Subtype.val s)).1.4)], ov := [] }
abbrev tlone_19 : (p : Int) → OneS p → Ent :=
  fun p s => { own := true, box := false, ty := 2, sz := 1, m := 1, n := fun x => (Prod.snd (Subtype.val s)).1.1, cap := fun x => (Prod.snd (Subtype.val s)).1.2, f := fun x i => [CV.v (Value.int IntKind.i64 ((Prod.snd (Subtype.val s)).1.3 i))], ov := [] }
abbrev tlone_20 : (p : Int) → OneS p → Ent :=
  fun p s => { own := true, box := true, ty := 78, sz := 2, m := 1, n := fun x => 1, cap := fun x => 1, f := fun x x_1 => [CV.sl 6 0 0 4 (Prod.snd (Subtype.val s)).2.1 (Prod.snd (Subtype.val s)).2.2, CV.v (Value.int IntKind.i64 (Prod.snd (Subtype.val s)).2.4)], ov := [] }
abbrev tlone_21 : (p : Int) → OneS p → Ent :=
  fun p s => { own := true, box := false, ty := 59, sz := 4, m := 1, n := fun x => (Prod.snd (Subtype.val s)).2.1, cap := fun x => (Prod.snd (Subtype.val s)).2.2, f := fun x i => [CV.v (Value.bool ((Prod.snd (Subtype.val s)).2.3 i).1), CV.v (Value.bool ((Prod.snd (Subtype.val s)).2.3 i).2), CV.v (Value.bool ((Prod.snd (Subtype.val s)).2.3 i).3), CV.v (Value.int IntKind.i64 ((Prod.snd (Subtype.val s)).2.3 i).4)], ov := [] }
abbrev tlone_22 : (p : Int) → OneS p → Ent :=
  fun p s => { own := true, box := false, ty := 66, sz := 17, m := 1, n := fun x => Mc.nF (tlone_8 p s), cap := fun x => Mc.cF (tlone_8 p s), f := fun x i => [CV.v (Value.int IntKind.i64 (Mc.F (Prod.snd (Subtype.val s)) i).1), CV.v (Value.int IntKind.i64 ((Mc.F (Prod.snd (Subtype.val s)) i).2 0)), CV.v (Value.int IntKind.i64 ((Mc.F (Prod.snd (Subtype.val s)) i).2 1)), CV.v (Value.int IntKind.i64 ((Mc.F (Prod.snd (Subtype.val s)) i).2 2)), CV.v (Value.int IntKind.i64 ((Mc.F (Prod.snd (Subtype.val s)) i).2 3)), CV.v (Value.int IntKind.i64 ((Mc.F (Prod.snd (Subtype.val s)) i).2 4)), CV.v (Value.int IntKind.i64 ((Mc.F (Prod.snd (Subtype.val s)) i).2 5)), CV.v (Value.int IntKind.i64 ((Mc.F (Prod.snd (Subtype.val s)) i).2 6)), CV.v (Value.int IntKind.i64 ((Mc.F (Prod.snd (Subtype.val s)) i).2 7)), CV.v (Value.int IntKind.i64 ((Mc.F (Prod.snd (Subtype.val s)) i).2 8)), CV.v (Value.int IntKind.i64 ((Mc.F (Prod.snd (Subtype.val s)) i).2 9)), CV.v (Value.int IntKind.i64 ((Mc.F (Prod.snd (Subtype.val s)) i).2 10)), CV.v (Value.int IntKind.i64 ((Mc.F (Prod.snd (Subtype.val s)) i).2 11)), CV.v (Value.int IntKind.i64 ((Mc.F (Prod.snd (Subtype.val s)) i).2 12)), CV.v (Value.int IntKind.i64 ((Mc.F (Prod.snd (Subtype.val s)) i).2 13)), CV.v (Value.int IntKind.i64 ((Mc.F (Prod.snd (Subtype.val s)) i).2 14)), CV.v (Value.int IntKind.i64 ((Mc.F (Prod.snd (Subtype.val s)) i).2 15))], ov := [] }
abbrev tlone_23 : Cd → Nat → Nat → Nat → Nat → (p : Int) → (Nat → Int) × Bool → (Nat → Int) × Bool → OneS p → List Ent :=
  fun d n cap n2 cap2 p s s_1 s_2 => [tlone_0 d, tlone_3 n cap s, tlone_3 n2 cap2 s_1, tlone_18 p s_2, tlone_19 p s_2, tlone_20 p s_2, tlone_21 p s_2, tlone_22 p s_2]
abbrev tlone_24 : Ar → Ent :=
  fun s => { own := true, box := false, ty := 2, sz := 1, m := 1, n := fun x => s.1, cap := fun x => s.2, f := fun x i => [CV.v (Value.int IntKind.i64 (s.3 i))], ov := [] }
abbrev tlone_25 : Ar → (Nat → Nat) → Ent :=
  fun s c => { own := true, box := true, ty := 72, sz := 2, m := 1, n := fun a => 1, cap := fun a => 1, f := fun x x_1 => [CV.sl 9 0 0 1 s.1 (c 0), CV.v (Value.int IntKind.i64 s.4)], ov := [] }
abbrev tlone_26 : Ar → (Nat → Nat) → Ent :=
  fun s c => { own := true, box := false, ty := 2, sz := 1, m := 1, n := fun x => s.1, cap := fun x => c 0, f := fun x i => [CV.v (Value.int IntKind.i64 (s.3 i))], ov := [] }
abbrev tlone_27 : Mc × Mc × Int × Int × Cd → Mc :=
  fun s => Prod.fst (Prod.snd s)
abbrev tlone_28 : Mc × Mc × Int × Int × Cd → Ent :=
  fun s => { own := (Prod.snd (Prod.snd (Prod.snd (Prod.snd s)))).1, box := false, ty := 40, sz := 5, m := 1, n := fun x => (Prod.snd (Prod.snd (Prod.snd (Prod.snd s)))).2, cap := fun x => (Prod.snd (Prod.snd (Prod.snd (Prod.snd s)))).3, f := fun x i => [CV.v (Value.int IntKind.i64 ((Prod.snd (Prod.snd (Prod.snd (Prod.snd s)))).4 i).1), CV.v (Value.int IntKind.i64 ((Prod.snd (Prod.snd (Prod.snd (Prod.snd s)))).4 i).2), CV.v (Value.int IntKind.i64 ((Prod.snd (Prod.snd (Prod.snd (Prod.snd s)))).4 i).3), CV.v (Value.int IntKind.i64 ((Prod.snd (Prod.snd (Prod.snd (Prod.snd s)))).4 i).4), CV.v (Value.int IntKind.i64 ((Prod.snd (Prod.snd (Prod.snd (Prod.snd s)))).4 i).5)], ov := [] }
abbrev tlone_29 : CmpS → AV :=
  fun s => AV.c (CV.v (Value.int IntKind.i64 ((↑(Subtype.val s).1 : Int) + (1 : Int))))
abbrev tlone_30 : CmpS → XV :=
  fun s => XV.a (tlone_29 s)
abbrev tlone_31 : CmpS → XV :=
  fun s => XV.a (AV.c (CV.v (Value.int IntKind.i64 (↑(diffF (Subtype.val s).2 (Subtype.val s).3.1 (Subtype.val s).1) : Int))))
abbrev tlone_32 : AV :=
  AV.c (CV.ptr { k := 8, j := 0, i := 0, sz := 2, c := 0, d := 0, dn := 0, cu := 0 })
abbrev tlone_33 : XV :=
  XV.a tlone_32
abbrev tlone_34 : CmpS → XV :=
  fun s => XV.a (AV.c (CV.sl 11 0 0 17 (Mc.nF (Subtype.val s).3) (Mc.cF (Subtype.val s).3)))
abbrev tlone_35 : List Nat :=
  [0, 1, 2, 3, 4, 5, 6, 7, 8, 9, 10, 11, 12]
abbrev tlone_36 : CmpS → Ent :=
  fun s => { own := true, box := true, ty := 72, sz := 2, m := 1, n := fun x => 1, cap := fun x => 1, f := fun x x_1 => [CV.sl 10 0 0 1 (Subtype.val s).3.1.1 (Subtype.val s).3.1.2, CV.v (Value.int IntKind.i64 (Subtype.val s).3.1.4)], ov := [] }
abbrev tlone_37 : CmpS → Ent :=
  fun s => { own := true, box := true, ty := 78, sz := 2, m := 1, n := fun x => 1, cap := fun x => 1, f := fun x x_1 => [CV.sl 6 0 0 4 (Subtype.val s).3.2.1 (Subtype.val s).3.2.2, CV.v (Value.int IntKind.i64 (Subtype.val s).3.2.4)], ov := [] }
abbrev tlone_38 : CmpS → Ent :=
  fun s => { own := true, box := false, ty := 59, sz := 4, m := 1, n := fun x => (Subtype.val s).3.2.1, cap := fun x => (Subtype.val s).3.2.2, f := fun x i => [CV.v (Value.bool ((Subtype.val s).3.2.3 i).1), CV.v (Value.bool ((Subtype.val s).3.2.3 i).2), CV.v (Value.bool ((Subtype.val s).3.2.3 i).3), CV.v (Value.int IntKind.i64 ((Subtype.val s).3.2.3 i).4)], ov := [] }
abbrev tlone_39 : CmpS → Ent :=
  fun s => { own := true, box := false, ty := 66, sz := 17, m := 1, n := fun x => Mc.nF (Subtype.val s).4, cap := fun x => Mc.cF (Subtype.val s).4, f := fun x i => [CV.v (Value.int IntKind.i64 (Mc.F (Subtype.val s).4 i).1), CV.v (Value.int IntKind.i64 ((Mc.F (Subtype.val s).4 i).2 0)), CV.v (Value.int IntKind.i64 ((Mc.F (Subtype.val s).4 i).2 1)), CV.v (Value.int IntKind.i64 ((Mc.F (Subtype.val s).4 i).2 2)), CV.v (Value.int IntKind.i64 ((Mc.F (Subtype.val s).4 i).2 3)), CV.v (Value.int IntKind.i64 ((Mc.F (Subtype.val s).4 i).2 4)), CV.v (Value.int IntKind.i64 ((Mc.F (Subtype.val s).4 i).2 5)), CV.v (Value.int IntKind.i64 ((Mc.F (Subtype.val s).4 i).2 6)), CV.v (Value.int IntKind.i64 ((Mc.F (Subtype.val s).4 i).2 7)), CV.v (Value.int IntKind.i64 ((Mc.F (Subtype.val s).4 i).2 8)), CV.v (Value.int IntKind.i64 ((Mc.F (Subtype.val s).4 i).2 9)), CV.v (Value.int IntKind.i64 ((Mc.F (Subtype.val s).4 i).2 10)), CV.v (Value.int IntKind.i64 ((Mc.F (Subtype.val s).4 i).2 11)), CV.v (Value.int IntKind.i64 ((Mc.F (Subtype.val s).4 i).2 12)), CV.v (Value.int IntKind.i64 ((Mc.F (Subtype.val s).4 i).2 13)), CV.v (Value.int IntKind.i64 ((Mc.F (Subtype.val s).4 i).2 14)), CV.v (Value.int IntKind.i64 ((Mc.F (Subtype.val s).4 i).2 15))], ov := [] }
abbrev tlone_40 : CmpS → Ent :=
  fun s => { own := true, box := true, ty := 72, sz := 2, m := 1, n := fun x => 1, cap := fun x => 1, f := fun x x_1 => [CV.sl 9 0 0 1 (Subtype.val s).2.1 (Subtype.val s).2.2, CV.v (Value.int IntKind.i64 (Subtype.val s).2.4)], ov := [] }
abbrev tlone_41 : CmpS → Ent :=
  fun s => { own := true, box := false, ty := 2, sz := 1, m := 1, n := fun x => (Subtype.val s).2.1, cap := fun x => (Subtype.val s).2.2, f := fun x i => [CV.v (Value.int IntKind.i64 ((Subtype.val s).2.3 i))], ov := [] }
abbrev tlone_42 : CmpS → Ent :=
  fun s => { own := true, box := false, ty := 2, sz := 1, m := 1, n := fun x => (Subtype.val s).3.1.1, cap := fun x => (Subtype.val s).3.1.2, f := fun x i => [CV.v (Value.int IntKind.i64 ((Subtype.val s).3.1.3 i))], ov := [] }
abbrev tlone_43 : CmpS → Ent :=
  fun s => { own := true, box := false, ty := 66, sz := 17, m := 1, n := fun x => Mc.nF (Subtype.val s).3, cap := fun x => Mc.cF (Subtype.val s).3, f := fun x i => [CV.v (Value.int IntKind.i64 (Mc.F (Subtype.val s).3 i).1), CV.v (Value.int IntKind.i64 ((Mc.F (Subtype.val s).3 i).2 0)), CV.v (Value.int IntKind.i64 ((Mc.F (Subtype.val s).3 i).2 1)), CV.v (Value.int IntKind.i64 ((Mc.F (Subtype.val s).3 i).2 2)), CV.v (Value.int IntKind.i64 ((Mc.F (Subtype.val s).3 i).2 3)), CV.v (Value.int IntKind.i64 ((Mc.F (Subtype.val s).3 i).2 4)), CV.v (Value.int IntKind.i64 ((Mc.F (Subtype.val s).3 i).2 5)), CV.v (Value.int IntKind.i64 ((Mc.F (Subtype.val s).3 i).2 6)), CV.v (Value.int IntKind.i64 ((Mc.F (Subtype.val s).3 i).2 7)), CV.v (Value.int IntKind.i64 ((Mc.F (Subtype.val s).3 i).2 8)), CV.v (Value.int IntKind.i64 ((Mc.F (Subtype.val s).3 i).2 9)), CV.v (Value.int IntKind.i64 ((Mc.F (Subtype.val s).3 i).2 10)), CV.v (Value.int IntKind.i64 ((Mc.F (Subtype.val s).3 i).2 11)), CV.v (Value.int IntKind.i64 ((Mc.F (Subtype.val s).3 i).2 12)), CV.v (Value.int IntKind.i64 ((Mc.F (Subtype.val s).3 i).2 13)), CV.v (Value.int IntKind.i64 ((Mc.F (Subtype.val s).3 i).2 14)), CV.v (Value.int IntKind.i64 ((Mc.F (Subtype.val s).3 i).2 15))], ov := [] }
abbrev tlone_44 : CmpS → Ent :=
  fun s => { own := true, box := false, ty := 80, sz := 2, m := 1, n := fun x => (Subtype.val s).3.8, cap := fun x => (Subtype.val s).3.9, f := fun x i => [CV.v (Value.int IntKind.i64 (Prod.fst ((Subtype.val s).3.10 i))), CV.v (Value.int IntKind.i64 (Prod.snd ((Subtype.val s).3.10 i)))], ov := [] }
abbrev tlone_45 : List Nat :=
  [8, 9]
abbrev tlone_46 : Ar × Int → Ent :=
  fun s => { own := true, box := true, ty := 72, sz := 2, m := 1, n := fun a => 1, cap := fun a => 1, f := fun x x_1 => [CV.sl 9 0 0 1 (Prod.fst s).1 (Prod.fst s).2, CV.v (Value.int IntKind.i64 (Prod.fst s).4)], ov := [] }
abbrev tlone_47 : Ar × Int → Ent :=
  fun s => { own := true, box := false, ty := 2, sz := 1, m := 1, n := fun x => (Prod.fst s).1, cap := fun x => (Prod.fst s).2, f := fun x i => [CV.v (Value.int IntKind.i64 ((Prod.fst s).3 i))], ov := [] }
abbrev tlone_48 : CmpS → XV :=
  fun s => XV.a (AV.c (CV.v (Value.int IntKind.i64 (IntKind.wrap IntKind.i64 ((↑(Subtype.val s).1 : Int) + (1 : Int) + (1 : Int))))))
abbrev tlone_49 : Ar × Int → Ent :=
  fun s => { own := true, box := true, ty := 72, sz := 2, m := 1, n := fun a => 1, cap := fun a => 1, f := fun x x_1 => [CV.sl 10 0 0 1 (Prod.fst s).1 (Prod.fst s).2, CV.v (Value.int IntKind.i64 (Prod.fst s).4)], ov := [] }
abbrev tlone_50 : List Nat :=
  [0, 1, 2, 3, 10, 5, 6, 11]
def tlone (d : Cd) (n cap : Nat) (z : Nat → Int) (at_ : Int) (n2 cap2 : Nat) (y : Nat → Int) (steps p : Int) : Tree :=
  Tree.callf 7 [] (tlone_2 d n cap z n2 cap2 y) (upC 3) fun c => Tree.chk ((!decide ((↑d.2 : Int) > (1024 : Int))) = true → (!decide ((↑d.2 : Int) > (1024 : Int))) = true)
 (Tree.chk ((!decide ((↑d.2 : Int) > (1024 : Int))) = true → (!decide ((↑d.2 : Int) > (1024 : Int))) = true)
 (Tree.chk (decide ((↑d.2 : Int) > (1024 : Int)) = false → (!decide ((↑d.2 : Int) > (1024 : Int))) = true)
 (Tree.chk ((!bif decide ((↑d.2 : Int) > (1024 : Int)) then true else decide ((↑n : Int) > (100 : Int))) = true → (!bif decide ((↑d.2 : Int) > (1024 : Int)) then true else decide ((↑n : Int) > (100 : Int))) = true)
 (Tree.chk ((!bif decide ((↑d.2 : Int) > (1024 : Int)) then true else decide ((↑n : Int) > (100 : Int))) = true → (!bif decide ((↑d.2 : Int) > (1024 : Int)) then true else decide ((↑n : Int) > (100 : Int))) = true)
 (Tree.chk ((bif decide ((↑d.2 : Int) > (1024 : Int)) then true else decide ((↑n : Int) > (100 : Int))) = false → (!bif decide ((↑d.2 : Int) > (1024 : Int)) then true else decide ((↑n : Int) > (100 : Int))) = true)
 (Tree.br (bif bif decide ((↑d.2 : Int) > (1024 : Int)) then true else decide ((↑n : Int) > (100 : Int)) then true else decide ((↑n2 : Int) > (40 : Int)))
 (Tree.done (XV.a (AV.c (CV.v (Value.bool true)))) (tlone_2 d n cap z n2 cap2 y))
 (Tree.some_ ((Nat → Int) × Bool) fun s => Tree.callf 8 [AV.c (CV.sl 1 0 0 1 n cap), AV.c (CV.v (Value.int IntKind.i64 (1 : Int)))] (tlone_2 d n cap z n2 cap2 y) (madeC (Prod.snd s) n cap 1 (fun a => Prod.fst s a) [1] 3) fun c => Tree.chk (false = false)
 (Tree.some_ ((Nat → Int) × Bool) fun s_1 => Tree.callf 12 [AV.c (CV.v (Value.int IntKind.i64 at_)), AV.c (CV.sl 2 0 0 1 n2 cap2)] [tlone_0 d, tlone_3 n cap s, tlone_1 n2 cap2 y, tlone_4 n c, tlone_5 n s c, tlone_6, tlone_7] (startC at_ (Prod.snd s_1) n2 cap2 (fun a => Prod.fst s_1 a) [2] 7) fun c_1 => Tree.both
 (Tree.some_ (OneS p) fun s_2 => Tree.chk (XV.a (AV.c (CV.sl 7 0 0 17 1 1)) = XV.a (tlone_9 p s_2))
 (Tree.chk (XV.a (AV.c (CV.v (Value.int IntKind.i64 (0 : Int)))) = tlone_10 p s_2)
 (Tree.chk (tlone_12 d = tlone_12 d)
 (Tree.chk (XV.a (AV.c (CV.v (Value.int IntKind.i64 steps))) = XV.a (AV.c (CV.v (Value.int IntKind.i64 steps))))
 (Tree.chk (XV.a (AV.c (CV.v (Value.bool false))) = XV.a (AV.c (CV.v (Value.bool false))))
 (Tree.chk (XV.a (AV.c (CV.v (Value.bool true))) = XV.a (AV.c (CV.v (Value.bool true))))
 (Tree.chk (tlone_14 = tlone_14)
 (Tree.chk (tlone_16 = tlone_16)
 (Tree.chk (EntRel 8 tlone_17 8 (tlone_0 d) (tlone_0 d))
 (Tree.chk (EntRel 8 tlone_17 8 (tlone_3 n cap s) (tlone_3 n cap s))
 (Tree.chk (EntRel 8 tlone_17 8 (tlone_3 n2 cap2 s_1) (tlone_3 n2 cap2 s_1))
 (Tree.chk (EntRel 8 tlone_17 8 (tlone_4 n c) (tlone_18 p s_2))
 (Tree.chk (EntRel 8 tlone_17 8 (tlone_5 n s c) (tlone_19 p s_2))
 (Tree.chk (EntRel 8 tlone_17 8 tlone_6 (tlone_20 p s_2))
 (Tree.chk (EntRel 8 tlone_17 8 tlone_7 (tlone_21 p s_2))
 (Tree.chk (EntRel 8 tlone_17 8 { own := true, box := false, ty := 66, sz := 17, m := 1, n := fun x => 1, cap := fun x => 1, f := fun x i => [CV.v (Value.int IntKind.i64 at_), CV.v (Value.int IntKind.i64 (if 0 < n2 then Prod.fst s_1 0 else (0 : Int))), CV.v (Value.int IntKind.i64 (if 1 < n2 then Prod.fst s_1 1 else (0 : Int))), CV.v (Value.int IntKind.i64 (if 2 < n2 then Prod.fst s_1 2 else (0 : Int))), CV.v (Value.int IntKind.i64 (if 3 < n2 then Prod.fst s_1 3 else (0 : Int))), CV.v (Value.int IntKind.i64 (if 4 < n2 then Prod.fst s_1 4 else (0 : Int))), CV.v (Value.int IntKind.i64 (if 5 < n2 then Prod.fst s_1 5 else (0 : Int))), CV.v (Value.int IntKind.i64 (if 6 < n2 then Prod.fst s_1 6 else (0 : Int))), CV.v (Value.int IntKind.i64 (if 7 < n2 then Prod.fst s_1 7 else (0 : Int))), CV.v (Value.int IntKind.i64 (if 8 < n2 then Prod.fst s_1 8 else (0 : Int))), CV.v (Value.int IntKind.i64 (if 9 < n2 then Prod.fst s_1 9 else (0 : Int))), CV.v (Value.int IntKind.i64 (if 10 < n2 then Prod.fst s_1 10 else (0 : Int))), CV.v (Value.int IntKind.i64 (if 11 < n2 then Prod.fst s_1 11 else (0 : Int))), CV.v (Value.int IntKind.i64 (if 12 < n2 then Prod.fst s_1 12 else (0 : Int))), CV.v (Value.int IntKind.i64 (if 13 < n2 then Prod.fst s_1 13 else (0 : Int))), CV.v (Value.int IntKind.i64 (if 14 < n2 then Prod.fst s_1 14 else (0 : Int))), CV.v (Value.int IntKind.i64 (if 15 < n2 then Prod.fst s_1 15 else (0 : Int)))], ov := [] } (tlone_22 p s_2))
 (Tree.need True)))))))))))))))))
 (Tree.every (OneS p) fun s_2 => Tree.some_ Int fun s_3 => Tree.callf 9 [AV.c (CV.v (Value.int IntKind.i64 steps)), AV.c (CV.v (Value.int IntKind.i64 (30 : Int)))] (tlone_23 d n cap n2 cap2 p s s_1 s_2) (pickC steps (30 : Int) s_3) fun c => Tree.br (decide ((↑(Prod.fst (Subtype.val s_2)) : Int) < s_3))
 (Tree.some_ Ar fun s_4 => Tree.callf 14 [tlone_13] (tlone_23 d n cap n2 cap2 p s s_1 s_2) (acloneC s_4 [3, 4] 8) fun c => Tree.some_ (Mc × Mc × Int × Int × Cd) fun s_5 => Tree.callf 10 [tlone_11 d, tlone_13, tlone_15, AV.c (CV.v (Value.int IntKind.i64 (0 : Int))), tlone_9 p s_2] [tlone_0 d, tlone_3 n cap s, tlone_3 n2 cap2 s_1, { own := true, box := true, ty := 72, sz := 2, m := 1, n := fun a => 1, cap := fun a => 1, f := fun x x_1 => [CV.sl 4 0 0 1 s_4.1 s_4.2, CV.v (Value.int IntKind.i64 s_4.4)], ov := [] }, tlone_24 s_4, tlone_20 p s_2, tlone_21 p s_2, tlone_22 p s_2, tlone_25 s_4 c, tlone_26 s_4 c] (stepC (Prod.fst s_5) (tlone_27 s_5) (Prod.fst (Prod.snd (Prod.snd s_5))) (Prod.fst (Prod.snd (Prod.snd (Prod.snd s_5)))) (Prod.snd (Prod.snd (Prod.snd (Prod.snd s_5)))) true [0, 3, 4, 5, 6, 7] 10) fun c_2 => Tree.chk (true = true → true = true)
 (Tree.chk (false = false → true = true)
 (Tree.chk (true = true → true = true)
 (Tree.chk (false = false → true = true)
 (Tree.br (bif bif !true then true else false then true else Prod.fst (Prod.snd (Prod.snd s_5)) != (0 : Int))
 (Tree.done (XV.a (AV.c (CV.v (Value.bool true)))) [tlone_28 s_5, tlone_3 n cap s, tlone_3 n2 cap2 s_1, Ent.dead, Ent.dead, Ent.dead, Ent.dead, Ent.dead, Ent.dead, Ent.dead, Ent.dead, Ent.dead, Ent.dead])
 (Tree.both
 (Tree.some_ CmpS fun s_6 => Tree.chk (XV.a (AV.c (CV.v (Value.int IntKind.i64 (1 : Int)))) = tlone_30 s_6)
 (Tree.chk (XV.a (AV.c (CV.v (Value.int IntKind.i64 (0 : Int)))) = tlone_31 s_6)
 (Tree.chk (tlone_33 = tlone_33)
 (Tree.chk (XV.a (AV.c (CV.sl 11 0 0 17 (Mc.nF (tlone_27 s_5)) (c_2 1))) = tlone_34 s_6)
 (Tree.chk (tlone_12 d = tlone_12 d)
 (Tree.chk (XV.a (AV.c (CV.v (Value.int IntKind.i64 steps))) = XV.a (AV.c (CV.v (Value.int IntKind.i64 steps))))
 (Tree.chk (XV.a (AV.c (CV.v (Value.bool false))) = XV.a (AV.c (CV.v (Value.bool false))))
 (Tree.chk (XV.a (AV.c (CV.v (Value.bool true))) = XV.a (AV.c (CV.v (Value.bool true))))
 (Tree.chk (tlone_14 = tlone_14)
 (Tree.chk (tlone_16 = tlone_16)
 (Tree.chk (tlone_10 p s_2 = tlone_10 p s_2)
 (Tree.chk (EntRel 13 tlone_35 13 (tlone_28 s_5) (tlone_0 d))
 (Tree.chk (EntRel 13 tlone_35 13 (tlone_3 n cap s) (tlone_3 n cap s))
 (Tree.chk (EntRel 13 tlone_35 13 (tlone_3 n2 cap2 s_1) (tlone_3 n2 cap2 s_1))
 (Tree.chk (EntRel 13 tlone_35 13 { own := true, box := true, ty := 72, sz := 2, m := 1, n := fun a => 1, cap := fun a => 1, f := fun x x_1 => [CV.sl 10 0 0 1 (Prod.fst (Prod.snd s_5)).1.1 (c_2 0), CV.v (Value.int IntKind.i64 (Prod.fst (Prod.snd s_5)).1.4)], ov := [] } (tlone_36 s_6))
 (Tree.chk (EntRel 13 tlone_35 13 Ent.dead Ent.dead)
 (Tree.chk (EntRel 13 tlone_35 13 { own := true, box := true, ty := 78, sz := 2, m := 1, n := fun a => 1, cap := fun a => 1, f := fun x x_1 => [CV.sl 6 0 0 4 (Prod.fst (Prod.snd s_5)).2.1 (Prod.fst (Prod.snd s_5)).2.2, CV.v (Value.int IntKind.i64 (Prod.fst (Prod.snd s_5)).2.4)], ov := [] } (tlone_37 s_6))
 (Tree.chk (EntRel 13 tlone_35 13 { own := true, box := false, ty := 59, sz := 4, m := 1, n := fun x => (Prod.fst (Prod.snd s_5)).2.1, cap := fun x => (Prod.fst (Prod.snd s_5)).2.2, f := fun x i => [CV.v (Value.bool ((Prod.fst (Prod.snd s_5)).2.3 i).1), CV.v (Value.bool ((Prod.fst (Prod.snd s_5)).2.3 i).2), CV.v (Value.bool ((Prod.fst (Prod.snd s_5)).2.3 i).3), CV.v (Value.int IntKind.i64 ((Prod.fst (Prod.snd s_5)).2.3 i).4)], ov := [] } (tlone_38 s_6))
 (Tree.chk (EntRel 13 tlone_35 13 { own := true, box := false, ty := 66, sz := 17, m := 1, n := fun x => Mc.nF (Prod.fst s_5), cap := fun x => Mc.cF (Prod.fst s_5), f := fun x i => [CV.v (Value.int IntKind.i64 (Mc.F (Prod.fst s_5) i).1), CV.v (Value.int IntKind.i64 ((Mc.F (Prod.fst s_5) i).2 0)), CV.v (Value.int IntKind.i64 ((Mc.F (Prod.fst s_5) i).2 1)), CV.v (Value.int IntKind.i64 ((Mc.F (Prod.fst s_5) i).2 2)), CV.v (Value.int IntKind.i64 ((Mc.F (Prod.fst s_5) i).2 3)), CV.v (Value.int IntKind.i64 ((Mc.F (Prod.fst s_5) i).2 4)), CV.v (Value.int IntKind.i64 ((Mc.F (Prod.fst s_5) i).2 5)), CV.v (Value.int IntKind.i64 ((Mc.F (Prod.fst s_5) i).2 6)), CV.v (Value.int IntKind.i64 ((Mc.F (Prod.fst s_5) i).2 7)), CV.v (Value.int IntKind.i64 ((Mc.F (Prod.fst s_5) i).2 8)), CV.v (Value.int IntKind.i64 ((Mc.F (Prod.fst s_5) i).2 9)), CV.v (Value.int IntKind.i64 ((Mc.F (Prod.fst s_5) i).2 10)), CV.v (Value.int IntKind.i64 ((Mc.F (Prod.fst s_5) i).2 11)), CV.v (Value.int IntKind.i64 ((Mc.F (Prod.fst s_5) i).2 12)), CV.v (Value.int IntKind.i64 ((Mc.F (Prod.fst s_5) i).2 13)), CV.v (Value.int IntKind.i64 ((Mc.F (Prod.fst s_5) i).2 14)), CV.v (Value.int IntKind.i64 ((Mc.F (Prod.fst s_5) i).2 15))], ov := [] } (tlone_39 s_6))
 (Tree.chk (EntRel 13 tlone_35 13 (tlone_25 s_4 c) (tlone_40 s_6))
 (Tree.chk (EntRel 13 tlone_35 13 (tlone_26 s_4 c) (tlone_41 s_6))
 (Tree.chk (EntRel 13 tlone_35 13 { own := true, box := false, ty := 2, sz := 1, m := 1, n := fun x => (Prod.fst (Prod.snd s_5)).1.1, cap := fun x => c_2 0, f := fun x i => [CV.v (Value.int IntKind.i64 ((Prod.fst (Prod.snd s_5)).1.3 i))], ov := [] } (tlone_42 s_6))
 (Tree.chk (EntRel 13 tlone_35 13 { own := true, box := false, ty := 66, sz := 17, m := 1, n := fun x => Mc.nF (tlone_27 s_5), cap := fun x => c_2 1, f := fun x i => [CV.v (Value.int IntKind.i64 (Mc.F (Prod.fst (Prod.snd s_5)) i).1), CV.v (Value.int IntKind.i64 ((Mc.F (Prod.fst (Prod.snd s_5)) i).2 0)), CV.v (Value.int IntKind.i64 ((Mc.F (Prod.fst (Prod.snd s_5)) i).2 1)), CV.v (Value.int IntKind.i64 ((Mc.F (Prod.fst (Prod.snd s_5)) i).2 2)), CV.v (Value.int IntKind.i64 ((Mc.F (Prod.fst (Prod.snd s_5)) i).2 3)), CV.v (Value.int IntKind.i64 ((Mc.F (Prod.fst (Prod.snd s_5)) i).2 4)), CV.v (Value.int IntKind.i64 ((Mc.F (Prod.fst (Prod.snd s_5)) i).2 5)), CV.v (Value.int IntKind.i64 ((Mc.F (Prod.fst (Prod.snd s_5)) i).2 6)), CV.v (Value.int IntKind.i64 ((Mc.F (Prod.fst (Prod.snd s_5)) i).2 7)), CV.v (Value.int IntKind.i64 ((Mc.F (Prod.fst (Prod.snd s_5)) i).2 8)), CV.v (Value.int IntKind.i64 ((Mc.F (Prod.fst (Prod.snd s_5)) i).2 9)), CV.v (Value.int IntKind.i64 ((Mc.F (Prod.fst (Prod.snd s_5)) i).2 10)), CV.v (Value.int IntKind.i64 ((Mc.F (Prod.fst (Prod.snd s_5)) i).2 11)), CV.v (Value.int IntKind.i64 ((Mc.F (Prod.fst (Prod.snd s_5)) i).2 12)), CV.v (Value.int IntKind.i64 ((Mc.F (Prod.fst (Prod.snd s_5)) i).2 13)), CV.v (Value.int IntKind.i64 ((Mc.F (Prod.fst (Prod.snd s_5)) i).2 14)), CV.v (Value.int IntKind.i64 ((Mc.F (Prod.fst (Prod.snd s_5)) i).2 15))], ov := [] } (tlone_43 s_6))
 (Tree.chk (EntRel 13 tlone_35 13 { own := true, box := false, ty := 80, sz := 2, m := 1, n := fun x => (Prod.fst (Prod.snd s_5)).8, cap := fun x => c_2 2, f := fun x i => [CV.v (Value.int IntKind.i64 (Prod.fst ((Prod.fst (Prod.snd s_5)).10 i))), CV.v (Value.int IntKind.i64 (Prod.snd ((Prod.fst (Prod.snd s_5)).10 i)))], ov := [] } (tlone_44 s_6))
 (Tree.need True)))))))))))))))))))))))))
 (Tree.every CmpS fun s_6 => Tree.some_ Ar fun s_7 => Tree.callf 11 [tlone_32] [tlone_0 d, tlone_3 n cap s, tlone_3 n2 cap2 s_1, tlone_36 s_6, Ent.dead, tlone_37 s_6, tlone_38 s_6, tlone_39 s_6, tlone_40 s_6, tlone_41 s_6, tlone_42 s_6, tlone_43 s_6, tlone_44 s_6] (lenC s_7 tlone_45) fun c => Tree.br (decide ((↑(Subtype.val s_6).1 : Int) + (1 : Int) ≤ lenF s_7))
 (Tree.some_ (Ar × Int) fun s_8 => Tree.callf 13 [tlone_32, tlone_29 s_6] [tlone_0 d, tlone_3 n cap s, tlone_3 n2 cap2 s_1, tlone_36 s_6, Ent.dead, tlone_37 s_6, tlone_38 s_6, tlone_39 s_6, { own := true, box := true, ty := 72, sz := 2, m := 1, n := fun a => 1, cap := fun a => 1, f := fun x x_1 => [CV.sl 9 0 0 1 s_7.1 s_7.2, CV.v (Value.int IntKind.i64 s_7.4)], ov := [] }, tlone_24 s_7, tlone_42 s_6, tlone_43 s_6, tlone_44 s_6] (loadC (Prod.fst s_8) ((↑(Subtype.val s_6).1 : Int) + (1 : Int)) (Prod.snd s_8) (CV.v Value.nilIface) tlone_45) fun c => Tree.some_ (Ar × Int) fun s_9 => Tree.callf 13 [tlone_13, tlone_29 s_6] [tlone_0 d, tlone_3 n cap s, tlone_3 n2 cap2 s_1, tlone_36 s_6, Ent.dead, tlone_37 s_6, tlone_38 s_6, tlone_39 s_6, tlone_46 s_8, tlone_47 s_8, tlone_42 s_6, tlone_43 s_6, tlone_44 s_6] (loadC (Prod.fst s_9) ((↑(Subtype.val s_6).1 : Int) + (1 : Int)) (Prod.snd s_9) (CV.v Value.nilIface) [3, 10]) fun c => Tree.chk (true = true → true = true)
 (Tree.chk (false = false → true = true)
 (Tree.chk (false = false)
 (Tree.br (Prod.snd s_8 != Prod.snd s_9)
 (Tree.some_ CmpS fun s' => Tree.chk ((Subtype.val s').2.1 - (Subtype.val s').1 < (Subtype.val s_6).2.1 - (Subtype.val s_6).1)
 (Tree.chk (tlone_48 s_6 = tlone_30 s')
 (Tree.chk (XV.a (AV.c (CV.v (Value.int IntKind.i64 (IntKind.wrap IntKind.i64 ((↑(diffF (Subtype.val s_6).2 (Subtype.val s_6).3.1 (Subtype.val s_6).1) : Int) + (1 : Int)))))) = tlone_31 s')
 (Tree.chk (tlone_33 = tlone_33)
 (Tree.chk (tlone_34 s_6 = tlone_34 s')
 (Tree.chk (tlone_12 d = tlone_12 d)
 (Tree.chk (XV.a (AV.c (CV.v (Value.int IntKind.i64 steps))) = XV.a (AV.c (CV.v (Value.int IntKind.i64 steps))))
 (Tree.chk (XV.a (AV.c (CV.v (Value.bool false))) = XV.a (AV.c (CV.v (Value.bool false))))
 (Tree.chk (XV.a (AV.c (CV.v (Value.bool true))) = XV.a (AV.c (CV.v (Value.bool true))))
 (Tree.chk (tlone_14 = tlone_14)
 (Tree.chk (tlone_16 = tlone_16)
 (Tree.chk (tlone_10 p s_2 = tlone_10 p s_2)
 (Tree.chk (EntRel 13 tlone_35 13 (tlone_0 d) (tlone_0 d))
 (Tree.chk (EntRel 13 tlone_35 13 (tlone_3 n cap s) (tlone_3 n cap s))
 (Tree.chk (EntRel 13 tlone_35 13 (tlone_3 n2 cap2 s_1) (tlone_3 n2 cap2 s_1))
 (Tree.chk (EntRel 13 tlone_35 13 (tlone_49 s_9) (tlone_36 s'))
 (Tree.chk (EntRel 13 tlone_35 13 Ent.dead Ent.dead)
 (Tree.chk (EntRel 13 tlone_35 13 (tlone_37 s_6) (tlone_37 s'))
 (Tree.chk (EntRel 13 tlone_35 13 (tlone_38 s_6) (tlone_38 s'))
 (Tree.chk (EntRel 13 tlone_35 13 (tlone_39 s_6) (tlone_39 s'))
 (Tree.chk (EntRel 13 tlone_35 13 (tlone_46 s_8) (tlone_40 s'))
 (Tree.chk (EntRel 13 tlone_35 13 (tlone_47 s_8) (tlone_41 s'))
 (Tree.chk (EntRel 13 tlone_35 13 (tlone_47 s_9) (tlone_42 s'))
 (Tree.chk (EntRel 13 tlone_35 13 (tlone_43 s_6) (tlone_43 s'))
 (Tree.chk (EntRel 13 tlone_35 13 (tlone_44 s_6) (tlone_44 s'))
 (Tree.need True))))))))))))))))))))))))))
 (Tree.some_ CmpS fun s' => Tree.chk ((Subtype.val s').2.1 - (Subtype.val s').1 < (Subtype.val s_6).2.1 - (Subtype.val s_6).1)
 (Tree.chk (tlone_48 s_6 = tlone_30 s')
 (Tree.chk (tlone_31 s_6 = tlone_31 s')
 (Tree.chk (tlone_33 = tlone_33)
 (Tree.chk (tlone_34 s_6 = tlone_34 s')
 (Tree.chk (tlone_12 d = tlone_12 d)
 (Tree.chk (XV.a (AV.c (CV.v (Value.int IntKind.i64 steps))) = XV.a (AV.c (CV.v (Value.int IntKind.i64 steps))))
 (Tree.chk (XV.a (AV.c (CV.v (Value.bool false))) = XV.a (AV.c (CV.v (Value.bool false))))
 (Tree.chk (XV.a (AV.c (CV.v (Value.bool true))) = XV.a (AV.c (CV.v (Value.bool true))))
 (Tree.chk (tlone_14 = tlone_14)
 (Tree.chk (tlone_16 = tlone_16)
 (Tree.chk (tlone_10 p s_2 = tlone_10 p s_2)
 (Tree.chk (EntRel 13 tlone_35 13 (tlone_0 d) (tlone_0 d))
 (Tree.chk (EntRel 13 tlone_35 13 (tlone_3 n cap s) (tlone_3 n cap s))
 (Tree.chk (EntRel 13 tlone_35 13 (tlone_3 n2 cap2 s_1) (tlone_3 n2 cap2 s_1))
 (Tree.chk (EntRel 13 tlone_35 13 (tlone_49 s_9) (tlone_36 s'))
 (Tree.chk (EntRel 13 tlone_35 13 Ent.dead Ent.dead)
 (Tree.chk (EntRel 13 tlone_35 13 (tlone_37 s_6) (tlone_37 s'))
 (Tree.chk (EntRel 13 tlone_35 13 (tlone_38 s_6) (tlone_38 s'))
 (Tree.chk (EntRel 13 tlone_35 13 (tlone_39 s_6) (tlone_39 s'))
 (Tree.chk (EntRel 13 tlone_35 13 (tlone_46 s_8) (tlone_40 s'))
 (Tree.chk (EntRel 13 tlone_35 13 (tlone_47 s_8) (tlone_41 s'))
 (Tree.chk (EntRel 13 tlone_35 13 (tlone_47 s_9) (tlone_42 s'))
 (Tree.chk (EntRel 13 tlone_35 13 (tlone_43 s_6) (tlone_43 s'))
 (Tree.chk (EntRel 13 tlone_35 13 (tlone_44 s_6) (tlone_44 s'))
 (Tree.need True))))))))))))))))))))))))))))))
 (Tree.br (decide ((↑(diffF (Subtype.val s_6).2 (Subtype.val s_6).3.1 (Subtype.val s_6).1) : Int) > (1 : Int)))
 (Tree.done (XV.a (AV.c (CV.v (Value.bool false)))) [tlone_0 d, tlone_3 n cap s, tlone_3 n2 cap2 s_1, Ent.dead, Ent.dead, Ent.dead, Ent.dead, Ent.dead, Ent.dead, Ent.dead, Ent.dead, Ent.dead, Ent.dead])
 (Tree.some_ (OneS p) fun s' => Tree.chk (Int.toNat (p - (↑(Prod.fst (Subtype.val s')) : Int)) < Int.toNat (p - (↑(Prod.fst (Subtype.val s_2)) : Int)))
 (Tree.chk (tlone_34 s_6 = XV.a (AV.c (CV.sl 11 0 0 17 (Mc.nF (tlone_8 p s')) (Mc.cF (tlone_8 p s')))))
 (Tree.chk (XV.a (AV.c (CV.v (Value.int IntKind.i64 (IntKind.wrap IntKind.i64 ((↑(Prod.fst (Subtype.val s_2)) : Int) + (1 : Int)))))) = tlone_10 p s')
 (Tree.chk (tlone_12 d = tlone_12 d)
 (Tree.chk (XV.a (AV.c (CV.v (Value.int IntKind.i64 steps))) = XV.a (AV.c (CV.v (Value.int IntKind.i64 steps))))
 (Tree.chk (XV.a (AV.c (CV.v (Value.bool false))) = XV.a (AV.c (CV.v (Value.bool false))))
 (Tree.chk (XV.a (AV.c (CV.v (Value.bool true))) = XV.a (AV.c (CV.v (Value.bool true))))
 (Tree.chk (tlone_14 = tlone_14)
 (Tree.chk (tlone_16 = tlone_16)
 (Tree.chk (EntRel 13 tlone_50 8 (tlone_0 d) (tlone_0 d))
 (Tree.chk (EntRel 13 tlone_50 8 (tlone_3 n cap s) (tlone_3 n cap s))
 (Tree.chk (EntRel 13 tlone_50 8 (tlone_3 n2 cap2 s_1) (tlone_3 n2 cap2 s_1))
 (Tree.chk (EntRel 13 tlone_50 8 (tlone_36 s_6) (tlone_18 p s'))
 (Tree.chk (EntRel 13 tlone_50 8 (tlone_42 s_6) (tlone_19 p s'))
 (Tree.chk (EntRel 13 tlone_50 8 (tlone_37 s_6) (tlone_20 p s'))
 (Tree.chk (EntRel 13 tlone_50 8 (tlone_38 s_6) (tlone_21 p s'))
 (Tree.chk (EntRel 13 tlone_50 8 (tlone_43 s_6) (tlone_22 p s'))
 (Tree.need True))))))))))))))))))))))))))
 (Tree.done (XV.a (AV.c (CV.v (Value.bool true)))) [tlone_0 d, tlone_3 n cap s, tlone_3 n2 cap2 s_1, Ent.dead, Ent.dead, Ent.dead, Ent.dead, Ent.dead]))))))))))
theorem tlone_eq (d : Cd) (n cap : Nat) (z : Nat → Int) (at_ : Int) (n2 cap2 : Nat) (y : Nat → Int) (steps p : Int) : prune (.cs 7 (.n .k (.cs 2 (.r (.cs 2 (.n .k (.cs 3 (.n (.cs 8 (.n .k (.n .k (.cs 3 (.n (.cs 6 (.r .k)) .k))))) .k)))))))) (xfunc tab onlG (onlI d p) Go.Proofs.Try.f5 (onArgs d n cap at_ n2 cap2 steps) (agH d n cap z n2 cap2 y) [0, 1, 2]) = tlone d n cap z at_ n2 cap2 y steps p := by kernel_rfl
end Go.Proofs.Ytehecaipmdfjmaa.X.Mi

set_option linter.unusedVariables false
set_option linter.unusedSimpArgs false
namespace Go.Proofs.Ytehecaipmdfjmaa.X.Mi
open Go Go.RowKit Go.Proofs.YtehecaipmdfjmaaW.PrintWords Go.Proofs.Ytehecaipmdfjmaa.Base Go.Proofs.Ytehecaipmdfjmaa.X
def Old (b : Bool) (a a' : Ar) : Prop := ∃ q, ∀ i, i < a.n → (b = true → i ≠ q) → a'.C i = a.C i
theorem Old.refl {b : Bool} {a : Ar} : Old b a a := ⟨0, fun _ _ _ => rfl⟩
theorem Old.weak {a a' : Ar} (h : Old false a a') : Old true a a' := h.imp fun q hq i hi _ => hq i hi (fun h => by cases h)
theorem old_set {a : Ar} (k : Nat) (v : Int) : Old true a (a.set k v) := ⟨k, fun i _ h => if_neg (h rfl)⟩
theorem old_swap {a : Ar} (x y z : Int) : Old true a (swapF a x y z) := by
  unfold swapF
  cases (a.C x.toNat == y)
  · exact Old.refl
  · exact old_set _ _
theorem old_more {a : Ar} (n : Nat) : Old false a (a.more n) := ⟨0, fun i hi _ => if_pos hi⟩
theorem accF_old (m : Mc) (x : In) (q : Nat) : Old true m.ar (accF m x q).1.ar := by
  unfold accF
  cases hereF m.ar (accAt m x q); (case false => (exact Old.refl))
  cases (x.op == 5); (case true => (exact Old.refl))
  cases (x.op == 6); (case true => (exact old_set _ _))
  exact old_swap _ _ _
theorem plainF_old (m : Mc) (x : In) (q : Nat) : Old false m.ar (plainF m x q).1.ar := by
  unfold plainF
  cases (x.op == 1); (case true => (exact Old.refl))
  cases (x.op == 2); (case true => (exact Old.refl))
  cases (x.op == 3); (case true => (exact Old.refl))
  cases (x.op == 4); (case true => (exact Old.refl))
  cases (x.op == 15); (case true => (cases (bif decide (m.reg q x.a ≥ 0) then decide (m.reg q x.a < 8) else false); (case false => (exact Old.refl)); (case true => (cases hasF m.tb (m.reg q x.a) <;> exact Old.refl))))
  cases (x.op == 16); (case true => (cases decide (posF x.n < 1); (case true => (exact Old.refl)); (case false => (cases fullF m.ar (posF x.n); (case true => (exact Old.refl)); (case false => (exact old_more _))))))
  cases (x.op == 17); (case true => (exact Old.refl))
  cases (x.op == 18); (case true => (exact Old.refl))
  cases (x.op == 19); (case true => (cases hasF m.tb m.i <;> exact Old.refl))
  cases (x.op == 20); (case true => (cases hasF m.tb m.i <;> exact Old.refl))
  cases (x.op == 21) <;> exact Old.refl
theorem framesF_old (m : Mc) (x : In) : (framesF m x).1.ar = m.ar := by
  unfold framesF
  cases (x.op == 12)
  · cases ((m.nF : Int) == 1) <;> rfl
  · cases decide ((m.nF : Int) ≥ 16) <;> rfl
theorem oneF_old (m : Mc) (x : In) : Old (accessF x) m.ar (oneF m x).1.ar := by
  unfold oneF
  cases accessF x with
  | true =>
    cases (accF m x (topF m)).2 <;> exact accF_old m x (topF m)
  | false =>
    simp only [cond_false]
    cases jmpF x; (case true => (cases jumpsF (m.F (topF m)) x <;> exact Old.refl))
    cases frmF x; (case true => (cases (framesF m x).2 <;> exact (framesF_old m x).symm ▸ Old.refl))
    cases (x.op == 22); (case true => (exact Old.refl))
    cases (x.op == 14); (case true => (cases hasF m.tb m.i; (case false => (exact Old.refl)); (case true => (cases mayPF m.tb m.i (m.reg (topF m) x.a); (case false => (exact Old.refl)); (case true => (cases waitF m.tb m.i (m.reg (topF m) x.a) <;> exact Old.refl))))))
    cases (plainF m x (topF m)).2 <;> exact plainF_old m x (topF m)
theorem stepF_old (d : Cd) : ∀ (g n : Nat) (m : Mc), 1 ≤ m.nF → m.nF ≤ 16 → m.ar.Ok → Old (n == 0) m.ar (stepF d g n m).1.ar
  | 0, n, m, h1, h2, ha => Old.refl
  | g + 1, n, m, h1, h2, ha => by
    have K := oneF_keeps m (codeF m d) h1 h2 ha
    have O := oneF_old m (codeF m d)
    unfold stepF
    cases stopF m d n; (case true => (exact Old.refl))
    simp only [cond_false]
    cases hacc : (bif decide ((n : Int) > 0) then accessF (codeF m d) else false); (case true => (exact Old.refl))
    have O' : Old (n == 0) m.ar (oneF m (codeF m d)).1.ar := by
      cases n with
      | zero =>
        cases h : accessF (codeF m d) with
        | true => rw [h] at O; exact O
        | false => rw [h] at O; exact O.weak
      | succ n =>
        have e : decide (((n + 1 : Nat) : Int) > 0) = true := decide_eq_true (by omega)
        rw [e, cond_true] at hacc
        rw [hacc] at O
        exact O
    cases ((oneF m (codeF m d)).2 == 0) with
    | false => exact O'
    | true =>
      simp only [cond_true]
      obtain ⟨q, hq⟩ := O'
      obtain ⟨q', hq'⟩ := stepF_old d g (n + 1) (oneF m (codeF m d)).1 K.n1 K.n2 K.ar
      exact ⟨q, fun i hi hne => (hq' i (Nat.lt_of_lt_of_le hi K.an) (fun h => by cases h)).trans (hq i hi hne)⟩
theorem runF_old (d : Cd) (m : Mc) (h1 : 1 ≤ m.nF) (h2 : m.nF ≤ 16) (ha : m.ar.Ok) : Old true m.ar (runF d m).1.ar := stepF_old d (201 - 0) 0 (startM m 0) h1 h2 ha
theorem diff_one {a b : Ar} (h : Old true a b) : ∀ k, k < a.n → diffF a b k ≤ 1 := by
  obtain ⟨q, hq⟩ := h
  have key : ∀ k, k < a.n → diffF a b k ≤ (if q ≤ k then 1 else 0) := by
    intro k
    induction k with
    | zero => intro _; show 0 ≤ _; exact Nat.zero_le _
    | succ k ih =>
      intro hk
      have ih := ih (by omega)
      show diffF a b k + (bif a.C (k + 1) != b.C (k + 1) then 1 else 0) ≤ _
      by_cases h : k + 1 = q
      · have e1 : ¬ q ≤ k := by omega
        have e2 : q ≤ k + 1 := by omega
        rw [if_neg e1] at ih
        rw [if_pos e2]
        cases (a.C (k + 1) != b.C (k + 1)) <;> simp <;> omega
      · have e : (a.C (k + 1) != b.C (k + 1)) = false := by rw [hq (k + 1) hk fun _ => h]; simp
        rw [e, cond_false]
        by_cases h2 : q ≤ k
        · rw [if_pos h2] at ih; rw [if_pos (by omega)]; omega
        · rw [if_neg h2] at ih; omega
  intro k hk
  have := key k hk
  by_cases h2 : q ≤ k
  · rw [if_pos h2] at this; exact this
  · rw [if_neg h2] at this; omega
def Free (m : Mc) : Prop := (m.tb.P m.i.toNat).b = false
theorem upd_free {t : Tb} {i j : Nat} {g : Pk → Pk} (h : (t.P i).b = false) (hg : ∀ p, p.b = false → (g p).b = false) : ((t.upd j g).P i).b = false := by
  show (if i = j then g (t.P i) else t.P i).b = false
  by_cases e : i = j
  · rw [if_pos e]; exact hg _ h
  · rw [if_neg e]; exact h
theorem plainF_free (m : Mc) (x : In) (q : Nat) (h : Free m) : Free (plainF m x q).1 := by
  unfold plainF
  cases (x.op == 1); (case true => (exact h))
  cases (x.op == 2); (case true => (exact h))
  cases (x.op == 3); (case true => (exact h))
  cases (x.op == 4); (case true => (exact h))
  cases (x.op == 15); (case true => (cases (bif decide (m.reg q x.a ≥ 0) then decide (m.reg q x.a < 8) else false); (case false => (exact h)); (case true => (cases hasF m.tb (m.reg q x.a); (case false => (exact h)); (case true => (exact upd_free h fun _ _ => rfl))))))
  cases (x.op == 16); (case true => (cases decide (posF x.n < 1); (case true => (exact h)); (case false => (cases fullF m.ar (posF x.n) <;> exact h))))
  cases (x.op == 17); (case true => (exact h))
  cases (x.op == 18); (case true => (exact h))
  cases (x.op == 19); (case true => (cases hasF m.tb m.i; (case false => (exact h)); (case true => (exact upd_free (t := m.tb) h fun _ hp => hp))))
  cases (x.op == 20); (case true => (cases hasF m.tb m.i; (case false => (exact h)); (case true => (exact upd_free h fun _ _ => rfl))))
  cases (x.op == 21) <;> exact h
theorem oneF_free (m : Mc) (x : In) (h : Free m) : (oneF m x).2 ≠ 1 → Free (oneF m x).1 := by
  unfold oneF
  cases accessF x with
  | true =>
    have e : (accF m x (topF m)).1.tb = m.tb ∧ (accF m x (topF m)).1.i = m.i := by
      unfold accF
      cases hereF m.ar (accAt m x (topF m)); (case false => (exact ⟨rfl, rfl⟩))
      cases (x.op == 5); (case true => (exact ⟨rfl, rfl⟩))
      cases (x.op == 6) <;> exact ⟨rfl, rfl⟩
    have e2 : Free (accF m x (topF m)).1 := by unfold Free; rw [e.1, e.2]; exact h
    cases (accF m x (topF m)).2 <;> exact fun _ => e2
  | false =>
    simp only [cond_false]
    cases jmpF x; (case true => (cases jumpsF (m.F (topF m)) x <;> exact fun _ => h))
    cases frmF x with
    | true =>
      have e : (framesF m x).1.tb = m.tb ∧ (framesF m x).1.i = m.i := by
        unfold framesF
        cases (x.op == 12)
        · cases ((m.nF : Int) == 1) <;> exact ⟨rfl, rfl⟩
        · cases decide ((m.nF : Int) ≥ 16) <;> exact ⟨rfl, rfl⟩
      have e2 : Free (framesF m x).1 := by unfold Free; rw [e.1, e.2]; exact h
      cases (framesF m x).2 <;> exact fun _ => e2
    | false =>
      simp only [cond_false]
      cases (x.op == 22); (case true => (exact fun _ => h))
      cases (x.op == 14) with
      | true =>
        cases hasF m.tb m.i; (case false => (exact fun _ => h))
        cases mayPF m.tb m.i (m.reg (topF m) x.a); (case false => (exact fun _ => h))
        cases hw : waitF m.tb m.i (m.reg (topF m) x.a) with
        | true => exact fun h => absurd rfl h
        | false =>
          intro _
          show ((parkF m.tb m.i (m.reg (topF m) x.a)).P m.i.toNat).b = false
          unfold parkF
          rw [hw]
          cases (m.tb.P m.i.toNat).p
          · exact h
          · show ((m.tb.upd m.i.toNat fun p => { p with p := false }).P m.i.toNat).b = false
            exact upd_free h fun _ hp => hp
      | false =>
        have := plainF_free m x (topF m) h
        simp only [cond_false]
        cases (plainF m x (topF m)).2 <;> exact fun _ => this
theorem stepF_free (d : Cd) : ∀ (g n : Nat) (m : Mc), Free m → (stepF d g n m).2.1 = 0 → Free (stepF d g n m).1
  | 0, n, m, h => fun _ => h
  | g + 1, n, m, h => by
    have O := oneF_free m (codeF m d) h
    unfold stepF
    cases stopF m d n; (case true => (exact fun _ => h))
    simp only [cond_false]
    cases (bif decide ((n : Int) > 0) then accessF (codeF m d) else false); (case true => (exact fun _ => h))
    simp only [cond_false]
    cases hh : ((oneF m (codeF m d)).2 == 0) with
    | false =>
      intro h0
      refine O fun h1 => ?_
      rw [h1] at h0
      cases h0
    | true =>
      simp only [cond_true]
      exact stepF_free d g (n + 1) _ (O (by have : (oneF m (codeF m d)).2 = 0 := (by simpa using hh); rw [this]; decide))
theorem one_next {d : Cd} {m R : Mc} {v : Int} (h : OneOk m) (hr : runF d m = (R, 0, v)) (a b : Nat) (c : Nat → Nat) : CmpOk ⟨0, { m.ar with cap := b }, R.caps (c 0) (c 1) (c 2), m⟩ := by
  obtain ⟨h1, h2, h3, h4, h5, h6, h7, h8⟩ := h
  have K := runF_kept d m h2 h3 h1
  have O := runF_old d m h2 h3 h1
  have h8' := h8
  unfold canF at h8'
  have e1 : (bif (m.nF : Int) == 0 then true else decide ((m.nF : Int) > 16)) = false := by
    have a : ((m.nF : Int) == 0) = false := by simp; omega
    rw [a]; simp; omega
  rw [e1, cond_false] at h8'
  have hh : hasF m.tb m.i = true := by cases e : hasF m.tb m.i with | true => rfl | false => rw [e] at h8'; cases h8'
  have hf : (m.tb.P m.i.toNat).b = false := by rw [hh, cond_true] at h8'; simpa using h8'
  have F := stepF_free d (201 - 0) 0 (startM m 0) hf
  have F : (runF d m).2.1 = 0 → Free (runF d m).1 := F
  rw [hr] at K O F
  have F := F rfl
  have hi := K.i; have ht := K.tn; have hn1 : 1 ≤ R.nF := K.n1; have hn2 : R.nF ≤ 16 := K.n2
  refine ⟨?_, ⟨h1.n1, h1.m0, h1.m1, h1.nm⟩, K.an, ⟨K.ar.n1, K.ar.m0, K.ar.m1, K.ar.nm⟩, ⟨⟨K.ar.n1, K.ar.m0, K.ar.m1, K.ar.nm⟩, hn1, hn2, rfl, rfl, rfl, rfl, ?_⟩, ?_⟩
  · have := h1.n1; show 0 + 1 ≤ m.ar.n; omega
  · show (bif (bif (R.nF : Int) == 0 then true else decide ((R.nF : Int) > 16)) then false else bif hasF R.tb 0 then !(R.tb.P (0 : Int).toNat).b else false) = true
    have e2 : (bif (R.nF : Int) == 0 then true else decide ((R.nF : Int) > 16)) = false := by
      have a : ((R.nF : Int) == 0) = false := by simp; omega
      rw [a]; simp; omega
    have e3 : hasF R.tb 0 = true := by
      unfold hasF at hh ⊢
      rw [ht]
      rw [h4] at hh
      exact hh
    have e4 : (R.tb.P (0 : Int).toNat).b = false := by
      unfold Free at F
      have hi : R.i = 0 := hi.trans h4
      rw [hi] at F
      exact F
    rw [e2, cond_false, e3, cond_true, e4]
    rfl
  · exact diff_one (a := { m.ar with cap := b }) O
abbrev oneLC (d : Cd) (n cap : Nat) (z : Nat → Int) (at_ : Int) (n2 cap2 : Nat) (y : Nat → Int) (steps : Int) : CallSpec := mSpec [] 0 (onArgs d n cap at_ n2 cap2 steps) (agH d n cap z n2 cap2 y) (fun _ => True) (fun _ => bool true) fun _ => agH d n cap z n2 cap2 y
def mO (n : Nat) (z : Nat → Int) (at_ : Int) (k : Nat) (y : Nat → Int) (a : Nat) : Mc := ⟨madeF n n a z, newT 1, 0, 0, 1, 1, fun _ => startF at_ k y, 0, 0, fun _ => (0, 0)⟩
theorem mO_ok {n : Nat} {z : Nat → Int} {at_ : Int} {k : Nat} {y : Nat → Int} {a : Nat} (h : n ≤ 100) : OneOk (mO n z at_ k y a) := ⟨madeF_ok h, Nat.le_refl 1, by show 1 ≤ 16; decide, rfl, rfl, rfl, rfl, rfl⟩
set_option maxHeartbeats 4000000 in
theorem one_law_local (d : Cd) (n cap : Nat) (z : Nat → Int) (at_ : Int) (n2 cap2 : Nat) (y : Nat → Int) (steps : Int) (hst : -9223372036854775808 ≤ steps ∧ steps ≤ 9223372036854775807) : (oneLC d n cap z at_ n2 cap2 y steps).Local Try.prog 5 := by
  obtain ⟨p1, p2⟩ := pickF_in hst.1 hst.2 (n := 30) (by decide)
  refine local_ofP Try.func5 rfl (tlone_eq d n cap z at_ n2 cap2 y steps (pickF steps 30)) fun ν W => ?_
  refine ok_callf' up_call (fits_of rfl rfl trivial fun c _ => ⟨⟨Nat.le_refl _, rfl⟩, ⟨rfl, rfl⟩, trivial⟩) (up_local _) fun c0 _ => ?_
  repeat refine ok_chk' (by first | exact fun h => h | rfl | exact fun h => absurd h (by decide) | exact fun _ => rfl | (exact fun h => by rw [h]; rfl) | exact EntRel.rw rfl rfl (fun _ _ => rfl) fun _ _ => rfl | exact EntRel.box' rfl rfl rfl rfl rfl | exact EntRel.dead) ?_
  refine ok_br' (fun _ => by exact ok_leaf (fun _ => 0) [] [0, 1, 2] trivial rfl ⟨⟨_, rfl, EntRel.rw rfl rfl (fun _ _ => rfl) fun _ _ => rfl⟩, ⟨_, rfl, EntRel.rw rfl rfl (fun _ _ => rfl) fun _ _ => rfl⟩, ⟨_, rfl, EntRel.rw rfl rfl (fun _ _ => rfl) fun _ _ => rfl⟩, trivial⟩ rfl) fun hlen => ok_some' (z, false) ?_
  obtain ⟨hd, hn, hn2⟩ : d.n ≤ 1024 ∧ n ≤ 100 ∧ n2 ≤ 40 := by
    simp at hlen
    omega
  refine ok_callf' made_call (fits_of rfl rfl ⟨⟨_, rfl, EntRel.rw rfl rfl (fun _ _ => rfl) fun _ _ => rfl⟩, trivial⟩ fun c _ => ⟨⟨(by show 1 ≤ 5; decide), rfl⟩, ⟨rfl, rfl⟩, ⟨⟨EntRel.rw rfl rfl (fun _ _ => rfl) fun _ _ => rfl, rfl, (fun h => by cases h), .inr rfl⟩, ⟨EntRel.box' rfl rfl rfl rfl rfl, rfl, (fun _ => ⟨rfl, rfl⟩), .inr rfl⟩, ⟨EntRel.rw rfl rfl (fun _ _ => rfl) fun _ _ => rfl, rfl, (fun h => by cases h), .inr rfl⟩, ⟨EntRel.box' rfl rfl rfl rfl rfl, rfl, (fun _ => ⟨rfl, rfl⟩), .inr rfl⟩, ⟨EntRel.rw rfl rfl (fun _ _ => rfl) fun _ _ => rfl, rfl, (fun h => by cases h), .inr rfl⟩, trivial⟩⟩) (made_local false n cap 1 z _ _ hn (by decide) (by decide)) fun c1 _ => ?_
  repeat refine ok_chk' (by first | exact fun h => h | rfl | exact fun h => absurd h (by decide) | exact fun _ => rfl | (exact fun h => by rw [h]; rfl) | exact EntRel.rw rfl rfl (fun _ _ => rfl) fun _ _ => rfl | exact EntRel.box' rfl rfl rfl rfl rfl | exact EntRel.dead) ?_
  refine ok_some' (y, false) (ok_callf' start_call (fits_of rfl rfl ⟨⟨_, rfl, EntRel.rw rfl rfl (fun _ _ => rfl) fun _ _ => rfl⟩, trivial⟩ fun c _ => ⟨⟨(by show 1 ≤ 2; decide), rfl⟩, ⟨rfl, rfl⟩, ⟨⟨EntRel.rw rfl rfl (fun _ _ => rfl) fun _ _ => rfl, rfl, (fun h => by cases h), .inr rfl⟩, ⟨EntRel.rw rfl rfl (fun _ _ => rfl) fun _ _ => rfl, rfl, (fun h => by cases h), .inr rfl⟩, trivial⟩⟩) (start_local at_ false n2 cap2 y _ _) fun c2 _ => ok_both' (ok_some' ⟨(0, mO n z at_ n2 y (c1 0)), mO_ok hn, p1⟩ ?_) (ok_every' fun s => ?_))
  · repeat refine ok_chk' (by first | exact fun h => h | rfl | exact fun h => absurd h (by decide) | exact fun _ => rfl | (exact fun h => by rw [h]; rfl) | exact EntRel.rw rfl rfl (fun _ _ => rfl) fun _ _ => rfl | exact EntRel.box' rfl rfl rfl rfl rfl | exact EntRel.dead) ?_
    trivial
  obtain ⟨⟨k, ⟨ar, tb, i, v, nF, cF, F, nN, cN, N⟩⟩, hok, hk⟩ := s
  obtain ⟨o1, o2, o3, o4, o5, o6, o7, o8⟩ := id hok
  have o4 : i = 0 := o4
  have o5 : v = 0 := o5
  have o6 : nN = 0 := o6
  have o7 : cN = 0 := o7
  subst o4 o5 o6 o7
  refine ok_some' (pickF steps 30) (ok_callf' pick_call (fits_of rfl rfl trivial fun c _ => ⟨⟨Nat.le_refl _, rfl⟩, ⟨rfl, rfl⟩, trivial⟩) (pick30_local steps) fun _ _ => ok_br' (fun hlt => ?_) fun _ => by exact ok_leaf (fun _ => 0) [] [0, 1, 2] trivial rfl ⟨⟨_, rfl, EntRel.rw rfl rfl (fun _ _ => rfl) fun _ _ => rfl⟩, ⟨_, rfl, EntRel.rw rfl rfl (fun _ _ => rfl) fun _ _ => rfl⟩, ⟨_, rfl, EntRel.rw rfl rfl (fun _ _ => rfl) fun _ _ => rfl⟩, trivial⟩ rfl)
  have hlt : (k : Int) < pickF steps 30 := by simpa using hlt
  have hn4 : ar.n ≤ 1000000 := by have h1 : (ar.n : Int) ≤ ar.most + 1 := o1.nm; have h2 : ar.most ≤ 4096 := o1.m1; omega
  refine ok_some' ar (ok_callf' aclone_call (fits_of rfl rfl ⟨⟨_, rfl, EntRel.box' rfl rfl rfl rfl rfl⟩, ⟨_, rfl, EntRel.rw rfl rfl (fun _ _ => rfl) fun _ _ => rfl⟩, trivial⟩ fun c _ => ⟨⟨(by show 2 ≤ 4; decide), rfl⟩, ⟨rfl, rfl⟩, ⟨⟨EntRel.box' rfl rfl rfl rfl rfl, rfl, (fun _ => ⟨rfl, rfl⟩), .inr rfl⟩, ⟨EntRel.rw rfl rfl (fun _ _ => rfl) fun _ _ => rfl, rfl, (fun h => by cases h), .inr rfl⟩, ⟨EntRel.box' rfl rfl rfl rfl rfl, rfl, (fun _ => ⟨rfl, rfl⟩), .inr rfl⟩, ⟨EntRel.rw rfl rfl (fun _ _ => rfl) fun _ _ => rfl, rfl, (fun h => by cases h), .inr rfl⟩, trivial⟩⟩) (aclone_local _ (newT 2) _ _ hn4) fun c3 _ => ?_)
  obtain ⟨R, how, u, hr⟩ : ∃ R how u, runF d ⟨ar, tb, 0, 0, nF, cF, F, 0, 0, N⟩ = (R, how, u) := ⟨_, _, _, rfl⟩
  refine ok_some' (⟨ar, tb, 0, 0, nF, cF, F, 0, 0, N⟩, R, how, u, d) (ok_callf' step_call (fits_of rfl rfl ⟨⟨_, rfl, EntRel.rw rfl rfl (fun _ _ => rfl) fun _ _ => rfl⟩, ⟨_, rfl, EntRel.box' rfl rfl rfl rfl rfl⟩, ⟨_, rfl, EntRel.rw rfl rfl (fun _ _ => rfl) fun _ _ => rfl⟩, ⟨_, rfl, EntRel.box' rfl rfl rfl rfl rfl⟩, ⟨_, rfl, EntRel.rw rfl rfl (fun _ _ => rfl) fun _ _ => rfl⟩, ⟨_, rfl, EntRel.rw rfl rfl (fun _ _ => rfl) fun _ _ => rfl⟩, trivial⟩ fun c _ => ⟨⟨(by show 6 ≤ 9; decide), rfl⟩, ⟨rfl, rfl⟩, ⟨⟨EntRel.rw rfl rfl (fun _ _ => rfl) fun _ _ => rfl, rfl, (fun h => by cases h), .inr rfl⟩, ⟨EntRel.box' rfl rfl rfl rfl rfl, rfl, (fun _ => ⟨rfl, rfl⟩), .inr rfl⟩, ⟨EntRel.dead, rfl, (fun h => by cases h), .inr rfl⟩, ⟨EntRel.box' rfl rfl rfl rfl rfl, rfl, (fun _ => ⟨rfl, rfl⟩), .inr rfl⟩, ⟨EntRel.rw rfl rfl (fun _ _ => rfl) fun _ _ => rfl, rfl, (fun h => by cases h), .inr rfl⟩, ⟨EntRel.rw rfl rfl (fun _ _ => rfl) fun _ _ => rfl, rfl, (fun h => by cases h), .inr rfl⟩, ⟨EntRel.rw rfl rfl (fun _ _ => rfl) fun _ _ => rfl, rfl, (fun h => by cases h), .inr rfl⟩, ⟨EntRel.rw rfl rfl (fun _ _ => rfl) fun _ _ => rfl, rfl, (fun h => by cases h), .inr rfl⟩, ⟨EntRel.rw rfl rfl (fun _ _ => rfl) fun _ _ => rfl, rfl, (fun h => by cases h), .inr rfl⟩, trivial⟩⟩) (step_local may_local _ _ _ _ _ _ _ _ o1 o8 hr) fun c4 hc4 => ?_)
  repeat refine ok_chk' (by first | exact fun h => h | rfl | exact fun h => absurd h (by decide) | exact fun _ => rfl | (exact fun h => by rw [h]; rfl) | exact EntRel.rw rfl rfl (fun _ _ => rfl) fun _ _ => rfl | exact EntRel.box' rfl rfl rfl rfl rfl | exact EntRel.dead) ?_
  refine ok_br' (fun _ => by exact ok_leaf (fun _ => 0) [] [0, 1, 2] trivial rfl ⟨⟨_, rfl, EntRel.rw rfl rfl (fun _ _ => rfl) fun _ _ => rfl⟩, ⟨_, rfl, EntRel.rw rfl rfl (fun _ _ => rfl) fun _ _ => rfl⟩, ⟨_, rfl, EntRel.rw rfl rfl (fun _ _ => rfl) fun _ _ => rfl⟩, trivial⟩ rfl) fun hh => ?_
  have hh : how = 0 := by simpa using hh
  subst hh
  refine ok_both' (ok_some' ⟨_, one_next hok hr 0 (c3 0) c4⟩ ?_) (ok_every' fun x => ?_)
  · repeat refine ok_chk' (by first | exact fun h => h | rfl | exact fun h => absurd h (by decide) | exact fun _ => rfl | (exact fun h => by rw [h]; rfl) | exact EntRel.rw rfl rfl (fun _ _ => rfl) fun _ _ => rfl | exact EntRel.box' rfl rfl rfl rfl rfl | exact EntRel.dead) ?_
    trivial
  obtain ⟨⟨j, b, m, m0⟩, x1, x2, x3, x4, x5, x6⟩ := x
  have x1 : j + 1 ≤ b.n := x1
  have x3 : b.n ≤ m.ar.n := x3
  have hb4 : b.n ≤ 4097 := by have h1 : (b.n : Int) ≤ b.most + 1 := x2.nm; have h2 : b.most ≤ 4096 := x2.m1; omega
  have hl : lenF b = (b.n : Int) - 1 := lenF_eq x2
  refine ok_some' b (ok_callf' len_call (fits_of rfl rfl ⟨⟨_, rfl, EntRel.box' rfl rfl rfl rfl rfl⟩, ⟨_, rfl, EntRel.rw rfl rfl (fun _ _ => rfl) fun _ _ => rfl⟩, trivial⟩ fun c _ => ⟨⟨Nat.le_refl _, rfl⟩, ⟨rfl, rfl⟩, ⟨⟨EntRel.box' rfl rfl rfl rfl rfl, rfl, (fun _ => ⟨rfl, rfl⟩), .inr rfl⟩, ⟨EntRel.rw rfl rfl (fun _ _ => rfl) fun _ _ => rfl, rfl, (fun h => by cases h), .inr rfl⟩, trivial⟩⟩) (len_local _ _) fun c5 _ => ok_br' (fun hj => ?_) fun hj => ?_)
  · have hj : (j : Int) + 1 ≤ lenF b := by simpa using hj
    rw [hl] at hj
    have e1 : ((j : Int) + 1).toNat = j + 1 := by omega
    have b1 : hereF b ((j : Int) + 1) = true := by
      unfold hereF
      rw [show decide ((j : Int) + 1 ≥ 1) = true by simp; omega, cond_true]
      simp; omega
    have b2 : hereF m.ar ((j : Int) + 1) = true := by
      unfold hereF
      rw [show decide ((j : Int) + 1 ≥ 1) = true by simp; omega, cond_true]
      simp; omega
    have w1 : IntKind.wrap .i64 ((j : Int) + 1 + 1) = ((j + 1 : Nat) : Int) + 1 := by rw [wrap64 (by omega) (by omega)]; omega
    refine ok_some' (b, b.C (j + 1)) (ok_callf' load_call (fits_of rfl rfl ⟨⟨_, rfl, EntRel.box' rfl rfl rfl rfl rfl⟩, ⟨_, rfl, EntRel.rw rfl rfl (fun _ _ => rfl) fun _ _ => rfl⟩, trivial⟩ fun c _ => ⟨⟨Nat.le_refl _, rfl⟩, ⟨rfl, rfl⟩, ⟨⟨EntRel.box' rfl rfl rfl rfl rfl, rfl, (fun _ => ⟨rfl, rfl⟩), .inr rfl⟩, ⟨EntRel.rw rfl rfl (fun _ _ => rfl) fun _ _ => rfl, rfl, (fun h => by cases h), .inr rfl⟩, trivial⟩⟩) (load_at b1 (by rw [e1])) fun c6 _ => ok_some' (m.ar, m.ar.C (j + 1)) (ok_callf' load_call (fits_of rfl rfl ⟨⟨_, rfl, EntRel.box' rfl rfl rfl rfl rfl⟩, ⟨_, rfl, EntRel.rw rfl rfl (fun _ _ => rfl) fun _ _ => rfl⟩, trivial⟩ fun c _ => ⟨⟨Nat.le_refl _, rfl⟩, ⟨rfl, rfl⟩, ⟨⟨EntRel.box' rfl rfl rfl rfl rfl, rfl, (fun _ => ⟨rfl, rfl⟩), .inr rfl⟩, ⟨EntRel.rw rfl rfl (fun _ _ => rfl) fun _ _ => rfl, rfl, (fun h => by cases h), .inr rfl⟩, trivial⟩⟩) (load_at b2 (by rw [e1])) fun c7 _ => ?_))
    repeat refine ok_chk' (by first | exact fun h => h | rfl | exact fun h => absurd h (by decide) | exact fun _ => rfl | (exact fun h => by rw [h]; rfl) | exact EntRel.rw rfl rfl (fun _ _ => rfl) fun _ _ => rfl | exact EntRel.box' rfl rfl rfl rfl rfl | exact EntRel.dead) ?_
    have hd1 := x6 (j + 1) (by show j + 1 < b.n; omega)
    have hd1 : diffF b m.ar j + (bif b.C (j + 1) != m.ar.C (j + 1) then 1 else 0) ≤ 1 := hd1
    refine ok_br' (fun hne => ?_) fun hne => ?_
    · have hne : (b.C (j + 1) != m.ar.C (j + 1)) = true := hne
      have hd2 : diffF b m.ar (j + 1) = diffF b m.ar j + 1 := by show diffF b m.ar j + (bif b.C (j + 1) != m.ar.C (j + 1) then 1 else 0) = _; rw [hne]; rfl
      rw [hne, cond_true] at hd1
      refine ok_some' ⟨⟨j + 1, b, m, m0⟩, by show j + 1 + 1 ≤ b.n; omega, x2, x3, x4, x5, x6⟩ (ok_chk' (by show b.n - (j + 1) < b.n - j; omega) (ok_chk' (by show XV.a (.c (iv (IntKind.wrap .i64 ((j : Int) + 1 + 1)))) = XV.a (.c (iv (((j + 1 : Nat) : Int) + 1))); rw [w1]) (ok_chk' (by show XV.a (.c (iv (IntKind.wrap .i64 ((diffF b m.ar j : Int) + 1)))) = XV.a (.c (iv ((diffF b m.ar (j + 1) : Nat) : Int))); rw [hd2, wrap64 (by omega) (by omega)]; rfl) ?_)))
      repeat refine ok_chk' (by first | exact fun h => h | rfl | exact fun h => absurd h (by decide) | exact fun _ => rfl | (exact fun h => by rw [h]; rfl) | exact EntRel.rw rfl rfl (fun _ _ => rfl) fun _ _ => rfl | exact EntRel.box' rfl rfl rfl rfl rfl | exact EntRel.dead) ?_
      trivial
    · have hne : (b.C (j + 1) != m.ar.C (j + 1)) = false := hne
      have hd2 : diffF b m.ar (j + 1) = diffF b m.ar j := by show diffF b m.ar j + (bif b.C (j + 1) != m.ar.C (j + 1) then 1 else 0) = _; rw [hne]; rfl
      refine ok_some' ⟨⟨j + 1, b, m, m0⟩, by show j + 1 + 1 ≤ b.n; omega, x2, x3, x4, x5, x6⟩ (ok_chk' (by show b.n - (j + 1) < b.n - j; omega) (ok_chk' (by show XV.a (.c (iv (IntKind.wrap .i64 ((j : Int) + 1 + 1)))) = XV.a (.c (iv (((j + 1 : Nat) : Int) + 1))); rw [w1]) (ok_chk' (by show XV.a (.c (iv ((diffF b m.ar j : Nat) : Int))) = XV.a (.c (iv ((diffF b m.ar (j + 1) : Nat) : Int))); rw [hd2]) ?_)))
      repeat refine ok_chk' (by first | exact fun h => h | rfl | exact fun h => absurd h (by decide) | exact fun _ => rfl | (exact fun h => by rw [h]; rfl) | exact EntRel.rw rfl rfl (fun _ _ => rfl) fun _ _ => rfl | exact EntRel.box' rfl rfl rfl rfl rfl | exact EntRel.dead) ?_
      trivial
  · have hj : ¬ (j : Int) + 1 ≤ lenF b := by simpa using hj
    rw [hl] at hj
    refine ok_br' (fun hgt => ?_) fun _ => ?_
    · exfalso
      have := x6 j (by show j < b.n; omega)
      have this : diffF b m.ar j ≤ 1 := this
      have hgt : (diffF b m.ar j : Int) > 1 := by simpa using hgt
      omega
    · refine ok_some' ⟨(k + 1, nextM m fun q => match q with | 0 => m.ar.cap | _ => m.cF), x5, by show ((k + 1 : Nat) : Int) ≤ _; omega⟩ (ok_chk' (by show (pickF steps 30 - ((k + 1 : Nat) : Int)).toNat < (pickF steps 30 - (k : Int)).toNat; omega) (ok_chk' rfl (ok_chk' (by show XV.a (.c (iv (IntKind.wrap .i64 ((k : Int) + 1)))) = XV.a (.c (iv ((k + 1 : Nat) : Int))); rw [wrap64 (by omega) (by omega)]; rfl) ?_)))
      repeat refine ok_chk' (by first | exact fun h => h | rfl | exact fun h => absurd h (by decide) | exact fun _ => rfl | (exact fun h => by rw [h]; rfl) | exact EntRel.rw rfl rfl (fun _ _ => rfl) fun _ _ => rfl | exact EntRel.box' rfl rfl rfl rfl rfl | exact EntRel.dead) ?_
      trivial
end Go.Proofs.Ytehecaipmdfjmaa.X.Mi

set_option linter.unusedVariables false
set_option linter.unusedSimpArgs false
namespace Go.Proofs.Ytehecaipmdfjmaa.Open
open Go.RowKit Go.Proofs.YtehecaipmdfjmaaW.PrintWords

theorem mapM_get {α β : Type} {f : α → Option β} : ∀ {l : List α} {r : List β}, l.mapM f = some r → r.length = l.length ∧ ∀ (j : Nat) (x : α), l[j]? = some x → ∃ y, f x = some y ∧ r[j]? = some y
  | [], r, h => by
    simp at h
    subst h
    exact ⟨rfl, fun j x hx => by simp at hx⟩
  | a :: l, r, h => by
    simp only [List.mapM_cons, Option.bind_eq_bind, Option.bind_eq_some_iff] at h
    obtain ⟨y, hy, ys, hys, hr⟩ := h
    simp at hr
    subst hr
    obtain ⟨h1, h2⟩ := mapM_get hys
    refine ⟨by simp [h1], fun j x hx => ?_⟩
    cases j with
    | zero => simp at hx; subst hx; exact ⟨y, hy, rfl⟩
    | succ j => simpa using h2 j x (by simpa using hx)

theorem list_of {α : Type} (R : Nat → α → Prop) : ∀ n : Nat, (∀ j, j < n → ∃ x, R j x) → ∃ xs : List α, xs.length = n ∧ ∀ (j : Nat) (x : α), xs[j]? = some x → R j x
  | 0, _ => ⟨[], rfl, fun j x h => by simp at h⟩
  | n + 1, h => by
    obtain ⟨xs, hl, hx⟩ := list_of R n (fun j hj => h j (by omega))
    obtain ⟨x, hr⟩ := h n (by omega)
    refine ⟨xs ++ [x], by simp [hl], fun j y hy => ?_⟩
    rcases Nat.lt_or_ge j xs.length with hj | hj
    · rw [List.getElem?_append_left hj] at hy; exact hx j y hy
    · rw [List.getElem?_append_right hj] at hy
      have hj0 : j - xs.length = 0 := by
        rcases Nat.eq_zero_or_pos (j - xs.length) with h | h
        · exact h
        · rw [List.getElem?_eq_none (by simp; omega)] at hy; cases hy
      rw [hj0] at hy
      simp at hy
      subst hy
      rw [show j = n by omega]
      exact hr

structure Opens {α : Type} (P : Program) (t : TypeId) (k : Kd α) (wf : α → Prop) : Prop where
  out : ∀ {H : Type} (enc : TypeId × Value → H) (w : World) (spare : Nat → Bool) (held : Bool) (fuel : Nat) (cs : List Value) (r : DataW H × List MemPlace),
    DataW.trod enc P w 0 spare held fuel t cs = some r → ∃ x, k.K w x cs ∧ wf x

theorem opens_int {P : Program} {t : TypeId} {k : IntKind} (ht : P.underlying t = some (.int k)) : Opens P t (Kd.int k) (fun x => (Lit.int k x).wf = true) := by
  refine ⟨fun {H} enc w spare held fuel cs r h => ?_⟩
  obtain ⟨n, rfl, _, hw⟩ := DataW.trod_int ht h
  exact ⟨n, rfl, hw⟩

theorem opens_slice {α : Type} {P : Program} {t e : TypeId} {d : Kd α} {wf : α → Prop} (ht : P.underlying t = some (.slice e)) (hs : P.cellsOf e = d.sz) (hd : Opens P e d wf) :
    Opens P t (Kd.slice e d) (fun xs => xs.length ≤ maxLen ∧ ∀ x ∈ xs, wf x) := by
  refine ⟨fun {H} enc w spare held fuel cs r h => ?_⟩
  rcases DataW.trod_slice ht h with ⟨rfl, _⟩ | ⟨a, len, cap, elems, rest, n, rfl, rfl, _, _, hlc, hcm, hel, hat, _⟩
  · exact ⟨[], ⟨none, 0, rfl, Nat.le_refl _, rfl, by simp, fun h => absurd h (by simp)⟩, by simp, by simp⟩
  · have hx : ∀ j, j < len → ∃ x : α, wf x ∧ ∃ c : List Value, c.length = d.sz ∧ d.K w x c ∧ ∀ i u, c[i]? = some u → w.cell? (a.add (j * d.sz + i)) = some u := by
      intro j hj
      have hy := hat j hj
      rw [List.getElem?_eq_getElem (by omega)] at hy
      simp only [Option.bind_eq_some_iff] at hy
      obtain ⟨c, hcells, htr⟩ := hy
      obtain ⟨x, hk, hw⟩ := hd.out enc w spare held n c _ htr
      refine ⟨x, hw, c, d.K_len hk, hk, fun i u hu => ?_⟩
      unfold World.cells? at hcells
      split at hcells
      · obtain ⟨hl2, hg2⟩ := mapM_get hcells
        rw [List.length_range, hs] at hl2
        have hi : i < d.sz := by
          have := (List.getElem?_eq_some_iff.1 hu).1
          omega
        obtain ⟨v, hv, hcv⟩ := hg2 i i (by rw [hs, List.getElem?_range hi])
        rw [hcv] at hu
        injection hu with hu
        subst hu
        have ha : (a.add (j * P.cellsOf e)).add i = a.add (j * d.sz + i) := by
          rw [hs]
          unfold Addr.add
          by_cases h1 : j * d.sz = 0 <;> by_cases h2 : i = 0 <;> simp [h1, h2, Nat.add_assoc]
        rwa [ha] at hv
      · cases hcells
    obtain ⟨xs, hxl, hxs⟩ := list_of _ len hx
    subst hxl
    refine ⟨xs, ⟨some a, cap, rfl, hlc, rfl, by simp only [maxLen] at hcm; omega, fun _ => ⟨a, rfl, fun j p hj => (hxs j p hj).2⟩⟩, by omega, fun x hx => ?_⟩
    obtain ⟨j, hj⟩ := List.mem_iff_getElem?.1 hx
    exact (hxs j x hj).1

structure OpensF {α : Type} (P : Program) (fs : List Field) (off : Nat) (k : Kd α) (wf : α → Prop) : Prop where
  out : ∀ {H : Type} (enc : TypeId × Value → H) (w : World) (spare : Nat → Bool) (held : Bool) (fuel : Nat) (cs : List Value) (r : List (DataW H × List MemPlace)),
    off + k.sz ≤ cs.length → (fs.mapM fun f => DataW.trod enc P w 0 spare held fuel f.type ((cs.drop f.offset).take (P.cellsOf f.type))) = some r → ∃ x, k.K w x ((cs.drop off).take k.sz) ∧ wf x

theorem opensF_one {α : Type} {P : Program} {f : Field} {off : Nat} {k : Kd α} {wf : α → Prop} (h : Opens P f.type k wf) (ho : f.offset = off) (hs : P.cellsOf f.type = k.sz) : OpensF P [f] off k wf := by
  refine ⟨fun {H} enc w spare held fuel cs r hl hm => ?_⟩
  obtain ⟨_, hg⟩ := mapM_get hm
  obtain ⟨y, hy, _⟩ := hg 0 f rfl
  rw [ho, hs] at hy
  exact h.out enc w spare held fuel _ y hy

theorem opensF_cons {α β : Type} {P : Program} {f : Field} {fs : List Field} {off : Nat} {k : Kd α} {q : Kd β} {wf : α → Prop} {wg : β → Prop} (h : Opens P f.type k wf) (ho : f.offset = off) (hs : P.cellsOf f.type = k.sz)
    (hq : OpensF P fs (off + k.sz) q wg) : OpensF P (f :: fs) off (Kd.pair k q) (fun x => wf x.1 ∧ wg x.2) := by
  refine ⟨fun {H} enc w spare held fuel cs r hl hm => ?_⟩
  have hl' : off + (k.sz + q.sz) ≤ cs.length := hl
  obtain ⟨hlr, hg⟩ := mapM_get hm
  obtain ⟨y, hy, _⟩ := hg 0 f rfl
  rw [ho, hs] at hy
  obtain ⟨x, hx, hw⟩ := h.out enc w spare held fuel _ y hy
  simp only [List.mapM_cons, Option.bind_eq_bind, Option.bind_eq_some_iff] at hm
  obtain ⟨_, _, ys, hys, _⟩ := hm
  obtain ⟨z, hz, hwz⟩ := hq.out enc w spare held fuel cs ys (by omega) hys
  refine ⟨(x, z), ⟨_, _, ?_, hx, hz⟩, hw, hwz⟩
  show (cs.drop off).take (k.sz + q.sz) = _
  rw [List.take_add, List.drop_drop]

theorem opens_struct {α : Type} {P : Program} {t : TypeId} {fs : Array Field} {k : Kd α} {wf : α → Prop} (ht : P.underlying t = some (.struct fs)) (hs : P.cellsOf t = k.sz) (h : OpensF P fs.toList 0 k wf) : Opens P t k wf := by
  refine ⟨fun {H} enc w spare held fuel cs r hr => ?_⟩
  cases fuel with
  | zero => simp [DataW.trod] at hr
  | succ n =>
    rw [DataW.trod.eq_def] at hr
    simp only [ht] at hr
    split at hr
    · rename_i hl
      simp only [Option.map_eq_some_iff] at hr
      obtain ⟨ys, hys, _⟩ := hr
      obtain ⟨x, hx, hw⟩ := h.out enc w spare held n cs ys (by omega) hys
      rw [List.drop_zero, List.take_of_length_le (by omega)] at hx
      exact ⟨x, hx, hw⟩
    · cases hr

theorem opens_wf {α : Type} {P : Program} {t : TypeId} {k : Kd α} {wf wf' : α → Prop} (h : Opens P t k wf) (hw : ∀ x, wf x → wf' x) : Opens P t k wf' := by
  refine ⟨fun {H} enc w spare held fuel cs r hr => ?_⟩
  obtain ⟨x, hx, hwx⟩ := h.out enc w spare held fuel cs r hr
  exact ⟨x, hx, hw x hwx⟩

theorem open_slice_arg {α : Type} {P : Program} {t e : TypeId} {k : Kd α} {wf : List α → Prop} (h : Opens P t (Kd.slice e k) wf) {H : Type} {enc : TypeId × Value → H} {w : World} {spare : Nat → Bool} {held : Bool} {v : Value} {d : DataW H} {p : List MemPlace}
    (hv : ∃ a n c, v = .slice a n c) (ht : DataW.Trod enc P w 0 spare held t v d p) : ∃ A xs c, v = .slice A xs.length c ∧ xs.length ≤ c ∧ k.C w A xs.length xs ∧ wf xs := by
  obtain ⟨a, n, c, rfl⟩ := hv
  obtain ⟨fuel, hf⟩ := ht
  obtain ⟨xs, ⟨A, c', he, hl, hc⟩, hw⟩ := h.out enc w spare held fuel _ _ hf
  simp [Value.cells] at he
  obtain ⟨rfl, rfl, rfl⟩ := he
  exact ⟨a, xs, c, rfl, hl, hc, hw⟩

end Go.Proofs.Ytehecaipmdfjmaa.Open

set_option linter.unusedVariables false
set_option linter.unusedSimpArgs false
namespace Go.Proofs.Ytehecaipmdfjmaa.X
open Go Go.RowKit Go.Proofs.YtehecaipmdfjmaaW.PrintWords Go.Proofs.Ytehecaipmdfjmaa.Base Go.Proofs.Ytehecaipmdfjmaa.Open
def CV.plB : CV → Bool
  | .v x => (CV.v x).one
  | _ => false
structure Rep {α : Type} (K : Kd α) (rep : α → List CV) : Prop where
  sz : ∀ x, (rep x).length = K.sz
  pos : 0 < K.sz
  pl : ∀ x, (rep x).all CV.plB = true
  den : ∀ W x cc, K.K W x cc → cc = (rep x).map (CV.den nov)
abbrev roRow {α : Type} (ty : Nat) (K : Kd α) (rep : α → List CV) (z : α) (cap : Nat) (xs : List α) : Ent := Ent.rw false ty K.sz xs.length cap fun i => rep (xs.getD i z)
def RoIn (W : World) (A : Option Addr) (e : Ent) : Prop := ∃ (α : Type) (ty cap : Nat) (K : Kd α) (rep : α → List CV) (z : α) (xs : List α), Rep K rep ∧ e = roRow ty K rep z cap xs ∧ K.C W A xs.length xs
theorem CV.plain_lt {N : Nat} {y : CV} (h : y.plB = true) : y.lt N = true ∧ y.one = true := by
  cases y with
  | v v => exact ⟨rfl, h⟩
  | _ => cases h
theorem den_plain {ν : Val} {y : CV} (h : y.plB = true) : y.den ν = y.den nov := by
  cases y with
  | v v => rfl
  | _ => cases h
theorem holds_ros {W : World} {ν : Val} {H : Hp} (h : ∀ k e, H.get k = some e → RoIn W (ν k 0) e) : Holds (rootOf ν H W) ν H W := by
  refine ⟨Upd.refl _ _, fun k e he => ?_, fun k e j he ho => ?_, ⟨Nat.le_refl _, fun _ _ _ => rfl⟩⟩
  · obtain ⟨α, ty, cap, K, rep, z, xs, R, rfl, -, -, hr⟩ := h k e he
    refine ⟨⟨(fun h => by cases h), .inr (by show 0 < K.sz; exact R.pos)⟩, fun j hj i hi => ⟨R.sz _, fun x hx => CV.plain_lt (List.all_eq_true.1 (R.pl _) x hx)⟩, (fun h => by cases h), fun _ j hj hp => ?_⟩
    obtain rfl : j = 0 := by have : j < 1 := hj; omega
    have hp : 0 < xs.length := hp
    obtain ⟨ad, hA, hc⟩ := hr hp
    refine ⟨ad, hA, .inr (.inl ⟨k, _, 0, ad, he, rfl, Nat.one_pos, hp, hA, rfl⟩), fun i hi c x hx => ?_⟩
    have hi : i < xs.length := hi
    obtain ⟨cc, -, hK, hcell⟩ := hc i xs[i] (List.getElem?_eq_getElem hi)
    refine hcell c _ ?_
    have hg : xs.getD i z = xs[i] := by rw [List.getD_eq_getElem?_getD, List.getElem?_eq_getElem hi, Option.getD_some]
    have hx : (rep (xs.getD i z))[c]? = some x := hx
    rw [R.den W _ _ hK, List.getElem?_map, ← hg, hx, den_plain (List.all_eq_true.1 (R.pl _) x (List.mem_of_getElem? hx))]
    rfl
  · obtain ⟨α, ty, cap, K, rep, z, xs, R, rfl, -⟩ := h k e he
    cases ho
theorem below_of {ν ν' : Val} {H0 H : Hp} {W w' : World} (h : Holds (rootOf ν H0 W) ν' H w') (ho : ∀ k e, H0.get k = some e → e.own = false) : Below W.heap.size W w' :=
  h.upd.below (Nat.le_refl _) fun g ⟨k, e, j, ad, h1, h2, _⟩ => by rw [ho k e h1] at h2; cases h2
theorem ro_own {W : World} {ν : Val} {H : Hp} (h : ∀ k e, H.get k = some e → RoIn W (ν k 0) e) : ∀ k e, H.get k = some e → e.own = false := fun k e he => by
  obtain ⟨α, ty, cap, K, rep, z, xs, R, rfl, -⟩ := h k e he
  rfl
theorem walk_ros {P : Program} {f : FuncId} {C : CallSpec} {W : World} {ν : Val} (hl : C.Local P f) (h : ∀ k e, C.H0.get k = some e → RoIn W (ν k 0) e) {v : Value} (hv : ∀ c ν', (C.x0 c).den ν' = v) : Calls P f (C.args0.map (AV.den ν)).toArray W fun e w' => e = .returned v ∧ Below W.heap.size W w' :=
  (hl ν W (holds_ros h)).mono fun e w' ⟨ν', c, _, h1, h2⟩ => ⟨by rw [h1, hv], below_of h2 (ro_own h)⟩
abbrev kdI : Kd Int := Kd.int .i64
abbrev wfI (x : Int) : Prop := (Lit.int .i64 x).wf = true
theorem rep_int : Rep kdI fun x => [.v (.int .i64 x)] := ⟨fun _ => rfl, Nat.one_pos, fun _ => rfl, fun W x cc h => h⟩
theorem int_in {x : Int} (h : wfI x) : -9223372036854775808 ≤ x ∧ x ≤ 9223372036854775807 := bounds_i64 h
end Go.Proofs.Ytehecaipmdfjmaa.X

set_option linter.unusedVariables false
set_option linter.unusedSimpArgs false
namespace Go.Proofs.Ytehecaipmdfjmaa.X.Mi
open Go Go.RowKit Go.Proofs.YtehecaipmdfjmaaW.PrintWords Go.Proofs.Ytehecaipmdfjmaa.Base Go.Proofs.Ytehecaipmdfjmaa.X Go.Proofs.Ytehecaipmdfjmaa.Open
abbrev InT : Type := Int × Int × Int × Int × Int
abbrev kdIns : Kd InT := Kd.pair kdI (Kd.pair kdI (Kd.pair kdI (Kd.pair kdI kdI)))
theorem opensI : Opens Try.prog 3 kdI X.wfI := opens_int Try.underlying3
theorem opensI64 : Opens Try.prog 2 kdI X.wfI := opens_int Try.underlying2
theorem opensIns : Opens Try.prog 40 kdIns (fun _ => True) :=
  opens_wf (opens_struct Try.underlying40 (by kernel_rfl) (opensF_cons opensI rfl (by kernel_rfl) (opensF_cons opensI rfl (by kernel_rfl) (opensF_cons opensI rfl (by kernel_rfl) (opensF_cons opensI rfl (by kernel_rfl) (opensF_one opensI64 rfl (by kernel_rfl))))))) fun _ _ => trivial
theorem opensCode : Opens Try.prog 22 (Kd.slice 40 kdIns) (fun xs => xs.length ≤ maxLen ∧ ∀ x ∈ xs, True) := opens_slice Try.underlying22 (by kernel_rfl) opensIns
theorem opensInts : Opens Try.prog 28 (Kd.slice 2 kdI) (fun xs => xs.length ≤ maxLen ∧ ∀ x ∈ xs, X.wfI x) := opens_slice Try.underlying28 (by kernel_rfl) opensI64
def In.ofK (x : InT) : In := ⟨x.1, x.2.1, x.2.2.1, x.2.2.2.1, x.2.2.2.2⟩
theorem rep_ins : Rep kdIns fun x => (In.ofK x).cv := ⟨fun _ => rfl, by decide, fun _ => rfl, fun W x cc h => by
  obtain ⟨c0, c1, rfl, rfl, d0, d1, rfl, rfl, e0, e1, rfl, rfl, f0, f1, rfl, rfl, rfl⟩ := h
  rfl⟩
def Cd.ofK (cap : Nat) (xs : List InT) : Cd := ⟨false, xs.length, cap, fun i => In.ofK (xs.getD i (0, 0, 0, 0, 0))⟩
end Go.Proofs.Ytehecaipmdfjmaa.X.Mi

set_option linter.unusedVariables false
set_option linter.unusedSimpArgs false
namespace Go.Proofs.Ytehecaipmdfjmaa.X.Mi
open Go Go.RowKit Go.Proofs.YtehecaipmdfjmaaW.PrintWords Go.Proofs.Ytehecaipmdfjmaa.Base Go.Proofs.Ytehecaipmdfjmaa.X Go.Proofs.Ytehecaipmdfjmaa.Open
def nuO (A0 A1 A2 : Option Addr) : Val := fun k _ => match k with | 0 => A0 | 1 => A1 | _ => A2
theorem den_slO (ν : Val) (k n cap sz : Nat) : (AV.c (.sl k 0 0 sz n cap)).den ν = .slice (ν k 0) n cap := by
  show Value.slice ((ν k 0).map (·.add (0 * sz))) n cap = _
  rw [Nat.zero_mul, map_add_zero]
theorem one_walk (A0 : Option Addr) (xs0 : List InT) (c0 : Nat) (A1 : Option Addr) (xs1 : List Int) (c1 : Nat) (a2 : Int) (A3 : Option Addr) (xs3 : List Int) (c3 : Nat) (a4 : Int) (W : World)
    (hl0 : xs0.length ≤ c0) (hC0 : kdIns.C W A0 xs0.length xs0) (hw0 : xs0.length ≤ maxLen ∧ ∀ x ∈ xs0, True) (hl1 : xs1.length ≤ c1) (hC1 : kdI.C W A1 xs1.length xs1) (hw1 : xs1.length ≤ maxLen ∧ ∀ x ∈ xs1, X.wfI x) (w2 : X.wfI a2) (hl3 : xs3.length ≤ c3) (hC3 : kdI.C W A3 xs3.length xs3) (hw3 : xs3.length ≤ maxLen ∧ ∀ x ∈ xs3, X.wfI x) (w4 : X.wfI a4) :
    Calls Try.prog 5 #[.slice A0 xs0.length c0, .slice A1 xs1.length c1, .int .i64 a2, .slice A3 xs3.length c3, .int .i64 a4] W fun e w' => e = .returned (.bool true) ∧ Below W.heap.size W w' := by
  have := walk_ros (one_law_local (Cd.ofK c0 xs0) xs1.length c1 (fun i => xs1.getD i 0) a2 xs3.length c3 (fun i => xs3.getD i 0) a4 (int_in w4)) (W := W) (ν := nuO A0 A1 A3) (fun k e he => by
    cases k with
    | zero => cases he; exact ⟨_, _, c0, kdIns, _, (0, 0, 0, 0, 0), xs0, rep_ins, rfl, hC0⟩
    | succ k =>
      cases k with
      | zero => cases he; exact ⟨_, _, c1, kdI, _, 0, xs1, rep_int, rfl, hC1⟩
      | succ k =>
        cases k with
        | zero => cases he; exact ⟨_, _, c3, kdI, _, 0, xs3, rep_int, rfl, hC3⟩
        | succ k => cases k <;> cases he) (v := .bool true) fun _ _ => rfl
  have e : ((oneLC (Cd.ofK c0 xs0) xs1.length c1 (fun i => xs1.getD i 0) a2 xs3.length c3 (fun i => xs3.getD i 0) a4).args0.map (AV.den (nuO A0 A1 A3))).toArray = #[.slice A0 xs0.length c0, .slice A1 xs1.length c1, .int .i64 a2, .slice A3 xs3.length c3, .int .i64 a4] := by
    show #[(AV.c (.sl 0 0 0 5 xs0.length c0)).den (nuO A0 A1 A3), (AV.c (.sl 1 0 0 1 xs1.length c1)).den (nuO A0 A1 A3), .int .i64 a2, (AV.c (.sl 2 0 0 1 xs3.length c3)).den (nuO A0 A1 A3), .int .i64 a4] = _
    rw [den_slO, den_slO, den_slO]
    rfl
  rw [e] at this
  exact this
end Go.Proofs.Ytehecaipmdfjmaa.X.Mi

