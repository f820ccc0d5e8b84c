/- A symbolic run of functions' texts, proved, and what it tells of the functions that the law MicroAgain reaches; no conditions. -/
import Derived.Test.YtehecaipmdfjmaaKMicroAgain3
import Derived.WalkMore
import Derived.ProofKit
import Derived.Lib.SmallJoins
import Derived.OpenShut
set_option linter.unusedVariables false
set_option linter.unusedSimpArgs false
namespace Go.Proofs.Ytehecaipmdfjmaa.X.Mi
open Go Go.RowKit Go.Proofs.YtehecaipmdfjmaaW.PrintWords Go.Proofs.Ytehecaipmdfjmaa.Base Go.Proofs.Ytehecaipmdfjmaa.X
abbrev irow (own : Bool) (n cap : Nat) (z : Nat → Int) : Ent := Ent.rw own 2 1 n cap fun i => [iv (z i)]
def startF (at_ : Int) (n : Nat) (z : Nat → Int) : Fr := ⟨at_, fun k => if k < n then z k else 0⟩
abbrev startC (at_ : Int) (own : Bool) (n cap : Nat) (z : Nat → Int) (ρ : List Nat) (k : Nat) : CallSpec := mSpec ρ k [iav at_, .c (.sl 0 0 0 1 n cap)] [irow own n cap z] (fun _ => True) (fun _ => .a (.c (.sl 1 0 0 17 1 1))) fun _ => [irow own n cap z, frow true 1 1 fun _ => startF at_ n z]
abbrev start0C (at_ : Int) (k : Nat) : CallSpec := mSpec [] k [iav at_, .c (.v (.slice none 0 0))] [] (fun _ => True) (fun _ => .a (.c (.sl 0 0 0 17 1 1))) fun _ => [frow true 1 1 fun _ => ⟨at_, fun _ => 0⟩]
def newA : Ar := ⟨1, 1, fun _ => 0, 4096⟩
def newT (k : Nat) : Tb := ⟨k, k, fun _ => ⟨false, false, false, 0⟩, 0⟩
abbrev newAC (k : Nat) : CallSpec := mSpec [] k [iav 4096] [] (fun _ => True) (fun _ => .tup [bptr 0 2, .c nilE]) fun _ => [newA.box 1, newA.row]
abbrev newTC (n : Nat) (k : Nat) : CallSpec := mSpec [] k [iav n] [] (fun _ => True) (fun _ => .tup [bptr 0 2, .c nilE]) fun _ => [(newT n).box 1, (newT n).row]
abbrev acloneC (a : Ar) (ρ : List Nat) (k : Nat) : CallSpec := mSpec ρ k [bptr 0 2] [a.box 1, a.row] (fun _ => True) (fun _ => .a (bptr 2 2)) fun c => [a.box 1, a.row, ({ a with cap := c 0 } : Ar).box 3, ({ a with cap := c 0 } : Ar).row]
abbrev tcloneC (t : Tb) (ρ : List Nat) (k : Nat) : CallSpec := mSpec ρ k [bptr 0 2] [t.box 1, t.row] (fun _ => True) (fun _ => .a (bptr 2 2)) fun c => [t.box 1, t.row, ({ t with cap := c 0 } : Tb).box 3, ({ t with cap := c 0 } : Tb).row]
def cloneG (a : Ar) (t : Tb) : Ctr := fun f args H => match args with
  | [.c (.sl k _ _ _ _ _)] => bif Nat.beq f 28 then some (icloneC a [k] H.length) else some (pcloneC t [k] H.length)
  | _ => none
def taclone (a : Ar) (t : Tb) : Tree :=
  Tree.callf 28 [AV.c (CV.sl 1 0 0 1 a.1 a.2)] [{ own := true, box := true, ty := 72, sz := 2, m := 1, n := fun x => 1, cap := fun x => 1, f := fun x x_1 => [CV.sl 1 0 0 1 a.1 a.2, CV.v (Value.int IntKind.i64 a.4)], ov := [] }, (Ent.rw true 2 1 a.1 a.2 fun ii => [CV.v (Value.int IntKind.i64 (a.3 ii))])] (icloneC a [1] 2) fun c => Tree.chk (AV.c (CV.v (Value.int IntKind.i64 a.4)) = AV.c (CV.v (Value.int IntKind.i64 a.4)))
   (Tree.chk (AV.c (CV.ptr ⟨0, 0, 0, 2, 1, 0, 0, 0⟩) = AV.c (CV.ptr ⟨0, 0, 0, 2, 1, 0, 0, 0⟩))
   (Tree.chk (AV.c (CV.ptr ⟨0, 0, 0, 2, 0, 0, 0, 0⟩) = AV.c (CV.ptr ⟨0, 0, 0, 2, 0, 0, 0, 0⟩))
   (Tree.chk (AV.c (CV.ptr ⟨0, 0, 0, 2, 0, 0, 0, 0⟩) = AV.c (CV.ptr ⟨0, 0, 0, 2, 0, 0, 0, 0⟩))
   (Tree.done (XV.a (AV.c (CV.ptr ⟨3, 0, 0, 2, 0, 0, 0, 0⟩))) [{ own := true, box := true, ty := 72, sz := 2, m := 1, n := fun x => 1, cap := fun x => 1, f := fun x x_1 => [CV.sl 1 0 0 1 a.1 a.2, CV.v (Value.int IntKind.i64 a.4)], ov := [] }, (Ent.rw true 2 1 a.1 a.2 fun ii => [CV.v (Value.int IntKind.i64 (a.3 ii))]), (Ent.rw true 2 1 a.1 (c 0) fun ii => [CV.v (Value.int IntKind.i64 (a.3 ii))]), { own := true, box := true, ty := 72, sz := 2, m := 1, n := fun x => 1, cap := fun x => 1, f := fun x x_1 => [CV.sl 2 0 0 1 a.1 (c 0), CV.v (Value.int IntKind.i64 a.4)], ov := [] }]))))
theorem taclone_eq (a : Ar) (t : Tb) : xfunc tab (cloneG a t) noInv Go.Proofs.Try.f14 [bptr 0 2] [a.box 1, a.row] [0, 1, 2, 3] = taclone a t := by kernel_rfl
def ttclone (a : Ar) (t : Tb) : Tree :=
  Tree.callf 29 [AV.c (CV.sl 1 0 0 4 t.1 t.2)] [{ own := true, box := true, ty := 78, sz := 2, m := 1, n := fun x => 1, cap := fun x => 1, f := fun x x_1 => [CV.sl 1 0 0 4 t.1 t.2, CV.v (Value.int IntKind.i64 t.4)], ov := [] }, (Ent.rw true 59 4 t.1 t.2 fun ii => [CV.v (Value.bool (t.3 ii).1), CV.v (Value.bool (t.3 ii).2), CV.v (Value.bool (t.3 ii).3), CV.v (Value.int IntKind.i64 (t.3 ii).4)])] (pcloneC t [1] 2) fun c => Tree.chk (AV.c (CV.v (Value.int IntKind.i64 t.4)) = AV.c (CV.v (Value.int IntKind.i64 t.4)))
   (Tree.chk (AV.c (CV.ptr ⟨0, 0, 0, 2, 1, 0, 0, 0⟩) = AV.c (CV.ptr ⟨0, 0, 0, 2, 1, 0, 0, 0⟩))
   (Tree.chk (AV.c (CV.ptr ⟨0, 0, 0, 2, 0, 0, 0, 0⟩) = AV.c (CV.ptr ⟨0, 0, 0, 2, 0, 0, 0, 0⟩))
   (Tree.chk (AV.c (CV.ptr ⟨0, 0, 0, 2, 0, 0, 0, 0⟩) = AV.c (CV.ptr ⟨0, 0, 0, 2, 0, 0, 0, 0⟩))
   (Tree.done (XV.a (AV.c (CV.ptr ⟨3, 0, 0, 2, 0, 0, 0, 0⟩))) [{ own := true, box := true, ty := 78, sz := 2, m := 1, n := fun x => 1, cap := fun x => 1, f := fun x x_1 => [CV.sl 1 0 0 4 t.1 t.2, CV.v (Value.int IntKind.i64 t.4)], ov := [] }, (Ent.rw true 59 4 t.1 t.2 fun ii => [CV.v (Value.bool (t.3 ii).1), CV.v (Value.bool (t.3 ii).2), CV.v (Value.bool (t.3 ii).3), CV.v (Value.int IntKind.i64 (t.3 ii).4)]), (Ent.rw true 59 4 t.1 (c 0) fun ii => [CV.v (Value.bool (t.3 ii).1), CV.v (Value.bool (t.3 ii).2), CV.v (Value.bool (t.3 ii).3), CV.v (Value.int IntKind.i64 (t.3 ii).4)]), { own := true, box := true, ty := 78, sz := 2, m := 1, n := fun x => 1, cap := fun x => 1, f := fun x x_1 => [CV.sl 2 0 0 4 t.1 (c 0), CV.v (Value.int IntKind.i64 t.4)], ov := [] }]))))
theorem ttclone_eq (a : Ar) (t : Tb) : xfunc tab (cloneG a t) noInv Go.Proofs.Try.f15 [bptr 0 2] [t.box 1, t.row] [0, 1, 2, 3] = ttclone a t := by kernel_rfl
def tstart (at_ : Int) (own : Bool) (n cap : Nat) (z : Nat → Int) : Tree :=
  Tree.chk (0 < 1 ∧ 0 + n ≤ n)
   (Tree.chk (∀ (q : Nat), q < n → q < 16 → [CV.v (Value.int IntKind.i64 (z q))] = [CV.v (Value.int IntKind.i64 (z q))])
   (Tree.done (XV.a (AV.c (CV.sl 2 0 0 17 1 1))) [(Ent.rw own 2 1 n cap fun ii => [CV.v (Value.int IntKind.i64 (z ii))]), { own := true, box := true, ty := 66, sz := 17, m := 1, n := fun a => 1, cap := fun a => 1, f := fun x x_1 => [CV.v (Value.int IntKind.i64 at_), CV.v (Value.int IntKind.i64 (if 0 < n then z 0 else (0 : Int))), CV.v (Value.int IntKind.i64 (if 1 < n then z 1 else (0 : Int))), CV.v (Value.int IntKind.i64 (if 2 < n then z 2 else (0 : Int))), CV.v (Value.int IntKind.i64 (if 3 < n then z 3 else (0 : Int))), CV.v (Value.int IntKind.i64 (if 4 < n then z 4 else (0 : Int))), CV.v (Value.int IntKind.i64 (if 5 < n then z 5 else (0 : Int))), CV.v (Value.int IntKind.i64 (if 6 < n then z 6 else (0 : Int))), CV.v (Value.int IntKind.i64 (if 7 < n then z 7 else (0 : Int))), CV.v (Value.int IntKind.i64 (if 8 < n then z 8 else (0 : Int))), CV.v (Value.int IntKind.i64 (if 9 < n then z 9 else (0 : Int))), CV.v (Value.int IntKind.i64 (if 10 < n then z 10 else (0 : Int))), CV.v (Value.int IntKind.i64 (if 11 < n then z 11 else (0 : Int))), CV.v (Value.int IntKind.i64 (if 12 < n then z 12 else (0 : Int))), CV.v (Value.int IntKind.i64 (if 13 < n then z 13 else (0 : Int))), CV.v (Value.int IntKind.i64 (if 14 < n then z 14 else (0 : Int))), CV.v (Value.int IntKind.i64 (if 15 < n then z 15 else (0 : Int)))], ov := [] }, (Ent.rw true 66 17 1 1 fun ii => [CV.v (Value.int IntKind.i64 at_), CV.v (Value.int IntKind.i64 (if 0 < n then z 0 else (0 : Int))), CV.v (Value.int IntKind.i64 (if 1 < n then z 1 else (0 : Int))), CV.v (Value.int IntKind.i64 (if 2 < n then z 2 else (0 : Int))), CV.v (Value.int IntKind.i64 (if 3 < n then z 3 else (0 : Int))), CV.v (Value.int IntKind.i64 (if 4 < n then z 4 else (0 : Int))), CV.v (Value.int IntKind.i64 (if 5 < n then z 5 else (0 : Int))), CV.v (Value.int IntKind.i64 (if 6 < n then z 6 else (0 : Int))), CV.v (Value.int IntKind.i64 (if 7 < n then z 7 else (0 : Int))), CV.v (Value.int IntKind.i64 (if 8 < n then z 8 else (0 : Int))), CV.v (Value.int IntKind.i64 (if 9 < n then z 9 else (0 : Int))), CV.v (Value.int IntKind.i64 (if 10 < n then z 10 else (0 : Int))), CV.v (Value.int IntKind.i64 (if 11 < n then z 11 else (0 : Int))), CV.v (Value.int IntKind.i64 (if 12 < n then z 12 else (0 : Int))), CV.v (Value.int IntKind.i64 (if 13 < n then z 13 else (0 : Int))), CV.v (Value.int IntKind.i64 (if 14 < n then z 14 else (0 : Int))), CV.v (Value.int IntKind.i64 (if 15 < n then z 15 else (0 : Int)))])]))
theorem tstart_eq (at_ : Int) (own : Bool) (n cap : Nat) (z : Nat → Int) : xfunc tab noCtr noInv Go.Proofs.Try.f12 [iav at_, .c (.sl 0 0 0 1 n cap)] [irow own n cap z] [0, 1, 2] = tstart at_ own n cap z := by kernel_rfl
def tstart0 (at_ : Int) : Tree :=
  Tree.chk (∀ (q : Nat), q < 0 → q < 16 → [] = [CV.v (Value.int IntKind.i64 (0 : Int))])
   (Tree.done (XV.a (AV.c (CV.sl 1 0 0 17 1 1))) [{ own := true, box := true, ty := 66, sz := 17, m := 1, n := fun a => 1, cap := fun a => 1, f := fun x x_1 => [CV.v (Value.int IntKind.i64 at_), CV.v (Value.int IntKind.i64 (0 : Int)), CV.v (Value.int IntKind.i64 (0 : Int)), CV.v (Value.int IntKind.i64 (0 : Int)), CV.v (Value.int IntKind.i64 (0 : Int)), CV.v (Value.int IntKind.i64 (0 : Int)), CV.v (Value.int IntKind.i64 (0 : Int)), CV.v (Value.int IntKind.i64 (0 : Int)), CV.v (Value.int IntKind.i64 (0 : Int)), CV.v (Value.int IntKind.i64 (0 : Int)), CV.v (Value.int IntKind.i64 (0 : Int)), CV.v (Value.int IntKind.i64 (0 : Int)), CV.v (Value.int IntKind.i64 (0 : Int)), CV.v (Value.int IntKind.i64 (0 : Int)), CV.v (Value.int IntKind.i64 (0 : Int)), CV.v (Value.int IntKind.i64 (0 : Int)), CV.v (Value.int IntKind.i64 (0 : Int))], ov := [] }, (Ent.rw true 66 17 1 1 fun ii => [CV.v (Value.int IntKind.i64 at_), CV.v (Value.int IntKind.i64 (0 : Int)), CV.v (Value.int IntKind.i64 (0 : Int)), CV.v (Value.int IntKind.i64 (0 : Int)), CV.v (Value.int IntKind.i64 (0 : Int)), CV.v (Value.int IntKind.i64 (0 : Int)), CV.v (Value.int IntKind.i64 (0 : Int)), CV.v (Value.int IntKind.i64 (0 : Int)), CV.v (Value.int IntKind.i64 (0 : Int)), CV.v (Value.int IntKind.i64 (0 : Int)), CV.v (Value.int IntKind.i64 (0 : Int)), CV.v (Value.int IntKind.i64 (0 : Int)), CV.v (Value.int IntKind.i64 (0 : Int)), CV.v (Value.int IntKind.i64 (0 : Int)), CV.v (Value.int IntKind.i64 (0 : Int)), CV.v (Value.int IntKind.i64 (0 : Int)), CV.v (Value.int IntKind.i64 (0 : Int))])])
theorem tstart0_eq (at_ : Int) : xfunc tab noCtr noInv Go.Proofs.Try.f12 [iav at_, .c (.v (.slice none 0 0))] [] [0, 1] = tstart0 at_ := by kernel_rfl
def madeF (n i cap : Nat) (z : Nat → Int) : Ar := ⟨1 + n, cap, fun j => if j = 0 then 0 else if j ≤ i then z (j - 1) else 0, 4096⟩
def onlyT : List Nat → Tm → Tm
  | [], _ => []
  | t :: r, tm => match tm.get t with | some x => (t, x) :: onlyT r tm | none => onlyT r tm
def capAt (H : Hp) (k : Nat) : Nat := match H.get k with | some e => e.cap 0 | none => 0
def madeI (n : Nat) (z : Nat → Int) (b : Nat) (tm : Tm) (H : Hp) : LoopInv :=
  ⟨{ i : Nat // i ≤ n }, fun i => ((12, ia i.1) :: onlyT [0, 4, 5, 6, 8] tm, (H.set b ((madeF n i.1 (capAt H (slAt H b 0)) z).box (slAt H b 0))).set (slAt H b 0) (madeF n i.1 (capAt H (slAt H b 0)) z).row), fun i => n - i.1, some ⟨0, Nat.zero_le _⟩, [], .l (List.range H.length), [], fun _ _ => .l (List.range H.length)⟩
def madeG (k : Nat) : Ctr := fun f args H => match args with
  | [.c (.v (.int _ x))] => bif Nat.beq f 18 then some (newAC H.length) else some (newTC k H.length)
  | [.c (.ptr r), .c (.v (.int _ x))] => some (allocG newA x [r.k, slAt H r.k 0] H.length)
  | [.c (.ptr r), .c (.v (.int _ x)), .c (.v (.int _ y))] => some (.ex Ar fun a => storeC a (a.set x.toNat y) x y nilE [r.k, slAt H r.k 0])
  | _ => none
def tmade (own : Bool) (n cap k : Nat) (z : Nat → Int) : Tree :=
  Tree.callf 18 [AV.c (CV.v (Value.int IntKind.i64 (4096 : Int)))] [(Ent.rw own 2 1 n cap fun ii => [CV.v (Value.int IntKind.i64 (z ii))])] (newAC 1) fun c => Tree.callf 19 [AV.c (CV.v (Value.int IntKind.i64 (↑k : Int)))] [(Ent.rw own 2 1 n cap fun ii => [CV.v (Value.int IntKind.i64 (z ii))]), { own := true, box := true, ty := 72, sz := 2, m := 1, n := fun a => 1, cap := fun a => 1, f := fun x x_1 => [CV.sl 2 0 0 1 1 1, CV.v (Value.int IntKind.i64 (4096 : Int))], ov := [] }, (Ent.rw true 2 1 1 1 fun ii => [CV.v (Value.int IntKind.i64 (0 : Int))])] (newTC k 3) fun c_1 => Tree.chk (true = true → true = true)
   (Tree.chk (false = false → true = true)
   (Tree.chk (true = true → true = true)
   (Tree.chk (false = false → true = true)
   (Tree.chk (true = true → true = true)
   (Tree.chk (false = false → true = true)
   (Tree.br false
   (Tree.done (XV.tup [AV.c (CV.v (Value.pointer none)), AV.c (CV.v (Value.pointer none))]) [(Ent.rw own 2 1 n cap fun ii => [CV.v (Value.int IntKind.i64 (z ii))]), { own := true, box := true, ty := 72, sz := 2, m := 1, n := fun a => 1, cap := fun a => 1, f := fun x x_1 => [CV.sl 2 0 0 1 1 1, CV.v (Value.int IntKind.i64 (4096 : Int))], ov := [] }, (Ent.rw true 2 1 1 1 fun ii => [CV.v (Value.int IntKind.i64 (0 : Int))]), { own := true, box := true, ty := 78, sz := 2, m := 1, n := fun a => 1, cap := fun a => 1, f := fun x x_1 => [CV.sl 4 0 0 4 k k, CV.v (Value.int IntKind.i64 (0 : Int))], ov := [] }, (Ent.rw true 59 4 k k fun ii => [CV.v (Value.bool false), CV.v (Value.bool false), CV.v (Value.bool false), CV.v (Value.int IntKind.i64 (0 : Int))])])
   (Tree.br (decide ((↑n : Int) > (0 : Int)))
   (Tree.br (decide ((↑n : Int) < (1 : Int)))
   (Tree.callf 20 [AV.c (CV.ptr ⟨1, 0, 0, 2, 0, 0, 0, 0⟩), AV.c (CV.v (Value.int IntKind.i64 (↑n : Int)))] [(Ent.rw own 2 1 n cap fun ii => [CV.v (Value.int IntKind.i64 (z ii))]), { own := true, box := true, ty := 72, sz := 2, m := 1, n := fun a => 1, cap := fun a => 1, f := fun x x_1 => [CV.sl 2 0 0 1 1 1, CV.v (Value.int IntKind.i64 (4096 : Int))], ov := [] }, (Ent.rw true 2 1 1 1 fun ii => [CV.v (Value.int IntKind.i64 (0 : Int))]), { own := true, box := true, ty := 78, sz := 2, m := 1, n := fun a => 1, cap := fun a => 1, f := fun x x_1 => [CV.sl 4 0 0 4 k k, CV.v (Value.int IntKind.i64 (0 : Int))], ov := [] }, (Ent.rw true 59 4 k k fun ii => [CV.v (Value.bool false), CV.v (Value.bool false), CV.v (Value.bool false), CV.v (Value.int IntKind.i64 (0 : Int))])] (allocC { n := 1, cap := 1, C := fun x => (0 : Int), most := (4096 : Int) } { n := 1, cap := 1, C := fun x => (0 : Int), most := (4096 : Int) } (↑n : Int) (0 : Int) (CV.v (Value.iface 36 (Value.int IntKind.i64 (1 : Int)))) [1, 2] 5) fun c_2 => Tree.br true
   (Tree.done (XV.tup [AV.c (CV.v (Value.pointer none)), AV.c (CV.v (Value.pointer none))]) [(Ent.rw own 2 1 n cap fun ii => [CV.v (Value.int IntKind.i64 (z ii))]), { own := true, box := true, ty := 72, sz := 2, m := 1, n := fun a => 1, cap := fun a => 1, f := fun x x_1 => [CV.sl 5 0 0 1 1 (c_2 0), CV.v (Value.int IntKind.i64 (4096 : Int))], ov := [] }, Ent.dead, { own := true, box := true, ty := 78, sz := 2, m := 1, n := fun a => 1, cap := fun a => 1, f := fun x x_1 => [CV.sl 4 0 0 4 k k, CV.v (Value.int IntKind.i64 (0 : Int))], ov := [] }, (Ent.rw true 59 4 k k fun ii => [CV.v (Value.bool false), CV.v (Value.bool false), CV.v (Value.bool false), CV.v (Value.int IntKind.i64 (0 : Int))]), (Ent.rw true 2 1 1 (c_2 0) fun ii => [CV.v (Value.int IntKind.i64 (0 : Int))])])
   (Tree.both
   (Tree.chk (XV.a (AV.c (CV.v (Value.int IntKind.i64 (0 : Int)))) = XV.a (AV.c (CV.v (Value.int IntKind.i64 (0 : Int)))))
   (Tree.chk (XV.a (AV.c (CV.sl 0 0 0 1 n cap)) = XV.a (AV.c (CV.sl 0 0 0 1 n cap)))
   (Tree.chk (XV.a (AV.c (CV.v (Value.pointer none))) = XV.a (AV.c (CV.v (Value.pointer none))))
   (Tree.chk (XV.a (AV.c (CV.v (Value.pointer none))) = XV.a (AV.c (CV.v (Value.pointer none))))
   (Tree.chk (XV.a (AV.c (CV.ptr ⟨1, 0, 0, 2, 0, 0, 0, 0⟩)) = XV.a (AV.c (CV.ptr ⟨1, 0, 0, 2, 0, 0, 0, 0⟩)))
   (Tree.chk (XV.a (AV.c (CV.ptr ⟨3, 0, 0, 2, 0, 0, 0, 0⟩)) = XV.a (AV.c (CV.ptr ⟨3, 0, 0, 2, 0, 0, 0, 0⟩)))
   (Tree.chk (EntRel 6 [0, 1, 2, 3, 4, 5] 6 (Ent.rw own 2 1 n cap fun ii => [CV.v (Value.int IntKind.i64 (z ii))]) (Ent.rw own 2 1 n cap fun ii => [CV.v (Value.int IntKind.i64 (z ii))]))
   (Tree.chk (EntRel 6 [0, 1, 2, 3, 4, 5] 6 { own := true, box := true, ty := 72, sz := 2, m := 1, n := fun a => 1, cap := fun a => 1, f := fun x x_1 => [CV.sl 5 0 0 1 1 (c_2 0), CV.v (Value.int IntKind.i64 (4096 : Int))], ov := [] } { own := true, box := true, ty := 72, sz := 2, m := 1, n := fun x => 1, cap := fun x => 1, f := fun x x_1 => [CV.sl 5 0 0 1 (1 + n) (c_2 0), CV.v (Value.int IntKind.i64 (4096 : Int))], ov := [] })
   (Tree.chk (EntRel 6 [0, 1, 2, 3, 4, 5] 6 Ent.dead Ent.dead)
   (Tree.chk (EntRel 6 [0, 1, 2, 3, 4, 5] 6 { own := true, box := true, ty := 78, sz := 2, m := 1, n := fun a => 1, cap := fun a => 1, f := fun x x_1 => [CV.sl 4 0 0 4 k k, CV.v (Value.int IntKind.i64 (0 : Int))], ov := [] } { own := true, box := true, ty := 78, sz := 2, m := 1, n := fun a => 1, cap := fun a => 1, f := fun x x_1 => [CV.sl 4 0 0 4 k k, CV.v (Value.int IntKind.i64 (0 : Int))], ov := [] })
   (Tree.chk (EntRel 6 [0, 1, 2, 3, 4, 5] 6 (Ent.rw true 59 4 k k fun ii => [CV.v (Value.bool false), CV.v (Value.bool false), CV.v (Value.bool false), CV.v (Value.int IntKind.i64 (0 : Int))]) (Ent.rw true 59 4 k k fun ii => [CV.v (Value.bool false), CV.v (Value.bool false), CV.v (Value.bool false), CV.v (Value.int IntKind.i64 (0 : Int))]))
   (Tree.chk (EntRel 6 [0, 1, 2, 3, 4, 5] 6 (Ent.rw true 2 1 1 (c_2 0) fun ii => [CV.v (Value.int IntKind.i64 (0 : Int))]) (Ent.rw true 2 1 (1 + n) (c_2 0) fun ii => [CV.v (Value.int IntKind.i64 (if ii = 0 then (0 : Int) else if ii ≤ 0 then z (ii - 1) else (0 : Int)))]))
   (Tree.need True)))))))))))))
   (Tree.every { i // i ≤ n } fun s => Tree.br (decide ((↑(Subtype.val s) : Int) < (↑n : Int)))
   (Tree.chk ((0 : Int) ≤ (↑(Subtype.val s) : Int) ∧ (↑(Subtype.val s) : Int) < (↑n : Int) ∧ Int.toNat (↑(Subtype.val s) : Int) < n ∧ 0 < 1)
   (Tree.chk (0 < 1 ∧ Int.toNat (↑(Subtype.val s) : Int) < n)
   (Tree.some_ Ar fun s_1 => Tree.callf 21 [AV.c (CV.ptr ⟨1, 0, 0, 2, 0, 0, 0, 0⟩), AV.c (CV.v (Value.int IntKind.i64 (IntKind.wrap IntKind.i64 ((↑(Subtype.val s) : Int) + (1 : Int))))), AV.c (CV.v (Value.int IntKind.i64 (z (Int.toNat (↑(Subtype.val s) : Int)))))] [(Ent.rw own 2 1 n cap fun ii => [CV.v (Value.int IntKind.i64 (z ii))]), { own := true, box := true, ty := 72, sz := 2, m := 1, n := fun x => 1, cap := fun x => 1, f := fun x x_1 => [CV.sl 5 0 0 1 (1 + n) (c_2 0), CV.v (Value.int IntKind.i64 (4096 : Int))], ov := [] }, Ent.dead, { own := true, box := true, ty := 78, sz := 2, m := 1, n := fun a => 1, cap := fun a => 1, f := fun x x_1 => [CV.sl 4 0 0 4 k k, CV.v (Value.int IntKind.i64 (0 : Int))], ov := [] }, (Ent.rw true 59 4 k k fun ii => [CV.v (Value.bool false), CV.v (Value.bool false), CV.v (Value.bool false), CV.v (Value.int IntKind.i64 (0 : Int))]), (Ent.rw true 2 1 (1 + n) (c_2 0) fun ii => [CV.v (Value.int IntKind.i64 (if ii = 0 then (0 : Int) else if ii ≤ Subtype.val s then z (ii - 1) else (0 : Int)))])] (storeC s_1 { n := s_1.1, cap := s_1.2, C := fun j => if j = Int.toNat (IntKind.wrap IntKind.i64 ((↑(Subtype.val s) : Int) + (1 : Int))) then z (Int.toNat (↑(Subtype.val s) : Int)) else s_1.3 j, most := s_1.4 } (IntKind.wrap IntKind.i64 ((↑(Subtype.val s) : Int) + (1 : Int))) (z (Int.toNat (↑(Subtype.val s) : Int))) (CV.v Value.nilIface) [1, 5]) fun c_3 => Tree.br false
   (Tree.done (XV.tup [AV.c (CV.v (Value.pointer none)), AV.c (CV.v (Value.pointer none))]) [(Ent.rw own 2 1 n cap fun ii => [CV.v (Value.int IntKind.i64 (z ii))]), { own := true, box := true, ty := 72, sz := 2, m := 1, n := fun a => 1, cap := fun a => 1, f := fun x x_1 => [CV.sl 5 0 0 1 s_1.1 s_1.2, CV.v (Value.int IntKind.i64 s_1.4)], ov := [] }, Ent.dead, { own := true, box := true, ty := 78, sz := 2, m := 1, n := fun a => 1, cap := fun a => 1, f := fun x x_1 => [CV.sl 4 0 0 4 k k, CV.v (Value.int IntKind.i64 (0 : Int))], ov := [] }, (Ent.rw true 59 4 k k fun ii => [CV.v (Value.bool false), CV.v (Value.bool false), CV.v (Value.bool false), CV.v (Value.int IntKind.i64 (0 : Int))]), (Ent.rw true 2 1 s_1.1 s_1.2 fun ii => [CV.v (Value.int IntKind.i64 (if ii = Int.toNat (IntKind.wrap IntKind.i64 ((↑(Subtype.val s) : Int) + (1 : Int))) then z (Int.toNat (↑(Subtype.val s) : Int)) else s_1.3 ii))])])
   (Tree.some_ { i // i ≤ n } fun s' => Tree.chk (n - Subtype.val s' < n - Subtype.val s)
   (Tree.chk (XV.a (AV.c (CV.v (Value.int IntKind.i64 (IntKind.wrap IntKind.i64 ((↑(Subtype.val s) : Int) + (1 : Int)))))) = XV.a (AV.c (CV.v (Value.int IntKind.i64 (↑(Subtype.val s') : Int)))))
   (Tree.chk (XV.a (AV.c (CV.sl 0 0 0 1 n cap)) = XV.a (AV.c (CV.sl 0 0 0 1 n cap)))
   (Tree.chk (XV.a (AV.c (CV.v (Value.pointer none))) = XV.a (AV.c (CV.v (Value.pointer none))))
   (Tree.chk (XV.a (AV.c (CV.v (Value.pointer none))) = XV.a (AV.c (CV.v (Value.pointer none))))
   (Tree.chk (XV.a (AV.c (CV.ptr ⟨1, 0, 0, 2, 0, 0, 0, 0⟩)) = XV.a (AV.c (CV.ptr ⟨1, 0, 0, 2, 0, 0, 0, 0⟩)))
   (Tree.chk (XV.a (AV.c (CV.ptr ⟨3, 0, 0, 2, 0, 0, 0, 0⟩)) = XV.a (AV.c (CV.ptr ⟨3, 0, 0, 2, 0, 0, 0, 0⟩)))
   (Tree.chk (EntRel 6 [0, 1, 2, 3, 4, 5] 6 (Ent.rw own 2 1 n cap fun ii => [CV.v (Value.int IntKind.i64 (z ii))]) (Ent.rw own 2 1 n cap fun ii => [CV.v (Value.int IntKind.i64 (z ii))]))
   (Tree.chk (EntRel 6 [0, 1, 2, 3, 4, 5] 6 { own := true, box := true, ty := 72, sz := 2, m := 1, n := fun a => 1, cap := fun a => 1, f := fun x x_1 => [CV.sl 5 0 0 1 s_1.1 s_1.2, CV.v (Value.int IntKind.i64 s_1.4)], ov := [] } { own := true, box := true, ty := 72, sz := 2, m := 1, n := fun x => 1, cap := fun x => 1, f := fun x x_1 => [CV.sl 5 0 0 1 (1 + n) (c_2 0), CV.v (Value.int IntKind.i64 (4096 : Int))], ov := [] })
   (Tree.chk (EntRel 6 [0, 1, 2, 3, 4, 5] 6 Ent.dead Ent.dead)
   (Tree.chk (EntRel 6 [0, 1, 2, 3, 4, 5] 6 { own := true, box := true, ty := 78, sz := 2, m := 1, n := fun a => 1, cap := fun a => 1, f := fun x x_1 => [CV.sl 4 0 0 4 k k, CV.v (Value.int IntKind.i64 (0 : Int))], ov := [] } { own := true, box := true, ty := 78, sz := 2, m := 1, n := fun a => 1, cap := fun a => 1, f := fun x x_1 => [CV.sl 4 0 0 4 k k, CV.v (Value.int IntKind.i64 (0 : Int))], ov := [] })
   (Tree.chk (EntRel 6 [0, 1, 2, 3, 4, 5] 6 (Ent.rw true 59 4 k k fun ii => [CV.v (Value.bool false), CV.v (Value.bool false), CV.v (Value.bool false), CV.v (Value.int IntKind.i64 (0 : Int))]) (Ent.rw true 59 4 k k fun ii => [CV.v (Value.bool false), CV.v (Value.bool false), CV.v (Value.bool false), CV.v (Value.int IntKind.i64 (0 : Int))]))
   (Tree.chk (EntRel 6 [0, 1, 2, 3, 4, 5] 6 (Ent.rw true 2 1 s_1.1 s_1.2 fun ii => [CV.v (Value.int IntKind.i64 (if ii = Int.toNat (IntKind.wrap IntKind.i64 ((↑(Subtype.val s) : Int) + (1 : Int))) then z (Int.toNat (↑(Subtype.val s) : Int)) else s_1.3 ii))]) (Ent.rw true 2 1 (1 + n) (c_2 0) fun ii => [CV.v (Value.int IntKind.i64 (if ii = 0 then (0 : Int) else if ii ≤ Subtype.val s' then z (ii - 1) else (0 : Int)))]))
   (Tree.need True)))))))))))))))))
   (Tree.done (XV.tup [AV.c (CV.ptr ⟨1, 0, 0, 2, 0, 0, 0, 0⟩), AV.c (CV.ptr ⟨3, 0, 0, 2, 0, 0, 0, 0⟩)]) [(Ent.rw own 2 1 n cap fun ii => [CV.v (Value.int IntKind.i64 (z ii))]), { own := true, box := true, ty := 72, sz := 2, m := 1, n := fun x => 1, cap := fun x => 1, f := fun x x_1 => [CV.sl 5 0 0 1 (1 + n) (c_2 0), CV.v (Value.int IntKind.i64 (4096 : Int))], ov := [] }, Ent.dead, { own := true, box := true, ty := 78, sz := 2, m := 1, n := fun a => 1, cap := fun a => 1, f := fun x x_1 => [CV.sl 4 0 0 4 k k, CV.v (Value.int IntKind.i64 (0 : Int))], ov := [] }, (Ent.rw true 59 4 k k fun ii => [CV.v (Value.bool false), CV.v (Value.bool false), CV.v (Value.bool false), CV.v (Value.int IntKind.i64 (0 : Int))]), (Ent.rw true 2 1 (1 + n) (c_2 0) fun ii => [CV.v (Value.int IntKind.i64 (if ii = 0 then (0 : Int) else if ii ≤ Subtype.val s then z (ii - 1) else (0 : Int)))])]))))
   (Tree.br (fullF { n := 1, cap := 1, C := fun x => (0 : Int), most := (4096 : Int) } (↑n : Int))
   (Tree.callf 20 [AV.c (CV.ptr ⟨1, 0, 0, 2, 0, 0, 0, 0⟩), AV.c (CV.v (Value.int IntKind.i64 (↑n : Int)))] [(Ent.rw own 2 1 n cap fun ii => [CV.v (Value.int IntKind.i64 (z ii))]), { own := true, box := true, ty := 72, sz := 2, m := 1, n := fun a => 1, cap := fun a => 1, f := fun x x_1 => [CV.sl 2 0 0 1 1 1, CV.v (Value.int IntKind.i64 (4096 : Int))], ov := [] }, (Ent.rw true 2 1 1 1 fun ii => [CV.v (Value.int IntKind.i64 (0 : Int))]), { own := true, box := true, ty := 78, sz := 2, m := 1, n := fun a => 1, cap := fun a => 1, f := fun x x_1 => [CV.sl 4 0 0 4 k k, CV.v (Value.int IntKind.i64 (0 : Int))], ov := [] }, (Ent.rw true 59 4 k k fun ii => [CV.v (Value.bool false), CV.v (Value.bool false), CV.v (Value.bool false), CV.v (Value.int IntKind.i64 (0 : Int))])] (allocC { n := 1, cap := 1, C := fun x => (0 : Int), most := (4096 : Int) } { n := 1, cap := 1, C := fun x => (0 : Int), most := (4096 : Int) } (↑n : Int) (0 : Int) (CV.v (Value.iface 36 (Value.int IntKind.i64 (3 : Int)))) [1, 2] 5) fun c_2 => Tree.br true
   (Tree.done (XV.tup [AV.c (CV.v (Value.pointer none)), AV.c (CV.v (Value.pointer none))]) [(Ent.rw own 2 1 n cap fun ii => [CV.v (Value.int IntKind.i64 (z ii))]), { own := true, box := true, ty := 72, sz := 2, m := 1, n := fun a => 1, cap := fun a => 1, f := fun x x_1 => [CV.sl 5 0 0 1 1 (c_2 0), CV.v (Value.int IntKind.i64 (4096 : Int))], ov := [] }, Ent.dead, { own := true, box := true, ty := 78, sz := 2, m := 1, n := fun a => 1, cap := fun a => 1, f := fun x x_1 => [CV.sl 4 0 0 4 k k, CV.v (Value.int IntKind.i64 (0 : Int))], ov := [] }, (Ent.rw true 59 4 k k fun ii => [CV.v (Value.bool false), CV.v (Value.bool false), CV.v (Value.bool false), CV.v (Value.int IntKind.i64 (0 : Int))]), (Ent.rw true 2 1 1 (c_2 0) fun ii => [CV.v (Value.int IntKind.i64 (0 : Int))])])
   (Tree.both
   (Tree.chk (XV.a (AV.c (CV.v (Value.int IntKind.i64 (0 : Int)))) = XV.a (AV.c (CV.v (Value.int IntKind.i64 (0 : Int)))))
   (Tree.chk (XV.a (AV.c (CV.sl 0 0 0 1 n cap)) = XV.a (AV.c (CV.sl 0 0 0 1 n cap)))
   (Tree.chk (XV.a (AV.c (CV.v (Value.pointer none))) = XV.a (AV.c (CV.v (Value.pointer none))))
   (Tree.chk (XV.a (AV.c (CV.v (Value.pointer none))) = XV.a (AV.c (CV.v (Value.pointer none))))
   (Tree.chk (XV.a (AV.c (CV.ptr ⟨1, 0, 0, 2, 0, 0, 0, 0⟩)) = XV.a (AV.c (CV.ptr ⟨1, 0, 0, 2, 0, 0, 0, 0⟩)))
   (Tree.chk (XV.a (AV.c (CV.ptr ⟨3, 0, 0, 2, 0, 0, 0, 0⟩)) = XV.a (AV.c (CV.ptr ⟨3, 0, 0, 2, 0, 0, 0, 0⟩)))
   (Tree.chk (EntRel 6 [0, 1, 2, 3, 4, 5] 6 (Ent.rw own 2 1 n cap fun ii => [CV.v (Value.int IntKind.i64 (z ii))]) (Ent.rw own 2 1 n cap fun ii => [CV.v (Value.int IntKind.i64 (z ii))]))
   (Tree.chk (EntRel 6 [0, 1, 2, 3, 4, 5] 6 { own := true, box := true, ty := 72, sz := 2, m := 1, n := fun a => 1, cap := fun a => 1, f := fun x x_1 => [CV.sl 5 0 0 1 1 (c_2 0), CV.v (Value.int IntKind.i64 (4096 : Int))], ov := [] } { own := true, box := true, ty := 72, sz := 2, m := 1, n := fun x => 1, cap := fun x => 1, f := fun x x_1 => [CV.sl 5 0 0 1 (1 + n) (c_2 0), CV.v (Value.int IntKind.i64 (4096 : Int))], ov := [] })
   (Tree.chk (EntRel 6 [0, 1, 2, 3, 4, 5] 6 Ent.dead Ent.dead)
   (Tree.chk (EntRel 6 [0, 1, 2, 3, 4, 5] 6 { own := true, box := true, ty := 78, sz := 2, m := 1, n := fun a => 1, cap := fun a => 1, f := fun x x_1 => [CV.sl 4 0 0 4 k k, CV.v (Value.int IntKind.i64 (0 : Int))], ov := [] } { own := true, box := true, ty := 78, sz := 2, m := 1, n := fun a => 1, cap := fun a => 1, f := fun x x_1 => [CV.sl 4 0 0 4 k k, CV.v (Value.int IntKind.i64 (0 : Int))], ov := [] })
   (Tree.chk (EntRel 6 [0, 1, 2, 3, 4, 5] 6 (Ent.rw true 59 4 k k fun ii => [CV.v (Value.bool false), CV.v (Value.bool false), CV.v (Value.bool false), CV.v (Value.int IntKind.i64 (0 : Int))]) (Ent.rw true 59 4 k k fun ii => [CV.v (Value.bool false), CV.v (Value.bool false), CV.v (Value.bool false), CV.v (Value.int IntKind.i64 (0 : Int))]))
   (Tree.chk (EntRel 6 [0, 1, 2, 3, 4, 5] 6 (Ent.rw true 2 1 1 (c_2 0) fun ii => [CV.v (Value.int IntKind.i64 (0 : Int))]) (Ent.rw true 2 1 (1 + n) (c_2 0) fun ii => [CV.v (Value.int IntKind.i64 (if ii = 0 then (0 : Int) else if ii ≤ 0 then z (ii - 1) else (0 : Int)))]))
   (Tree.need True)))))))))))))
   (Tree.every { i // i ≤ n } fun s => Tree.br (decide ((↑(Subtype.val s) : Int) < (↑n : Int)))
   (Tree.chk ((0 : Int) ≤ (↑(Subtype.val s) : Int) ∧ (↑(Subtype.val s) : Int) < (↑n : Int) ∧ Int.toNat (↑(Subtype.val s) : Int) < n ∧ 0 < 1)
   (Tree.chk (0 < 1 ∧ Int.toNat (↑(Subtype.val s) : Int) < n)
   (Tree.some_ Ar fun s_1 => Tree.callf 21 [AV.c (CV.ptr ⟨1, 0, 0, 2, 0, 0, 0, 0⟩), AV.c (CV.v (Value.int IntKind.i64 (IntKind.wrap IntKind.i64 ((↑(Subtype.val s) : Int) + (1 : Int))))), AV.c (CV.v (Value.int IntKind.i64 (z (Int.toNat (↑(Subtype.val s) : Int)))))] [(Ent.rw own 2 1 n cap fun ii => [CV.v (Value.int IntKind.i64 (z ii))]), { own := true, box := true, ty := 72, sz := 2, m := 1, n := fun x => 1, cap := fun x => 1, f := fun x x_1 => [CV.sl 5 0 0 1 (1 + n) (c_2 0), CV.v (Value.int IntKind.i64 (4096 : Int))], ov := [] }, Ent.dead, { own := true, box := true, ty := 78, sz := 2, m := 1, n := fun a => 1, cap := fun a => 1, f := fun x x_1 => [CV.sl 4 0 0 4 k k, CV.v (Value.int IntKind.i64 (0 : Int))], ov := [] }, (Ent.rw true 59 4 k k fun ii => [CV.v (Value.bool false), CV.v (Value.bool false), CV.v (Value.bool false), CV.v (Value.int IntKind.i64 (0 : Int))]), (Ent.rw true 2 1 (1 + n) (c_2 0) fun ii => [CV.v (Value.int IntKind.i64 (if ii = 0 then (0 : Int) else if ii ≤ Subtype.val s then z (ii - 1) else (0 : Int)))])] (storeC s_1 { n := s_1.1, cap := s_1.2, C := fun j => if j = Int.toNat (IntKind.wrap IntKind.i64 ((↑(Subtype.val s) : Int) + (1 : Int))) then z (Int.toNat (↑(Subtype.val s) : Int)) else s_1.3 j, most := s_1.4 } (IntKind.wrap IntKind.i64 ((↑(Subtype.val s) : Int) + (1 : Int))) (z (Int.toNat (↑(Subtype.val s) : Int))) (CV.v Value.nilIface) [1, 5]) fun c_3 => Tree.br false
   (Tree.done (XV.tup [AV.c (CV.v (Value.pointer none)), AV.c (CV.v (Value.pointer none))]) [(Ent.rw own 2 1 n cap fun ii => [CV.v (Value.int IntKind.i64 (z ii))]), { own := true, box := true, ty := 72, sz := 2, m := 1, n := fun a => 1, cap := fun a => 1, f := fun x x_1 => [CV.sl 5 0 0 1 s_1.1 s_1.2, CV.v (Value.int IntKind.i64 s_1.4)], ov := [] }, Ent.dead, { own := true, box := true, ty := 78, sz := 2, m := 1, n := fun a => 1, cap := fun a => 1, f := fun x x_1 => [CV.sl 4 0 0 4 k k, CV.v (Value.int IntKind.i64 (0 : Int))], ov := [] }, (Ent.rw true 59 4 k k fun ii => [CV.v (Value.bool false), CV.v (Value.bool false), CV.v (Value.bool false), CV.v (Value.int IntKind.i64 (0 : Int))]), (Ent.rw true 2 1 s_1.1 s_1.2 fun ii => [CV.v (Value.int IntKind.i64 (if ii = Int.toNat (IntKind.wrap IntKind.i64 ((↑(Subtype.val s) : Int) + (1 : Int))) then z (Int.toNat (↑(Subtype.val s) : Int)) else s_1.3 ii))])])
   (Tree.some_ { i // i ≤ n } fun s' => Tree.chk (n - Subtype.val s' < n - Subtype.val s)
   (Tree.chk (XV.a (AV.c (CV.v (Value.int IntKind.i64 (IntKind.wrap IntKind.i64 ((↑(Subtype.val s) : Int) + (1 : Int)))))) = XV.a (AV.c (CV.v (Value.int IntKind.i64 (↑(Subtype.val s') : Int)))))
   (Tree.chk (XV.a (AV.c (CV.sl 0 0 0 1 n cap)) = XV.a (AV.c (CV.sl 0 0 0 1 n cap)))
   (Tree.chk (XV.a (AV.c (CV.v (Value.pointer none))) = XV.a (AV.c (CV.v (Value.pointer none))))
   (Tree.chk (XV.a (AV.c (CV.v (Value.pointer none))) = XV.a (AV.c (CV.v (Value.pointer none))))
   (Tree.chk (XV.a (AV.c (CV.ptr ⟨1, 0, 0, 2, 0, 0, 0, 0⟩)) = XV.a (AV.c (CV.ptr ⟨1, 0, 0, 2, 0, 0, 0, 0⟩)))
   (Tree.chk (XV.a (AV.c (CV.ptr ⟨3, 0, 0, 2, 0, 0, 0, 0⟩)) = XV.a (AV.c (CV.ptr ⟨3, 0, 0, 2, 0, 0, 0, 0⟩)))
   (Tree.chk (EntRel 6 [0, 1, 2, 3, 4, 5] 6 (Ent.rw own 2 1 n cap fun ii => [CV.v (Value.int IntKind.i64 (z ii))]) (Ent.rw own 2 1 n cap fun ii => [CV.v (Value.int IntKind.i64 (z ii))]))
   (Tree.chk (EntRel 6 [0, 1, 2, 3, 4, 5] 6 { own := true, box := true, ty := 72, sz := 2, m := 1, n := fun a => 1, cap := fun a => 1, f := fun x x_1 => [CV.sl 5 0 0 1 s_1.1 s_1.2, CV.v (Value.int IntKind.i64 s_1.4)], ov := [] } { own := true, box := true, ty := 72, sz := 2, m := 1, n := fun x => 1, cap := fun x => 1, f := fun x x_1 => [CV.sl 5 0 0 1 (1 + n) (c_2 0), CV.v (Value.int IntKind.i64 (4096 : Int))], ov := [] })
   (Tree.chk (EntRel 6 [0, 1, 2, 3, 4, 5] 6 Ent.dead Ent.dead)
   (Tree.chk (EntRel 6 [0, 1, 2, 3, 4, 5] 6 { own := true, box := true, ty := 78, sz := 2, m := 1, n := fun a => 1, cap := fun a => 1, f := fun x x_1 => [CV.sl 4 0 0 4 k k, CV.v (Value.int IntKind.i64 (0 : Int))], ov := [] } { own := true, box := true, ty := 78, sz := 2, m := 1, n := fun a => 1, cap := fun a => 1, f := fun x x_1 => [CV.sl 4 0 0 4 k k, CV.v (Value.int IntKind.i64 (0 : Int))], ov := [] })
   (Tree.chk (EntRel 6 [0, 1, 2, 3, 4, 5] 6 (Ent.rw true 59 4 k k fun ii => [CV.v (Value.bool false), CV.v (Value.bool false), CV.v (Value.bool false), CV.v (Value.int IntKind.i64 (0 : Int))]) (Ent.rw true 59 4 k k fun ii => [CV.v (Value.bool false), CV.v (Value.bool false), CV.v (Value.bool false), CV.v (Value.int IntKind.i64 (0 : Int))]))
   (Tree.chk (EntRel 6 [0, 1, 2, 3, 4, 5] 6 (Ent.rw true 2 1 s_1.1 s_1.2 fun ii => [CV.v (Value.int IntKind.i64 (if ii = Int.toNat (IntKind.wrap IntKind.i64 ((↑(Subtype.val s) : Int) + (1 : Int))) then z (Int.toNat (↑(Subtype.val s) : Int)) else s_1.3 ii))]) (Ent.rw true 2 1 (1 + n) (c_2 0) fun ii => [CV.v (Value.int IntKind.i64 (if ii = 0 then (0 : Int) else if ii ≤ Subtype.val s' then z (ii - 1) else (0 : Int)))]))
   (Tree.need True)))))))))))))))))
   (Tree.done (XV.tup [AV.c (CV.ptr ⟨1, 0, 0, 2, 0, 0, 0, 0⟩), AV.c (CV.ptr ⟨3, 0, 0, 2, 0, 0, 0, 0⟩)]) [(Ent.rw own 2 1 n cap fun ii => [CV.v (Value.int IntKind.i64 (z ii))]), { own := true, box := true, ty := 72, sz := 2, m := 1, n := fun x => 1, cap := fun x => 1, f := fun x x_1 => [CV.sl 5 0 0 1 (1 + n) (c_2 0), CV.v (Value.int IntKind.i64 (4096 : Int))], ov := [] }, Ent.dead, { own := true, box := true, ty := 78, sz := 2, m := 1, n := fun a => 1, cap := fun a => 1, f := fun x x_1 => [CV.sl 4 0 0 4 k k, CV.v (Value.int IntKind.i64 (0 : Int))], ov := [] }, (Ent.rw true 59 4 k k fun ii => [CV.v (Value.bool false), CV.v (Value.bool false), CV.v (Value.bool false), CV.v (Value.int IntKind.i64 (0 : Int))]), (Ent.rw true 2 1 (1 + n) (c_2 0) fun ii => [CV.v (Value.int IntKind.i64 (if ii = 0 then (0 : Int) else if ii ≤ Subtype.val s then z (ii - 1) else (0 : Int)))])]))))
   (Tree.callf 20 [AV.c (CV.ptr ⟨1, 0, 0, 2, 0, 0, 0, 0⟩), AV.c (CV.v (Value.int IntKind.i64 (↑n : Int)))] [(Ent.rw own 2 1 n cap fun ii => [CV.v (Value.int IntKind.i64 (z ii))]), { own := true, box := true, ty := 72, sz := 2, m := 1, n := fun a => 1, cap := fun a => 1, f := fun x x_1 => [CV.sl 2 0 0 1 1 1, CV.v (Value.int IntKind.i64 (4096 : Int))], ov := [] }, (Ent.rw true 2 1 1 1 fun ii => [CV.v (Value.int IntKind.i64 (0 : Int))]), { own := true, box := true, ty := 78, sz := 2, m := 1, n := fun a => 1, cap := fun a => 1, f := fun x x_1 => [CV.sl 4 0 0 4 k k, CV.v (Value.int IntKind.i64 (0 : Int))], ov := [] }, (Ent.rw true 59 4 k k fun ii => [CV.v (Value.bool false), CV.v (Value.bool false), CV.v (Value.bool false), CV.v (Value.int IntKind.i64 (0 : Int))])] (allocC { n := 1, cap := 1, C := fun x => (0 : Int), most := (4096 : Int) } { n := 1 + Int.toNat (↑n : Int), cap := 1, C := fun j => if j < 1 then (0 : Int) else (0 : Int), most := (4096 : Int) } (↑n : Int) (1 : Int) (CV.v Value.nilIface) [1, 2] 5) fun c_2 => Tree.br false
   (Tree.done (XV.tup [AV.c (CV.v (Value.pointer none)), AV.c (CV.v (Value.pointer none))]) [(Ent.rw own 2 1 n cap fun ii => [CV.v (Value.int IntKind.i64 (z ii))]), { own := true, box := true, ty := 72, sz := 2, m := 1, n := fun a => 1, cap := fun a => 1, f := fun x x_1 => [CV.sl 5 0 0 1 (1 + Int.toNat (↑n : Int)) (c_2 0), CV.v (Value.int IntKind.i64 (4096 : Int))], ov := [] }, Ent.dead, { own := true, box := true, ty := 78, sz := 2, m := 1, n := fun a => 1, cap := fun a => 1, f := fun x x_1 => [CV.sl 4 0 0 4 k k, CV.v (Value.int IntKind.i64 (0 : Int))], ov := [] }, (Ent.rw true 59 4 k k fun ii => [CV.v (Value.bool false), CV.v (Value.bool false), CV.v (Value.bool false), CV.v (Value.int IntKind.i64 (0 : Int))]), (Ent.rw true 2 1 (1 + Int.toNat (↑n : Int)) (c_2 0) fun ii => [CV.v (Value.int IntKind.i64 (if ii < 1 then (0 : Int) else (0 : Int)))])])
   (Tree.both
   (Tree.chk (XV.a (AV.c (CV.v (Value.int IntKind.i64 (0 : Int)))) = XV.a (AV.c (CV.v (Value.int IntKind.i64 (0 : Int)))))
   (Tree.chk (XV.a (AV.c (CV.sl 0 0 0 1 n cap)) = XV.a (AV.c (CV.sl 0 0 0 1 n cap)))
   (Tree.chk (XV.a (AV.c (CV.v (Value.pointer none))) = XV.a (AV.c (CV.v (Value.pointer none))))
   (Tree.chk (XV.a (AV.c (CV.v (Value.pointer none))) = XV.a (AV.c (CV.v (Value.pointer none))))
   (Tree.chk (XV.a (AV.c (CV.ptr ⟨1, 0, 0, 2, 0, 0, 0, 0⟩)) = XV.a (AV.c (CV.ptr ⟨1, 0, 0, 2, 0, 0, 0, 0⟩)))
   (Tree.chk (XV.a (AV.c (CV.ptr ⟨3, 0, 0, 2, 0, 0, 0, 0⟩)) = XV.a (AV.c (CV.ptr ⟨3, 0, 0, 2, 0, 0, 0, 0⟩)))
   (Tree.chk (EntRel 6 [0, 1, 2, 3, 4, 5] 6 (Ent.rw own 2 1 n cap fun ii => [CV.v (Value.int IntKind.i64 (z ii))]) (Ent.rw own 2 1 n cap fun ii => [CV.v (Value.int IntKind.i64 (z ii))]))
   (Tree.chk (EntRel 6 [0, 1, 2, 3, 4, 5] 6 { own := true, box := true, ty := 72, sz := 2, m := 1, n := fun a => 1, cap := fun a => 1, f := fun x x_1 => [CV.sl 5 0 0 1 (1 + Int.toNat (↑n : Int)) (c_2 0), CV.v (Value.int IntKind.i64 (4096 : Int))], ov := [] } { own := true, box := true, ty := 72, sz := 2, m := 1, n := fun x => 1, cap := fun x => 1, f := fun x x_1 => [CV.sl 5 0 0 1 (1 + n) (c_2 0), CV.v (Value.int IntKind.i64 (4096 : Int))], ov := [] })
   (Tree.chk (EntRel 6 [0, 1, 2, 3, 4, 5] 6 Ent.dead Ent.dead)
   (Tree.chk (EntRel 6 [0, 1, 2, 3, 4, 5] 6 { own := true, box := true, ty := 78, sz := 2, m := 1, n := fun a => 1, cap := fun a => 1, f := fun x x_1 => [CV.sl 4 0 0 4 k k, CV.v (Value.int IntKind.i64 (0 : Int))], ov := [] } { own := true, box := true, ty := 78, sz := 2, m := 1, n := fun a => 1, cap := fun a => 1, f := fun x x_1 => [CV.sl 4 0 0 4 k k, CV.v (Value.int IntKind.i64 (0 : Int))], ov := [] })
   (Tree.chk (EntRel 6 [0, 1, 2, 3, 4, 5] 6 (Ent.rw true 59 4 k k fun ii => [CV.v (Value.bool false), CV.v (Value.bool false), CV.v (Value.bool false), CV.v (Value.int IntKind.i64 (0 : Int))]) (Ent.rw true 59 4 k k fun ii => [CV.v (Value.bool false), CV.v (Value.bool false), CV.v (Value.bool false), CV.v (Value.int IntKind.i64 (0 : Int))]))
   (Tree.chk (EntRel 6 [0, 1, 2, 3, 4, 5] 6 (Ent.rw true 2 1 (1 + Int.toNat (↑n : Int)) (c_2 0) fun ii => [CV.v (Value.int IntKind.i64 (if ii < 1 then (0 : Int) else (0 : Int)))]) (Ent.rw true 2 1 (1 + n) (c_2 0) fun ii => [CV.v (Value.int IntKind.i64 (if ii = 0 then (0 : Int) else if ii ≤ 0 then z (ii - 1) else (0 : Int)))]))
   (Tree.need True)))))))))))))
   (Tree.every { i // i ≤ n } fun s => Tree.br (decide ((↑(Subtype.val s) : Int) < (↑n : Int)))
   (Tree.chk ((0 : Int) ≤ (↑(Subtype.val s) : Int) ∧ (↑(Subtype.val s) : Int) < (↑n : Int) ∧ Int.toNat (↑(Subtype.val s) : Int) < n ∧ 0 < 1)
   (Tree.chk (0 < 1 ∧ Int.toNat (↑(Subtype.val s) : Int) < n)
   (Tree.some_ Ar fun s_1 => Tree.callf 21 [AV.c (CV.ptr ⟨1, 0, 0, 2, 0, 0, 0, 0⟩), AV.c (CV.v (Value.int IntKind.i64 (IntKind.wrap IntKind.i64 ((↑(Subtype.val s) : Int) + (1 : Int))))), AV.c (CV.v (Value.int IntKind.i64 (z (Int.toNat (↑(Subtype.val s) : Int)))))] [(Ent.rw own 2 1 n cap fun ii => [CV.v (Value.int IntKind.i64 (z ii))]), { own := true, box := true, ty := 72, sz := 2, m := 1, n := fun x => 1, cap := fun x => 1, f := fun x x_1 => [CV.sl 5 0 0 1 (1 + n) (c_2 0), CV.v (Value.int IntKind.i64 (4096 : Int))], ov := [] }, Ent.dead, { own := true, box := true, ty := 78, sz := 2, m := 1, n := fun a => 1, cap := fun a => 1, f := fun x x_1 => [CV.sl 4 0 0 4 k k, CV.v (Value.int IntKind.i64 (0 : Int))], ov := [] }, (Ent.rw true 59 4 k k fun ii => [CV.v (Value.bool false), CV.v (Value.bool false), CV.v (Value.bool false), CV.v (Value.int IntKind.i64 (0 : Int))]), (Ent.rw true 2 1 (1 + n) (c_2 0) fun ii => [CV.v (Value.int IntKind.i64 (if ii = 0 then (0 : Int) else if ii ≤ Subtype.val s then z (ii - 1) else (0 : Int)))])] (storeC s_1 { n := s_1.1, cap := s_1.2, C := fun j => if j = Int.toNat (IntKind.wrap IntKind.i64 ((↑(Subtype.val s) : Int) + (1 : Int))) then z (Int.toNat (↑(Subtype.val s) : Int)) else s_1.3 j, most := s_1.4 } (IntKind.wrap IntKind.i64 ((↑(Subtype.val s) : Int) + (1 : Int))) (z (Int.toNat (↑(Subtype.val s) : Int))) (CV.v Value.nilIface) [1, 5]) fun c_3 => Tree.br false
   (Tree.done (XV.tup [AV.c (CV.v (Value.pointer none)), AV.c (CV.v (Value.pointer none))]) [(Ent.rw own 2 1 n cap fun ii => [CV.v (Value.int IntKind.i64 (z ii))]), { own := true, box := true, ty := 72, sz := 2, m := 1, n := fun a => 1, cap := fun a => 1, f := fun x x_1 => [CV.sl 5 0 0 1 s_1.1 s_1.2, CV.v (Value.int IntKind.i64 s_1.4)], ov := [] }, Ent.dead, { own := true, box := true, ty := 78, sz := 2, m := 1, n := fun a => 1, cap := fun a => 1, f := fun x x_1 => [CV.sl 4 0 0 4 k k, CV.v (Value.int IntKind.i64 (0 : Int))], ov := [] }, (Ent.rw true 59 4 k k fun ii => [CV.v (Value.bool false), CV.v (Value.bool false), CV.v (Value.bool false), CV.v (Value.int IntKind.i64 (0 : Int))]), (Ent.rw true 2 1 s_1.1 s_1.2 fun ii => [CV.v (Value.int IntKind.i64 (if ii = Int.toNat (IntKind.wrap IntKind.i64 ((↑(Subtype.val s) : Int) + (1 : Int))) then z (Int.toNat (↑(Subtype.val s) : Int)) else s_1.3 ii))])])
   (Tree.some_ { i // i ≤ n } fun s' => Tree.chk (n - Subtype.val s' < n - Subtype.val s)
   (Tree.chk (XV.a (AV.c (CV.v (Value.int IntKind.i64 (IntKind.wrap IntKind.i64 ((↑(Subtype.val s) : Int) + (1 : Int)))))) = XV.a (AV.c (CV.v (Value.int IntKind.i64 (↑(Subtype.val s') : Int)))))
   (Tree.chk (XV.a (AV.c (CV.sl 0 0 0 1 n cap)) = XV.a (AV.c (CV.sl 0 0 0 1 n cap)))
   (Tree.chk (XV.a (AV.c (CV.v (Value.pointer none))) = XV.a (AV.c (CV.v (Value.pointer none))))
   (Tree.chk (XV.a (AV.c (CV.v (Value.pointer none))) = XV.a (AV.c (CV.v (Value.pointer none))))
   (Tree.chk (XV.a (AV.c (CV.ptr ⟨1, 0, 0, 2, 0, 0, 0, 0⟩)) = XV.a (AV.c (CV.ptr ⟨1, 0, 0, 2, 0, 0, 0, 0⟩)))
   (Tree.chk (XV.a (AV.c (CV.ptr ⟨3, 0, 0, 2, 0, 0, 0, 0⟩)) = XV.a (AV.c (CV.ptr ⟨3, 0, 0, 2, 0, 0, 0, 0⟩)))
   (Tree.chk (EntRel 6 [0, 1, 2, 3, 4, 5] 6 (Ent.rw own 2 1 n cap fun ii => [CV.v (Value.int IntKind.i64 (z ii))]) (Ent.rw own 2 1 n cap fun ii => [CV.v (Value.int IntKind.i64 (z ii))]))
   (Tree.chk (EntRel 6 [0, 1, 2, 3, 4, 5] 6 { own := true, box := true, ty := 72, sz := 2, m := 1, n := fun a => 1, cap := fun a => 1, f := fun x x_1 => [CV.sl 5 0 0 1 s_1.1 s_1.2, CV.v (Value.int IntKind.i64 s_1.4)], ov := [] } { own := true, box := true, ty := 72, sz := 2, m := 1, n := fun x => 1, cap := fun x => 1, f := fun x x_1 => [CV.sl 5 0 0 1 (1 + n) (c_2 0), CV.v (Value.int IntKind.i64 (4096 : Int))], ov := [] })
   (Tree.chk (EntRel 6 [0, 1, 2, 3, 4, 5] 6 Ent.dead Ent.dead)
   (Tree.chk (EntRel 6 [0, 1, 2, 3, 4, 5] 6 { own := true, box := true, ty := 78, sz := 2, m := 1, n := fun a => 1, cap := fun a => 1, f := fun x x_1 => [CV.sl 4 0 0 4 k k, CV.v (Value.int IntKind.i64 (0 : Int))], ov := [] } { own := true, box := true, ty := 78, sz := 2, m := 1, n := fun a => 1, cap := fun a => 1, f := fun x x_1 => [CV.sl 4 0 0 4 k k, CV.v (Value.int IntKind.i64 (0 : Int))], ov := [] })
   (Tree.chk (EntRel 6 [0, 1, 2, 3, 4, 5] 6 (Ent.rw true 59 4 k k fun ii => [CV.v (Value.bool false), CV.v (Value.bool false), CV.v (Value.bool false), CV.v (Value.int IntKind.i64 (0 : Int))]) (Ent.rw true 59 4 k k fun ii => [CV.v (Value.bool false), CV.v (Value.bool false), CV.v (Value.bool false), CV.v (Value.int IntKind.i64 (0 : Int))]))
   (Tree.chk (EntRel 6 [0, 1, 2, 3, 4, 5] 6 (Ent.rw true 2 1 s_1.1 s_1.2 fun ii => [CV.v (Value.int IntKind.i64 (if ii = Int.toNat (IntKind.wrap IntKind.i64 ((↑(Subtype.val s) : Int) + (1 : Int))) then z (Int.toNat (↑(Subtype.val s) : Int)) else s_1.3 ii))]) (Ent.rw true 2 1 (1 + n) (c_2 0) fun ii => [CV.v (Value.int IntKind.i64 (if ii = 0 then (0 : Int) else if ii ≤ Subtype.val s' then z (ii - 1) else (0 : Int)))]))
   (Tree.need True)))))))))))))))))
   (Tree.done (XV.tup [AV.c (CV.ptr ⟨1, 0, 0, 2, 0, 0, 0, 0⟩), AV.c (CV.ptr ⟨3, 0, 0, 2, 0, 0, 0, 0⟩)]) [(Ent.rw own 2 1 n cap fun ii => [CV.v (Value.int IntKind.i64 (z ii))]), { own := true, box := true, ty := 72, sz := 2, m := 1, n := fun x => 1, cap := fun x => 1, f := fun x x_1 => [CV.sl 5 0 0 1 (1 + n) (c_2 0), CV.v (Value.int IntKind.i64 (4096 : Int))], ov := [] }, Ent.dead, { own := true, box := true, ty := 78, sz := 2, m := 1, n := fun a => 1, cap := fun a => 1, f := fun x x_1 => [CV.sl 4 0 0 4 k k, CV.v (Value.int IntKind.i64 (0 : Int))], ov := [] }, (Ent.rw true 59 4 k k fun ii => [CV.v (Value.bool false), CV.v (Value.bool false), CV.v (Value.bool false), CV.v (Value.int IntKind.i64 (0 : Int))]), (Ent.rw true 2 1 (1 + n) (c_2 0) fun ii => [CV.v (Value.int IntKind.i64 (if ii = 0 then (0 : Int) else if ii ≤ Subtype.val s then z (ii - 1) else (0 : Int)))])]))))))
   (Tree.both
   (Tree.chk (XV.a (AV.c (CV.v (Value.int IntKind.i64 (0 : Int)))) = XV.a (AV.c (CV.v (Value.int IntKind.i64 (0 : Int)))))
   (Tree.chk (XV.a (AV.c (CV.sl 0 0 0 1 n cap)) = XV.a (AV.c (CV.sl 0 0 0 1 n cap)))
   (Tree.chk (XV.a (AV.c (CV.v (Value.pointer none))) = XV.a (AV.c (CV.v (Value.pointer none))))
   (Tree.chk (XV.a (AV.c (CV.v (Value.pointer none))) = XV.a (AV.c (CV.v (Value.pointer none))))
   (Tree.chk (XV.a (AV.c (CV.ptr ⟨1, 0, 0, 2, 0, 0, 0, 0⟩)) = XV.a (AV.c (CV.ptr ⟨1, 0, 0, 2, 0, 0, 0, 0⟩)))
   (Tree.chk (XV.a (AV.c (CV.ptr ⟨3, 0, 0, 2, 0, 0, 0, 0⟩)) = XV.a (AV.c (CV.ptr ⟨3, 0, 0, 2, 0, 0, 0, 0⟩)))
   (Tree.chk (EntRel 5 [0, 1, 2, 3, 4] 5 (Ent.rw own 2 1 n cap fun ii => [CV.v (Value.int IntKind.i64 (z ii))]) (Ent.rw own 2 1 n cap fun ii => [CV.v (Value.int IntKind.i64 (z ii))]))
   (Tree.chk (EntRel 5 [0, 1, 2, 3, 4] 5 { own := true, box := true, ty := 72, sz := 2, m := 1, n := fun a => 1, cap := fun a => 1, f := fun x x_1 => [CV.sl 2 0 0 1 1 1, CV.v (Value.int IntKind.i64 (4096 : Int))], ov := [] } { own := true, box := true, ty := 72, sz := 2, m := 1, n := fun x => 1, cap := fun x => 1, f := fun x x_1 => [CV.sl 2 0 0 1 (1 + n) 1, CV.v (Value.int IntKind.i64 (4096 : Int))], ov := [] })
   (Tree.chk (EntRel 5 [0, 1, 2, 3, 4] 5 (Ent.rw true 2 1 1 1 fun ii => [CV.v (Value.int IntKind.i64 (0 : Int))]) (Ent.rw true 2 1 (1 + n) 1 fun ii => [CV.v (Value.int IntKind.i64 (if ii = 0 then (0 : Int) else if ii ≤ 0 then z (ii - 1) else (0 : Int)))]))
   (Tree.chk (EntRel 5 [0, 1, 2, 3, 4] 5 { own := true, box := true, ty := 78, sz := 2, m := 1, n := fun a => 1, cap := fun a => 1, f := fun x x_1 => [CV.sl 4 0 0 4 k k, CV.v (Value.int IntKind.i64 (0 : Int))], ov := [] } { own := true, box := true, ty := 78, sz := 2, m := 1, n := fun a => 1, cap := fun a => 1, f := fun x x_1 => [CV.sl 4 0 0 4 k k, CV.v (Value.int IntKind.i64 (0 : Int))], ov := [] })
   (Tree.chk (EntRel 5 [0, 1, 2, 3, 4] 5 (Ent.rw true 59 4 k k fun ii => [CV.v (Value.bool false), CV.v (Value.bool false), CV.v (Value.bool false), CV.v (Value.int IntKind.i64 (0 : Int))]) (Ent.rw true 59 4 k k fun ii => [CV.v (Value.bool false), CV.v (Value.bool false), CV.v (Value.bool false), CV.v (Value.int IntKind.i64 (0 : Int))]))
   (Tree.need True))))))))))))
   (Tree.every { i // i ≤ n } fun s => Tree.br (decide ((↑(Subtype.val s) : Int) < (↑n : Int)))
   (Tree.chk ((0 : Int) ≤ (↑(Subtype.val s) : Int) ∧ (↑(Subtype.val s) : Int) < (↑n : Int) ∧ Int.toNat (↑(Subtype.val s) : Int) < n ∧ 0 < 1)
   (Tree.chk (0 < 1 ∧ Int.toNat (↑(Subtype.val s) : Int) < n)
   (Tree.some_ Ar fun s_1 => Tree.callf 21 [AV.c (CV.ptr ⟨1, 0, 0, 2, 0, 0, 0, 0⟩), AV.c (CV.v (Value.int IntKind.i64 (IntKind.wrap IntKind.i64 ((↑(Subtype.val s) : Int) + (1 : Int))))), AV.c (CV.v (Value.int IntKind.i64 (z (Int.toNat (↑(Subtype.val s) : Int)))))] [(Ent.rw own 2 1 n cap fun ii => [CV.v (Value.int IntKind.i64 (z ii))]), { own := true, box := true, ty := 72, sz := 2, m := 1, n := fun x => 1, cap := fun x => 1, f := fun x x_1 => [CV.sl 2 0 0 1 (1 + n) 1, CV.v (Value.int IntKind.i64 (4096 : Int))], ov := [] }, (Ent.rw true 2 1 (1 + n) 1 fun ii => [CV.v (Value.int IntKind.i64 (if ii = 0 then (0 : Int) else if ii ≤ Subtype.val s then z (ii - 1) else (0 : Int)))]), { own := true, box := true, ty := 78, sz := 2, m := 1, n := fun a => 1, cap := fun a => 1, f := fun x x_1 => [CV.sl 4 0 0 4 k k, CV.v (Value.int IntKind.i64 (0 : Int))], ov := [] }, (Ent.rw true 59 4 k k fun ii => [CV.v (Value.bool false), CV.v (Value.bool false), CV.v (Value.bool false), CV.v (Value.int IntKind.i64 (0 : Int))])] (storeC s_1 { n := s_1.1, cap := s_1.2, C := fun j => if j = Int.toNat (IntKind.wrap IntKind.i64 ((↑(Subtype.val s) : Int) + (1 : Int))) then z (Int.toNat (↑(Subtype.val s) : Int)) else s_1.3 j, most := s_1.4 } (IntKind.wrap IntKind.i64 ((↑(Subtype.val s) : Int) + (1 : Int))) (z (Int.toNat (↑(Subtype.val s) : Int))) (CV.v Value.nilIface) [1, 2]) fun c_2 => Tree.br false
   (Tree.done (XV.tup [AV.c (CV.v (Value.pointer none)), AV.c (CV.v (Value.pointer none))]) [(Ent.rw own 2 1 n cap fun ii => [CV.v (Value.int IntKind.i64 (z ii))]), { own := true, box := true, ty := 72, sz := 2, m := 1, n := fun a => 1, cap := fun a => 1, f := fun x x_1 => [CV.sl 2 0 0 1 s_1.1 s_1.2, CV.v (Value.int IntKind.i64 s_1.4)], ov := [] }, (Ent.rw true 2 1 s_1.1 s_1.2 fun ii => [CV.v (Value.int IntKind.i64 (if ii = Int.toNat (IntKind.wrap IntKind.i64 ((↑(Subtype.val s) : Int) + (1 : Int))) then z (Int.toNat (↑(Subtype.val s) : Int)) else s_1.3 ii))]), { own := true, box := true, ty := 78, sz := 2, m := 1, n := fun a => 1, cap := fun a => 1, f := fun x x_1 => [CV.sl 4 0 0 4 k k, CV.v (Value.int IntKind.i64 (0 : Int))], ov := [] }, (Ent.rw true 59 4 k k fun ii => [CV.v (Value.bool false), CV.v (Value.bool false), CV.v (Value.bool false), CV.v (Value.int IntKind.i64 (0 : Int))])])
   (Tree.some_ { i // i ≤ n } fun s' => Tree.chk (n - Subtype.val s' < n - Subtype.val s)
   (Tree.chk (XV.a (AV.c (CV.v (Value.int IntKind.i64 (IntKind.wrap IntKind.i64 ((↑(Subtype.val s) : Int) + (1 : Int)))))) = XV.a (AV.c (CV.v (Value.int IntKind.i64 (↑(Subtype.val s') : Int)))))
   (Tree.chk (XV.a (AV.c (CV.sl 0 0 0 1 n cap)) = XV.a (AV.c (CV.sl 0 0 0 1 n cap)))
   (Tree.chk (XV.a (AV.c (CV.v (Value.pointer none))) = XV.a (AV.c (CV.v (Value.pointer none))))
   (Tree.chk (XV.a (AV.c (CV.v (Value.pointer none))) = XV.a (AV.c (CV.v (Value.pointer none))))
   (Tree.chk (XV.a (AV.c (CV.ptr ⟨1, 0, 0, 2, 0, 0, 0, 0⟩)) = XV.a (AV.c (CV.ptr ⟨1, 0, 0, 2, 0, 0, 0, 0⟩)))
   (Tree.chk (XV.a (AV.c (CV.ptr ⟨3, 0, 0, 2, 0, 0, 0, 0⟩)) = XV.a (AV.c (CV.ptr ⟨3, 0, 0, 2, 0, 0, 0, 0⟩)))
   (Tree.chk (EntRel 5 [0, 1, 2, 3, 4] 5 (Ent.rw own 2 1 n cap fun ii => [CV.v (Value.int IntKind.i64 (z ii))]) (Ent.rw own 2 1 n cap fun ii => [CV.v (Value.int IntKind.i64 (z ii))]))
   (Tree.chk (EntRel 5 [0, 1, 2, 3, 4] 5 { own := true, box := true, ty := 72, sz := 2, m := 1, n := fun a => 1, cap := fun a => 1, f := fun x x_1 => [CV.sl 2 0 0 1 s_1.1 s_1.2, CV.v (Value.int IntKind.i64 s_1.4)], ov := [] } { own := true, box := true, ty := 72, sz := 2, m := 1, n := fun x => 1, cap := fun x => 1, f := fun x x_1 => [CV.sl 2 0 0 1 (1 + n) 1, CV.v (Value.int IntKind.i64 (4096 : Int))], ov := [] })
   (Tree.chk (EntRel 5 [0, 1, 2, 3, 4] 5 (Ent.rw true 2 1 s_1.1 s_1.2 fun ii => [CV.v (Value.int IntKind.i64 (if ii = Int.toNat (IntKind.wrap IntKind.i64 ((↑(Subtype.val s) : Int) + (1 : Int))) then z (Int.toNat (↑(Subtype.val s) : Int)) else s_1.3 ii))]) (Ent.rw true 2 1 (1 + n) 1 fun ii => [CV.v (Value.int IntKind.i64 (if ii = 0 then (0 : Int) else if ii ≤ Subtype.val s' then z (ii - 1) else (0 : Int)))]))
   (Tree.chk (EntRel 5 [0, 1, 2, 3, 4] 5 { own := true, box := true, ty := 78, sz := 2, m := 1, n := fun a => 1, cap := fun a => 1, f := fun x x_1 => [CV.sl 4 0 0 4 k k, CV.v (Value.int IntKind.i64 (0 : Int))], ov := [] } { own := true, box := true, ty := 78, sz := 2, m := 1, n := fun a => 1, cap := fun a => 1, f := fun x x_1 => [CV.sl 4 0 0 4 k k, CV.v (Value.int IntKind.i64 (0 : Int))], ov := [] })
   (Tree.chk (EntRel 5 [0, 1, 2, 3, 4] 5 (Ent.rw true 59 4 k k fun ii => [CV.v (Value.bool false), CV.v (Value.bool false), CV.v (Value.bool false), CV.v (Value.int IntKind.i64 (0 : Int))]) (Ent.rw true 59 4 k k fun ii => [CV.v (Value.bool false), CV.v (Value.bool false), CV.v (Value.bool false), CV.v (Value.int IntKind.i64 (0 : Int))]))
   (Tree.need True))))))))))))))))
   (Tree.done (XV.tup [AV.c (CV.ptr ⟨1, 0, 0, 2, 0, 0, 0, 0⟩), AV.c (CV.ptr ⟨3, 0, 0, 2, 0, 0, 0, 0⟩)]) [(Ent.rw own 2 1 n cap fun ii => [CV.v (Value.int IntKind.i64 (z ii))]), { own := true, box := true, ty := 72, sz := 2, m := 1, n := fun x => 1, cap := fun x => 1, f := fun x x_1 => [CV.sl 2 0 0 1 (1 + n) 1, CV.v (Value.int IntKind.i64 (4096 : Int))], ov := [] }, (Ent.rw true 2 1 (1 + n) 1 fun ii => [CV.v (Value.int IntKind.i64 (if ii = 0 then (0 : Int) else if ii ≤ Subtype.val s then z (ii - 1) else (0 : Int)))]), { own := true, box := true, ty := 78, sz := 2, m := 1, n := fun a => 1, cap := fun a => 1, f := fun x x_1 => [CV.sl 4 0 0 4 k k, CV.v (Value.int IntKind.i64 (0 : Int))], ov := [] }, (Ent.rw true 59 4 k k fun ii => [CV.v (Value.bool false), CV.v (Value.bool false), CV.v (Value.bool false), CV.v (Value.int IntKind.i64 (0 : Int))])]))))))))))
theorem tmade_eq (own : Bool) (n cap k : Nat) (z : Nat → Int) : xfunc tab (madeG k) (lpI fun _ tm H => madeI n z 1 tm H) Go.Proofs.Try.f8 [.c (.sl 0 0 0 1 n cap), iav k] [irow own n cap z] [0, 1, 2, 3, 4, 5] = tmade own n cap k z := by kernel_rfl
def tmade0 (k : Nat) : Tree :=
  Tree.callf 18 [AV.c (CV.v (Value.int IntKind.i64 (4096 : Int)))] [] (newAC 0) fun c => Tree.callf 19 [AV.c (CV.v (Value.int IntKind.i64 (↑k : Int)))] [{ own := true, box := true, ty := 72, sz := 2, m := 1, n := fun a => 1, cap := fun a => 1, f := fun x x_1 => [CV.sl 1 0 0 1 1 1, CV.v (Value.int IntKind.i64 (4096 : Int))], ov := [] }, (Ent.rw true 2 1 1 1 fun ii => [CV.v (Value.int IntKind.i64 (0 : Int))])] (newTC k 2) fun c_1 => Tree.chk (true = true → true = true)
   (Tree.chk (false = false → true = true)
   (Tree.chk (true = true → true = true)
   (Tree.chk (false = false → true = true)
   (Tree.chk (true = true → true = true)
   (Tree.chk (false = false → true = true)
   (Tree.br false
   (Tree.done (XV.tup [AV.c (CV.v (Value.pointer none)), AV.c (CV.v (Value.pointer none))]) [{ own := true, box := true, ty := 72, sz := 2, m := 1, n := fun a => 1, cap := fun a => 1, f := fun x x_1 => [CV.sl 1 0 0 1 1 1, CV.v (Value.int IntKind.i64 (4096 : Int))], ov := [] }, (Ent.rw true 2 1 1 1 fun ii => [CV.v (Value.int IntKind.i64 (0 : Int))]), { own := true, box := true, ty := 78, sz := 2, m := 1, n := fun a => 1, cap := fun a => 1, f := fun x x_1 => [CV.sl 3 0 0 4 k k, CV.v (Value.int IntKind.i64 (0 : Int))], ov := [] }, (Ent.rw true 59 4 k k fun ii => [CV.v (Value.bool false), CV.v (Value.bool false), CV.v (Value.bool false), CV.v (Value.int IntKind.i64 (0 : Int))])])
   (Tree.br false
   (Tree.br true
   (Tree.callf 20 [AV.c (CV.ptr ⟨0, 0, 0, 2, 0, 0, 0, 0⟩), AV.c (CV.v (Value.int IntKind.i64 (0 : Int)))] [{ own := true, box := true, ty := 72, sz := 2, m := 1, n := fun a => 1, cap := fun a => 1, f := fun x x_1 => [CV.sl 1 0 0 1 1 1, CV.v (Value.int IntKind.i64 (4096 : Int))], ov := [] }, (Ent.rw true 2 1 1 1 fun ii => [CV.v (Value.int IntKind.i64 (0 : Int))]), { own := true, box := true, ty := 78, sz := 2, m := 1, n := fun a => 1, cap := fun a => 1, f := fun x x_1 => [CV.sl 3 0 0 4 k k, CV.v (Value.int IntKind.i64 (0 : Int))], ov := [] }, (Ent.rw true 59 4 k k fun ii => [CV.v (Value.bool false), CV.v (Value.bool false), CV.v (Value.bool false), CV.v (Value.int IntKind.i64 (0 : Int))])] (allocC { n := 1, cap := 1, C := fun x => (0 : Int), most := (4096 : Int) } { n := 1, cap := 1, C := fun x => (0 : Int), most := (4096 : Int) } (0 : Int) (0 : Int) (CV.v (Value.iface 36 (Value.int IntKind.i64 (1 : Int)))) [0, 1] 4) fun c_2 => Tree.br true
   (Tree.done (XV.tup [AV.c (CV.v (Value.pointer none)), AV.c (CV.v (Value.pointer none))]) [{ own := true, box := true, ty := 72, sz := 2, m := 1, n := fun a => 1, cap := fun a => 1, f := fun x x_1 => [CV.sl 4 0 0 1 1 (c_2 0), CV.v (Value.int IntKind.i64 (4096 : Int))], ov := [] }, Ent.dead, { own := true, box := true, ty := 78, sz := 2, m := 1, n := fun a => 1, cap := fun a => 1, f := fun x x_1 => [CV.sl 3 0 0 4 k k, CV.v (Value.int IntKind.i64 (0 : Int))], ov := [] }, (Ent.rw true 59 4 k k fun ii => [CV.v (Value.bool false), CV.v (Value.bool false), CV.v (Value.bool false), CV.v (Value.int IntKind.i64 (0 : Int))]), (Ent.rw true 2 1 1 (c_2 0) fun ii => [CV.v (Value.int IntKind.i64 (0 : Int))])])
   (Tree.both
   (Tree.chk (XV.a (AV.c (CV.v (Value.int IntKind.i64 (0 : Int)))) = XV.a (AV.c (CV.v (Value.int IntKind.i64 (0 : Int)))))
   (Tree.chk (XV.a (AV.c (CV.v (Value.slice none 0 0))) = XV.a (AV.c (CV.v (Value.slice none 0 0))))
   (Tree.chk (XV.a (AV.c (CV.v (Value.pointer none))) = XV.a (AV.c (CV.v (Value.pointer none))))
   (Tree.chk (XV.a (AV.c (CV.v (Value.pointer none))) = XV.a (AV.c (CV.v (Value.pointer none))))
   (Tree.chk (XV.a (AV.c (CV.ptr ⟨0, 0, 0, 2, 0, 0, 0, 0⟩)) = XV.a (AV.c (CV.ptr ⟨0, 0, 0, 2, 0, 0, 0, 0⟩)))
   (Tree.chk (XV.a (AV.c (CV.ptr ⟨2, 0, 0, 2, 0, 0, 0, 0⟩)) = XV.a (AV.c (CV.ptr ⟨2, 0, 0, 2, 0, 0, 0, 0⟩)))
   (Tree.chk (EntRel 5 [0, 1, 2, 3, 4] 5 { own := true, box := true, ty := 72, sz := 2, m := 1, n := fun a => 1, cap := fun a => 1, f := fun x x_1 => [CV.sl 4 0 0 1 1 (c_2 0), CV.v (Value.int IntKind.i64 (4096 : Int))], ov := [] } { own := true, box := true, ty := 72, sz := 2, m := 1, n := fun x => 1, cap := fun x => 1, f := fun x x_1 => [CV.sl 4 0 0 1 1 (c_2 0), CV.v (Value.int IntKind.i64 (4096 : Int))], ov := [] })
   (Tree.chk (EntRel 5 [0, 1, 2, 3, 4] 5 Ent.dead Ent.dead)
   (Tree.chk (EntRel 5 [0, 1, 2, 3, 4] 5 { own := true, box := true, ty := 78, sz := 2, m := 1, n := fun a => 1, cap := fun a => 1, f := fun x x_1 => [CV.sl 3 0 0 4 k k, CV.v (Value.int IntKind.i64 (0 : Int))], ov := [] } { own := true, box := true, ty := 78, sz := 2, m := 1, n := fun a => 1, cap := fun a => 1, f := fun x x_1 => [CV.sl 3 0 0 4 k k, CV.v (Value.int IntKind.i64 (0 : Int))], ov := [] })
   (Tree.chk (EntRel 5 [0, 1, 2, 3, 4] 5 (Ent.rw true 59 4 k k fun ii => [CV.v (Value.bool false), CV.v (Value.bool false), CV.v (Value.bool false), CV.v (Value.int IntKind.i64 (0 : Int))]) (Ent.rw true 59 4 k k fun ii => [CV.v (Value.bool false), CV.v (Value.bool false), CV.v (Value.bool false), CV.v (Value.int IntKind.i64 (0 : Int))]))
   (Tree.chk (EntRel 5 [0, 1, 2, 3, 4] 5 (Ent.rw true 2 1 1 (c_2 0) fun ii => [CV.v (Value.int IntKind.i64 (0 : Int))]) (Ent.rw true 2 1 1 (c_2 0) fun ii => [CV.v (Value.int IntKind.i64 (if ii = 0 then (0 : Int) else if ii ≤ 0 then (0 : Int) else (0 : Int)))]))
   (Tree.need True))))))))))))
   (Tree.every { i // i ≤ 0 } fun s => Tree.br false
   (Tree.fail 67)
   (Tree.done (XV.tup [AV.c (CV.ptr ⟨0, 0, 0, 2, 0, 0, 0, 0⟩), AV.c (CV.ptr ⟨2, 0, 0, 2, 0, 0, 0, 0⟩)]) [{ own := true, box := true, ty := 72, sz := 2, m := 1, n := fun x => 1, cap := fun x => 1, f := fun x x_1 => [CV.sl 4 0 0 1 1 (c_2 0), CV.v (Value.int IntKind.i64 (4096 : Int))], ov := [] }, Ent.dead, { own := true, box := true, ty := 78, sz := 2, m := 1, n := fun a => 1, cap := fun a => 1, f := fun x x_1 => [CV.sl 3 0 0 4 k k, CV.v (Value.int IntKind.i64 (0 : Int))], ov := [] }, (Ent.rw true 59 4 k k fun ii => [CV.v (Value.bool false), CV.v (Value.bool false), CV.v (Value.bool false), CV.v (Value.int IntKind.i64 (0 : Int))]), (Ent.rw true 2 1 1 (c_2 0) fun ii => [CV.v (Value.int IntKind.i64 (if ii = 0 then (0 : Int) else if ii ≤ Subtype.val s then (0 : Int) else (0 : Int)))])]))))
   (Tree.br false
   (Tree.callf 20 [AV.c (CV.ptr ⟨0, 0, 0, 2, 0, 0, 0, 0⟩), AV.c (CV.v (Value.int IntKind.i64 (0 : Int)))] [{ own := true, box := true, ty := 72, sz := 2, m := 1, n := fun a => 1, cap := fun a => 1, f := fun x x_1 => [CV.sl 1 0 0 1 1 1, CV.v (Value.int IntKind.i64 (4096 : Int))], ov := [] }, (Ent.rw true 2 1 1 1 fun ii => [CV.v (Value.int IntKind.i64 (0 : Int))]), { own := true, box := true, ty := 78, sz := 2, m := 1, n := fun a => 1, cap := fun a => 1, f := fun x x_1 => [CV.sl 3 0 0 4 k k, CV.v (Value.int IntKind.i64 (0 : Int))], ov := [] }, (Ent.rw true 59 4 k k fun ii => [CV.v (Value.bool false), CV.v (Value.bool false), CV.v (Value.bool false), CV.v (Value.int IntKind.i64 (0 : Int))])] (allocC { n := 1, cap := 1, C := fun x => (0 : Int), most := (4096 : Int) } { n := 1, cap := 1, C := fun x => (0 : Int), most := (4096 : Int) } (0 : Int) (0 : Int) (CV.v (Value.iface 36 (Value.int IntKind.i64 (3 : Int)))) [0, 1] 4) fun c_2 => Tree.br true
   (Tree.done (XV.tup [AV.c (CV.v (Value.pointer none)), AV.c (CV.v (Value.pointer none))]) [{ own := true, box := true, ty := 72, sz := 2, m := 1, n := fun a => 1, cap := fun a => 1, f := fun x x_1 => [CV.sl 4 0 0 1 1 (c_2 0), CV.v (Value.int IntKind.i64 (4096 : Int))], ov := [] }, Ent.dead, { own := true, box := true, ty := 78, sz := 2, m := 1, n := fun a => 1, cap := fun a => 1, f := fun x x_1 => [CV.sl 3 0 0 4 k k, CV.v (Value.int IntKind.i64 (0 : Int))], ov := [] }, (Ent.rw true 59 4 k k fun ii => [CV.v (Value.bool false), CV.v (Value.bool false), CV.v (Value.bool false), CV.v (Value.int IntKind.i64 (0 : Int))]), (Ent.rw true 2 1 1 (c_2 0) fun ii => [CV.v (Value.int IntKind.i64 (0 : Int))])])
   (Tree.both
   (Tree.chk (XV.a (AV.c (CV.v (Value.int IntKind.i64 (0 : Int)))) = XV.a (AV.c (CV.v (Value.int IntKind.i64 (0 : Int)))))
   (Tree.chk (XV.a (AV.c (CV.v (Value.slice none 0 0))) = XV.a (AV.c (CV.v (Value.slice none 0 0))))
   (Tree.chk (XV.a (AV.c (CV.v (Value.pointer none))) = XV.a (AV.c (CV.v (Value.pointer none))))
   (Tree.chk (XV.a (AV.c (CV.v (Value.pointer none))) = XV.a (AV.c (CV.v (Value.pointer none))))
   (Tree.chk (XV.a (AV.c (CV.ptr ⟨0, 0, 0, 2, 0, 0, 0, 0⟩)) = XV.a (AV.c (CV.ptr ⟨0, 0, 0, 2, 0, 0, 0, 0⟩)))
   (Tree.chk (XV.a (AV.c (CV.ptr ⟨2, 0, 0, 2, 0, 0, 0, 0⟩)) = XV.a (AV.c (CV.ptr ⟨2, 0, 0, 2, 0, 0, 0, 0⟩)))
   (Tree.chk (EntRel 5 [0, 1, 2, 3, 4] 5 { own := true, box := true, ty := 72, sz := 2, m := 1, n := fun a => 1, cap := fun a => 1, f := fun x x_1 => [CV.sl 4 0 0 1 1 (c_2 0), CV.v (Value.int IntKind.i64 (4096 : Int))], ov := [] } { own := true, box := true, ty := 72, sz := 2, m := 1, n := fun x => 1, cap := fun x => 1, f := fun x x_1 => [CV.sl 4 0 0 1 1 (c_2 0), CV.v (Value.int IntKind.i64 (4096 : Int))], ov := [] })
   (Tree.chk (EntRel 5 [0, 1, 2, 3, 4] 5 Ent.dead Ent.dead)
   (Tree.chk (EntRel 5 [0, 1, 2, 3, 4] 5 { own := true, box := true, ty := 78, sz := 2, m := 1, n := fun a => 1, cap := fun a => 1, f := fun x x_1 => [CV.sl 3 0 0 4 k k, CV.v (Value.int IntKind.i64 (0 : Int))], ov := [] } { own := true, box := true, ty := 78, sz := 2, m := 1, n := fun a => 1, cap := fun a => 1, f := fun x x_1 => [CV.sl 3 0 0 4 k k, CV.v (Value.int IntKind.i64 (0 : Int))], ov := [] })
   (Tree.chk (EntRel 5 [0, 1, 2, 3, 4] 5 (Ent.rw true 59 4 k k fun ii => [CV.v (Value.bool false), CV.v (Value.bool false), CV.v (Value.bool false), CV.v (Value.int IntKind.i64 (0 : Int))]) (Ent.rw true 59 4 k k fun ii => [CV.v (Value.bool false), CV.v (Value.bool false), CV.v (Value.bool false), CV.v (Value.int IntKind.i64 (0 : Int))]))
   (Tree.chk (EntRel 5 [0, 1, 2, 3, 4] 5 (Ent.rw true 2 1 1 (c_2 0) fun ii => [CV.v (Value.int IntKind.i64 (0 : Int))]) (Ent.rw true 2 1 1 (c_2 0) fun ii => [CV.v (Value.int IntKind.i64 (if ii = 0 then (0 : Int) else if ii ≤ 0 then (0 : Int) else (0 : Int)))]))
   (Tree.need True))))))))))))
   (Tree.every { i // i ≤ 0 } fun s => Tree.br false
   (Tree.fail 67)
   (Tree.done (XV.tup [AV.c (CV.ptr ⟨0, 0, 0, 2, 0, 0, 0, 0⟩), AV.c (CV.ptr ⟨2, 0, 0, 2, 0, 0, 0, 0⟩)]) [{ own := true, box := true, ty := 72, sz := 2, m := 1, n := fun x => 1, cap := fun x => 1, f := fun x x_1 => [CV.sl 4 0 0 1 1 (c_2 0), CV.v (Value.int IntKind.i64 (4096 : Int))], ov := [] }, Ent.dead, { own := true, box := true, ty := 78, sz := 2, m := 1, n := fun a => 1, cap := fun a => 1, f := fun x x_1 => [CV.sl 3 0 0 4 k k, CV.v (Value.int IntKind.i64 (0 : Int))], ov := [] }, (Ent.rw true 59 4 k k fun ii => [CV.v (Value.bool false), CV.v (Value.bool false), CV.v (Value.bool false), CV.v (Value.int IntKind.i64 (0 : Int))]), (Ent.rw true 2 1 1 (c_2 0) fun ii => [CV.v (Value.int IntKind.i64 (if ii = 0 then (0 : Int) else if ii ≤ Subtype.val s then (0 : Int) else (0 : Int)))])]))))
   (Tree.callf 20 [AV.c (CV.ptr ⟨0, 0, 0, 2, 0, 0, 0, 0⟩), AV.c (CV.v (Value.int IntKind.i64 (0 : Int)))] [{ own := true, box := true, ty := 72, sz := 2, m := 1, n := fun a => 1, cap := fun a => 1, f := fun x x_1 => [CV.sl 1 0 0 1 1 1, CV.v (Value.int IntKind.i64 (4096 : Int))], ov := [] }, (Ent.rw true 2 1 1 1 fun ii => [CV.v (Value.int IntKind.i64 (0 : Int))]), { own := true, box := true, ty := 78, sz := 2, m := 1, n := fun a => 1, cap := fun a => 1, f := fun x x_1 => [CV.sl 3 0 0 4 k k, CV.v (Value.int IntKind.i64 (0 : Int))], ov := [] }, (Ent.rw true 59 4 k k fun ii => [CV.v (Value.bool false), CV.v (Value.bool false), CV.v (Value.bool false), CV.v (Value.int IntKind.i64 (0 : Int))])] (allocC { n := 1, cap := 1, C := fun x => (0 : Int), most := (4096 : Int) } { n := 1, cap := 1, C := fun j => if j < 1 then (0 : Int) else (0 : Int), most := (4096 : Int) } (0 : Int) (1 : Int) (CV.v Value.nilIface) [0, 1] 4) fun c_2 => Tree.br false
   (Tree.done (XV.tup [AV.c (CV.v (Value.pointer none)), AV.c (CV.v (Value.pointer none))]) [{ own := true, box := true, ty := 72, sz := 2, m := 1, n := fun a => 1, cap := fun a => 1, f := fun x x_1 => [CV.sl 4 0 0 1 1 (c_2 0), CV.v (Value.int IntKind.i64 (4096 : Int))], ov := [] }, Ent.dead, { own := true, box := true, ty := 78, sz := 2, m := 1, n := fun a => 1, cap := fun a => 1, f := fun x x_1 => [CV.sl 3 0 0 4 k k, CV.v (Value.int IntKind.i64 (0 : Int))], ov := [] }, (Ent.rw true 59 4 k k fun ii => [CV.v (Value.bool false), CV.v (Value.bool false), CV.v (Value.bool false), CV.v (Value.int IntKind.i64 (0 : Int))]), (Ent.rw true 2 1 1 (c_2 0) fun ii => [CV.v (Value.int IntKind.i64 (if ii < 1 then (0 : Int) else (0 : Int)))])])
   (Tree.both
   (Tree.chk (XV.a (AV.c (CV.v (Value.int IntKind.i64 (0 : Int)))) = XV.a (AV.c (CV.v (Value.int IntKind.i64 (0 : Int)))))
   (Tree.chk (XV.a (AV.c (CV.v (Value.slice none 0 0))) = XV.a (AV.c (CV.v (Value.slice none 0 0))))
   (Tree.chk (XV.a (AV.c (CV.v (Value.pointer none))) = XV.a (AV.c (CV.v (Value.pointer none))))
   (Tree.chk (XV.a (AV.c (CV.v (Value.pointer none))) = XV.a (AV.c (CV.v (Value.pointer none))))
   (Tree.chk (XV.a (AV.c (CV.ptr ⟨0, 0, 0, 2, 0, 0, 0, 0⟩)) = XV.a (AV.c (CV.ptr ⟨0, 0, 0, 2, 0, 0, 0, 0⟩)))
   (Tree.chk (XV.a (AV.c (CV.ptr ⟨2, 0, 0, 2, 0, 0, 0, 0⟩)) = XV.a (AV.c (CV.ptr ⟨2, 0, 0, 2, 0, 0, 0, 0⟩)))
   (Tree.chk (EntRel 5 [0, 1, 2, 3, 4] 5 { own := true, box := true, ty := 72, sz := 2, m := 1, n := fun a => 1, cap := fun a => 1, f := fun x x_1 => [CV.sl 4 0 0 1 1 (c_2 0), CV.v (Value.int IntKind.i64 (4096 : Int))], ov := [] } { own := true, box := true, ty := 72, sz := 2, m := 1, n := fun x => 1, cap := fun x => 1, f := fun x x_1 => [CV.sl 4 0 0 1 1 (c_2 0), CV.v (Value.int IntKind.i64 (4096 : Int))], ov := [] })
   (Tree.chk (EntRel 5 [0, 1, 2, 3, 4] 5 Ent.dead Ent.dead)
   (Tree.chk (EntRel 5 [0, 1, 2, 3, 4] 5 { own := true, box := true, ty := 78, sz := 2, m := 1, n := fun a => 1, cap := fun a => 1, f := fun x x_1 => [CV.sl 3 0 0 4 k k, CV.v (Value.int IntKind.i64 (0 : Int))], ov := [] } { own := true, box := true, ty := 78, sz := 2, m := 1, n := fun a => 1, cap := fun a => 1, f := fun x x_1 => [CV.sl 3 0 0 4 k k, CV.v (Value.int IntKind.i64 (0 : Int))], ov := [] })
   (Tree.chk (EntRel 5 [0, 1, 2, 3, 4] 5 (Ent.rw true 59 4 k k fun ii => [CV.v (Value.bool false), CV.v (Value.bool false), CV.v (Value.bool false), CV.v (Value.int IntKind.i64 (0 : Int))]) (Ent.rw true 59 4 k k fun ii => [CV.v (Value.bool false), CV.v (Value.bool false), CV.v (Value.bool false), CV.v (Value.int IntKind.i64 (0 : Int))]))
   (Tree.chk (EntRel 5 [0, 1, 2, 3, 4] 5 (Ent.rw true 2 1 1 (c_2 0) fun ii => [CV.v (Value.int IntKind.i64 (if ii < 1 then (0 : Int) else (0 : Int)))]) (Ent.rw true 2 1 1 (c_2 0) fun ii => [CV.v (Value.int IntKind.i64 (if ii = 0 then (0 : Int) else if ii ≤ 0 then (0 : Int) else (0 : Int)))]))
   (Tree.need True))))))))))))
   (Tree.every { i // i ≤ 0 } fun s => Tree.br false
   (Tree.fail 67)
   (Tree.done (XV.tup [AV.c (CV.ptr ⟨0, 0, 0, 2, 0, 0, 0, 0⟩), AV.c (CV.ptr ⟨2, 0, 0, 2, 0, 0, 0, 0⟩)]) [{ own := true, box := true, ty := 72, sz := 2, m := 1, n := fun x => 1, cap := fun x => 1, f := fun x x_1 => [CV.sl 4 0 0 1 1 (c_2 0), CV.v (Value.int IntKind.i64 (4096 : Int))], ov := [] }, Ent.dead, { own := true, box := true, ty := 78, sz := 2, m := 1, n := fun a => 1, cap := fun a => 1, f := fun x x_1 => [CV.sl 3 0 0 4 k k, CV.v (Value.int IntKind.i64 (0 : Int))], ov := [] }, (Ent.rw true 59 4 k k fun ii => [CV.v (Value.bool false), CV.v (Value.bool false), CV.v (Value.bool false), CV.v (Value.int IntKind.i64 (0 : Int))]), (Ent.rw true 2 1 1 (c_2 0) fun ii => [CV.v (Value.int IntKind.i64 (if ii = 0 then (0 : Int) else if ii ≤ Subtype.val s then (0 : Int) else (0 : Int)))])]))))))
   (Tree.both
   (Tree.chk (XV.a (AV.c (CV.v (Value.int IntKind.i64 (0 : Int)))) = XV.a (AV.c (CV.v (Value.int IntKind.i64 (0 : Int)))))
   (Tree.chk (XV.a (AV.c (CV.v (Value.slice none 0 0))) = XV.a (AV.c (CV.v (Value.slice none 0 0))))
   (Tree.chk (XV.a (AV.c (CV.v (Value.pointer none))) = XV.a (AV.c (CV.v (Value.pointer none))))
   (Tree.chk (XV.a (AV.c (CV.v (Value.pointer none))) = XV.a (AV.c (CV.v (Value.pointer none))))
   (Tree.chk (XV.a (AV.c (CV.ptr ⟨0, 0, 0, 2, 0, 0, 0, 0⟩)) = XV.a (AV.c (CV.ptr ⟨0, 0, 0, 2, 0, 0, 0, 0⟩)))
   (Tree.chk (XV.a (AV.c (CV.ptr ⟨2, 0, 0, 2, 0, 0, 0, 0⟩)) = XV.a (AV.c (CV.ptr ⟨2, 0, 0, 2, 0, 0, 0, 0⟩)))
   (Tree.chk (EntRel 4 [0, 1, 2, 3] 4 { own := true, box := true, ty := 72, sz := 2, m := 1, n := fun a => 1, cap := fun a => 1, f := fun x x_1 => [CV.sl 1 0 0 1 1 1, CV.v (Value.int IntKind.i64 (4096 : Int))], ov := [] } { own := true, box := true, ty := 72, sz := 2, m := 1, n := fun x => 1, cap := fun x => 1, f := fun x x_1 => [CV.sl 1 0 0 1 1 1, CV.v (Value.int IntKind.i64 (4096 : Int))], ov := [] })
   (Tree.chk (EntRel 4 [0, 1, 2, 3] 4 (Ent.rw true 2 1 1 1 fun ii => [CV.v (Value.int IntKind.i64 (0 : Int))]) (Ent.rw true 2 1 1 1 fun ii => [CV.v (Value.int IntKind.i64 (if ii = 0 then (0 : Int) else if ii ≤ 0 then (0 : Int) else (0 : Int)))]))
   (Tree.chk (EntRel 4 [0, 1, 2, 3] 4 { own := true, box := true, ty := 78, sz := 2, m := 1, n := fun a => 1, cap := fun a => 1, f := fun x x_1 => [CV.sl 3 0 0 4 k k, CV.v (Value.int IntKind.i64 (0 : Int))], ov := [] } { own := true, box := true, ty := 78, sz := 2, m := 1, n := fun a => 1, cap := fun a => 1, f := fun x x_1 => [CV.sl 3 0 0 4 k k, CV.v (Value.int IntKind.i64 (0 : Int))], ov := [] })
   (Tree.chk (EntRel 4 [0, 1, 2, 3] 4 (Ent.rw true 59 4 k k fun ii => [CV.v (Value.bool false), CV.v (Value.bool false), CV.v (Value.bool false), CV.v (Value.int IntKind.i64 (0 : Int))]) (Ent.rw true 59 4 k k fun ii => [CV.v (Value.bool false), CV.v (Value.bool false), CV.v (Value.bool false), CV.v (Value.int IntKind.i64 (0 : Int))]))
   (Tree.need True)))))))))))
   (Tree.every { i // i ≤ 0 } fun s => Tree.br false
   (Tree.fail 67)
   (Tree.done (XV.tup [AV.c (CV.ptr ⟨0, 0, 0, 2, 0, 0, 0, 0⟩), AV.c (CV.ptr ⟨2, 0, 0, 2, 0, 0, 0, 0⟩)]) [{ own := true, box := true, ty := 72, sz := 2, m := 1, n := fun x => 1, cap := fun x => 1, f := fun x x_1 => [CV.sl 1 0 0 1 1 1, CV.v (Value.int IntKind.i64 (4096 : Int))], ov := [] }, (Ent.rw true 2 1 1 1 fun ii => [CV.v (Value.int IntKind.i64 (if ii = 0 then (0 : Int) else if ii ≤ Subtype.val s then (0 : Int) else (0 : Int)))]), { own := true, box := true, ty := 78, sz := 2, m := 1, n := fun a => 1, cap := fun a => 1, f := fun x x_1 => [CV.sl 3 0 0 4 k k, CV.v (Value.int IntKind.i64 (0 : Int))], ov := [] }, (Ent.rw true 59 4 k k fun ii => [CV.v (Value.bool false), CV.v (Value.bool false), CV.v (Value.bool false), CV.v (Value.int IntKind.i64 (0 : Int))])]))))))))))
theorem tmade0_eq (k : Nat) : xfunc tab (madeG k) (lpI fun _ tm H => madeI 0 (fun _ => 0) 0 tm H) Go.Proofs.Try.f8 [.c (.v (.slice none 0 0)), iav k] [] [0, 1, 2, 3, 4, 5] = tmade0 k := by kernel_rfl
end Go.Proofs.Ytehecaipmdfjmaa.X.Mi

set_option linter.unusedVariables false
set_option linter.unusedSimpArgs false
namespace Go.Proofs.Ytehecaipmdfjmaa.X.Mi
open Go Go.RowKit Go.Proofs.YtehecaipmdfjmaaW.PrintWords Go.Proofs.Ytehecaipmdfjmaa.Base Go.Proofs.Ytehecaipmdfjmaa.X
theorem iclone_call : Callable Try.prog 28 := ⟨_, Try.func28, by kernel_rfl, rfl⟩
theorem pclone_call : Callable Try.prog 29 := ⟨_, Try.func29, by kernel_rfl, rfl⟩
theorem newA_call : Callable Try.prog 18 := ⟨_, Try.func18, by kernel_rfl, rfl⟩
theorem newT_call : Callable Try.prog 19 := ⟨_, Try.func19, by kernel_rfl, rfl⟩
theorem iclone_local (a : Ar) (ρ : List Nat) (k : Nat) (hl : a.n ≤ 1000000) : (icloneC a ρ k).Local Try.prog 28 := by
  refine local_of Try.func28 rfl (ticlone_eq a) fun ν w => ?_
  refine ok_chk' Nat.one_pos (ok_every' fun b => ok_br' (fun h => ok_br' (fun hb => ?_) fun hb => ?_) fun h => trivial)
  · have hn : a.n = 0 := by
      rw [hb] at h
      rcases Nat.eq_zero_or_pos a.n with h0 | h0
      · exact h0
      · rw [show Nat.blt 0 a.1 = true from Nat.blt_eq.mpr h0] at h; cases h
    refine ok_leaf (fun _ => 0) [(2, 1)] [0, 1] ⟨Nat.le_of_eq hn, Nat.zero_le _⟩ (by show _ = XV.nilz _ (XV.ren _ (.a (.c (.sl 1 0 0 1 a.n 0)))); rw [hn]; rfl) ⟨⟨_, rfl, EntRel.rw rfl rfl (fun _ _ => rfl) fun _ _ => rfl⟩, ⟨_, rfl, EntRel.rw hn rfl (fun i hi => absurd hi (Nat.not_lt_zero _)) fun i hi => absurd hi (Nat.not_lt_zero _)⟩, trivial⟩ rfl
  · refine ok_chk' (by omega) (ok_chk' ⟨by omega, by omega⟩ (ok_chk' ⟨rfl, rfl⟩ (ok_all' fun c hc => ?_)))
    exact ok_leaf c [] [0, 2] ⟨by have := hc.1; omega, hc.2⟩ (by simp only [Nat.zero_add]; rfl) ⟨⟨_, rfl, EntRel.rw rfl rfl (fun _ _ => rfl) fun _ _ => rfl⟩, ⟨_, rfl, EntRel.rw (by simp) rfl (fun i hi => rfl) fun _ _ => rfl⟩, trivial⟩ rfl
theorem pclone_local (a : Tb) (ρ : List Nat) (k : Nat) (hl : a.n ≤ 1000000) : (pcloneC a ρ k).Local Try.prog 29 := by
  refine local_of Try.func29 rfl (tpclone_eq a) fun ν w => ?_
  refine ok_chk' Nat.one_pos (ok_every' fun b => ok_br' (fun h => ok_br' (fun hb => ?_) fun hb => ?_) fun h => trivial)
  · have hn : a.n = 0 := by
      rw [hb] at h
      rcases Nat.eq_zero_or_pos a.n with h0 | h0
      · exact h0
      · rw [show Nat.blt 0 a.1 = true from Nat.blt_eq.mpr h0] at h; cases h
    refine ok_leaf (fun _ => 0) [(59, 4)] [0, 1] ⟨Nat.le_of_eq hn, Nat.zero_le _⟩ (by show _ = XV.nilz _ (XV.ren _ (.a (.c (.sl 1 0 0 4 a.n 0)))); rw [hn]; rfl) ⟨⟨_, rfl, EntRel.rw rfl rfl (fun _ _ => rfl) fun _ _ => rfl⟩, ⟨_, rfl, EntRel.rw hn rfl (fun i hi => absurd hi (Nat.not_lt_zero _)) fun i hi => absurd hi (Nat.not_lt_zero _)⟩, trivial⟩ rfl
  · refine ok_chk' (by omega) (ok_chk' ⟨by omega, by omega⟩ (ok_chk' ⟨rfl, rfl⟩ (ok_all' fun c hc => ?_)))
    exact ok_leaf c [] [0, 2] ⟨by have := hc.1; omega, hc.2⟩ (by simp only [Nat.zero_add]; rfl) ⟨⟨_, rfl, EntRel.rw rfl rfl (fun _ _ => rfl) fun _ _ => rfl⟩, ⟨_, rfl, EntRel.rw (by simp) rfl (fun i hi => rfl) fun _ _ => rfl⟩, trivial⟩ rfl
theorem aclone_local (a : Ar) (t : Tb) (ρ : List Nat) (k : Nat) (hl : a.n ≤ 1000000) : (acloneC a ρ k).Local Try.prog 14 := by
  refine local_of Try.func14 rfl (taclone_eq a t) fun ν w => ?_
  refine ok_callf' iclone_call (fits_of rfl rfl ⟨⟨_, rfl, EntRel.rw rfl rfl (fun _ _ => rfl) fun _ _ => rfl⟩, trivial⟩ fun c _ => ⟨⟨(by show 1 ≤ 2; decide), rfl⟩, ⟨rfl, rfl⟩, ⟨⟨EntRel.rw rfl rfl (fun _ _ => rfl) fun _ _ => rfl, rfl, (fun h => by cases h), .inr rfl⟩, ⟨EntRel.rw rfl rfl (fun _ _ => rfl) fun _ _ => rfl, rfl, (fun h => by cases h), .inr rfl⟩, trivial⟩⟩) (iclone_local a _ _ hl) fun c hc => ?_
  repeat (refine ok_chk' rfl ?_)
  exact ok_leaf c [] [0, 1, 3, 2] trivial rfl ⟨⟨_, rfl, EntRel.box' rfl rfl rfl rfl rfl⟩, ⟨_, rfl, EntRel.rw rfl rfl (fun _ _ => rfl) fun _ _ => rfl⟩, ⟨_, rfl, EntRel.box' rfl rfl rfl rfl rfl⟩, ⟨_, rfl, EntRel.rw rfl rfl (fun _ _ => rfl) fun _ _ => rfl⟩, trivial⟩ rfl
theorem tclone_local (a : Ar) (t : Tb) (ρ : List Nat) (k : Nat) (hl : t.n ≤ 1000000) : (tcloneC t ρ k).Local Try.prog 15 := by
  refine local_of Try.func15 rfl (ttclone_eq a t) fun ν w => ?_
  refine ok_callf' pclone_call (fits_of rfl rfl ⟨⟨_, rfl, EntRel.rw rfl rfl (fun _ _ => rfl) fun _ _ => rfl⟩, trivial⟩ fun c _ => ⟨⟨(by show 1 ≤ 2; decide), rfl⟩, ⟨rfl, rfl⟩, ⟨⟨EntRel.rw rfl rfl (fun _ _ => rfl) fun _ _ => rfl, rfl, (fun h => by cases h), .inr rfl⟩, ⟨EntRel.rw rfl rfl (fun _ _ => rfl) fun _ _ => rfl, rfl, (fun h => by cases h), .inr rfl⟩, trivial⟩⟩) (pclone_local t _ _ hl) fun c hc => ?_
  repeat (refine ok_chk' rfl ?_)
  exact ok_leaf c [] [0, 1, 3, 2] trivial rfl ⟨⟨_, rfl, EntRel.box' rfl rfl rfl rfl rfl⟩, ⟨_, rfl, EntRel.rw rfl rfl (fun _ _ => rfl) fun _ _ => rfl⟩, ⟨_, rfl, EntRel.box' rfl rfl rfl rfl rfl⟩, ⟨_, rfl, EntRel.rw rfl rfl (fun _ _ => rfl) fun _ _ => rfl⟩, trivial⟩ rfl
theorem start_local (at_ : Int) (own : Bool) (n cap : Nat) (z : Nat → Int) (ρ : List Nat) (k : Nat) : (startC at_ own n cap z ρ k).Local Try.prog 12 := by
  refine local_of Try.func12 rfl (tstart_eq at_ own n cap z) fun ν w => ?_
  refine ok_chk' ⟨Nat.one_pos, by omega⟩ (ok_chk' (fun _ _ _ => rfl) ?_)
  exact ok_leaf (fun _ => 0) [] [0, 2] trivial rfl ⟨⟨_, rfl, EntRel.rw rfl rfl (fun _ _ => rfl) fun _ _ => rfl⟩, ⟨_, rfl, EntRel.rw rfl rfl (fun _ _ => rfl) fun _ _ => rfl⟩, trivial⟩ rfl
theorem start0_local (at_ : Int) (k : Nat) : (start0C at_ k).Local Try.prog 12 := by
  refine local_of Try.func12 rfl (tstart0_eq at_) fun ν w => ?_
  repeat refine ok_chk' (by first | rfl | (intro q hq; omega) | exact ⟨by omega, by omega⟩) ?_
  exact ok_leaf (fun _ => 0) [] [1] trivial rfl ⟨⟨_, rfl, EntRel.rw rfl rfl (fun _ _ => rfl) fun _ _ => rfl⟩, trivial⟩ rfl
theorem newA_local (k : Nat) : (newAC k).Local Try.prog 18 := by
  refine local_of Try.func18 rfl (tnew_eq 4096) fun ν w => ?_
  repeat refine ok_chk' (fun h => h) ?_
  refine ok_chk' (fun _ => rfl) (ok_br' (fun h => by cases h) fun _ => ?_)
  exact ok_leaf (fun _ => 0) [] [1, 0] trivial rfl ⟨⟨_, rfl, EntRel.box' rfl rfl rfl rfl rfl⟩, ⟨_, rfl, EntRel.rw rfl rfl (fun _ _ => rfl) fun _ _ => rfl⟩, trivial⟩ rfl
theorem newT_local (n k : Nat) (h1 : 1 ≤ n) (h2 : n ≤ 8) : (newTC n k).Local Try.prog 19 := by
  refine local_of Try.func19 rfl (tnewt_eq n) fun ν w => ?_
  repeat refine ok_chk' (fun h => h) ?_
  refine ok_chk' (fun h => by rw [h]; rfl) (ok_br' (fun h => by simp at h; omega) fun _ => ok_chk' ⟨by omega, by omega, by omega⟩ ?_)
  exact ok_leaf (fun _ => 0) [] [1, 0] trivial rfl ⟨⟨_, rfl, EntRel.box' rfl rfl rfl rfl rfl⟩, ⟨_, rfl, EntRel.rw (by show n = Int.toNat n; simp) (by show n = Int.toNat n; simp) (fun _ _ => rfl) fun _ _ => rfl⟩, trivial⟩ rfl
end Go.Proofs.Ytehecaipmdfjmaa.X.Mi

set_option linter.unusedVariables false
set_option linter.unusedSimpArgs false
namespace Go.Proofs.Ytehecaipmdfjmaa.X.Mi
open Go Go.RowKit Go.Proofs.YtehecaipmdfjmaaW.PrintWords Go.Proofs.Ytehecaipmdfjmaa.Base Go.Proofs.Ytehecaipmdfjmaa.X
abbrev madeC (own : Bool) (n cap k : Nat) (z : Nat → Int) (ρ : List Nat) (kk : Nat) : CallSpec := mSpec ρ kk [.c (.sl 0 0 0 1 n cap), iav k] [irow own n cap z] (fun _ => True) (fun _ => .tup [bptr 1 2, bptr 3 2]) fun c => [irow own n cap z, (madeF n n (c 0) z).box 2, (madeF n n (c 0) z).row, (newT k).box 4, (newT k).row]
abbrev made0C (k kk : Nat) : CallSpec := mSpec [] kk [.c (.v (.slice none 0 0)), iav k] [] (fun _ => True) (fun _ => .tup [bptr 0 2, bptr 2 2]) fun c => [newA.box 1, newA.row, (newT k).box 3, (newT k).row]
theorem newA_ok : newA.Ok := ⟨Nat.le_refl _, by decide, by decide, by decide⟩
theorem newA_full {n : Nat} (h : n ≤ 100) : fullF newA n = false := by
  unfold fullF
  rw [lenF_eq newA_ok]
  have : IntKind.wrap .i64 (newA.most - ((newA.n : Int) - 1)) = 4096 := rfl
  rw [this]
  simp
  omega
theorem madeF_ok {n i cap : Nat} {z : Nat → Int} (h : n ≤ 100) : (madeF n i cap z).Ok := ⟨by show 1 ≤ 1 + n; omega, by show (0 : Int) ≤ 4096; decide, by show (4096 : Int) ≤ 4096; decide, by show ((1 + n : Nat) : Int) ≤ 4096 + 1; omega⟩
set_option maxHeartbeats 2000000 in
theorem made_local (own : Bool) (n cap k : Nat) (z : Nat → Int) (ρ : List Nat) (kk : Nat) (hn : n ≤ 100) (hk : 1 ≤ k) (hk8 : k ≤ 8) : (madeC own n cap k z ρ kk).Local Try.prog 8 := by
  refine local_of Try.func8 rfl (tmade_eq own n cap k z) fun ν w => ?_
  refine ok_callf' newA_call (fits_of rfl rfl trivial fun c _ => ⟨⟨Nat.zero_le _, rfl⟩, ⟨rfl, rfl⟩, ⟨⟨EntRel.box' rfl rfl rfl rfl rfl, rfl, (fun _ => ⟨rfl, rfl⟩), .inr rfl⟩, ⟨EntRel.rw rfl rfl (fun _ _ => rfl) fun _ _ => rfl, rfl, (fun h => by cases h), .inr rfl⟩, trivial⟩⟩) (newA_local _) fun c1 _ => ok_callf' newT_call (fits_of rfl rfl trivial fun c _ => ⟨⟨Nat.zero_le _, rfl⟩, ⟨rfl, rfl⟩, ⟨⟨EntRel.box' rfl rfl rfl rfl rfl, rfl, (fun _ => ⟨rfl, rfl⟩), .inr rfl⟩, ⟨EntRel.rw rfl rfl (fun _ _ => rfl) fun _ _ => rfl, rfl, (fun h => by cases h), .inr rfl⟩, trivial⟩⟩) (newT_local k _ hk hk8) fun c2 _ => ?_
  repeat refine ok_chk' (by first | rfl | exact fun h => h | exact fun _ => rfl) ?_
  refine ok_br' (fun h => by cases h) fun _ => ok_br' (fun h1 => ?_) fun h1 => ?_
  · refine ok_br' (fun h => by simp at h h1; omega) fun h2 => ok_br' (fun h => by have h : fullF newA n = true := h; rw [newA_full hn] at h; cases h) fun h3 => ?_
    refine ok_callf' alloc_call (fits_of rfl rfl ⟨⟨_, rfl, EntRel.box' rfl rfl rfl rfl rfl⟩, ⟨_, rfl, EntRel.rw rfl rfl (fun _ _ => rfl) fun _ _ => rfl⟩, trivial⟩ fun c _ => ⟨⟨(by show 2 ≤ 3; decide), rfl⟩, ⟨rfl, rfl⟩, ⟨⟨EntRel.box' rfl rfl rfl rfl rfl, rfl, (fun _ => ⟨rfl, rfl⟩), .inr rfl⟩, ⟨EntRel.dead, rfl, (fun h => by cases h), .inr rfl⟩, ⟨EntRel.rw rfl rfl (fun _ _ => rfl) fun _ _ => rfl, rfl, (fun h => by cases h), .inr rfl⟩, trivial⟩⟩) ((alloc_local newA n _ _ newA_ok).2.2 h2 (newA_full hn)) fun c3 _ => ok_br' (fun h => by cases h) fun _ => ?_
    refine ok_both' ?_ (ok_every' fun s => ok_br' (fun h4 => ?_) fun h4 => ?_)
    · repeat (refine ok_chk' rfl ?_)
      refine ok_chk' (EntRel.rw rfl rfl (fun _ _ => rfl) fun _ _ => rfl) (ok_chk' (EntRel.box' rfl rfl rfl rfl rfl) (ok_chk' EntRel.dead (ok_chk' (EntRel.box' rfl rfl rfl rfl rfl) (ok_chk' (EntRel.rw rfl rfl (fun _ _ => rfl) fun _ _ => rfl) (ok_chk' (EntRel.rw rfl rfl (fun i _ => ?_) fun _ _ => rfl) trivial)))))
      show [iv (if i < 1 then 0 else 0)] = [iv (if i = 0 then 0 else if i ≤ 0 then z (i - 1) else 0)]
      by_cases h5 : i = 0
      · simp [h5]
      · have : ¬ i ≤ 0 := by omega
        simp [h5]
    · have h4 : s.1 < n := by simpa using h4
      have hw : IntKind.wrap .i64 ((s.1 : Int) + 1) = (s.1 : Int) + 1 := wrap64 (by omega) (by omega)
      have hh : hereF (madeF n s.1 (c3 0) z) (IntKind.wrap .i64 ((s.1 : Int) + 1)) = true := by
        unfold hereF
        rw [hw]
        have e1 : decide ((s.1 : Int) + 1 ≥ 1) = true := by simp; omega
        have e2 : decide ((s.1 : Int) + 1 < ((1 + n : Nat) : Int)) = true := by simp; omega
        rw [e1, cond_true]
        exact e2
      refine ok_chk' ⟨by omega, by omega, by omega, Nat.one_pos⟩ (ok_chk' ⟨Nat.one_pos, by omega⟩ (ok_some' (madeF n s.1 (c3 0) z) (ok_callf' store_call (fits_of rfl rfl ⟨⟨_, rfl, EntRel.box' rfl rfl rfl rfl rfl⟩, ⟨_, rfl, EntRel.rw rfl rfl (fun _ _ => rfl) fun _ _ => rfl⟩, trivial⟩ fun c _ => ⟨⟨Nat.le_refl _, rfl⟩, ⟨rfl, rfl⟩, ⟨⟨EntRel.box' rfl rfl rfl rfl rfl, rfl, (fun _ => ⟨rfl, rfl⟩), .inr rfl⟩, ⟨EntRel.rw rfl rfl (fun _ _ => rfl) fun _ _ => rfl, rfl, (fun h => by cases h), .inr rfl⟩, trivial⟩⟩) ((store_local _ _ _ _).1 hh) fun c4 _ => ok_br' (fun h => by cases h) fun _ => ?_)))
      refine ok_some' ⟨s.1 + 1, h4⟩ (ok_chk' (by show n - (s.1 + 1) < n - s.1; omega) (ok_chk' (by rw [hw]; rfl) ?_))
      repeat (refine ok_chk' rfl ?_)
      refine ok_chk' (EntRel.rw rfl rfl (fun _ _ => rfl) fun _ _ => rfl) (ok_chk' (EntRel.box' rfl rfl rfl rfl rfl) (ok_chk' EntRel.dead (ok_chk' (EntRel.box' rfl rfl rfl rfl rfl) (ok_chk' (EntRel.rw rfl rfl (fun _ _ => rfl) fun _ _ => rfl) (ok_chk' (EntRel.rw rfl rfl (fun i _ => ?_) fun _ _ => rfl) trivial)))))
      show [iv (if i = (IntKind.wrap .i64 ((s.1 : Int) + 1)).toNat then z (s.1 : Int).toNat else (if i = 0 then 0 else if i ≤ s.1 then z (i - 1) else 0))] = [iv (if i = 0 then 0 else if i ≤ s.1 + 1 then z (i - 1) else 0)]
      rw [hw, show ((s.1 : Int) + 1).toNat = s.1 + 1 by omega, Int.toNat_natCast]
      by_cases h5 : i = s.1 + 1
      · subst h5; simp
      · by_cases h6 : i ≤ s.1
        · have : i ≤ s.1 + 1 := by omega
          simp [h5, h6, this]
        · have : ¬ i ≤ s.1 + 1 := by omega
          simp [h5, h6, this]
    · have h5 : s.1 = n := by have := s.2; simp at h4; omega
      obtain ⟨i, hi⟩ := s
      have h5 : i = n := h5
      subst h5
      exact ok_leaf2 c3 [] [0, 1, 5, 3, 4] trivial rfl ⟨.inr ⟨_, rfl, EntRel.rw rfl rfl (fun _ _ => rfl) fun _ _ => rfl⟩, .inr ⟨_, rfl, EntRel.box' rfl rfl rfl rfl rfl⟩, .inr ⟨_, rfl, EntRel.rw rfl rfl (fun _ _ => rfl) fun _ _ => rfl⟩, .inr ⟨_, rfl, EntRel.box' rfl rfl rfl rfl rfl⟩, .inr ⟨_, rfl, EntRel.rw rfl rfl (fun _ _ => rfl) fun _ _ => rfl⟩, trivial⟩ rfl
  · have h2 : n = 0 := by simp at h1; omega
    subst h2
    refine ok_both' ?_ (ok_every' fun s => ok_br' (fun h4 => ?_) fun h4 => ?_)
    · repeat (refine ok_chk' rfl ?_)
      refine ok_chk' (EntRel.rw rfl rfl (fun _ _ => rfl) fun _ _ => rfl) (ok_chk' (EntRel.box' rfl rfl rfl rfl rfl) (ok_chk' (EntRel.rw rfl rfl (fun i hi => ?_) fun _ _ => rfl) (ok_chk' (EntRel.box' rfl rfl rfl rfl rfl) (ok_chk' (EntRel.rw rfl rfl (fun _ _ => rfl) fun _ _ => rfl) trivial))))
      have : i = 0 := by omega
      subst this
      rfl
    · exfalso; simp at h4; omega
    · obtain ⟨i, hi⟩ := s
      have h5 : i = 0 := by omega
      subst h5
      exact ok_leaf2 (fun _ => 1) [] [0, 1, 2, 3, 4] trivial rfl ⟨.inr ⟨_, rfl, EntRel.rw rfl rfl (fun _ _ => rfl) fun _ _ => rfl⟩, .inr ⟨_, rfl, EntRel.box' rfl rfl rfl rfl rfl⟩, .inr ⟨_, rfl, EntRel.rw rfl rfl (fun _ _ => rfl) fun _ _ => rfl⟩, .inr ⟨_, rfl, EntRel.box' rfl rfl rfl rfl rfl⟩, .inr ⟨_, rfl, EntRel.rw rfl rfl (fun _ _ => rfl) fun _ _ => rfl⟩, trivial⟩ rfl
theorem made0_local (k kk : Nat) (hk : 1 ≤ k) (hk8 : k ≤ 8) : (made0C k kk).Local Try.prog 8 := by
  refine local_of Try.func8 rfl (tmade0_eq k) fun ν w => ?_
  refine ok_callf' newA_call (fits_of rfl rfl trivial fun c _ => ⟨⟨Nat.zero_le _, rfl⟩, ⟨rfl, rfl⟩, ⟨⟨EntRel.box' rfl rfl rfl rfl rfl, rfl, (fun _ => ⟨rfl, rfl⟩), .inr rfl⟩, ⟨EntRel.rw rfl rfl (fun _ _ => rfl) fun _ _ => rfl, rfl, (fun h => by cases h), .inr rfl⟩, trivial⟩⟩) (newA_local _) fun c1 _ => ok_callf' newT_call (fits_of rfl rfl trivial fun c _ => ⟨⟨Nat.zero_le _, rfl⟩, ⟨rfl, rfl⟩, ⟨⟨EntRel.box' rfl rfl rfl rfl rfl, rfl, (fun _ => ⟨rfl, rfl⟩), .inr rfl⟩, ⟨EntRel.rw rfl rfl (fun _ _ => rfl) fun _ _ => rfl, rfl, (fun h => by cases h), .inr rfl⟩, trivial⟩⟩) (newT_local k _ hk hk8) fun c2 _ => ?_
  repeat refine ok_chk' (by first | rfl | exact fun h => h | exact fun _ => rfl) ?_
  refine ok_br' (fun h => by cases h) fun _ => ok_br' (fun h => by cases h) fun h1 => ?_
  refine ok_both' ?_ (ok_every' fun s => ok_br' (fun h => by cases h) fun h4 => ?_)
  · repeat (refine ok_chk' rfl ?_)
    refine ok_chk' (EntRel.box' rfl rfl rfl rfl rfl) (ok_chk' (EntRel.rw rfl rfl (fun i hi => ?_) fun _ _ => rfl) (ok_chk' (EntRel.box' rfl rfl rfl rfl rfl) (ok_chk' (EntRel.rw rfl rfl (fun _ _ => rfl) fun _ _ => rfl) trivial)))
    have : i = 0 := by have hi : i < 1 := hi; omega
    subst this
    rfl
  · obtain ⟨i, hi⟩ := s
    have h5 : i = 0 := by omega
    subst h5
    refine ok_leaf2 (fun _ => 1) [] [0, 1, 2, 3] trivial rfl ⟨.inr ⟨_, rfl, EntRel.box' rfl rfl rfl rfl rfl⟩, .inr ⟨_, rfl, EntRel.rw rfl rfl (fun i hi => ?_) fun _ _ => rfl⟩, .inr ⟨_, rfl, EntRel.box' rfl rfl rfl rfl rfl⟩, .inr ⟨_, rfl, EntRel.rw rfl rfl (fun _ _ => rfl) fun _ _ => rfl⟩, trivial⟩ rfl
    have : i = 0 := by have hi : i < 1 := hi; omega
    subst this
    rfl
end Go.Proofs.Ytehecaipmdfjmaa.X.Mi

set_option linter.unusedVariables false
set_option linter.unusedSimpArgs false
namespace Go.Proofs.Ytehecaipmdfjmaa.X.Mi
open Go Go.RowKit Go.Proofs.YtehecaipmdfjmaaW.PrintWords Go.Proofs.Ytehecaipmdfjmaa.Base Go.Proofs.Ytehecaipmdfjmaa.X
abbrev errX : XV := .tup [.c (.v (.slice none 0 0)), .c (.v (.slice none 0 0)), iav 0, iav 0, .c (errE 1)]
abbrev stepAC (d : Cd) (t : Tb) (i : Int) (ol : Bool) (n cap : Nat) (F : Nat → Fr) (ρ : List Nat) : CallSpec := mSpec ρ 0 [.c (.sl 0 0 0 5 d.n d.cap), .c (.v (.pointer none)), bptr 1 2, iav i, .c (.sl 3 0 0 17 n cap)] [d.row, t.box 2, t.row, frow ol n cap F] (fun _ => True) (fun _ => errX) fun _ => [d.row, t.box 2, t.row, frow ol n cap F]
abbrev StT : Type := Mc × Mc × Int × Int × Cd
abbrev upC (k : Nat) : CallSpec := mSpec [] k [] [] (fun _ => True) (fun _ => bool true) fun _ => []
def lawG : Ctr := fun f args H => match args with
  | [] => some (upC H.length)
  | [.c (.v (.slice _ _ _)), .c (.v (.int _ k))] => some (made0C k.toNat H.length)
  | [.c (.sl kc _ _ _ n cap), .c (.v (.int _ k))] => some (.ex ((Nat → Int) × Bool) fun z => madeC z.2 n cap k.toNat z.1 [kc] H.length)
  | [.c (.v (.int _ at_)), .c (.v (.slice _ _ _))] => some (start0C at_ H.length)
  | [.c (.v (.int _ at_)), .c (.sl kc _ _ _ n cap)] => some (.ex ((Nat → Int) × Bool) fun z => startC at_ z.2 n cap z.1 [kc] H.length)
  | [.c (.sl kd _ _ _ _ _), .c (.ptr ra), .c (.ptr rt), _, .c (.sl kf _ _ _ _ _)] => some (.ex StT fun s => stepC s.1 s.2.1 s.2.2.1 s.2.2.2.1 s.2.2.2.2 true [kd, ra.k, slAt H ra.k 0, rt.k, slAt H rt.k 0, kf] H.length)
  | [.c (.sl kd _ _ _ _ _), .c (.v (.pointer none)), .c (.ptr rt), .c (.v (.int _ i)), .c (.sl kf _ _ _ n cap)] => some (.ex (Cd × Tb × (Nat → Fr)) fun s => stepAC s.1 s.2.1 i true n cap s.2.2 [kd, rt.k, slAt H rt.k 0, kf])
  | [.c (.ptr r), .c (.v (.int _ x))] => some (.ex (Ar × Int) fun s => loadC s.1 x s.2 nilE [r.k, slAt H r.k 0])
  | _ => none
def tup (u : Unit) : Tree :=
  Tree.callf 8 [AV.c (CV.v (Value.slice none 0 0)), AV.c (CV.v (Value.int IntKind.i64 (1 : Int)))] [] (made0C 1 0) fun c => Tree.br false
   (Tree.done (XV.a (AV.c (CV.v (Value.bool false)))) [Ent.dead, Ent.dead, Ent.dead, Ent.dead])
   (Tree.callf 12 [AV.c (CV.v (Value.int IntKind.i64 (0 : Int))), AV.c (CV.v (Value.slice none 0 0))] [{ own := true, box := true, ty := 72, sz := 2, m := 1, n := fun a => 1, cap := fun a => 1, f := fun x x_1 => [CV.sl 1 0 0 1 1 1, CV.v (Value.int IntKind.i64 (4096 : Int))], ov := [] }, (Ent.rw true 2 1 1 1 fun ii => [CV.v (Value.int IntKind.i64 (0 : Int))]), { own := true, box := true, ty := 78, sz := 2, m := 1, n := fun a => 1, cap := fun a => 1, f := fun x x_1 => [CV.sl 3 0 0 4 1 1, CV.v (Value.int IntKind.i64 (0 : Int))], ov := [] }, (Ent.rw true 59 4 1 1 fun ii => [CV.v (Value.bool false), CV.v (Value.bool false), CV.v (Value.bool false), CV.v (Value.int IntKind.i64 (0 : Int))]), (Ent.rw true 40 5 2 2 fun ii => List.getD [[CV.v (Value.int IntKind.i64 (1 : Int)), CV.v (Value.int IntKind.i64 (0 : Int)), CV.v (Value.int IntKind.i64 (0 : Int)), CV.v (Value.int IntKind.i64 (0 : Int)), CV.v (Value.int IntKind.i64 (5 : Int))], [CV.v (Value.int IntKind.i64 (22 : Int)), CV.v (Value.int IntKind.i64 (0 : Int)), CV.v (Value.int IntKind.i64 (0 : Int)), CV.v (Value.int IntKind.i64 (0 : Int)), CV.v (Value.int IntKind.i64 (0 : Int))]] ii [])] (start0C (0 : Int) 5) fun c => Tree.some_ (Mc × Mc × Int × Int × Cd) fun s => Tree.callf 10 [AV.c (CV.sl 4 0 0 5 2 2), AV.c (CV.ptr ⟨0, 0, 0, 2, 0, 0, 0, 0⟩), AV.c (CV.ptr ⟨2, 0, 0, 2, 0, 0, 0, 0⟩), AV.c (CV.v (Value.int IntKind.i64 (0 : Int))), AV.c (CV.sl 5 0 0 17 1 1)] [{ own := true, box := true, ty := 72, sz := 2, m := 1, n := fun a => 1, cap := fun a => 1, f := fun x x_1 => [CV.sl 1 0 0 1 1 1, CV.v (Value.int IntKind.i64 (4096 : Int))], ov := [] }, (Ent.rw true 2 1 1 1 fun ii => [CV.v (Value.int IntKind.i64 (0 : Int))]), { own := true, box := true, ty := 78, sz := 2, m := 1, n := fun a => 1, cap := fun a => 1, f := fun x x_1 => [CV.sl 3 0 0 4 1 1, CV.v (Value.int IntKind.i64 (0 : Int))], ov := [] }, (Ent.rw true 59 4 1 1 fun ii => [CV.v (Value.bool false), CV.v (Value.bool false), CV.v (Value.bool false), CV.v (Value.int IntKind.i64 (0 : Int))]), (Ent.rw true 40 5 2 2 fun ii => List.getD [[CV.v (Value.int IntKind.i64 (1 : Int)), CV.v (Value.int IntKind.i64 (0 : Int)), CV.v (Value.int IntKind.i64 (0 : Int)), CV.v (Value.int IntKind.i64 (0 : Int)), CV.v (Value.int IntKind.i64 (5 : Int))], [CV.v (Value.int IntKind.i64 (22 : Int)), CV.v (Value.int IntKind.i64 (0 : Int)), CV.v (Value.int IntKind.i64 (0 : Int)), CV.v (Value.int IntKind.i64 (0 : Int)), CV.v (Value.int IntKind.i64 (0 : Int))]] ii []), (Ent.rw true 66 17 1 1 fun ii => [CV.v (Value.int IntKind.i64 (0 : Int)), CV.v (Value.int IntKind.i64 (0 : Int)), CV.v (Value.int IntKind.i64 (0 : Int)), CV.v (Value.int IntKind.i64 (0 : Int)), CV.v (Value.int IntKind.i64 (0 : Int)), CV.v (Value.int IntKind.i64 (0 : Int)), CV.v (Value.int IntKind.i64 (0 : Int)), CV.v (Value.int IntKind.i64 (0 : Int)), CV.v (Value.int IntKind.i64 (0 : Int)), CV.v (Value.int IntKind.i64 (0 : Int)), CV.v (Value.int IntKind.i64 (0 : Int)), CV.v (Value.int IntKind.i64 (0 : Int)), CV.v (Value.int IntKind.i64 (0 : Int)), CV.v (Value.int IntKind.i64 (0 : Int)), CV.v (Value.int IntKind.i64 (0 : Int)), CV.v (Value.int IntKind.i64 (0 : Int)), CV.v (Value.int IntKind.i64 (0 : Int))])] (stepC (Prod.fst s) (Prod.fst (Prod.snd s)) (Prod.fst (Prod.snd (Prod.snd s))) (Prod.fst (Prod.snd (Prod.snd (Prod.snd s)))) (Prod.snd (Prod.snd (Prod.snd (Prod.snd s)))) true [4, 0, 1, 2, 3, 5] 6) fun c => Tree.callf 12 [AV.c (CV.v (Value.int IntKind.i64 (0 : Int))), AV.c (CV.v (Value.slice none 0 0))] [{ own := true, box := true, ty := 72, sz := 2, m := 1, n := fun a => 1, cap := fun a => 1, f := fun x x_1 => [CV.sl 6 0 0 1 (Prod.fst (Prod.snd s)).1.1 (c 0), CV.v (Value.int IntKind.i64 (Prod.fst (Prod.snd s)).1.4)], ov := [] }, Ent.dead, { own := true, box := true, ty := 78, sz := 2, m := 1, n := fun a => 1, cap := fun a => 1, f := fun x x_1 => [CV.sl 3 0 0 4 (Prod.fst (Prod.snd s)).2.1 (Prod.fst (Prod.snd s)).2.2, CV.v (Value.int IntKind.i64 (Prod.fst (Prod.snd s)).2.4)], ov := [] }, (Ent.rw true 59 4 (Prod.fst (Prod.snd s)).2.1 (Prod.fst (Prod.snd s)).2.2 fun ii => [CV.v (Value.bool ((Prod.fst (Prod.snd s)).2.3 ii).1), CV.v (Value.bool ((Prod.fst (Prod.snd s)).2.3 ii).2), CV.v (Value.bool ((Prod.fst (Prod.snd s)).2.3 ii).3), CV.v (Value.int IntKind.i64 ((Prod.fst (Prod.snd s)).2.3 ii).4)]), (Ent.rw (Prod.snd (Prod.snd (Prod.snd (Prod.snd s)))).1 40 5 (Prod.snd (Prod.snd (Prod.snd (Prod.snd s)))).2 (Prod.snd (Prod.snd (Prod.snd (Prod.snd s)))).3 fun ii => [CV.v (Value.int IntKind.i64 ((Prod.snd (Prod.snd (Prod.snd (Prod.snd s)))).4 ii).1), CV.v (Value.int IntKind.i64 ((Prod.snd (Prod.snd (Prod.snd (Prod.snd s)))).4 ii).2), CV.v (Value.int IntKind.i64 ((Prod.snd (Prod.snd (Prod.snd (Prod.snd s)))).4 ii).3), CV.v (Value.int IntKind.i64 ((Prod.snd (Prod.snd (Prod.snd (Prod.snd s)))).4 ii).4), CV.v (Value.int IntKind.i64 ((Prod.snd (Prod.snd (Prod.snd (Prod.snd s)))).4 ii).5)]), (Ent.rw true 66 17 (Mc.nF (Prod.fst s)) (Mc.cF (Prod.fst s)) fun ii => [CV.v (Value.int IntKind.i64 (Mc.F (Prod.fst s) ii).1), CV.v (Value.int IntKind.i64 ((Mc.F (Prod.fst s) ii).2 0)), CV.v (Value.int IntKind.i64 ((Mc.F (Prod.fst s) ii).2 1)), CV.v (Value.int IntKind.i64 ((Mc.F (Prod.fst s) ii).2 2)), CV.v (Value.int IntKind.i64 ((Mc.F (Prod.fst s) ii).2 3)), CV.v (Value.int IntKind.i64 ((Mc.F (Prod.fst s) ii).2 4)), CV.v (Value.int IntKind.i64 ((Mc.F (Prod.fst s) ii).2 5)), CV.v (Value.int IntKind.i64 ((Mc.F (Prod.fst s) ii).2 6)), CV.v (Value.int IntKind.i64 ((Mc.F (Prod.fst s) ii).2 7)), CV.v (Value.int IntKind.i64 ((Mc.F (Prod.fst s) ii).2 8)), CV.v (Value.int IntKind.i64 ((Mc.F (Prod.fst s) ii).2 9)), CV.v (Value.int IntKind.i64 ((Mc.F (Prod.fst s) ii).2 10)), CV.v (Value.int IntKind.i64 ((Mc.F (Prod.fst s) ii).2 11)), CV.v (Value.int IntKind.i64 ((Mc.F (Prod.fst s) ii).2 12)), CV.v (Value.int IntKind.i64 ((Mc.F (Prod.fst s) ii).2 13)), CV.v (Value.int IntKind.i64 ((Mc.F (Prod.fst s) ii).2 14)), CV.v (Value.int IntKind.i64 ((Mc.F (Prod.fst s) ii).2 15))]), (Ent.rw true 2 1 (Prod.fst (Prod.snd s)).1.1 (c 0) fun ii => [CV.v (Value.int IntKind.i64 ((Prod.fst (Prod.snd s)).1.3 ii))]), (Ent.rw true 66 17 (Mc.nF (Prod.fst (Prod.snd s))) (c 1) fun ii => [CV.v (Value.int IntKind.i64 (Mc.F (Prod.fst (Prod.snd s)) ii).1), CV.v (Value.int IntKind.i64 ((Mc.F (Prod.fst (Prod.snd s)) ii).2 0)), CV.v (Value.int IntKind.i64 ((Mc.F (Prod.fst (Prod.snd s)) ii).2 1)), CV.v (Value.int IntKind.i64 ((Mc.F (Prod.fst (Prod.snd s)) ii).2 2)), CV.v (Value.int IntKind.i64 ((Mc.F (Prod.fst (Prod.snd s)) ii).2 3)), CV.v (Value.int IntKind.i64 ((Mc.F (Prod.fst (Prod.snd s)) ii).2 4)), CV.v (Value.int IntKind.i64 ((Mc.F (Prod.fst (Prod.snd s)) ii).2 5)), CV.v (Value.int IntKind.i64 ((Mc.F (Prod.fst (Prod.snd s)) ii).2 6)), CV.v (Value.int IntKind.i64 ((Mc.F (Prod.fst (Prod.snd s)) ii).2 7)), CV.v (Value.int IntKind.i64 ((Mc.F (Prod.fst (Prod.snd s)) ii).2 8)), CV.v (Value.int IntKind.i64 ((Mc.F (Prod.fst (Prod.snd s)) ii).2 9)), CV.v (Value.int IntKind.i64 ((Mc.F (Prod.fst (Prod.snd s)) ii).2 10)), CV.v (Value.int IntKind.i64 ((Mc.F (Prod.fst (Prod.snd s)) ii).2 11)), CV.v (Value.int IntKind.i64 ((Mc.F (Prod.fst (Prod.snd s)) ii).2 12)), CV.v (Value.int IntKind.i64 ((Mc.F (Prod.fst (Prod.snd s)) ii).2 13)), CV.v (Value.int IntKind.i64 ((Mc.F (Prod.fst (Prod.snd s)) ii).2 14)), CV.v (Value.int IntKind.i64 ((Mc.F (Prod.fst (Prod.snd s)) ii).2 15))]), (Ent.rw true 80 2 (Prod.fst (Prod.snd s)).8 (c 2) fun ii => [CV.v (Value.int IntKind.i64 (Prod.fst ((Prod.fst (Prod.snd s)).10 ii))), CV.v (Value.int IntKind.i64 (Prod.snd ((Prod.fst (Prod.snd s)).10 ii)))])] (start0C (0 : Int) 9) fun c_1 => Tree.some_ (Cd × Tb × (Nat → Fr)) fun s_1 => Tree.callf 10 [AV.c (CV.sl 4 0 0 5 2 2), AV.c (CV.v (Value.pointer none)), AV.c (CV.ptr ⟨2, 0, 0, 2, 0, 0, 0, 0⟩), AV.c (CV.v (Value.int IntKind.i64 (0 : Int))), AV.c (CV.sl 9 0 0 17 1 1)] [{ own := true, box := true, ty := 72, sz := 2, m := 1, n := fun a => 1, cap := fun a => 1, f := fun x x_1 => [CV.sl 6 0 0 1 (Prod.fst (Prod.snd s)).1.1 (c 0), CV.v (Value.int IntKind.i64 (Prod.fst (Prod.snd s)).1.4)], ov := [] }, Ent.dead, { own := true, box := true, ty := 78, sz := 2, m := 1, n := fun a => 1, cap := fun a => 1, f := fun x x_1 => [CV.sl 3 0 0 4 (Prod.fst (Prod.snd s)).2.1 (Prod.fst (Prod.snd s)).2.2, CV.v (Value.int IntKind.i64 (Prod.fst (Prod.snd s)).2.4)], ov := [] }, (Ent.rw true 59 4 (Prod.fst (Prod.snd s)).2.1 (Prod.fst (Prod.snd s)).2.2 fun ii => [CV.v (Value.bool ((Prod.fst (Prod.snd s)).2.3 ii).1), CV.v (Value.bool ((Prod.fst (Prod.snd s)).2.3 ii).2), CV.v (Value.bool ((Prod.fst (Prod.snd s)).2.3 ii).3), CV.v (Value.int IntKind.i64 ((Prod.fst (Prod.snd s)).2.3 ii).4)]), (Ent.rw (Prod.snd (Prod.snd (Prod.snd (Prod.snd s)))).1 40 5 (Prod.snd (Prod.snd (Prod.snd (Prod.snd s)))).2 (Prod.snd (Prod.snd (Prod.snd (Prod.snd s)))).3 fun ii => [CV.v (Value.int IntKind.i64 ((Prod.snd (Prod.snd (Prod.snd (Prod.snd s)))).4 ii).1), CV.v (Value.int IntKind.i64 ((Prod.snd (Prod.snd (Prod.snd (Prod.snd s)))).4 ii).2), CV.v (Value.int IntKind.i64 ((Prod.snd (Prod.snd (Prod.snd (Prod.snd s)))).4 ii).3), CV.v (Value.int IntKind.i64 ((Prod.snd (Prod.snd (Prod.snd (Prod.snd s)))).4 ii).4), CV.v (Value.int IntKind.i64 ((Prod.snd (Prod.snd (Prod.snd (Prod.snd s)))).4 ii).5)]), (Ent.rw true 66 17 (Mc.nF (Prod.fst s)) (Mc.cF (Prod.fst s)) fun ii => [CV.v (Value.int IntKind.i64 (Mc.F (Prod.fst s) ii).1), CV.v (Value.int IntKind.i64 ((Mc.F (Prod.fst s) ii).2 0)), CV.v (Value.int IntKind.i64 ((Mc.F (Prod.fst s) ii).2 1)), CV.v (Value.int IntKind.i64 ((Mc.F (Prod.fst s) ii).2 2)), CV.v (Value.int IntKind.i64 ((Mc.F (Prod.fst s) ii).2 3)), CV.v (Value.int IntKind.i64 ((Mc.F (Prod.fst s) ii).2 4)), CV.v (Value.int IntKind.i64 ((Mc.F (Prod.fst s) ii).2 5)), CV.v (Value.int IntKind.i64 ((Mc.F (Prod.fst s) ii).2 6)), CV.v (Value.int IntKind.i64 ((Mc.F (Prod.fst s) ii).2 7)), CV.v (Value.int IntKind.i64 ((Mc.F (Prod.fst s) ii).2 8)), CV.v (Value.int IntKind.i64 ((Mc.F (Prod.fst s) ii).2 9)), CV.v (Value.int IntKind.i64 ((Mc.F (Prod.fst s) ii).2 10)), CV.v (Value.int IntKind.i64 ((Mc.F (Prod.fst s) ii).2 11)), CV.v (Value.int IntKind.i64 ((Mc.F (Prod.fst s) ii).2 12)), CV.v (Value.int IntKind.i64 ((Mc.F (Prod.fst s) ii).2 13)), CV.v (Value.int IntKind.i64 ((Mc.F (Prod.fst s) ii).2 14)), CV.v (Value.int IntKind.i64 ((Mc.F (Prod.fst s) ii).2 15))]), (Ent.rw true 2 1 (Prod.fst (Prod.snd s)).1.1 (c 0) fun ii => [CV.v (Value.int IntKind.i64 ((Prod.fst (Prod.snd s)).1.3 ii))]), (Ent.rw true 66 17 (Mc.nF (Prod.fst (Prod.snd s))) (c 1) fun ii => [CV.v (Value.int IntKind.i64 (Mc.F (Prod.fst (Prod.snd s)) ii).1), CV.v (Value.int IntKind.i64 ((Mc.F (Prod.fst (Prod.snd s)) ii).2 0)), CV.v (Value.int IntKind.i64 ((Mc.F (Prod.fst (Prod.snd s)) ii).2 1)), CV.v (Value.int IntKind.i64 ((Mc.F (Prod.fst (Prod.snd s)) ii).2 2)), CV.v (Value.int IntKind.i64 ((Mc.F (Prod.fst (Prod.snd s)) ii).2 3)), CV.v (Value.int IntKind.i64 ((Mc.F (Prod.fst (Prod.snd s)) ii).2 4)), CV.v (Value.int IntKind.i64 ((Mc.F (Prod.fst (Prod.snd s)) ii).2 5)), CV.v (Value.int IntKind.i64 ((Mc.F (Prod.fst (Prod.snd s)) ii).2 6)), CV.v (Value.int IntKind.i64 ((Mc.F (Prod.fst (Prod.snd s)) ii).2 7)), CV.v (Value.int IntKind.i64 ((Mc.F (Prod.fst (Prod.snd s)) ii).2 8)), CV.v (Value.int IntKind.i64 ((Mc.F (Prod.fst (Prod.snd s)) ii).2 9)), CV.v (Value.int IntKind.i64 ((Mc.F (Prod.fst (Prod.snd s)) ii).2 10)), CV.v (Value.int IntKind.i64 ((Mc.F (Prod.fst (Prod.snd s)) ii).2 11)), CV.v (Value.int IntKind.i64 ((Mc.F (Prod.fst (Prod.snd s)) ii).2 12)), CV.v (Value.int IntKind.i64 ((Mc.F (Prod.fst (Prod.snd s)) ii).2 13)), CV.v (Value.int IntKind.i64 ((Mc.F (Prod.fst (Prod.snd s)) ii).2 14)), CV.v (Value.int IntKind.i64 ((Mc.F (Prod.fst (Prod.snd s)) ii).2 15))]), (Ent.rw true 80 2 (Prod.fst (Prod.snd s)).8 (c 2) fun ii => [CV.v (Value.int IntKind.i64 (Prod.fst ((Prod.fst (Prod.snd s)).10 ii))), CV.v (Value.int IntKind.i64 (Prod.snd ((Prod.fst (Prod.snd s)).10 ii)))]), (Ent.rw true 66 17 1 1 fun ii => [CV.v (Value.int IntKind.i64 (0 : Int)), CV.v (Value.int IntKind.i64 (0 : Int)), CV.v (Value.int IntKind.i64 (0 : Int)), CV.v (Value.int IntKind.i64 (0 : Int)), CV.v (Value.int IntKind.i64 (0 : Int)), CV.v (Value.int IntKind.i64 (0 : Int)), CV.v (Value.int IntKind.i64 (0 : Int)), CV.v (Value.int IntKind.i64 (0 : Int)), CV.v (Value.int IntKind.i64 (0 : Int)), CV.v (Value.int IntKind.i64 (0 : Int)), CV.v (Value.int IntKind.i64 (0 : Int)), CV.v (Value.int IntKind.i64 (0 : Int)), CV.v (Value.int IntKind.i64 (0 : Int)), CV.v (Value.int IntKind.i64 (0 : Int)), CV.v (Value.int IntKind.i64 (0 : Int)), CV.v (Value.int IntKind.i64 (0 : Int)), CV.v (Value.int IntKind.i64 (0 : Int))])] (stepAC (Prod.fst s_1) (Prod.fst (Prod.snd s_1)) (0 : Int) true 1 1 (fun a => Prod.snd (Prod.snd s_1) a) [4, 2, 3, 9]) fun c => Tree.chk (true = true → true = true)
   (Tree.chk (true = true → true = true)
   (Tree.chk ((bif true then Prod.fst (Prod.snd (Prod.snd s)) == (2 : Int) else false) = true → (bif true then Prod.fst (Prod.snd (Prod.snd s)) == (2 : Int) else false) = true)
   (Tree.chk ((bif true then Prod.fst (Prod.snd (Prod.snd s)) == (2 : Int) else false) = true → (bif true then Prod.fst (Prod.snd (Prod.snd s)) == (2 : Int) else false) = true)
   (Tree.chk ((bif bif true then Prod.fst (Prod.snd (Prod.snd s)) == (2 : Int) else false then Prod.fst (Prod.snd (Prod.snd (Prod.snd s))) == (5 : Int) else false) = true → (bif bif true then Prod.fst (Prod.snd (Prod.snd s)) == (2 : Int) else false then Prod.fst (Prod.snd (Prod.snd (Prod.snd s))) == (5 : Int) else false) = true)
   (Tree.chk ((bif bif true then Prod.fst (Prod.snd (Prod.snd s)) == (2 : Int) else false then Prod.fst (Prod.snd (Prod.snd (Prod.snd s))) == (5 : Int) else false) = true → (bif bif true then Prod.fst (Prod.snd (Prod.snd s)) == (2 : Int) else false then Prod.fst (Prod.snd (Prod.snd (Prod.snd s))) == (5 : Int) else false) = true)
   (Tree.chk ((bif bif true then Prod.fst (Prod.snd (Prod.snd s)) == (2 : Int) else false then Prod.fst (Prod.snd (Prod.snd (Prod.snd s))) == (5 : Int) else false) = true → (bif bif true then Prod.fst (Prod.snd (Prod.snd s)) == (2 : Int) else false then Prod.fst (Prod.snd (Prod.snd (Prod.snd s))) == (5 : Int) else false) = true)
   (Tree.done (XV.a (AV.c (CV.v (Value.bool (bif bif bif true then Prod.fst (Prod.snd (Prod.snd s)) == (2 : Int) else false then Prod.fst (Prod.snd (Prod.snd (Prod.snd s))) == (5 : Int) else false then (1 : Int) == (1 : Int) else false))))) [Ent.dead, Ent.dead, Ent.dead, Ent.dead, Ent.dead, Ent.dead, Ent.dead, Ent.dead, Ent.dead, Ent.dead]))))))))
theorem tup_eq (u : Unit) : xfunc tab lawG noInv Go.Proofs.Try.f7 [] [] [] = tup u := by kernel_rfl
end Go.Proofs.Ytehecaipmdfjmaa.X.Mi

set_option linter.unusedVariables false
set_option linter.unusedSimpArgs false
namespace Go.Proofs.Ytehecaipmdfjmaa.X.Mi
open Go Go.RowKit Go.Proofs.YtehecaipmdfjmaaW.PrintWords Go.Proofs.Ytehecaipmdfjmaa.Base Go.Proofs.Ytehecaipmdfjmaa.X
theorem step_call : Callable Try.prog 10 := ⟨_, Try.func10, by kernel_rfl, rfl⟩
theorem start_call : Callable Try.prog 12 := ⟨_, Try.func12, by kernel_rfl, rfl⟩
theorem made_call : Callable Try.prog 8 := ⟨_, Try.func8, by kernel_rfl, rfl⟩
theorem up_call : Callable Try.prog 7 := ⟨_, Try.func7, by kernel_rfl, rfl⟩
theorem results_tmp5 {fn : Func} {t u v x y : Tmp} (h : fn.results = #[.tmp t, .tmp u, .tmp v, .tmp x, .tmp y]) (tmps : Array Value) (P : Program) (w : World) :
    (results fn tmps).run P w = .ok (.tuple #[tmps.getD t undef, tmps.getD u undef, tmps.getD v undef, tmps.getD x undef, tmps.getD y undef]) w := by
  simp [results, h]
def errV : Value := .tuple #[.slice none 0 0, .slice none 0 0, .int .i64 0, .int .i64 0, .iface 36 (.int .i64 1)]
set_option maxRecDepth 4000 in
theorem stepA_calls (w : World) (a c e : Value) (i : Int) : Calls Try.prog 10 #[a, .pointer none, c, .int .i64 i, e] w fun r w' => r = .returned errV ∧ w' = w := by
  go_enter Try.func10, Try.ntmps10
  go_wp2
  go_step3
  go_wp2
  simp only [Exit.noGoto]
  show bodyPost Try.prog Go.Proofs.Try.f10 (fun r w' => r = .returned errV ∧ w' = w) _ _ _
  refine bodyPost_ret (results_tmp5 rfl _ _ _) rfl ?_
  exact ⟨by simp [errV], rfl⟩
theorem stepA_local (d : Cd) (t : Tb) (i : Int) (ol : Bool) (n cap : Nat) (F : Nat → Fr) (ρ : List Nat) : (stepAC d t i ol n cap F ρ).Local Try.prog 10 := fun ν w hh =>
  (stepA_calls w _ _ _ i).mono fun r w' ⟨h1, h2⟩ => ⟨ν, fun _ => 0, trivial, h1, by rw [h2]; exact hh⟩
def dU : Cd := ⟨true, 2, 2, fun i => match i with | 0 => ⟨1, 0, 0, 0, 5⟩ | _ => ⟨22, 0, 0, 0, 0⟩⟩
def mU : Mc := ⟨newA, newT 1, 0, 0, 1, 1, fun _ => ⟨0, fun _ => 0⟩, 0, 0, fun _ => (0, 0)⟩
theorem runU : (runF dU mU).2 = (2, 5) := by kernel_rfl
theorem canU : canF mU = true := by kernel_rfl
theorem run_eq {d : Cd} {m : Mc} {how v : Int} (h : (runF d m).2 = (how, v)) : runF d m = ((runF d m).1, how, v) := by rw [← h]
theorem up_local (k : Nat) : (upC k).Local Try.prog 7 := by
  refine local_of Try.func7 rfl (tup_eq ()) fun ν w => ?_
  refine ok_callf' made_call (fits_of rfl rfl trivial fun c _ => ⟨⟨Nat.zero_le _, rfl⟩, ⟨rfl, rfl⟩, ⟨⟨EntRel.box' rfl rfl rfl rfl rfl, rfl, (fun _ => ⟨rfl, rfl⟩), .inr rfl⟩, ⟨EntRel.rw rfl rfl (fun _ _ => rfl) fun _ _ => rfl, rfl, (fun h => by cases h), .inr rfl⟩, ⟨EntRel.box' rfl rfl rfl rfl rfl, rfl, (fun _ => ⟨rfl, rfl⟩), .inr rfl⟩, ⟨EntRel.rw rfl rfl (fun _ _ => rfl) fun _ _ => rfl, rfl, (fun h => by cases h), .inr rfl⟩, trivial⟩⟩) (made0_local 1 _ (by decide) (by decide)) fun c1 _ => ok_br' (fun h => by cases h) fun _ => ?_
  refine ok_callf' start_call (fits_of rfl rfl trivial fun c _ => ⟨⟨Nat.zero_le _, rfl⟩, ⟨rfl, rfl⟩, ⟨⟨EntRel.rw rfl rfl (fun _ _ => rfl) fun _ _ => rfl, rfl, (fun h => by cases h), .inr rfl⟩, trivial⟩⟩) (start0_local 0 _) fun c2 _ => ok_some' (mU, (runF dU mU).1, 2, 5, dU) ?_
  refine ok_callf' step_call (fits_of rfl rfl ⟨⟨_, rfl, EntRel.rw rfl rfl (fun i hi => by match i, hi with | 0, _ => rfl | 1, _ => rfl) fun _ _ => rfl⟩, ⟨_, rfl, EntRel.box' rfl rfl rfl rfl rfl⟩, ⟨_, rfl, EntRel.rw rfl rfl (fun _ _ => rfl) fun _ _ => rfl⟩, ⟨_, rfl, EntRel.box' rfl rfl rfl rfl rfl⟩, ⟨_, rfl, EntRel.rw rfl rfl (fun _ _ => rfl) fun _ _ => rfl⟩, ⟨_, rfl, EntRel.rw rfl rfl (fun _ _ => rfl) fun _ _ => rfl⟩, trivial⟩ fun c _ => ⟨⟨(by show 6 ≤ 9; decide), rfl⟩, ⟨rfl, rfl⟩, ⟨⟨EntRel.rw rfl rfl (fun _ _ => rfl) fun _ _ => rfl, rfl, (fun h => by cases h), .inr rfl⟩, ⟨EntRel.box' rfl rfl rfl rfl rfl, rfl, (fun _ => ⟨rfl, rfl⟩), .inr rfl⟩, ⟨EntRel.dead, rfl, (fun h => by cases h), .inr rfl⟩, ⟨EntRel.box' rfl rfl rfl rfl rfl, rfl, (fun _ => ⟨rfl, rfl⟩), .inr rfl⟩, ⟨EntRel.rw rfl rfl (fun _ _ => rfl) fun _ _ => rfl, rfl, (fun h => by cases h), .inr rfl⟩, ⟨EntRel.rw rfl rfl (fun _ _ => rfl) fun _ _ => rfl, rfl, (fun h => by cases h), .inr rfl⟩, ⟨EntRel.rw rfl rfl (fun _ _ => rfl) fun _ _ => rfl, rfl, (fun h => by cases h), .inr rfl⟩, ⟨EntRel.rw rfl rfl (fun _ _ => rfl) fun _ _ => rfl, rfl, (fun h => by cases h), .inr rfl⟩, ⟨EntRel.rw rfl rfl (fun _ _ => rfl) fun _ _ => rfl, rfl, (fun h => by cases h), .inr rfl⟩, trivial⟩⟩) (step_local may_local mU _ 2 5 dU true _ _ newA_ok canU (run_eq runU)) fun c3 hc3 => ?_
  refine ok_callf' start_call (fits_of rfl rfl trivial fun c _ => ⟨⟨Nat.zero_le _, rfl⟩, ⟨rfl, rfl⟩, ⟨⟨EntRel.rw rfl rfl (fun _ _ => rfl) fun _ _ => rfl, rfl, (fun h => by cases h), .inr rfl⟩, trivial⟩⟩) (start0_local 0 _) fun c4 _ => ok_some' (dU, (runF dU mU).1.tb, fun _ => ⟨0, fun _ => 0⟩) ?_
  refine ok_callf' step_call (fits_of rfl rfl ⟨⟨_, rfl, EntRel.rw rfl rfl (fun _ _ => rfl) fun _ _ => rfl⟩, ⟨_, rfl, EntRel.box' rfl rfl rfl rfl rfl⟩, ⟨_, rfl, EntRel.rw rfl rfl (fun _ _ => rfl) fun _ _ => rfl⟩, ⟨_, rfl, EntRel.rw rfl rfl (fun _ _ => rfl) fun _ _ => rfl⟩, trivial⟩ fun c _ => ⟨⟨Nat.le_refl _, rfl⟩, ⟨rfl, rfl⟩, ⟨⟨EntRel.rw rfl rfl (fun _ _ => rfl) fun _ _ => rfl, rfl, (fun h => by cases h), .inr rfl⟩, ⟨EntRel.box' rfl rfl rfl rfl rfl, rfl, (fun _ => ⟨rfl, rfl⟩), .inr rfl⟩, ⟨EntRel.rw rfl rfl (fun _ _ => rfl) fun _ _ => rfl, rfl, (fun h => by cases h), .inr rfl⟩, ⟨EntRel.rw rfl rfl (fun _ _ => rfl) fun _ _ => rfl, rfl, (fun h => by cases h), .inr rfl⟩, trivial⟩⟩) (stepA_local _ _ _ _ _ _ _ _) fun c5 _ => ?_
  repeat refine ok_chk' (fun h => h) ?_
  exact ok_leaf (fun _ => 0) [] [] trivial rfl trivial rfl
def dL : Cd := ⟨true, 4, 4, fun i => match i with | 0 => ⟨6, 0, 2, 0, 1⟩ | 1 => ⟨5, 3, 2, 0, 1⟩ | 2 => ⟨6, 1, 2, 0, 1⟩ | _ => ⟨22, 3, 0, 0, 0⟩⟩
end Go.Proofs.Ytehecaipmdfjmaa.X.Mi

set_option linter.unusedVariables false
set_option linter.unusedSimpArgs false
namespace Go.Proofs.Ytehecaipmdfjmaa.X.Mi
open Go Go.RowKit Go.Proofs.YtehecaipmdfjmaaW.PrintWords Go.Proofs.Ytehecaipmdfjmaa.Base Go.Proofs.Ytehecaipmdfjmaa.X
structure Kept (m m' : Mc) : Prop where
  n1 : 1 ≤ m'.nF
  n2 : m'.nF ≤ 16
  ar : m'.ar.Ok
  i : m'.i = m.i
  tn : m'.tb.n = m.tb.n
  now : m'.tb.now = m.tb.now
  most : m'.ar.most = m.ar.most
  an : m.ar.n ≤ m'.ar.n
theorem stepF_kept (d : Cd) : ∀ (g n : Nat) (m : Mc), 1 ≤ m.nF → m.nF ≤ 16 → m.ar.Ok → Kept m (stepF d g n m).1
  | 0, n, m, h1, h2, ha => ⟨h1, h2, ha, rfl, rfl, rfl, rfl, Nat.le_refl _⟩
  | g + 1, n, m, h1, h2, ha => by
    have K := oneF_keeps m (codeF m d) h1 h2 ha
    have Z : Kept m m := ⟨h1, h2, ha, rfl, rfl, rfl, rfl, Nat.le_refl _⟩
    unfold stepF
    cases stopF m d n with
    | true => exact Z
    | false =>
      cases (bif decide ((n : Int) > 0) then accessF (codeF m d) else false) with
      | true => exact Z
      | false =>
        simp only [cond_false]
        cases ((oneF m (codeF m d)).2 == 0) with
        | true =>
          simp only [cond_true]
          have R := stepF_kept d g (n + 1) (oneF m (codeF m d)).1 K.n1 K.n2 K.ar
          exact ⟨R.n1, R.n2, R.ar, R.i.trans K.i, R.tn.trans K.tn, R.now.trans K.now, R.most.trans K.most, Nat.le_trans K.an R.an⟩
        | false => exact ⟨K.n1, K.n2, K.ar, K.i, K.tn, K.now, K.most, K.an⟩
theorem runF_kept (d : Cd) (m : Mc) (h1 : 1 ≤ m.nF) (h2 : m.nF ≤ 16) (ha : m.ar.Ok) : Kept m (runF d m).1 := by
  have R := stepF_kept d (201 - 0) 0 (startM m 0) h1 h2 ha
  exact ⟨R.n1, R.n2, ⟨R.ar.n1, R.ar.m0, R.ar.m1, R.ar.nm⟩, R.i, R.tn, R.now, R.most, R.an⟩
structure RunL (m R : Mc) (how u v : Int) : Prop where
  run : runF dL m = (R, how, u)
  at2 : R.ar.C 2 = v
  here : hereF R.ar 2 = true
  can : canF m = true
  ok : R.ar.Ok
theorem RunL.of {m : Mc} {how u v : Int} (h1 : (runF dL m).2 = (how, u)) (h2 : (runF dL m).1.ar.C 2 = v) (h3 : hereF (runF dL m).1.ar 2 = true) (h4 : canF m = true) (k : Kept m (runF dL m).1) : RunL m (runF dL m).1 how u v := ⟨run_eq h1, h2, h3, h4, k.ar⟩
abbrev wfI (x : Int) : Prop := (Lit.int .i64 x).wf = true
end Go.Proofs.Ytehecaipmdfjmaa.X.Mi

set_option linter.unusedVariables false
set_option linter.unusedSimpArgs false
namespace Go.Proofs.Ytehecaipmdfjmaa.X.Mi
open Go Go.RowKit Go.Proofs.YtehecaipmdfjmaaW.PrintWords Go.Proofs.Ytehecaipmdfjmaa.Base Go.Proofs.Ytehecaipmdfjmaa.X
end Go.Proofs.Ytehecaipmdfjmaa.X.Mi

set_option linter.unusedVariables false
set_option linter.unusedSimpArgs false
namespace Go.Proofs.Ytehecaipmdfjmaa.X.Mi
open Go Go.RowKit Go.Proofs.YtehecaipmdfjmaaW.PrintWords Go.Proofs.Ytehecaipmdfjmaa.Base Go.Proofs.Ytehecaipmdfjmaa.X
end Go.Proofs.Ytehecaipmdfjmaa.X.Mi

set_option linter.unusedVariables false
set_option linter.unusedSimpArgs false
namespace Go.Proofs.Ytehecaipmdfjmaa.X.Mi
open Go Go.RowKit Go.Proofs.YtehecaipmdfjmaaW.PrintWords Go.Proofs.Ytehecaipmdfjmaa.Base Go.Proofs.Ytehecaipmdfjmaa.X
end Go.Proofs.Ytehecaipmdfjmaa.X.Mi

set_option linter.unusedVariables false
set_option linter.unusedSimpArgs false
namespace Go.Proofs.Ytehecaipmdfjmaa.X
open Go.RowKit Go.Proofs.YtehecaipmdfjmaaW.PrintWords Go.Proofs.Ytehecaipmdfjmaa.Base
inductive Hint where
  | k
  | l (h : Hint)
  | r (h : Hint)
  | n (a b : Hint)
  | c (h : Hint)
def Hint.cs : Nat → Hint → Hint
  | 0, h => h
  | m + 1, h => .c (Hint.cs m h)
def prune : Hint → Tree → Tree
  | .l h, .br b t _ => .chk (b = true) (prune h t)
  | .r h, .br b _ e => .chk (b = false) (prune h e)
  | .n h g, .br b t e => .br b (prune h t) (prune g e)
  | .n h g, .both t e => .both (prune h t) (prune g e)
  | .c h, .chk p t => .chk p (prune h t)
  | .c h, .callf f args H C k => .callf f args H C fun c => prune h (k c)
  | .c h, .all g k => .all g fun c => prune h (k c)
  | .c h, .every σ k => .every σ fun c => prune h (k c)
  | .c h, .some_ σ k => .some_ σ fun c => prune h (k c)
  | .c h, .hyp p t => .hyp p (prune h t)
  | .c h, .sub t => .sub (prune h t)
  | _, t => t
theorem ok_prune {P : Program} {nt : Nat} : ∀ {h : Hint} {T : Tree} {R : Root} {Rp : Ending → World → Prop}, ok P R nt Rp (prune h T) → ok P R nt Rp T := by
  intro h
  induction h with
  | k => intro T R Rp o; unfold prune at o; exact o
  | l h ih =>
    intro T R Rp o
    cases T with
    | br b t e => exact ⟨fun _ => ih o.2, fun hb => (by rw [show b = true from o.1] at hb; cases hb)⟩
    | _ => exact o
  | r h ih =>
    intro T R Rp o
    cases T with
    | br b t e => exact ⟨fun hb => (by rw [show b = false from o.1] at hb; cases hb), fun _ => ih o.2⟩
    | _ => exact o
  | n h g ih1 ih2 =>
    intro T R Rp o
    cases T with
    | br b t e => exact ⟨fun hb => ih1 (o.1 hb), fun hb => ih2 (o.2 hb)⟩
    | both t e => exact ⟨ih1 o.1, ih2 o.2⟩
    | _ => exact o
  | c h ih =>
    intro T R Rp o
    cases T with
    | chk p t => exact ⟨o.1, ih o.2⟩
    | callf f args H C k => exact ⟨o.1, o.2.1, o.2.2.1, fun c hc => ih (o.2.2.2 c hc)⟩
    | all g k => exact fun c hc => ih (o c hc)
    | every σ k => exact fun s => ih (o s)
    | some_ σ k => exact ⟨o.choose, ih o.choose_spec⟩
    | hyp p t => exact fun hp => ih (o hp)
    | sub t => exact fun R Rp => ih (o R Rp)
    | _ => exact o
theorem local_ofP {G : Ctr} {I : Inv} {f : FuncId} {fn : Func} (hf : Try.prog.funcs[f]? = some fn) {C : CallSpec} (hl : C.args0.all (AV.lt C.H0.length) = true) {keep : List Nat} {h : Hint} {T : Tree} (he : prune h (xfunc tab G I fn C.args0 C.H0 keep) = T) (hok : ∀ ν w, ok Try.prog (rootOf ν C.H0 w) fn.ntmps (C.Post ν w) T) : C.Local Try.prog f :=
  fun ν w hh => calls_of tab_ok mixed hf rfl hh hl (ok_prune (he ▸ hok ν w))
end Go.Proofs.Ytehecaipmdfjmaa.X

set_option linter.unusedVariables false
set_option linter.unusedSimpArgs false
namespace Go.Proofs.Ytehecaipmdfjmaa.X.Mi
open Go Go.RowKit Go.Proofs.YtehecaipmdfjmaaW.PrintWords Go.Proofs.Ytehecaipmdfjmaa.Base Go.Proofs.Ytehecaipmdfjmaa.X
def cntI (n : Nat) (vars : Nat → Tm) (tm : Tm) (H : Hp) : LoopInv := ⟨{ i : Nat // i ≤ n }, fun i => (putAll (vars i.1) tm, H), fun i => n - i.1, some ⟨0, Nat.zero_le _⟩, [], .l (List.range H.length), [], fun _ _ => .l (List.range H.length)⟩
abbrev sameFC (o o' : Bool) (n cap cap' : Nat) (F : Nat → Fr) (ρ : List Nat) : CallSpec := mSpec ρ 0 [.c (.sl 0 0 0 17 n cap), .c (.sl 1 0 0 17 n cap')] [frow o n cap F, frow o' n cap' F] (fun _ => True) (fun _ => bool true) fun _ => [frow o n cap F, frow o' n cap' F]
abbrev sameNC (o o' : Bool) (n cap cap' : Nat) (F : Nat → Int × Int) (ρ : List Nat) : CallSpec := mSpec ρ 0 [.c (.sl 0 0 0 2 n cap), .c (.sl 1 0 0 2 n cap')] [nrow o n cap F, nrow o' n cap' F] (fun _ => True) (fun _ => bool true) fun _ => [nrow o n cap F, nrow o' n cap' F]
abbrev tsameF_0 : Bool → Nat → Nat → (Nat → Fr) → Ent :=
  fun o n cap F => { own := o, box := false, ty := 66, sz := 17, m := 1, n := fun x => n, cap := fun x => cap, f := fun x i => [CV.v (Value.int IntKind.i64 (F i).1), CV.v (Value.int IntKind.i64 ((F i).2 0)), CV.v (Value.int IntKind.i64 ((F i).2 1)), CV.v (Value.int IntKind.i64 ((F i).2 2)), CV.v (Value.int IntKind.i64 ((F i).2 3)), CV.v (Value.int IntKind.i64 ((F i).2 4)), CV.v (Value.int IntKind.i64 ((F i).2 5)), CV.v (Value.int IntKind.i64 ((F i).2 6)), CV.v (Value.int IntKind.i64 ((F i).2 7)), CV.v (Value.int IntKind.i64 ((F i).2 8)), CV.v (Value.int IntKind.i64 ((F i).2 9)), CV.v (Value.int IntKind.i64 ((F i).2 10)), CV.v (Value.int IntKind.i64 ((F i).2 11)), CV.v (Value.int IntKind.i64 ((F i).2 12)), CV.v (Value.int IntKind.i64 ((F i).2 13)), CV.v (Value.int IntKind.i64 ((F i).2 14)), CV.v (Value.int IntKind.i64 ((F i).2 15))], ov := [] }
abbrev tsameF_1 : Bool → Bool → Nat → Nat → Nat → (Nat → Fr) → List Ent :=
  fun o o' n cap cap' F => [tsameF_0 o n cap F, tsameF_0 o' n cap' F]
abbrev tsameF_2 : Nat → Nat → XV :=
  fun n cap => XV.a (AV.c (CV.sl 0 0 0 17 n cap))
abbrev tsameF_3 : Nat → Nat → XV :=
  fun n cap' => XV.a (AV.c (CV.sl 1 0 0 17 n cap'))
abbrev tsameF_4 : List Nat :=
  [0, 1]
def tsameF (o o' : Bool) (n cap cap' : Nat) (F : Nat → Fr) : Tree :=
  Tree.br ((↑n : Int) != (↑n : Int))
 (Tree.done (XV.a (AV.c (CV.v (Value.bool false)))) (tsameF_1 o o' n cap cap' F))
 (Tree.both
 (Tree.chk (XV.a (AV.c (CV.v (Value.int IntKind.i64 (0 : Int)))) = XV.a (AV.c (CV.v (Value.int IntKind.i64 (0 : Int)))))
 (Tree.chk (tsameF_2 n cap = tsameF_2 n cap)
 (Tree.chk (tsameF_3 n cap' = tsameF_3 n cap')
 (Tree.chk (EntRel 2 tsameF_4 2 (tsameF_0 o n cap F) (tsameF_0 o n cap F))
 (Tree.chk (EntRel 2 tsameF_4 2 (tsameF_0 o' n cap' F) (tsameF_0 o' n cap' F))
 (Tree.need True))))))
 (Tree.every { i // i ≤ n } fun s => Tree.br (decide ((↑(Subtype.val s) : Int) < (↑n : Int)))
 (Tree.chk ((0 : Int) ≤ (↑(Subtype.val s) : Int) ∧ (↑(Subtype.val s) : Int) < (↑n : Int) ∧ Int.toNat (↑(Subtype.val s) : Int) < n ∧ 0 < 1)
 (Tree.chk (0 < 1 ∧ Int.toNat (↑(Subtype.val s) : Int) < n)
 (Tree.chk ((0 : Int) ≤ (↑(Subtype.val s) : Int) ∧ (↑(Subtype.val s) : Int) < (↑n : Int) ∧ Int.toNat (↑(Subtype.val s) : Int) < n ∧ 0 < 1)
 (Tree.chk (0 < 1 ∧ Int.toNat (↑(Subtype.val s) : Int) < n)
 (Tree.br (!((F (Int.toNat (↑(Subtype.val s) : Int))).1 == (F (Int.toNat (↑(Subtype.val s) : Int))).1 && ((F (Int.toNat (↑(Subtype.val s) : Int))).2 0 == (F (Int.toNat (↑(Subtype.val s) : Int))).2 0 && ((F (Int.toNat (↑(Subtype.val s) : Int))).2 1 == (F (Int.toNat (↑(Subtype.val s) : Int))).2 1 && ((F (Int.toNat (↑(Subtype.val s) : Int))).2 2 == (F (Int.toNat (↑(Subtype.val s) : Int))).2 2 && ((F (Int.toNat (↑(Subtype.val s) : Int))).2 3 == (F (Int.toNat (↑(Subtype.val s) : Int))).2 3 && ((F (Int.toNat (↑(Subtype.val s) : Int))).2 4 == (F (Int.toNat (↑(Subtype.val s) : Int))).2 4 && ((F (Int.toNat (↑(Subtype.val s) : Int))).2 5 == (F (Int.toNat (↑(Subtype.val s) : Int))).2 5 && ((F (Int.toNat (↑(Subtype.val s) : Int))).2 6 == (F (Int.toNat (↑(Subtype.val s) : Int))).2 6 && ((F (Int.toNat (↑(Subtype.val s) : Int))).2 7 == (F (Int.toNat (↑(Subtype.val s) : Int))).2 7 && ((F (Int.toNat (↑(Subtype.val s) : Int))).2 8 == (F (Int.toNat (↑(Subtype.val s) : Int))).2 8 && ((F (Int.toNat (↑(Subtype.val s) : Int))).2 9 == (F (Int.toNat (↑(Subtype.val s) : Int))).2 9 && ((F (Int.toNat (↑(Subtype.val s) : Int))).2 10 == (F (Int.toNat (↑(Subtype.val s) : Int))).2 10 && ((F (Int.toNat (↑(Subtype.val s) : Int))).2 11 == (F (Int.toNat (↑(Subtype.val s) : Int))).2 11 && ((F (Int.toNat (↑(Subtype.val s) : Int))).2 12 == (F (Int.toNat (↑(Subtype.val s) : Int))).2 12 && ((F (Int.toNat (↑(Subtype.val s) : Int))).2 13 == (F (Int.toNat (↑(Subtype.val s) : Int))).2 13 && ((F (Int.toNat (↑(Subtype.val s) : Int))).2 14 == (F (Int.toNat (↑(Subtype.val s) : Int))).2 14 && (F (Int.toNat (↑(Subtype.val s) : Int))).2 15 == (F (Int.toNat (↑(Subtype.val s) : Int))).2 15)))))))))))))))))
 (Tree.done (XV.a (AV.c (CV.v (Value.bool false)))) (tsameF_1 o o' n cap cap' F))
 (Tree.some_ { i // i ≤ n } fun s' => Tree.chk (n - Subtype.val s' < n - Subtype.val s)
 (Tree.chk (XV.a (AV.c (CV.v (Value.int IntKind.i64 (IntKind.wrap IntKind.i64 ((↑(Subtype.val s) : Int) + (1 : Int)))))) = XV.a (AV.c (CV.v (Value.int IntKind.i64 (↑(Subtype.val s') : Int)))))
 (Tree.chk (tsameF_2 n cap = tsameF_2 n cap)
 (Tree.chk (tsameF_3 n cap' = tsameF_3 n cap')
 (Tree.chk (EntRel 2 tsameF_4 2 (tsameF_0 o n cap F) (tsameF_0 o n cap F))
 (Tree.chk (EntRel 2 tsameF_4 2 (tsameF_0 o' n cap' F) (tsameF_0 o' n cap' F))
 (Tree.need True))))))))))))
 (Tree.done (XV.a (AV.c (CV.v (Value.bool true)))) (tsameF_1 o o' n cap cap' F))))
theorem tsameF_eq (o o' : Bool) (n cap cap' : Nat) (F : Nat → Fr) : prune (.k) (xfunc tab noCtr (lpI fun _ tm H => cntI n (fun i => [(5, ia i)]) (onlyT [0, 1] tm) H) Go.Proofs.Try.f16 [.c (.sl 0 0 0 17 n cap), .c (.sl 1 0 0 17 n cap')] [frow o n cap F, frow o' n cap' F] [0, 1]) = tsameF o o' n cap cap' F := by kernel_rfl
abbrev tsameN_0 : Bool → Nat → Nat → (Nat → Int × Int) → Ent :=
  fun o n cap F => { own := o, box := false, ty := 80, sz := 2, m := 1, n := fun x => n, cap := fun x => cap, f := fun x i => [CV.v (Value.int IntKind.i64 (Prod.fst (F i))), CV.v (Value.int IntKind.i64 (Prod.snd (F i)))], ov := [] }
abbrev tsameN_1 : Bool → Bool → Nat → Nat → Nat → (Nat → Int × Int) → List Ent :=
  fun o o' n cap cap' F => [tsameN_0 o n cap F, tsameN_0 o' n cap' F]
abbrev tsameN_2 : Nat → Nat → XV :=
  fun n cap => XV.a (AV.c (CV.sl 0 0 0 2 n cap))
abbrev tsameN_3 : Nat → Nat → XV :=
  fun n cap' => XV.a (AV.c (CV.sl 1 0 0 2 n cap'))
abbrev tsameN_4 : List Nat :=
  [0, 1]
def tsameN (o o' : Bool) (n cap cap' : Nat) (F : Nat → Int × Int) : Tree :=
  Tree.br ((↑n : Int) != (↑n : Int))
 (Tree.done (XV.a (AV.c (CV.v (Value.bool false)))) (tsameN_1 o o' n cap cap' F))
 (Tree.both
 (Tree.chk (XV.a (AV.c (CV.v (Value.int IntKind.i64 (0 : Int)))) = XV.a (AV.c (CV.v (Value.int IntKind.i64 (0 : Int)))))
 (Tree.chk (tsameN_2 n cap = tsameN_2 n cap)
 (Tree.chk (tsameN_3 n cap' = tsameN_3 n cap')
 (Tree.chk (EntRel 2 tsameN_4 2 (tsameN_0 o n cap F) (tsameN_0 o n cap F))
 (Tree.chk (EntRel 2 tsameN_4 2 (tsameN_0 o' n cap' F) (tsameN_0 o' n cap' F))
 (Tree.need True))))))
 (Tree.every { i // i ≤ n } fun s => Tree.br (decide ((↑(Subtype.val s) : Int) < (↑n : Int)))
 (Tree.chk ((0 : Int) ≤ (↑(Subtype.val s) : Int) ∧ (↑(Subtype.val s) : Int) < (↑n : Int) ∧ Int.toNat (↑(Subtype.val s) : Int) < n ∧ 0 < 1)
 (Tree.chk (0 < 1 ∧ Int.toNat (↑(Subtype.val s) : Int) < n)
 (Tree.chk ((0 : Int) ≤ (↑(Subtype.val s) : Int) ∧ (↑(Subtype.val s) : Int) < (↑n : Int) ∧ Int.toNat (↑(Subtype.val s) : Int) < n ∧ 0 < 1)
 (Tree.chk (0 < 1 ∧ Int.toNat (↑(Subtype.val s) : Int) < n)
 (Tree.br (!(Prod.fst (F (Int.toNat (↑(Subtype.val s) : Int))) == Prod.fst (F (Int.toNat (↑(Subtype.val s) : Int))) && Prod.snd (F (Int.toNat (↑(Subtype.val s) : Int))) == Prod.snd (F (Int.toNat (↑(Subtype.val s) : Int)))))
 (Tree.done (XV.a (AV.c (CV.v (Value.bool false)))) (tsameN_1 o o' n cap cap' F))
 (Tree.some_ { i // i ≤ n } fun s' => Tree.chk (n - Subtype.val s' < n - Subtype.val s)
 (Tree.chk (XV.a (AV.c (CV.v (Value.int IntKind.i64 (IntKind.wrap IntKind.i64 ((↑(Subtype.val s) : Int) + (1 : Int)))))) = XV.a (AV.c (CV.v (Value.int IntKind.i64 (↑(Subtype.val s') : Int)))))
 (Tree.chk (tsameN_2 n cap = tsameN_2 n cap)
 (Tree.chk (tsameN_3 n cap' = tsameN_3 n cap')
 (Tree.chk (EntRel 2 tsameN_4 2 (tsameN_0 o n cap F) (tsameN_0 o n cap F))
 (Tree.chk (EntRel 2 tsameN_4 2 (tsameN_0 o' n cap' F) (tsameN_0 o' n cap' F))
 (Tree.need True))))))))))))
 (Tree.done (XV.a (AV.c (CV.v (Value.bool true)))) (tsameN_1 o o' n cap cap' F))))
theorem tsameN_eq (o o' : Bool) (n cap cap' : Nat) (F : Nat → Int × Int) : prune (.k) (xfunc tab noCtr (lpI fun _ tm H => cntI n (fun i => [(5, ia i)]) (onlyT [0, 1] tm) H) Go.Proofs.Try.f17 [.c (.sl 0 0 0 2 n cap), .c (.sl 1 0 0 2 n cap')] [nrow o n cap F, nrow o' n cap' F] [0, 1]) = tsameN o o' n cap cap' F := by kernel_rfl
def agG : Ctr := fun f args H => match args with
  | [] => some (upC H.length)
  | [.c (.sl kc _ _ _ n cap), .c (.v (.int _ k))] => some (.ex ((Nat → Int) × Bool) fun z => madeC z.2 n cap k.toNat z.1 [kc] H.length)
  | [.c (.v (.int _ at_)), .c (.sl kc _ _ _ n cap)] => some (.ex ((Nat → Int) × Bool) fun z => startC at_ z.2 n cap z.1 [kc] H.length)
  | [.c (.ptr r)] => bif Nat.beq f 14 then some (.ex Ar fun a => acloneC a [r.k, slAt H r.k 0] H.length) else bif Nat.beq f 15 then some (.ex Tb fun t => tcloneC t [r.k, slAt H r.k 0] H.length) else some (.ex Ar fun a => lenC a [r.k, slAt H r.k 0])
  | [.c (.sl kd _ _ _ _ _), .c (.ptr ra), .c (.ptr rt), _, .c (.sl kf _ _ _ _ _)] => some (.ex StT fun s => stepC s.1 s.2.1 s.2.2.1 s.2.2.2.1 s.2.2.2.2 true [kd, ra.k, slAt H ra.k 0, rt.k, slAt H rt.k 0, kf] H.length)
  | [.c (.sl ka _ _ _ n cap), .c (.sl kb _ _ _ _ cap')] => bif Nat.beq f 16 then some (.ex (Nat → Fr) fun F => sameFC true true n cap cap' F [ka, kb]) else some (.ex (Nat → Int × Int) fun F => sameNC true true n cap cap' F [ka, kb])
  | _ => none
abbrev agArgs (d : Cd) (n cap : Nat) (at_ : Int) (n2 cap2 : Nat) : List AV := [.c (.sl 0 0 0 5 d.n d.cap), .c (.sl 1 0 0 1 n cap), iav at_, .c (.sl 2 0 0 1 n2 cap2)]
abbrev agH (d : Cd) (n cap : Nat) (z : Nat → Int) (n2 cap2 : Nat) (y : Nat → Int) : Hp := [d.row, irow false n cap z, irow false n2 cap2 y]
abbrev tagain_0 : Cd → Ent :=
  fun d => { own := d.1, box := false, ty := 40, sz := 5, m := 1, n := fun x => d.2, cap := fun x => d.3, f := fun x i => [CV.v (Value.int IntKind.i64 (d.4 i).1), CV.v (Value.int IntKind.i64 (d.4 i).2), CV.v (Value.int IntKind.i64 (d.4 i).3), CV.v (Value.int IntKind.i64 (d.4 i).4), CV.v (Value.int IntKind.i64 (d.4 i).5)], ov := [] }
abbrev tagain_1 : Nat → Nat → (Nat → Int) → Ent :=
  fun n cap z => { own := false, box := false, ty := 2, sz := 1, m := 1, n := fun x => n, cap := fun x => cap, f := fun x i => [CV.v (Value.int IntKind.i64 (z i))], ov := [] }
abbrev tagain_2 : Cd → Nat → Nat → (Nat → Int) → Nat → Nat → (Nat → Int) → List Ent :=
  fun d n cap z n2 cap2 y => [tagain_0 d, tagain_1 n cap z, tagain_1 n2 cap2 y]
abbrev tagain_3 : AV :=
  AV.c (CV.ptr { k := 3, j := 0, i := 0, sz := 2, c := 0, d := 0, dn := 0, cu := 0 })
abbrev tagain_4 : List AV :=
  [tagain_3]
abbrev tagain_5 : Nat → Nat → (Nat → Int) × Bool → Ent :=
  fun n cap s => { own := Prod.snd s, box := false, ty := 2, sz := 1, m := 1, n := fun x => n, cap := fun x => cap, f := fun x i => [CV.v (Value.int IntKind.i64 (Prod.fst s i))], ov := [] }
abbrev tagain_6 : Ent :=
  { own := true, box := true, ty := 78, sz := 2, m := 1, n := fun a => 1, cap := fun a => 1, f := fun x x_1 => [CV.sl 6 0 0 4 2 2, CV.v (Value.int IntKind.i64 (0 : Int))], ov := [] }
abbrev tagain_7 : Ent :=
  { own := true, box := false, ty := 59, sz := 4, m := 1, n := fun x => 2, cap := fun x => 2, f := fun x i => [CV.v (Value.bool false), CV.v (Value.bool false), CV.v (Value.bool false), CV.v (Value.int IntKind.i64 (0 : Int))], ov := [] }
abbrev tagain_8 : AV :=
  AV.c (CV.ptr { k := 5, j := 0, i := 0, sz := 2, c := 0, d := 0, dn := 0, cu := 0 })
abbrev tagain_9 : Ar → Ent :=
  fun s => { own := true, box := true, ty := 72, sz := 2, m := 1, n := fun a => 1, cap := fun a => 1, f := fun x x_1 => [CV.sl 4 0 0 1 s.1 s.2, CV.v (Value.int IntKind.i64 s.4)], ov := [] }
abbrev tagain_10 : Ar → Ent :=
  fun s => { own := true, box := false, ty := 2, sz := 1, m := 1, n := fun x => s.1, cap := fun x => s.2, f := fun x i => [CV.v (Value.int IntKind.i64 (s.3 i))], ov := [] }
abbrev tagain_11 : Ar → (Nat → Nat) → Ent :=
  fun s c => { own := true, box := true, ty := 72, sz := 2, m := 1, n := fun a => 1, cap := fun a => 1, f := fun x x_1 => [CV.sl 8 0 0 1 s.1 (c 0), CV.v (Value.int IntKind.i64 s.4)], ov := [] }
abbrev tagain_12 : Ar → (Nat → Nat) → Ent :=
  fun s c => { own := true, box := false, ty := 2, sz := 1, m := 1, n := fun x => s.1, cap := fun x => c 0, f := fun x i => [CV.v (Value.int IntKind.i64 (s.3 i))], ov := [] }
abbrev tagain_13 : Tb → Ent :=
  fun s => { own := true, box := true, ty := 78, sz := 2, m := 1, n := fun a => 1, cap := fun a => 1, f := fun x x_1 => [CV.sl 6 0 0 4 s.1 s.2, CV.v (Value.int IntKind.i64 s.4)], ov := [] }
abbrev tagain_14 : Tb → Nat → List CV :=
  fun s i => [CV.v (Value.bool (s.3 i).1), CV.v (Value.bool (s.3 i).2), CV.v (Value.bool (s.3 i).3), CV.v (Value.int IntKind.i64 (s.3 i).4)]
abbrev tagain_15 : Tb → Ent :=
  fun s => { own := true, box := false, ty := 59, sz := 4, m := 1, n := fun x => s.1, cap := fun x => s.2, f := fun x i => tagain_14 s i, ov := [] }
abbrev tagain_16 : Tb → (Nat → Nat) → Ent :=
  fun s c => { own := true, box := true, ty := 78, sz := 2, m := 1, n := fun a => 1, cap := fun a => 1, f := fun x x_1 => [CV.sl 10 0 0 4 s.1 (c 0), CV.v (Value.int IntKind.i64 s.4)], ov := [] }
abbrev tagain_17 : Tb → (Nat → Nat) → Ent :=
  fun s c => { own := true, box := false, ty := 59, sz := 4, m := 1, n := fun x => s.1, cap := fun x => c 0, f := fun x i => tagain_14 s i, ov := [] }
abbrev tagain_18 : Cd → (Nat → Nat) → Ent :=
  fun d c => { own := true, box := false, ty := 40, sz := 5, m := 1, n := fun x => 0 + d.2, cap := fun x => c 0, f := fun x i => [CV.v (Value.int IntKind.i64 (d.4 (i - 0)).1), CV.v (Value.int IntKind.i64 (d.4 (i - 0)).2), CV.v (Value.int IntKind.i64 (d.4 (i - 0)).3), CV.v (Value.int IntKind.i64 (d.4 (i - 0)).4), CV.v (Value.int IntKind.i64 (d.4 (i - 0)).5)], ov := [] }
abbrev tagain_19 : Cd → (Nat → Nat) → AV :=
  fun d c => AV.c (CV.sl 12 0 0 5 (0 + d.2) (c 0))
abbrev tagain_20 : AV :=
  AV.c (CV.sl 13 0 0 17 1 1)
abbrev tagain_21 : Int → Nat → (Nat → Int) × Bool → List CV :=
  fun at_ n2 s => [CV.v (Value.int IntKind.i64 at_), CV.v (Value.int IntKind.i64 (if 0 < n2 then Prod.fst s 0 else (0 : Int))), CV.v (Value.int IntKind.i64 (if 1 < n2 then Prod.fst s 1 else (0 : Int))), CV.v (Value.int IntKind.i64 (if 2 < n2 then Prod.fst s 2 else (0 : Int))), CV.v (Value.int IntKind.i64 (if 3 < n2 then Prod.fst s 3 else (0 : Int))), CV.v (Value.int IntKind.i64 (if 4 < n2 then Prod.fst s 4 else (0 : Int))), CV.v (Value.int IntKind.i64 (if 5 < n2 then Prod.fst s 5 else (0 : Int))), CV.v (Value.int IntKind.i64 (if 6 < n2 then Prod.fst s 6 else (0 : Int))), CV.v (Value.int IntKind.i64 (if 7 < n2 then Prod.fst s 7 else (0 : Int))), CV.v (Value.int IntKind.i64 (if 8 < n2 then Prod.fst s 8 else (0 : Int))), CV.v (Value.int IntKind.i64 (if 9 < n2 then Prod.fst s 9 else (0 : Int))), CV.v (Value.int IntKind.i64 (if 10 < n2 then Prod.fst s 10 else (0 : Int))), CV.v (Value.int IntKind.i64 (if 11 < n2 then Prod.fst s 11 else (0 : Int))), CV.v (Value.int IntKind.i64 (if 12 < n2 then Prod.fst s 12 else (0 : Int))), CV.v (Value.int IntKind.i64 (if 13 < n2 then Prod.fst s 13 else (0 : Int))), CV.v (Value.int IntKind.i64 (if 14 < n2 then Prod.fst s 14 else (0 : Int))), CV.v (Value.int IntKind.i64 (if 15 < n2 then Prod.fst s 15 else (0 : Int)))]
abbrev tagain_22 : Int → Nat → (Nat → Int) × Bool → (Nat → Nat) → Ent :=
  fun at_ n2 s c => { own := true, box := false, ty := 66, sz := 17, m := 1, n := fun x => 1, cap := fun x => c 0, f := fun x i => tagain_21 at_ n2 s, ov := [] }
abbrev tagain_23 : StT → Mc :=
  fun s => Prod.fst (Prod.snd s)
abbrev tagain_24 : StT → Cd :=
  fun s => Prod.snd (Prod.snd (Prod.snd (Prod.snd s)))
abbrev tagain_25 : Cd → AV :=
  fun d => AV.c (CV.sl 0 0 0 5 d.2 d.3)
abbrev tagain_26 : Cd → XV :=
  fun d => XV.a (tagain_25 d)
abbrev tagain_27 : XV :=
  XV.a tagain_3
abbrev tagain_28 : XV :=
  XV.a tagain_8
abbrev tagain_29 : AV :=
  AV.c (CV.ptr { k := 7, j := 0, i := 0, sz := 2, c := 0, d := 0, dn := 0, cu := 0 })
abbrev tagain_30 : XV :=
  XV.a tagain_29
abbrev tagain_31 : AV :=
  AV.c (CV.ptr { k := 9, j := 0, i := 0, sz := 2, c := 0, d := 0, dn := 0, cu := 0 })
abbrev tagain_32 : XV :=
  XV.a tagain_31
abbrev tagain_33 : Cd → (Nat → Nat) → XV :=
  fun d c => XV.a (tagain_19 d c)
abbrev tagain_34 : XV :=
  XV.a tagain_20
abbrev tagain_35 : (Nat → Nat) → AV :=
  fun c => AV.c (CV.sl 15 0 0 17 1 (c 0))
abbrev tagain_36 : (Nat → Nat) → XV :=
  fun c => XV.a (tagain_35 c)
abbrev tagain_37 : StT → (Nat → Nat) → AV :=
  fun s c => AV.c (CV.sl 17 0 0 17 (Mc.nF (tagain_23 s)) (c 1))
abbrev tagain_38 : StT → (Nat → Nat) → XV :=
  fun s c => XV.a (tagain_37 s c)
abbrev tagain_39 : StT → (Nat → Nat) → AV :=
  fun s c => AV.c (CV.sl 18 0 0 2 (Prod.fst (Prod.snd s)).8 (c 2))
abbrev tagain_40 : StT → (Nat → Nat) → XV :=
  fun s c => XV.a (tagain_39 s c)
abbrev tagain_41 : StT → XV :=
  fun s => XV.a (AV.c (CV.v (Value.int IntKind.i64 (Prod.fst (Prod.snd (Prod.snd s))))))
abbrev tagain_42 : StT → XV :=
  fun s => XV.a (AV.c (CV.v (Value.int IntKind.i64 (Prod.fst (Prod.snd (Prod.snd (Prod.snd s)))))))
abbrev tagain_43 : List Nat :=
  [0, 1, 2, 3, 4, 5, 6, 7, 8, 9, 10, 11, 12, 13, 14, 15, 16, 17, 18]
abbrev tagain_44 : StT → CV :=
  fun s => CV.v (Value.int IntKind.i64 (Prod.fst (Prod.snd s)).1.4)
abbrev tagain_45 : StT → (Nat → Nat) → Ent :=
  fun s c => { own := true, box := true, ty := 72, sz := 2, m := 1, n := fun a => 1, cap := fun a => 1, f := fun x x_1 => [CV.sl 16 0 0 1 (Prod.fst (Prod.snd s)).1.1 (c 0), tagain_44 s], ov := [] }
abbrev tagain_46 : StT → CV :=
  fun s => CV.v (Value.int IntKind.i64 (Prod.fst (Prod.snd s)).2.4)
abbrev tagain_47 : StT → Ent :=
  fun s => { own := true, box := true, ty := 78, sz := 2, m := 1, n := fun a => 1, cap := fun a => 1, f := fun x x_1 => [CV.sl 6 0 0 4 (Prod.fst (Prod.snd s)).2.1 (Prod.fst (Prod.snd s)).2.2, tagain_46 s], ov := [] }
abbrev tagain_48 : StT → Ent :=
  fun s => { own := true, box := false, ty := 59, sz := 4, m := 1, n := fun x => (Prod.fst (Prod.snd s)).2.1, cap := fun x => (Prod.fst (Prod.snd s)).2.2, f := fun x i => [CV.v (Value.bool ((Prod.fst (Prod.snd s)).2.3 i).1), CV.v (Value.bool ((Prod.fst (Prod.snd s)).2.3 i).2), CV.v (Value.bool ((Prod.fst (Prod.snd s)).2.3 i).3), CV.v (Value.int IntKind.i64 ((Prod.fst (Prod.snd s)).2.3 i).4)], ov := [] }
abbrev tagain_49 : StT → Ent :=
  fun s => { own := (Prod.snd (Prod.snd (Prod.snd (Prod.snd s)))).1, box := false, ty := 40, sz := 5, m := 1, n := fun x => (Prod.snd (Prod.snd (Prod.snd (Prod.snd s)))).2, cap := fun x => (Prod.snd (Prod.snd (Prod.snd (Prod.snd s)))).3, f := fun x i => [CV.v (Value.int IntKind.i64 ((Prod.snd (Prod.snd (Prod.snd (Prod.snd s)))).4 i).1), CV.v (Value.int IntKind.i64 ((Prod.snd (Prod.snd (Prod.snd (Prod.snd s)))).4 i).2), CV.v (Value.int IntKind.i64 ((Prod.snd (Prod.snd (Prod.snd (Prod.snd s)))).4 i).3), CV.v (Value.int IntKind.i64 ((Prod.snd (Prod.snd (Prod.snd (Prod.snd s)))).4 i).4), CV.v (Value.int IntKind.i64 ((Prod.snd (Prod.snd (Prod.snd (Prod.snd s)))).4 i).5)], ov := [] }
abbrev tagain_50 : StT → Ent :=
  fun s => { own := true, box := false, ty := 66, sz := 17, m := 1, n := fun x => Mc.nF (Prod.fst s), cap := fun x => Mc.cF (Prod.fst s), f := fun x i => [CV.v (Value.int IntKind.i64 (Mc.F (Prod.fst s) i).1), CV.v (Value.int IntKind.i64 ((Mc.F (Prod.fst s) i).2 0)), CV.v (Value.int IntKind.i64 ((Mc.F (Prod.fst s) i).2 1)), CV.v (Value.int IntKind.i64 ((Mc.F (Prod.fst s) i).2 2)), CV.v (Value.int IntKind.i64 ((Mc.F (Prod.fst s) i).2 3)), CV.v (Value.int IntKind.i64 ((Mc.F (Prod.fst s) i).2 4)), CV.v (Value.int IntKind.i64 ((Mc.F (Prod.fst s) i).2 5)), CV.v (Value.int IntKind.i64 ((Mc.F (Prod.fst s) i).2 6)), CV.v (Value.int IntKind.i64 ((Mc.F (Prod.fst s) i).2 7)), CV.v (Value.int IntKind.i64 ((Mc.F (Prod.fst s) i).2 8)), CV.v (Value.int IntKind.i64 ((Mc.F (Prod.fst s) i).2 9)), CV.v (Value.int IntKind.i64 ((Mc.F (Prod.fst s) i).2 10)), CV.v (Value.int IntKind.i64 ((Mc.F (Prod.fst s) i).2 11)), CV.v (Value.int IntKind.i64 ((Mc.F (Prod.fst s) i).2 12)), CV.v (Value.int IntKind.i64 ((Mc.F (Prod.fst s) i).2 13)), CV.v (Value.int IntKind.i64 ((Mc.F (Prod.fst s) i).2 14)), CV.v (Value.int IntKind.i64 ((Mc.F (Prod.fst s) i).2 15))], ov := [] }
abbrev tagain_51 : StT → (Nat → Nat) → Ent :=
  fun s c => { own := true, box := false, ty := 2, sz := 1, m := 1, n := fun x => (Prod.fst (Prod.snd s)).1.1, cap := fun x => c 0, f := fun x i => [CV.v (Value.int IntKind.i64 ((Prod.fst (Prod.snd s)).1.3 i))], ov := [] }
abbrev tagain_52 : StT → (Nat → Nat) → Ent :=
  fun s c => { own := true, box := false, ty := 66, sz := 17, m := 1, n := fun x => Mc.nF (tagain_23 s), cap := fun x => c 1, f := fun x i => [CV.v (Value.int IntKind.i64 (Mc.F (Prod.fst (Prod.snd s)) i).1), CV.v (Value.int IntKind.i64 ((Mc.F (Prod.fst (Prod.snd s)) i).2 0)), CV.v (Value.int IntKind.i64 ((Mc.F (Prod.fst (Prod.snd s)) i).2 1)), CV.v (Value.int IntKind.i64 ((Mc.F (Prod.fst (Prod.snd s)) i).2 2)), CV.v (Value.int IntKind.i64 ((Mc.F (Prod.fst (Prod.snd s)) i).2 3)), CV.v (Value.int IntKind.i64 ((Mc.F (Prod.fst (Prod.snd s)) i).2 4)), CV.v (Value.int IntKind.i64 ((Mc.F (Prod.fst (Prod.snd s)) i).2 5)), CV.v (Value.int IntKind.i64 ((Mc.F (Prod.fst (Prod.snd s)) i).2 6)), CV.v (Value.int IntKind.i64 ((Mc.F (Prod.fst (Prod.snd s)) i).2 7)), CV.v (Value.int IntKind.i64 ((Mc.F (Prod.fst (Prod.snd s)) i).2 8)), CV.v (Value.int IntKind.i64 ((Mc.F (Prod.fst (Prod.snd s)) i).2 9)), CV.v (Value.int IntKind.i64 ((Mc.F (Prod.fst (Prod.snd s)) i).2 10)), CV.v (Value.int IntKind.i64 ((Mc.F (Prod.fst (Prod.snd s)) i).2 11)), CV.v (Value.int IntKind.i64 ((Mc.F (Prod.fst (Prod.snd s)) i).2 12)), CV.v (Value.int IntKind.i64 ((Mc.F (Prod.fst (Prod.snd s)) i).2 13)), CV.v (Value.int IntKind.i64 ((Mc.F (Prod.fst (Prod.snd s)) i).2 14)), CV.v (Value.int IntKind.i64 ((Mc.F (Prod.fst (Prod.snd s)) i).2 15))], ov := [] }
abbrev tagain_53 : StT → (Nat → Nat) → Ent :=
  fun s c => { own := true, box := false, ty := 80, sz := 2, m := 1, n := fun x => (Prod.fst (Prod.snd s)).8, cap := fun x => c 2, f := fun x i => [CV.v (Value.int IntKind.i64 (Prod.fst ((Prod.fst (Prod.snd s)).10 i))), CV.v (Value.int IntKind.i64 (Prod.snd ((Prod.fst (Prod.snd s)).10 i)))], ov := [] }
abbrev tagain_54 : (Nat → Fr) → Nat → List CV :=
  fun s i => [CV.v (Value.int IntKind.i64 (s i).1), CV.v (Value.int IntKind.i64 ((s i).2 0)), CV.v (Value.int IntKind.i64 ((s i).2 1)), CV.v (Value.int IntKind.i64 ((s i).2 2)), CV.v (Value.int IntKind.i64 ((s i).2 3)), CV.v (Value.int IntKind.i64 ((s i).2 4)), CV.v (Value.int IntKind.i64 ((s i).2 5)), CV.v (Value.int IntKind.i64 ((s i).2 6)), CV.v (Value.int IntKind.i64 ((s i).2 7)), CV.v (Value.int IntKind.i64 ((s i).2 8)), CV.v (Value.int IntKind.i64 ((s i).2 9)), CV.v (Value.int IntKind.i64 ((s i).2 10)), CV.v (Value.int IntKind.i64 ((s i).2 11)), CV.v (Value.int IntKind.i64 ((s i).2 12)), CV.v (Value.int IntKind.i64 ((s i).2 13)), CV.v (Value.int IntKind.i64 ((s i).2 14)), CV.v (Value.int IntKind.i64 ((s i).2 15))]
abbrev tagain_55 : (Nat → Fr) → Ent :=
  fun s => { own := true, box := false, ty := 66, sz := 17, m := 1, n := fun x => 1, cap := fun x => 1, f := fun x i => tagain_54 s i, ov := [] }
abbrev tagain_56 : StT → (Nat → Nat) → Ent :=
  fun s c => { own := true, box := true, ty := 72, sz := 2, m := 1, n := fun a => 1, cap := fun a => 1, f := fun x x_1 => [CV.sl 19 0 0 1 (Prod.fst (Prod.snd s)).1.1 (c 0), tagain_44 s], ov := [] }
abbrev tagain_57 : StT → Ent :=
  fun s => { own := true, box := true, ty := 78, sz := 2, m := 1, n := fun a => 1, cap := fun a => 1, f := fun x x_1 => [CV.sl 10 0 0 4 (Prod.fst (Prod.snd s)).2.1 (Prod.fst (Prod.snd s)).2.2, tagain_46 s], ov := [] }
abbrev tagain_58 : StT → (Nat → Nat) → (Nat → Fr) → Ent :=
  fun s c s_1 => { own := true, box := false, ty := 66, sz := 17, m := 1, n := fun x => Mc.nF (tagain_23 s), cap := fun x => c 1, f := fun x i => tagain_54 s_1 i, ov := [] }
abbrev tagain_59 : StT → (Nat → Nat) → (Nat → Int × Int) → Ent :=
  fun s c s_1 => { own := true, box := false, ty := 80, sz := 2, m := 1, n := fun x => (Prod.fst (Prod.snd s)).8, cap := fun x => c 2, f := fun x i => [CV.v (Value.int IntKind.i64 (Prod.fst (s_1 i))), CV.v (Value.int IntKind.i64 (Prod.snd (s_1 i)))], ov := [] }
abbrev tagain_60 : Nat → Nat → Nat → Nat → (Nat → Int) × Bool → (Nat → Int) × Bool → StT → (Nat → Nat) → (Nat → Fr) → StT → (Nat → Nat) → (Nat → Fr) → (Nat → Int × Int) → List Ent :=
  fun n cap n2 cap2 s s_1 s_2 c s_3 s_4 c_1 s_5 s_6 => [tagain_49 s_4, tagain_5 n cap s, tagain_5 n2 cap2 s_1, tagain_45 s_2 c, Ent.dead, tagain_47 s_2, tagain_48 s_2, tagain_56 s_4 c_1, Ent.dead, tagain_57 s_4, tagain_48 s_4, Ent.dead, tagain_49 s_2, tagain_55 s_3, Ent.dead, tagain_50 s_4, tagain_51 s_2 c, tagain_58 s_2 c s_5, tagain_59 s_2 c s_6, tagain_51 s_4 c_1, tagain_58 s_2 c_1 s_5, tagain_59 s_2 c_1 s_6]
abbrev tagain_61 : List AV :=
  [tagain_29]
abbrev tagain_62 : Ar → CallSpec :=
  fun s => lenC s [7, 19]
abbrev tagain_63 : Nat → Nat → Nat → Nat → (Nat → Int) × Bool → (Nat → Int) × Bool → StT → List Ent :=
  fun n cap n2 cap2 s s_1 s_2 => [tagain_49 s_2, tagain_5 n cap s, tagain_5 n2 cap2 s_1, Ent.dead, Ent.dead, Ent.dead, Ent.dead, Ent.dead, Ent.dead, Ent.dead, Ent.dead, Ent.dead, Ent.dead, Ent.dead, Ent.dead, Ent.dead, Ent.dead, Ent.dead, Ent.dead, Ent.dead, Ent.dead, Ent.dead]
def tagain (d : Cd) (n cap : Nat) (z : Nat → Int) (at_ : Int) (n2 cap2 : Nat) (y : Nat → Int) : Tree :=
  Tree.callf 7 [] (tagain_2 d n cap z n2 cap2 y) (upC 3) fun c => Tree.chk ((!decide ((↑d.2 : Int) > (1024 : Int))) = true → (!decide ((↑d.2 : Int) > (1024 : Int))) = true)
 (Tree.chk ((!decide ((↑d.2 : Int) > (1024 : Int))) = true → (!decide ((↑d.2 : Int) > (1024 : Int))) = true)
 (Tree.chk (decide ((↑d.2 : Int) > (1024 : Int)) = false → (!decide ((↑d.2 : Int) > (1024 : Int))) = true)
 (Tree.chk ((!bif decide ((↑d.2 : Int) > (1024 : Int)) then true else decide ((↑n : Int) > (100 : Int))) = true → (!bif decide ((↑d.2 : Int) > (1024 : Int)) then true else decide ((↑n : Int) > (100 : Int))) = true)
 (Tree.chk ((!bif decide ((↑d.2 : Int) > (1024 : Int)) then true else decide ((↑n : Int) > (100 : Int))) = true → (!bif decide ((↑d.2 : Int) > (1024 : Int)) then true else decide ((↑n : Int) > (100 : Int))) = true)
 (Tree.chk ((bif decide ((↑d.2 : Int) > (1024 : Int)) then true else decide ((↑n : Int) > (100 : Int))) = false → (!bif decide ((↑d.2 : Int) > (1024 : Int)) then true else decide ((↑n : Int) > (100 : Int))) = true)
 (Tree.br (bif bif decide ((↑d.2 : Int) > (1024 : Int)) then true else decide ((↑n : Int) > (100 : Int)) then true else decide ((↑n2 : Int) > (40 : Int)))
 (Tree.done (XV.a (AV.c (CV.v (Value.bool true)))) (tagain_2 d n cap z n2 cap2 y))
 (Tree.some_ ((Nat → Int) × Bool) fun s => Tree.callf 8 [AV.c (CV.sl 1 0 0 1 n cap), AV.c (CV.v (Value.int IntKind.i64 (2 : Int)))] (tagain_2 d n cap z n2 cap2 y) (madeC (Prod.snd s) n cap 2 (fun a => Prod.fst s a) [1] 3) fun c_1 => Tree.chk (false = false)
 (Tree.some_ Ar fun s_1 => Tree.callf 14 tagain_4 [tagain_0 d, tagain_5 n cap s, tagain_1 n2 cap2 y, { own := true, box := true, ty := 72, sz := 2, m := 1, n := fun a => 1, cap := fun a => 1, f := fun x x_1 => [CV.sl 4 0 0 1 (1 + n) (c_1 0), CV.v (Value.int IntKind.i64 (4096 : Int))], ov := [] }, { own := true, box := false, ty := 2, sz := 1, m := 1, n := fun x => 1 + n, cap := fun x => c_1 0, f := fun x i => [CV.v (Value.int IntKind.i64 (if i = 0 then (0 : Int) else if i ≤ n then Prod.fst s (i - 1) else (0 : Int)))], ov := [] }, tagain_6, tagain_7] (acloneC s_1 [3, 4] 7) fun c_2 => Tree.some_ Tb fun s_2 => Tree.callf 15 [tagain_8] [tagain_0 d, tagain_5 n cap s, tagain_1 n2 cap2 y, tagain_9 s_1, tagain_10 s_1, tagain_6, tagain_7, tagain_11 s_1 c_2, tagain_12 s_1 c_2] (tcloneC s_2 [5, 6] 9) fun c_3 => Tree.chk (true = true → true = true)
 (Tree.chk (false = false → true = true)
 (Tree.chk (false = false)
 (Tree.chk ((0 + d.2) * 40 ≤ 140737488355328)
 (Tree.chk (0 < 1 ∧ 0 + d.2 ≤ d.2)
 (Tree.chk (0 = 0 ∧ 0 = 0)
 (Tree.all (fun c => 0 + d.2 ≤ c 0 ∧ c 0 ≤ maxLen) fun c_4 => Tree.some_ ((Nat → Int) × Bool) fun s_3 => Tree.callf 12 [AV.c (CV.v (Value.int IntKind.i64 at_)), AV.c (CV.sl 2 0 0 1 n2 cap2)] [tagain_0 d, tagain_5 n cap s, tagain_1 n2 cap2 y, tagain_9 s_1, tagain_10 s_1, tagain_13 s_2, tagain_15 s_2, tagain_11 s_1 c_2, tagain_12 s_1 c_2, tagain_16 s_2 c_3, tagain_17 s_2 c_3, Ent.dead, tagain_18 d c_4] (startC at_ (Prod.snd s_3) n2 cap2 (fun a => Prod.fst s_3 a) [2] 13) fun c_5 => Tree.chk (1 * 136 ≤ 140737488355328)
 (Tree.chk (0 < 1 ∧ 1 ≤ 1)
 (Tree.chk (0 = 0 ∧ 0 = 0)
 (Tree.all (fun c => 1 ≤ c 0 ∧ c 0 ≤ maxLen) fun c_6 => Tree.some_ (Mc × Mc × Int × Int × Cd) fun s_4 => Tree.callf 10 [tagain_19 d c_4, tagain_3, tagain_8, AV.c (CV.v (Value.int IntKind.i64 (0 : Int))), tagain_20] [tagain_0 d, tagain_5 n cap s, tagain_5 n2 cap2 s_3, tagain_9 s_1, tagain_10 s_1, tagain_13 s_2, tagain_15 s_2, tagain_11 s_1 c_2, tagain_12 s_1 c_2, tagain_16 s_2 c_3, tagain_17 s_2 c_3, Ent.dead, tagain_18 d c_4, { own := true, box := false, ty := 66, sz := 17, m := 1, n := fun x => 1, cap := fun x => 1, f := fun x i => tagain_21 at_ n2 s_3, ov := [] }, Ent.dead, tagain_22 at_ n2 s_3 c_6] (stepC (Prod.fst s_4) (tagain_23 s_4) (Prod.fst (Prod.snd (Prod.snd s_4))) (Prod.fst (Prod.snd (Prod.snd (Prod.snd s_4)))) (tagain_24 s_4) true [12, 3, 4, 5, 6, 13] 16) fun c_7 => Tree.both
 (Tree.chk (XV.a (AV.c (CV.v (Value.int IntKind.i64 (0 : Int)))) = XV.a (AV.c (CV.v (Value.int IntKind.i64 (0 : Int)))))
 (Tree.chk (tagain_26 d = tagain_26 d)
 (Tree.chk (XV.a (AV.c (CV.v (Value.bool false))) = XV.a (AV.c (CV.v (Value.bool false))))
 (Tree.chk (XV.a (AV.c (CV.v (Value.bool true))) = XV.a (AV.c (CV.v (Value.bool true))))
 (Tree.chk (tagain_27 = tagain_27)
 (Tree.chk (tagain_28 = tagain_28)
 (Tree.chk (tagain_30 = tagain_30)
 (Tree.chk (tagain_32 = tagain_32)
 (Tree.chk (tagain_33 d c_4 = tagain_33 d c_4)
 (Tree.chk (tagain_34 = tagain_34)
 (Tree.chk (tagain_36 c_6 = tagain_36 c_6)
 (Tree.chk (tagain_38 s_4 c_7 = tagain_38 s_4 c_7)
 (Tree.chk (tagain_40 s_4 c_7 = tagain_40 s_4 c_7)
 (Tree.chk (tagain_41 s_4 = tagain_41 s_4)
 (Tree.chk (tagain_42 s_4 = tagain_42 s_4)
 (Tree.chk (XV.a (AV.c (CV.v Value.nilIface)) = XV.a (AV.c (CV.v Value.nilIface)))
 (Tree.chk (EntRel 19 tagain_43 19 (tagain_0 d) (tagain_0 d))
 (Tree.chk (EntRel 19 tagain_43 19 (tagain_5 n cap s) (tagain_5 n cap s))
 (Tree.chk (EntRel 19 tagain_43 19 (tagain_5 n2 cap2 s_3) (tagain_5 n2 cap2 s_3))
 (Tree.chk (EntRel 19 tagain_43 19 (tagain_45 s_4 c_7) (tagain_45 s_4 c_7))
 (Tree.chk (EntRel 19 tagain_43 19 Ent.dead Ent.dead)
 (Tree.chk (EntRel 19 tagain_43 19 (tagain_47 s_4) (tagain_47 s_4))
 (Tree.chk (EntRel 19 tagain_43 19 (tagain_48 s_4) (tagain_48 s_4))
 (Tree.chk (EntRel 19 tagain_43 19 (tagain_11 s_1 c_2) (tagain_11 s_1 c_2))
 (Tree.chk (EntRel 19 tagain_43 19 (tagain_12 s_1 c_2) (tagain_12 s_1 c_2))
 (Tree.chk (EntRel 19 tagain_43 19 (tagain_16 s_2 c_3) (tagain_16 s_2 c_3))
 (Tree.chk (EntRel 19 tagain_43 19 (tagain_17 s_2 c_3) (tagain_17 s_2 c_3))
 (Tree.chk (EntRel 19 tagain_43 19 Ent.dead Ent.dead)
 (Tree.chk (EntRel 19 tagain_43 19 (tagain_49 s_4) (tagain_49 s_4))
 (Tree.chk (EntRel 19 tagain_43 19 (tagain_50 s_4) (tagain_50 s_4))
 (Tree.chk (EntRel 19 tagain_43 19 Ent.dead Ent.dead)
 (Tree.chk (EntRel 19 tagain_43 19 (tagain_22 at_ n2 s_3 c_6) (tagain_22 at_ n2 s_3 c_6))
 (Tree.chk (EntRel 19 tagain_43 19 (tagain_51 s_4 c_7) (tagain_51 s_4 c_7))
 (Tree.chk (EntRel 19 tagain_43 19 (tagain_52 s_4 c_7) (tagain_52 s_4 c_7))
 (Tree.chk (EntRel 19 tagain_43 19 (tagain_53 s_4 c_7) (tagain_53 s_4 c_7))
 (Tree.need True))))))))))))))))))))))))))))))))))))
 (Tree.every { i // i ≤ d.2 } fun s_5 => Tree.br (decide ((↑(Subtype.val s_5) : Int) < (↑d.2 : Int)))
 (Tree.chk ((0 : Int) ≤ (↑(Subtype.val s_5) : Int) ∧ (↑(Subtype.val s_5) : Int) < (↑(0 + d.2) : Int) ∧ Int.toNat (↑(Subtype.val s_5) : Int) < (Prod.snd (Prod.snd (Prod.snd (Prod.snd s_4)))).2 ∧ 0 < 1)
 (Tree.chk (0 < 1 ∧ Int.toNat (↑(Subtype.val s_5) : Int) < (Prod.snd (Prod.snd (Prod.snd (Prod.snd s_4)))).2)
 (Tree.chk ((0 : Int) ≤ (↑(Subtype.val s_5) : Int) ∧ (↑(Subtype.val s_5) : Int) < (↑d.2 : Int) ∧ Int.toNat (↑(Subtype.val s_5) : Int) < d.2 ∧ 0 < 1)
 (Tree.chk (0 < 1 ∧ Int.toNat (↑(Subtype.val s_5) : Int) < d.2)
 (Tree.br (!(((Prod.snd (Prod.snd (Prod.snd (Prod.snd s_4)))).4 (Int.toNat (↑(Subtype.val s_5) : Int))).1 == (d.4 (Int.toNat (↑(Subtype.val s_5) : Int))).1 && (((Prod.snd (Prod.snd (Prod.snd (Prod.snd s_4)))).4 (Int.toNat (↑(Subtype.val s_5) : Int))).2 == (d.4 (Int.toNat (↑(Subtype.val s_5) : Int))).2 && (((Prod.snd (Prod.snd (Prod.snd (Prod.snd s_4)))).4 (Int.toNat (↑(Subtype.val s_5) : Int))).3 == (d.4 (Int.toNat (↑(Subtype.val s_5) : Int))).3 && (((Prod.snd (Prod.snd (Prod.snd (Prod.snd s_4)))).4 (Int.toNat (↑(Subtype.val s_5) : Int))).4 == (d.4 (Int.toNat (↑(Subtype.val s_5) : Int))).4 && ((Prod.snd (Prod.snd (Prod.snd (Prod.snd s_4)))).4 (Int.toNat (↑(Subtype.val s_5) : Int))).5 == (d.4 (Int.toNat (↑(Subtype.val s_5) : Int))).5)))))
 (Tree.done (XV.a (AV.c (CV.v (Value.bool false)))) [tagain_0 d, tagain_5 n cap s, tagain_5 n2 cap2 s_3, Ent.dead, Ent.dead, Ent.dead, Ent.dead, Ent.dead, Ent.dead, Ent.dead, Ent.dead, Ent.dead, Ent.dead, Ent.dead, Ent.dead, Ent.dead, Ent.dead, Ent.dead, Ent.dead])
 (Tree.some_ { i // i ≤ d.2 } fun s' => Tree.chk (d.2 - Subtype.val s' < d.2 - Subtype.val s_5)
 (Tree.chk (XV.a (AV.c (CV.v (Value.int IntKind.i64 (IntKind.wrap IntKind.i64 ((↑(Subtype.val s_5) : Int) + (1 : Int)))))) = XV.a (AV.c (CV.v (Value.int IntKind.i64 (↑(Subtype.val s') : Int)))))
 (Tree.chk (tagain_26 d = tagain_26 d)
 (Tree.chk (XV.a (AV.c (CV.v (Value.bool false))) = XV.a (AV.c (CV.v (Value.bool false))))
 (Tree.chk (XV.a (AV.c (CV.v (Value.bool true))) = XV.a (AV.c (CV.v (Value.bool true))))
 (Tree.chk (tagain_27 = tagain_27)
 (Tree.chk (tagain_28 = tagain_28)
 (Tree.chk (tagain_30 = tagain_30)
 (Tree.chk (tagain_32 = tagain_32)
 (Tree.chk (tagain_33 d c_4 = tagain_33 d c_4)
 (Tree.chk (tagain_34 = tagain_34)
 (Tree.chk (tagain_36 c_6 = tagain_36 c_6)
 (Tree.chk (tagain_38 s_4 c_7 = tagain_38 s_4 c_7)
 (Tree.chk (tagain_40 s_4 c_7 = tagain_40 s_4 c_7)
 (Tree.chk (tagain_41 s_4 = tagain_41 s_4)
 (Tree.chk (tagain_42 s_4 = tagain_42 s_4)
 (Tree.chk (XV.a (AV.c (CV.v Value.nilIface)) = XV.a (AV.c (CV.v Value.nilIface)))
 (Tree.chk (EntRel 19 tagain_43 19 (tagain_0 d) (tagain_0 d))
 (Tree.chk (EntRel 19 tagain_43 19 (tagain_5 n cap s) (tagain_5 n cap s))
 (Tree.chk (EntRel 19 tagain_43 19 (tagain_5 n2 cap2 s_3) (tagain_5 n2 cap2 s_3))
 (Tree.chk (EntRel 19 tagain_43 19 (tagain_45 s_4 c_7) (tagain_45 s_4 c_7))
 (Tree.chk (EntRel 19 tagain_43 19 Ent.dead Ent.dead)
 (Tree.chk (EntRel 19 tagain_43 19 (tagain_47 s_4) (tagain_47 s_4))
 (Tree.chk (EntRel 19 tagain_43 19 (tagain_48 s_4) (tagain_48 s_4))
 (Tree.chk (EntRel 19 tagain_43 19 (tagain_11 s_1 c_2) (tagain_11 s_1 c_2))
 (Tree.chk (EntRel 19 tagain_43 19 (tagain_12 s_1 c_2) (tagain_12 s_1 c_2))
 (Tree.chk (EntRel 19 tagain_43 19 (tagain_16 s_2 c_3) (tagain_16 s_2 c_3))
 (Tree.chk (EntRel 19 tagain_43 19 (tagain_17 s_2 c_3) (tagain_17 s_2 c_3))
 (Tree.chk (EntRel 19 tagain_43 19 Ent.dead Ent.dead)
 (Tree.chk (EntRel 19 tagain_43 19 (tagain_49 s_4) (tagain_49 s_4))
 (Tree.chk (EntRel 19 tagain_43 19 (tagain_50 s_4) (tagain_50 s_4))
 (Tree.chk (EntRel 19 tagain_43 19 Ent.dead Ent.dead)
 (Tree.chk (EntRel 19 tagain_43 19 (tagain_22 at_ n2 s_3 c_6) (tagain_22 at_ n2 s_3 c_6))
 (Tree.chk (EntRel 19 tagain_43 19 (tagain_51 s_4 c_7) (tagain_51 s_4 c_7))
 (Tree.chk (EntRel 19 tagain_43 19 (tagain_52 s_4 c_7) (tagain_52 s_4 c_7))
 (Tree.chk (EntRel 19 tagain_43 19 (tagain_53 s_4 c_7) (tagain_53 s_4 c_7))
 (Tree.need True))))))))))))))))))))))))))))))))))))))))))
 (Tree.chk (true = true)
 (Tree.chk (true = true)
 (Tree.chk (true = true)
 (Tree.some_ (Nat → Fr) fun s_6 => Tree.callf 16 [tagain_20, tagain_35 c_6] [tagain_0 d, tagain_5 n cap s, tagain_5 n2 cap2 s_3, tagain_45 s_4 c_7, Ent.dead, tagain_47 s_4, tagain_48 s_4, tagain_11 s_1 c_2, tagain_12 s_1 c_2, tagain_16 s_2 c_3, tagain_17 s_2 c_3, Ent.dead, tagain_49 s_4, tagain_50 s_4, Ent.dead, tagain_22 at_ n2 s_3 c_6, tagain_51 s_4 c_7, tagain_52 s_4 c_7, tagain_53 s_4 c_7] (sameFC true true 1 1 (c_6 0) (fun a => s_6 a) [13, 15]) fun c => Tree.chk (false = false → true = true)
 (Tree.chk (false = false)
 (Tree.some_ (Mc × Mc × Int × Int × Cd) fun s_7 => Tree.callf 10 [tagain_25 d, tagain_29, tagain_31, AV.c (CV.v (Value.int IntKind.i64 (0 : Int))), tagain_35 c_6] [tagain_0 d, tagain_5 n cap s, tagain_5 n2 cap2 s_3, tagain_45 s_4 c_7, Ent.dead, tagain_47 s_4, tagain_48 s_4, tagain_11 s_1 c_2, tagain_12 s_1 c_2, tagain_16 s_2 c_3, tagain_17 s_2 c_3, Ent.dead, tagain_49 s_4, tagain_55 s_6, Ent.dead, { own := true, box := false, ty := 66, sz := 17, m := 1, n := fun x => 1, cap := fun x => c_6 0, f := fun x i => tagain_54 s_6 i, ov := [] }, tagain_51 s_4 c_7, tagain_52 s_4 c_7, tagain_53 s_4 c_7] (stepC (Prod.fst s_7) (tagain_23 s_7) (Prod.fst (Prod.snd (Prod.snd s_7))) (Prod.fst (Prod.snd (Prod.snd (Prod.snd s_7)))) (tagain_24 s_7) true [0, 7, 8, 9, 10, 15] 19) fun c => Tree.chk (true = true → true = true)
 (Tree.chk (true = true → true = true)
 (Tree.chk (true = true)
 (Tree.chk (true = true)
 (Tree.chk (true = true)
 (Tree.some_ (Nat → Fr) fun s_8 => Tree.callf 16 [tagain_37 s_4 c_7, AV.c (CV.sl 20 0 0 17 (Mc.nF (tagain_23 s_7)) (c 1))] [tagain_49 s_7, tagain_5 n cap s, tagain_5 n2 cap2 s_3, tagain_45 s_4 c_7, Ent.dead, tagain_47 s_4, tagain_48 s_4, tagain_56 s_7 c, Ent.dead, tagain_57 s_7, tagain_48 s_7, Ent.dead, tagain_49 s_4, tagain_55 s_6, Ent.dead, tagain_50 s_7, tagain_51 s_4 c_7, tagain_52 s_4 c_7, tagain_53 s_4 c_7, tagain_51 s_7 c, tagain_52 s_7 c, tagain_53 s_7 c] (sameFC true true (Mc.nF (tagain_23 s_4)) (c_7 1) (c 1) (fun a => s_8 a) [17, 20]) fun c_8 => Tree.chk (true = true)
 (Tree.chk (true = true)
 (Tree.chk (true = true)
 (Tree.some_ (Nat → Int × Int) fun s_9 => Tree.callf 17 [tagain_39 s_4 c_7, AV.c (CV.sl 21 0 0 2 (Prod.fst (Prod.snd s_7)).8 (c 2))] [tagain_49 s_7, tagain_5 n cap s, tagain_5 n2 cap2 s_3, tagain_45 s_4 c_7, Ent.dead, tagain_47 s_4, tagain_48 s_4, tagain_56 s_7 c, Ent.dead, tagain_57 s_7, tagain_48 s_7, Ent.dead, tagain_49 s_4, tagain_55 s_6, Ent.dead, tagain_50 s_7, tagain_51 s_4 c_7, tagain_58 s_4 c_7 s_8, tagain_53 s_4 c_7, tagain_51 s_7 c, tagain_58 s_4 c s_8, tagain_53 s_7 c] (sameNC true true (Prod.fst (Prod.snd s_4)).8 (c_7 2) (c 2) (fun a => s_9 a) [18, 21]) fun c_9 => Tree.chk (true = true → true = true)
 (Tree.chk (true = true → true = true)
 (Tree.chk (true = true → true = true)
 (Tree.chk ((Prod.fst (Prod.snd (Prod.snd s_4)) == Prod.fst (Prod.snd (Prod.snd s_7))) = true → (Prod.fst (Prod.snd (Prod.snd s_4)) == Prod.fst (Prod.snd (Prod.snd s_7))) = true)
 (Tree.chk ((Prod.fst (Prod.snd (Prod.snd s_4)) == Prod.fst (Prod.snd (Prod.snd s_7))) = true → (Prod.fst (Prod.snd (Prod.snd s_4)) == Prod.fst (Prod.snd (Prod.snd s_7))) = true)
 (Tree.chk ((Prod.fst (Prod.snd (Prod.snd s_4)) == Prod.fst (Prod.snd (Prod.snd s_7))) = true → (Prod.fst (Prod.snd (Prod.snd s_4)) == Prod.fst (Prod.snd (Prod.snd s_7))) = true)
 (Tree.br (bif Prod.fst (Prod.snd (Prod.snd s_4)) == Prod.fst (Prod.snd (Prod.snd s_7)) then Prod.fst (Prod.snd (Prod.snd (Prod.snd s_4))) == Prod.fst (Prod.snd (Prod.snd (Prod.snd s_7))) else false)
 (Tree.chk ((bif Prod.fst (Prod.snd (Prod.snd s_4)) == Prod.fst (Prod.snd (Prod.snd s_7)) then Prod.fst (Prod.snd (Prod.snd (Prod.snd s_4))) == Prod.fst (Prod.snd (Prod.snd (Prod.snd s_7))) else false) = true)
 (Tree.some_ Ar fun s_10 => Tree.callf 11 tagain_4 (tagain_60 n cap n2 cap2 s s_3 s_4 c_7 s_6 s_7 c s_8 s_9) (lenC s_10 [3, 16]) fun c_10 => Tree.br (bif Prod.fst (Prod.snd (Prod.snd s_4)) == Prod.fst (Prod.snd (Prod.snd s_7)) then Prod.fst (Prod.snd (Prod.snd (Prod.snd s_4))) == Prod.fst (Prod.snd (Prod.snd (Prod.snd s_7))) else false)
 (Tree.chk ((bif Prod.fst (Prod.snd (Prod.snd s_4)) == Prod.fst (Prod.snd (Prod.snd s_7)) then Prod.fst (Prod.snd (Prod.snd (Prod.snd s_4))) == Prod.fst (Prod.snd (Prod.snd (Prod.snd s_7))) else false) = true)
 (Tree.some_ Ar fun s_11 => Tree.callf 11 tagain_61 [tagain_49 s_7, tagain_5 n cap s, tagain_5 n2 cap2 s_3, { own := true, box := true, ty := 72, sz := 2, m := 1, n := fun a => 1, cap := fun a => 1, f := fun x x_1 => [CV.sl 16 0 0 1 s_10.1 s_10.2, CV.v (Value.int IntKind.i64 s_10.4)], ov := [] }, Ent.dead, tagain_47 s_4, tagain_48 s_4, tagain_56 s_7 c, Ent.dead, tagain_57 s_7, tagain_48 s_7, Ent.dead, tagain_49 s_4, tagain_55 s_6, Ent.dead, tagain_50 s_7, tagain_10 s_10, tagain_58 s_4 c_7 s_8, tagain_59 s_4 c_7 s_9, tagain_51 s_7 c, tagain_58 s_4 c s_8, tagain_59 s_4 c s_9] (tagain_62 s_11) fun c => Tree.chk ((bif Prod.fst (Prod.snd (Prod.snd s_4)) == Prod.fst (Prod.snd (Prod.snd s_7)) then Prod.fst (Prod.snd (Prod.snd (Prod.snd s_4))) == Prod.fst (Prod.snd (Prod.snd (Prod.snd s_7))) else false) = true → (bif Prod.fst (Prod.snd (Prod.snd s_4)) == Prod.fst (Prod.snd (Prod.snd s_7)) then Prod.fst (Prod.snd (Prod.snd (Prod.snd s_4))) == Prod.fst (Prod.snd (Prod.snd (Prod.snd s_7))) else false) = true)
 (Tree.done (XV.a (AV.c (CV.v (Value.bool (bif bif Prod.fst (Prod.snd (Prod.snd s_4)) == Prod.fst (Prod.snd (Prod.snd s_7)) then Prod.fst (Prod.snd (Prod.snd (Prod.snd s_4))) == Prod.fst (Prod.snd (Prod.snd (Prod.snd s_7))) else false then lenF s_10 == lenF s_11 else false))))) (tagain_63 n cap n2 cap2 s s_3 s_7))))
 (Tree.chk ((bif Prod.fst (Prod.snd (Prod.snd s_4)) == Prod.fst (Prod.snd (Prod.snd s_7)) then Prod.fst (Prod.snd (Prod.snd (Prod.snd s_4))) == Prod.fst (Prod.snd (Prod.snd (Prod.snd s_7))) else false) = true → False)
 (Tree.chk ((bif Prod.fst (Prod.snd (Prod.snd s_4)) == Prod.fst (Prod.snd (Prod.snd s_7)) then Prod.fst (Prod.snd (Prod.snd (Prod.snd s_4))) == Prod.fst (Prod.snd (Prod.snd (Prod.snd s_7))) else false) = false)
 (Tree.done (XV.a (AV.c (CV.v (Value.bool false)))) (tagain_63 n cap n2 cap2 s s_3 s_7))))))
 (Tree.br (bif Prod.fst (Prod.snd (Prod.snd s_4)) == Prod.fst (Prod.snd (Prod.snd s_7)) then Prod.fst (Prod.snd (Prod.snd (Prod.snd s_4))) == Prod.fst (Prod.snd (Prod.snd (Prod.snd s_7))) else false)
 (Tree.chk ((bif Prod.fst (Prod.snd (Prod.snd s_4)) == Prod.fst (Prod.snd (Prod.snd s_7)) then Prod.fst (Prod.snd (Prod.snd (Prod.snd s_4))) == Prod.fst (Prod.snd (Prod.snd (Prod.snd s_7))) else false) = true)
 (Tree.some_ Ar fun s_10 => Tree.callf 11 tagain_61 (tagain_60 n cap n2 cap2 s s_3 s_4 c_7 s_6 s_7 c s_8 s_9) (tagain_62 s_10) fun c => Tree.chk ((bif Prod.fst (Prod.snd (Prod.snd s_4)) == Prod.fst (Prod.snd (Prod.snd s_7)) then Prod.fst (Prod.snd (Prod.snd (Prod.snd s_4))) == Prod.fst (Prod.snd (Prod.snd (Prod.snd s_7))) else false) = true → False)
 (Tree.chk ((bif Prod.fst (Prod.snd (Prod.snd s_4)) == Prod.fst (Prod.snd (Prod.snd s_7)) then Prod.fst (Prod.snd (Prod.snd (Prod.snd s_4))) == Prod.fst (Prod.snd (Prod.snd (Prod.snd s_7))) else false) = false)
 (Tree.done (XV.a (AV.c (CV.v (Value.bool false)))) (tagain_63 n cap n2 cap2 s s_3 s_7)))))
 (Tree.chk ((bif Prod.fst (Prod.snd (Prod.snd s_4)) == Prod.fst (Prod.snd (Prod.snd s_7)) then Prod.fst (Prod.snd (Prod.snd (Prod.snd s_4))) == Prod.fst (Prod.snd (Prod.snd (Prod.snd s_7))) else false) = true → False)
 (Tree.chk ((bif Prod.fst (Prod.snd (Prod.snd s_4)) == Prod.fst (Prod.snd (Prod.snd s_7)) then Prod.fst (Prod.snd (Prod.snd (Prod.snd s_4))) == Prod.fst (Prod.snd (Prod.snd (Prod.snd s_7))) else false) = false)
 (Tree.done (XV.a (AV.c (CV.v (Value.bool false)))) (tagain_63 n cap n2 cap2 s s_3 s_7)))))))))))))))))))))))))))))))))))))))))))
theorem tagain_eq (d : Cd) (n cap : Nat) (z : Nat → Int) (at_ : Int) (n2 cap2 : Nat) (y : Nat → Int) : prune (.cs 7 (.n .k (.cs 2 (.r (.cs 6 (.r (.cs 12 (.n .k (.cs 1 (.n .k (.l (.cs 5 (.r (.cs 4 (.l (.cs 4 (.l .k))))))))))))))))) (xfunc tab agG (lpI fun _ tm H => cntI d.n (fun i => [(22, ia i)]) (onlyT [0, 8, 9, 10, 11, 12, 13, 14, 15, 16, 17, 18, 19, 20, 21] tm) H) Go.Proofs.Try.f6 (agArgs d n cap at_ n2 cap2) (agH d n cap z n2 cap2 y) [0, 1, 2]) = tagain d n cap z at_ n2 cap2 y := by kernel_rfl
end Go.Proofs.Ytehecaipmdfjmaa.X.Mi

set_option linter.unusedVariables false
set_option linter.unusedSimpArgs false
namespace Go.Proofs.Ytehecaipmdfjmaa.X.Mi
open Go Go.RowKit Go.Proofs.YtehecaipmdfjmaaW.PrintWords Go.Proofs.Ytehecaipmdfjmaa.Base Go.Proofs.Ytehecaipmdfjmaa.X
theorem sameF_call : Callable Try.prog 16 := ⟨_, Try.func16, by kernel_rfl, rfl⟩
theorem sameN_call : Callable Try.prog 17 := ⟨_, Try.func17, by kernel_rfl, rfl⟩
theorem aclone_call : Callable Try.prog 14 := ⟨_, Try.func14, by kernel_rfl, rfl⟩
theorem tclone_call : Callable Try.prog 15 := ⟨_, Try.func15, by kernel_rfl, rfl⟩
theorem sameF_local (o o' : Bool) (n cap cap' : Nat) (F : Nat → Fr) (ρ : List Nat) (hn : n ≤ 1000000) : (sameFC o o' n cap cap' F ρ).Local Try.prog 16 := by
  refine local_ofP Try.func16 rfl (tsameF_eq o o' n cap cap' F) fun ν w => ok_br' (fun h => by simp at h) fun _ => ok_both' ?_ (ok_every' fun s => ok_br' (fun h => ?_) fun h => ?_)
  · repeat refine ok_chk' (by first | exact fun h => h | rfl | exact fun h => absurd h (by decide) | exact fun _ => rfl | (exact fun h => by rw [h]; rfl) | exact EntRel.rw rfl rfl (fun _ _ => rfl) fun _ _ => rfl | exact EntRel.box' rfl rfl rfl rfl rfl | exact EntRel.dead) ?_
    trivial
  · have h : s.1 < n := by simpa using h
    refine ok_chk' ⟨by omega, by omega, by omega, Nat.one_pos⟩ (ok_chk' ⟨Nat.one_pos, by omega⟩ (ok_chk' ⟨by omega, by omega, by omega, Nat.one_pos⟩ (ok_chk' ⟨Nat.one_pos, by omega⟩ (ok_br' (fun h => by simp at h) fun _ => ok_some' ⟨s.1 + 1, h⟩ (ok_chk' (by show n - (s.1 + 1) < n - s.1; omega) (ok_chk' (by rw [show IntKind.wrap .i64 ((s.1 : Int) + 1) = (s.1 : Int) + 1 from wrap64 (by omega) (by omega)]; rfl) ?_))))))
    repeat refine ok_chk' (by first | exact fun h => h | rfl | exact fun h => absurd h (by decide) | exact fun _ => rfl | (exact fun h => by rw [h]; rfl) | exact EntRel.rw rfl rfl (fun _ _ => rfl) fun _ _ => rfl | exact EntRel.box' rfl rfl rfl rfl rfl | exact EntRel.dead) ?_
    trivial
  · exact ok_leaf (fun _ => 0) [] [0, 1] trivial rfl ⟨⟨_, rfl, EntRel.rw rfl rfl (fun _ _ => rfl) fun _ _ => rfl⟩, ⟨_, rfl, EntRel.rw rfl rfl (fun _ _ => rfl) fun _ _ => rfl⟩, trivial⟩ rfl
theorem sameN_local (o o' : Bool) (n cap cap' : Nat) (F : Nat → Int × Int) (ρ : List Nat) (hn : n ≤ 1000000) : (sameNC o o' n cap cap' F ρ).Local Try.prog 17 := by
  refine local_ofP Try.func17 rfl (tsameN_eq o o' n cap cap' F) fun ν w => ok_br' (fun h => by simp at h) fun _ => ok_both' ?_ (ok_every' fun s => ok_br' (fun h => ?_) fun h => ?_)
  · repeat refine ok_chk' (by first | exact fun h => h | rfl | exact fun h => absurd h (by decide) | exact fun _ => rfl | (exact fun h => by rw [h]; rfl) | exact EntRel.rw rfl rfl (fun _ _ => rfl) fun _ _ => rfl | exact EntRel.box' rfl rfl rfl rfl rfl | exact EntRel.dead) ?_
    trivial
  · have h : s.1 < n := by simpa using h
    refine ok_chk' ⟨by omega, by omega, by omega, Nat.one_pos⟩ (ok_chk' ⟨Nat.one_pos, by omega⟩ (ok_chk' ⟨by omega, by omega, by omega, Nat.one_pos⟩ (ok_chk' ⟨Nat.one_pos, by omega⟩ (ok_br' (fun h => by simp at h) fun _ => ok_some' ⟨s.1 + 1, h⟩ (ok_chk' (by show n - (s.1 + 1) < n - s.1; omega) (ok_chk' (by rw [show IntKind.wrap .i64 ((s.1 : Int) + 1) = (s.1 : Int) + 1 from wrap64 (by omega) (by omega)]; rfl) ?_))))))
    repeat refine ok_chk' (by first | exact fun h => h | rfl | exact fun h => absurd h (by decide) | exact fun _ => rfl | (exact fun h => by rw [h]; rfl) | exact EntRel.rw rfl rfl (fun _ _ => rfl) fun _ _ => rfl | exact EntRel.box' rfl rfl rfl rfl rfl | exact EntRel.dead) ?_
    trivial
  · exact ok_leaf (fun _ => 0) [] [0, 1] trivial rfl ⟨⟨_, rfl, EntRel.rw rfl rfl (fun _ _ => rfl) fun _ _ => rfl⟩, ⟨_, rfl, EntRel.rw rfl rfl (fun _ _ => rfl) fun _ _ => rfl⟩, trivial⟩ rfl
theorem stepF_cd {d e : Cd} (hn : d.n = e.n) (hI : d.I = e.I) : ∀ (g n : Nat) (m : Mc), stepF d g n m = stepF e g n m
  | 0, n, m => rfl
  | g + 1, n, m => by
    have h1 : codeF m d = codeF m e := by unfold codeF; rw [hI]
    have h2 : stopF m d n = stopF m e n := by unfold stopF; rw [h1, hn]
    unfold stepF
    rw [h1, h2, stepF_cd hn hI g]
theorem runF_cd {d e : Cd} (hn : d.n = e.n) (hI : d.I = e.I) (m : Mc) : runF d m = runF e m := by
  unfold runF rest
  rw [stepF_cd hn hI]
theorem runF_caps (d : Cd) (m : Mc) (a f k : Nat) : runF d (m.caps a f k) = runF d m := by
  unfold runF rest
  have e1 : startM (m.caps a f k) 0 = (startM m 0).caps a 0 0 := rfl
  rw [e1, stepF_caps]
  rfl
theorem stepF_nN (d : Cd) : ∀ (g n : Nat) (m : Mc), 1 ≤ m.nF → m.nF ≤ 16 → m.ar.Ok → (stepF d g n m).1.nN ≤ m.nN + g
  | 0, n, m, h1, h2, ha => by show m.nN ≤ m.nN + 0; omega
  | g + 1, n, m, h1, h2, ha => by
    have K := oneF_keeps m (codeF m d) h1 h2 ha
    unfold stepF
    cases stopF m d n with
    | true => show m.nN ≤ _; omega
    | false =>
      cases (bif decide ((n : Int) > 0) then accessF (codeF m d) else false) with
      | true => show m.nN ≤ _; omega
      | false =>
        simp only [cond_false]
        cases ((oneF m (codeF m d)).2 == 0) with
        | true =>
          simp only [cond_true]
          have R := stepF_nN d g (n + 1) (oneF m (codeF m d)).1 K.n1 K.n2 K.ar
          have := K.nN
          omega
        | false =>
          have := K.nN
          show (oneF m (codeF m d)).1.nN ≤ _
          omega
def Mc.tcap (m : Mc) (t : Nat) : Mc := { m with tb := { m.tb with cap := t } }
theorem parkF_tcap (b : Tb) (t : Nat) (x y : Int) : parkF { b with cap := t } x y = { parkF b x y with cap := t } := by
  unfold parkF waitF
  show (bif (b.P x.toNat).p then _ else bif (bif (b.P x.toNat).p then false else !(bif (b.P x.toNat).f then true else dueF b.now y)) then _ else _) = _
  cases (b.P x.toNat).p <;> cases (b.P x.toNat).f <;> cases dueF b.now y <;> rfl
theorem accF_tcap (m : Mc) (x : In) (q t : Nat) : accF (m.tcap t) x q = ((accF m x q).1.tcap t, (accF m x q).2) := by
  unfold accF
  show (bif hereF m.ar (accAt m x q) then _ else _) = _
  cases hereF m.ar (accAt m x q); (case false => (rfl))
  cases (x.op == 5); (case true => (rfl))
  cases (x.op == 6); (case true => (rfl))
  simp only [cond_true, cond_false]
  rfl
theorem plainF_tcap (m : Mc) (x : In) (q t : Nat) : plainF (m.tcap t) x q = ((plainF m x q).1.tcap t, (plainF m x q).2) := by
  unfold plainF
  show (bif x.op == 1 then _ else bif x.op == 2 then _ else bif x.op == 3 then _ else bif x.op == 4 then _ else bif x.op == 15 then
    (bif (bif decide (m.reg q x.a ≥ 0) then decide (m.reg q x.a < 8) else false) then bif hasF m.tb (m.reg q x.a) then _ else _ else _)
    else bif x.op == 16 then (bif decide (posF x.n < 1) then _ else bif fullF m.ar (posF x.n) then _ else _) else bif x.op == 17 then _ else bif x.op == 18 then _ else
    bif x.op == 19 then (bif hasF m.tb m.i then _ else _) else bif x.op == 20 then (bif hasF m.tb m.i then _ else _) else bif x.op == 21 then _ else _) = _
  cases (x.op == 1); (case true => (rfl))
  cases (x.op == 2); (case true => (rfl))
  cases (x.op == 3); (case true => (rfl))
  cases (x.op == 4); (case true => (rfl))
  cases (x.op == 15); (case true => (cases (bif decide (m.reg q x.a ≥ 0) then decide (m.reg q x.a < 8) else false); (case false => (rfl)); (case true => (cases hasF m.tb (m.reg q x.a) <;> rfl))))
  cases (x.op == 16); (case true => (cases decide (posF x.n < 1); (case false => (cases fullF m.ar (posF x.n) <;> rfl)); (case true => (rfl))))
  cases (x.op == 17); (case true => (rfl))
  cases (x.op == 18); (case true => (rfl))
  cases (x.op == 19); (case true => (cases hasF m.tb m.i <;> rfl))
  cases (x.op == 20); (case true => (cases hasF m.tb m.i <;> rfl))
  cases (x.op == 21) <;> rfl
theorem framesF_tcap (m : Mc) (x : In) (t : Nat) : framesF (m.tcap t) x = ((framesF m x).1.tcap t, (framesF m x).2) := by
  unfold framesF
  show (bif x.op == 12 then (bif decide ((m.nF : Int) ≥ 16) then _ else _) else (bif (m.nF : Int) == 1 then _ else _)) = _
  cases (x.op == 12)
  · cases ((m.nF : Int) == 1) <;> rfl
  · cases decide ((m.nF : Int) ≥ 16) <;> rfl
theorem oneF_tcap (m : Mc) (x : In) (t : Nat) : oneF (m.tcap t) x = ((oneF m x).1.tcap t, (oneF m x).2) := by
  unfold oneF
  rw [show topF (m.tcap t) = topF m from rfl, accF_tcap, plainF_tcap, framesF_tcap, show parkF (m.tcap t).tb (m.tcap t).i ((m.tcap t).reg (topF m) x.a) = { parkF m.tb m.i (m.reg (topF m) x.a) with cap := t } from parkF_tcap _ _ _ _]
  show (bif accessF x then (bif (accF m x (topF m)).2 then _ else _) else bif jmpF x then (bif jumpsF (m.F (topF m)) x then _ else _) else bif frmF x then (bif (framesF m x).2 then _ else _) else bif x.op == 22 then _ else
    bif x.op == 14 then (bif hasF m.tb m.i then (bif mayPF m.tb m.i (m.reg (topF m) x.a) then (bif waitF m.tb m.i (m.reg (topF m) x.a) then _ else _) else _) else _) else (bif (plainF m x (topF m)).2 then _ else _)) = _
  cases accessF x; (case true => (cases (accF m x (topF m)).2 <;> rfl))
  cases jmpF x; (case true => (cases jumpsF (m.F (topF m)) x <;> rfl))
  cases frmF x; (case true => (cases (framesF m x).2 <;> rfl))
  cases (x.op == 22); (case true => (rfl))
  cases (x.op == 14); (case true => (cases hasF m.tb m.i; (case false => (rfl)); (case true => (cases mayPF m.tb m.i (m.reg (topF m) x.a); (case false => (rfl)); (case true => (cases waitF m.tb m.i (m.reg (topF m) x.a) <;> rfl))))))
  cases (plainF m x (topF m)).2 <;> rfl
theorem stepF_tcap (d : Cd) (t : Nat) : ∀ (g n : Nat) (m : Mc), stepF d g n (m.tcap t) = ((stepF d g n m).1.tcap t, (stepF d g n m).2)
  | 0, n, m => rfl
  | g + 1, n, m => by
    unfold stepF
    rw [show stopF (m.tcap t) d n = stopF m d n from rfl, show codeF (m.tcap t) d = codeF m d from rfl, oneF_tcap]
    cases stopF m d n; (case true => (rfl))
    cases (bif decide ((n : Int) > 0) then accessF (codeF m d) else false); (case true => (rfl))
    simp only [cond_false]
    cases hb : ((oneF m (codeF m d)).2 == 0) with
    | true => simp only [cond_true]; exact stepF_tcap d t g (n + 1) _
    | false => rfl
theorem runF_tcap (d : Cd) (m : Mc) (t : Nat) : runF d (m.tcap t) = ((runF d m).1.tcap t, (runF d m).2) := by
  unfold runF rest
  have e1 : startM (m.tcap t) 0 = (startM m 0).tcap t := rfl
  rw [e1, stepF_tcap]
  rfl
def mA (n : Nat) (z : Nat → Int) (at_ : Int) (k : Nat) (y : Nat → Int) (a t f : Nat) : Mc := ⟨madeF n n a z, { newT 2 with cap := t }, 0, 0, 1, f, fun _ => startF at_ k y, 0, 0, fun _ => (0, 0)⟩
theorem canA (n : Nat) (z : Nat → Int) (at_ : Int) (k : Nat) (y : Nat → Int) (a t f : Nat) : canF (mA n z at_ k y a t f) = true := rfl
theorem runA_ex (d : Cd) (n : Nat) (z : Nat → Int) (at_ : Int) (k : Nat) (y : Nat → Int) (hn : n ≤ 100) : ∃ (R : Mc) (how v : Int), (∀ e : Cd, e.n = d.n → e.I = d.I → ∀ a t f, runF e (mA n z at_ k y a t f) = (R.tcap t, how, v)) ∧ R.nF ≤ 16 ∧ R.nN ≤ 201 := by
  refine ⟨(runF d (mA n z at_ k y 0 0 0)).1, (runF d (mA n z at_ k y 0 0 0)).2.1, (runF d (mA n z at_ k y 0 0 0)).2.2, fun e h1 h2 a t f => ?_, ?_, ?_⟩
  · rw [runF_cd h1 h2]
    have := runF_tcap d ((mA n z at_ k y 0 0 0).caps a f 0) t
    rw [runF_caps] at this
    exact this
  · exact (runF_kept d (mA n z at_ k y 0 0 0) (Nat.le_refl 1) (by show 1 ≤ 16; decide) (madeF_ok hn)).n2
  · have := stepF_nN d (201 - 0) 0 (startM (mA n z at_ k y 0 0 0) 0) (Nat.le_refl 1) (by show 1 ≤ 16; decide) (madeF_ok hn)
    have e : (startM (mA n z at_ k y 0 0 0) 0).nN = 0 := rfl
    rw [e] at this
    exact this
abbrev againC (d : Cd) (n cap : Nat) (z : Nat → Int) (at_ : Int) (n2 cap2 : Nat) (y : Nat → Int) : CallSpec := mSpec [] 0 (agArgs d n cap at_ n2 cap2) (agH d n cap z n2 cap2 y) (fun _ => True) (fun _ => bool true) fun _ => agH d n cap z n2 cap2 y
set_option maxHeartbeats 4000000 in
theorem again_local (d : Cd) (n cap : Nat) (z : Nat → Int) (at_ : Int) (n2 cap2 : Nat) (y : Nat → Int) : (againC d n cap z at_ n2 cap2 y).Local Try.prog 6 := by
  refine local_ofP Try.func6 rfl (tagain_eq d n cap z at_ n2 cap2 y) fun ν W => ?_
  refine ok_callf' up_call (fits_of rfl rfl trivial fun c _ => ⟨⟨Nat.le_refl _, rfl⟩, ⟨rfl, rfl⟩, trivial⟩) (up_local _) fun c0 _ => ?_
  repeat refine ok_chk' (by first | exact fun h => h | rfl | exact fun h => absurd h (by decide) | exact fun _ => rfl | (exact fun h => by rw [h]; rfl) | exact EntRel.rw rfl rfl (fun _ _ => rfl) fun _ _ => rfl | exact EntRel.box' rfl rfl rfl rfl rfl | exact EntRel.dead) ?_
  refine ok_br' (fun _ => by exact ok_leaf (fun _ => 0) [] [0, 1, 2] trivial rfl ⟨⟨_, rfl, EntRel.rw rfl rfl (fun _ _ => rfl) fun _ _ => rfl⟩, ⟨_, rfl, EntRel.rw rfl rfl (fun _ _ => rfl) fun _ _ => rfl⟩, ⟨_, rfl, EntRel.rw rfl rfl (fun _ _ => rfl) fun _ _ => rfl⟩, trivial⟩ rfl) fun hlen => ok_some' (z, false) ?_
  obtain ⟨hd, hn, hn2⟩ : d.n ≤ 1024 ∧ n ≤ 100 ∧ n2 ≤ 40 := by
    simp at hlen
    omega
  refine ok_callf' made_call (fits_of rfl rfl ⟨⟨_, rfl, EntRel.rw rfl rfl (fun _ _ => rfl) fun _ _ => rfl⟩, trivial⟩ fun c _ => ⟨⟨(by show 1 ≤ 5; decide), rfl⟩, ⟨rfl, rfl⟩, ⟨⟨EntRel.rw rfl rfl (fun _ _ => rfl) fun _ _ => rfl, rfl, (fun h => by cases h), .inr rfl⟩, ⟨EntRel.box' rfl rfl rfl rfl rfl, rfl, (fun _ => ⟨rfl, rfl⟩), .inr rfl⟩, ⟨EntRel.rw rfl rfl (fun _ _ => rfl) fun _ _ => rfl, rfl, (fun h => by cases h), .inr rfl⟩, ⟨EntRel.box' rfl rfl rfl rfl rfl, rfl, (fun _ => ⟨rfl, rfl⟩), .inr rfl⟩, ⟨EntRel.rw rfl rfl (fun _ _ => rfl) fun _ _ => rfl, rfl, (fun h => by cases h), .inr rfl⟩, trivial⟩⟩) (made_local false n cap 2 z _ _ hn (by decide) (by decide)) fun c1 _ => ?_
  repeat refine ok_chk' (by first | exact fun h => h | rfl | exact fun h => absurd h (by decide) | exact fun _ => rfl | (exact fun h => by rw [h]; rfl) | exact EntRel.rw rfl rfl (fun _ _ => rfl) fun _ _ => rfl | exact EntRel.box' rfl rfl rfl rfl rfl | exact EntRel.dead) ?_
  refine ok_some' (madeF n n (c1 0) z) (ok_callf' aclone_call (fits_of rfl rfl ⟨⟨_, rfl, EntRel.box' rfl rfl rfl rfl rfl⟩, ⟨_, rfl, EntRel.rw rfl rfl (fun _ _ => rfl) fun _ _ => rfl⟩, trivial⟩ fun c _ => ⟨⟨(by show 2 ≤ 4; decide), rfl⟩, ⟨rfl, rfl⟩, ⟨⟨EntRel.box' rfl rfl rfl rfl rfl, rfl, (fun _ => ⟨rfl, rfl⟩), .inr rfl⟩, ⟨EntRel.rw rfl rfl (fun _ _ => rfl) fun _ _ => rfl, rfl, (fun h => by cases h), .inr rfl⟩, ⟨EntRel.box' rfl rfl rfl rfl rfl, rfl, (fun _ => ⟨rfl, rfl⟩), .inr rfl⟩, ⟨EntRel.rw rfl rfl (fun _ _ => rfl) fun _ _ => rfl, rfl, (fun h => by cases h), .inr rfl⟩, trivial⟩⟩) (aclone_local _ (newT 2) _ _ (by show 1 + n ≤ 1000000; omega)) fun c2 _ => ok_some' (newT 2) (ok_callf' tclone_call (fits_of rfl rfl ⟨⟨_, rfl, EntRel.box' rfl rfl rfl rfl rfl⟩, ⟨_, rfl, EntRel.rw rfl rfl (fun _ _ => rfl) fun _ _ => rfl⟩, trivial⟩ fun c _ => ⟨⟨(by show 2 ≤ 4; decide), rfl⟩, ⟨rfl, rfl⟩, ⟨⟨EntRel.box' rfl rfl rfl rfl rfl, rfl, (fun _ => ⟨rfl, rfl⟩), .inr rfl⟩, ⟨EntRel.rw rfl rfl (fun _ _ => rfl) fun _ _ => rfl, rfl, (fun h => by cases h), .inr rfl⟩, ⟨EntRel.box' rfl rfl rfl rfl rfl, rfl, (fun _ => ⟨rfl, rfl⟩), .inr rfl⟩, ⟨EntRel.rw rfl rfl (fun _ _ => rfl) fun _ _ => rfl, rfl, (fun h => by cases h), .inr rfl⟩, trivial⟩⟩) (tclone_local newA _ _ _ (by decide)) fun c3 _ => ?_))
  repeat refine ok_chk' (by first | exact fun h => h | rfl | exact fun h => absurd h (by decide) | exact fun _ => rfl | (exact fun h => by rw [h]; rfl) | exact EntRel.rw rfl rfl (fun _ _ => rfl) fun _ _ => rfl | exact EntRel.box' rfl rfl rfl rfl rfl | exact EntRel.dead) ?_
  refine ok_chk' (by omega) (ok_chk' ⟨Nat.one_pos, by omega⟩ (ok_chk' ⟨rfl, rfl⟩ (ok_all' fun c4 _ => ok_some' (y, false) ?_)))
  refine ok_callf' start_call (fits_of rfl rfl ⟨⟨_, rfl, EntRel.rw rfl rfl (fun _ _ => rfl) fun _ _ => rfl⟩, trivial⟩ fun c _ => ⟨⟨(by show 1 ≤ 2; decide), rfl⟩, ⟨rfl, rfl⟩, ⟨⟨EntRel.rw rfl rfl (fun _ _ => rfl) fun _ _ => rfl, rfl, (fun h => by cases h), .inr rfl⟩, ⟨EntRel.rw rfl rfl (fun _ _ => rfl) fun _ _ => rfl, rfl, (fun h => by cases h), .inr rfl⟩, trivial⟩⟩) (start_local at_ false n2 cap2 y _ _) fun c5 _ => ?_
  refine ok_chk' (by decide) (ok_chk' ⟨Nat.one_pos, by decide⟩ (ok_chk' ⟨rfl, rfl⟩ (ok_all' fun c6 _ => ?_)))
  obtain ⟨R, how, v, hr, hR, hN⟩ := runA_ex d n z at_ n2 y hn
  have hd' : (⟨true, 0 + d.n, c4 0, fun i => d.I (i - 0)⟩ : Cd).n = d.n := Nat.zero_add _
  refine ok_some' (mA n z at_ n2 y (c1 0) 2 1, R.tcap 2, how, v, ⟨true, 0 + d.n, c4 0, fun i => d.I (i - 0)⟩) (ok_callf' step_call (fits_of rfl rfl ⟨⟨_, rfl, EntRel.rw rfl rfl (fun _ _ => rfl) fun _ _ => rfl⟩, ⟨_, rfl, EntRel.box' rfl rfl rfl rfl rfl⟩, ⟨_, rfl, EntRel.rw rfl rfl (fun _ _ => rfl) fun _ _ => rfl⟩, ⟨_, rfl, EntRel.box' rfl rfl rfl rfl rfl⟩, ⟨_, rfl, EntRel.rw rfl rfl (fun _ _ => rfl) fun _ _ => rfl⟩, ⟨_, rfl, EntRel.rw rfl rfl (fun _ _ => rfl) fun _ _ => rfl⟩, trivial⟩ fun c _ => ⟨⟨(by show 6 ≤ 9; decide), rfl⟩, ⟨rfl, rfl⟩, ⟨⟨EntRel.rw rfl rfl (fun _ _ => rfl) fun _ _ => rfl, rfl, (fun h => by cases h), .inr rfl⟩, ⟨EntRel.box' rfl rfl rfl rfl rfl, rfl, (fun _ => ⟨rfl, rfl⟩), .inr rfl⟩, ⟨EntRel.dead, rfl, (fun h => by cases h), .inr rfl⟩, ⟨EntRel.box' rfl rfl rfl rfl rfl, rfl, (fun _ => ⟨rfl, rfl⟩), .inr rfl⟩, ⟨EntRel.rw rfl rfl (fun _ _ => rfl) fun _ _ => rfl, rfl, (fun h => by cases h), .inr rfl⟩, ⟨EntRel.rw rfl rfl (fun _ _ => rfl) fun _ _ => rfl, rfl, (fun h => by cases h), .inr rfl⟩, ⟨EntRel.rw rfl rfl (fun _ _ => rfl) fun _ _ => rfl, rfl, (fun h => by cases h), .inr rfl⟩, ⟨EntRel.rw rfl rfl (fun _ _ => rfl) fun _ _ => rfl, rfl, (fun h => by cases h), .inr rfl⟩, ⟨EntRel.rw rfl rfl (fun _ _ => rfl) fun _ _ => rfl, rfl, (fun h => by cases h), .inr rfl⟩, trivial⟩⟩) (step_local may_local _ _ _ _ _ _ _ _ (madeF_ok hn) (canA n z at_ n2 y _ _ _) (hr _ hd' rfl _ _ _)) fun c7 hc7 => ?_)
  refine ok_both' ?_ (ok_every' fun s => ok_br' (fun h => ?_) fun h => ?_)
  · repeat refine ok_chk' (by first | exact fun h => h | rfl | exact fun h => absurd h (by decide) | exact fun _ => rfl | (exact fun h => by rw [h]; rfl) | exact EntRel.rw rfl rfl (fun _ _ => rfl) fun _ _ => rfl | exact EntRel.box' rfl rfl rfl rfl rfl | exact EntRel.dead) ?_
    trivial
  · have h : s.1 < d.n := by simpa using h
    refine ok_chk' ⟨by omega, by omega, (by show (s.1 : Int).toNat < 0 + d.n; omega), Nat.one_pos⟩ (ok_chk' ⟨Nat.one_pos, (by show (s.1 : Int).toNat < 0 + d.n; omega)⟩ (ok_chk' ⟨by omega, by omega, by omega, Nat.one_pos⟩ (ok_chk' ⟨Nat.one_pos, by omega⟩ (ok_br' (fun h => by simp at h) fun _ => ok_some' ⟨s.1 + 1, h⟩ (ok_chk' (by show d.n - (s.1 + 1) < d.n - s.1; omega) (ok_chk' (by rw [show IntKind.wrap .i64 ((s.1 : Int) + 1) = (s.1 : Int) + 1 from wrap64 (by omega) (by omega)]; rfl) ?_))))))
    repeat refine ok_chk' (by first | exact fun h => h | rfl | exact fun h => absurd h (by decide) | exact fun _ => rfl | (exact fun h => by rw [h]; rfl) | exact EntRel.rw rfl rfl (fun _ _ => rfl) fun _ _ => rfl | exact EntRel.box' rfl rfl rfl rfl rfl | exact EntRel.dead) ?_
    trivial
  · repeat refine ok_chk' (by first | exact fun h => h | rfl | exact fun h => absurd h (by decide) | exact fun _ => rfl | (exact fun h => by rw [h]; rfl) | exact EntRel.rw rfl rfl (fun _ _ => rfl) fun _ _ => rfl | exact EntRel.box' rfl rfl rfl rfl rfl | exact EntRel.dead) ?_
    refine ok_some' (fun _ => startF at_ n2 y) (ok_callf' sameF_call (fits_of rfl rfl ⟨⟨_, rfl, EntRel.rw rfl rfl (fun _ _ => rfl) fun _ _ => rfl⟩, ⟨_, rfl, EntRel.rw rfl rfl (fun _ _ => rfl) fun _ _ => rfl⟩, trivial⟩ fun c _ => ⟨⟨Nat.le_refl _, rfl⟩, ⟨rfl, rfl⟩, ⟨⟨EntRel.rw rfl rfl (fun _ _ => rfl) fun _ _ => rfl, rfl, (fun h => by cases h), .inr rfl⟩, ⟨EntRel.rw rfl rfl (fun _ _ => rfl) fun _ _ => rfl, rfl, (fun h => by cases h), .inr rfl⟩, trivial⟩⟩) (sameF_local _ _ _ _ _ _ _ (by decide)) fun c8 _ => ?_)
    repeat refine ok_chk' (by first | exact fun h => h | rfl | exact fun h => absurd h (by decide) | exact fun _ => rfl | (exact fun h => by rw [h]; rfl) | exact EntRel.rw rfl rfl (fun _ _ => rfl) fun _ _ => rfl | exact EntRel.box' rfl rfl rfl rfl rfl | exact EntRel.dead) ?_
    refine ok_some' (mA n z at_ n2 y (c2 0) (c3 0) (c6 0), R.tcap (c3 0), how, v, d) (ok_callf' step_call (fits_of rfl rfl ⟨⟨_, rfl, EntRel.rw rfl rfl (fun _ _ => rfl) fun _ _ => rfl⟩, ⟨_, rfl, EntRel.box' rfl rfl rfl rfl rfl⟩, ⟨_, rfl, EntRel.rw rfl rfl (fun _ _ => rfl) fun _ _ => rfl⟩, ⟨_, rfl, EntRel.box' rfl rfl rfl rfl rfl⟩, ⟨_, rfl, EntRel.rw rfl rfl (fun _ _ => rfl) fun _ _ => rfl⟩, ⟨_, rfl, EntRel.rw rfl rfl (fun _ _ => rfl) fun _ _ => rfl⟩, trivial⟩ fun c _ => ⟨⟨(by show 6 ≤ 9; decide), rfl⟩, ⟨rfl, rfl⟩, ⟨⟨EntRel.rw rfl rfl (fun _ _ => rfl) fun _ _ => rfl, rfl, (fun h => by cases h), .inr rfl⟩, ⟨EntRel.box' rfl rfl rfl rfl rfl, rfl, (fun _ => ⟨rfl, rfl⟩), .inr rfl⟩, ⟨EntRel.dead, rfl, (fun h => by cases h), .inr rfl⟩, ⟨EntRel.box' rfl rfl rfl rfl rfl, rfl, (fun _ => ⟨rfl, rfl⟩), .inr rfl⟩, ⟨EntRel.rw rfl rfl (fun _ _ => rfl) fun _ _ => rfl, rfl, (fun h => by cases h), .inr rfl⟩, ⟨EntRel.rw rfl rfl (fun _ _ => rfl) fun _ _ => rfl, rfl, (fun h => by cases h), .inr rfl⟩, ⟨EntRel.rw rfl rfl (fun _ _ => rfl) fun _ _ => rfl, rfl, (fun h => by cases h), .inr rfl⟩, ⟨EntRel.rw rfl rfl (fun _ _ => rfl) fun _ _ => rfl, rfl, (fun h => by cases h), .inr rfl⟩, ⟨EntRel.rw rfl rfl (fun _ _ => rfl) fun _ _ => rfl, rfl, (fun h => by cases h), .inr rfl⟩, trivial⟩⟩) (step_local may_local _ _ _ _ _ _ _ _ (madeF_ok hn) (canA n z at_ n2 y _ _ _) (hr _ rfl rfl _ _ _)) fun c9 hc9 => ?_)
    repeat refine ok_chk' (by first | exact fun h => h | rfl | exact fun h => absurd h (by decide) | exact fun _ => rfl | (exact fun h => by rw [h]; rfl) | exact EntRel.rw rfl rfl (fun _ _ => rfl) fun _ _ => rfl | exact EntRel.box' rfl rfl rfl rfl rfl | exact EntRel.dead) ?_
    refine ok_some' R.F (ok_callf' sameF_call (fits_of rfl rfl ⟨⟨_, rfl, EntRel.rw rfl rfl (fun _ _ => rfl) fun _ _ => rfl⟩, ⟨_, rfl, EntRel.rw rfl rfl (fun _ _ => rfl) fun _ _ => rfl⟩, trivial⟩ fun c _ => ⟨⟨Nat.le_refl _, rfl⟩, ⟨rfl, rfl⟩, ⟨⟨EntRel.rw rfl rfl (fun _ _ => rfl) fun _ _ => rfl, rfl, (fun h => by cases h), .inr rfl⟩, ⟨EntRel.rw rfl rfl (fun _ _ => rfl) fun _ _ => rfl, rfl, (fun h => by cases h), .inr rfl⟩, trivial⟩⟩) (sameF_local _ _ _ _ _ _ _ (by show R.nF ≤ 1000000; omega)) fun c10 _ => ?_)
    repeat refine ok_chk' (by first | exact fun h => h | rfl | exact fun h => absurd h (by decide) | exact fun _ => rfl | (exact fun h => by rw [h]; rfl) | exact EntRel.rw rfl rfl (fun _ _ => rfl) fun _ _ => rfl | exact EntRel.box' rfl rfl rfl rfl rfl | exact EntRel.dead) ?_
    refine ok_some' R.N (ok_callf' sameN_call (fits_of rfl rfl ⟨⟨_, rfl, EntRel.rw rfl rfl (fun _ _ => rfl) fun _ _ => rfl⟩, ⟨_, rfl, EntRel.rw rfl rfl (fun _ _ => rfl) fun _ _ => rfl⟩, trivial⟩ fun c _ => ⟨⟨Nat.le_refl _, rfl⟩, ⟨rfl, rfl⟩, ⟨⟨EntRel.rw rfl rfl (fun _ _ => rfl) fun _ _ => rfl, rfl, (fun h => by cases h), .inr rfl⟩, ⟨EntRel.rw rfl rfl (fun _ _ => rfl) fun _ _ => rfl, rfl, (fun h => by cases h), .inr rfl⟩, trivial⟩⟩) (sameN_local _ _ _ _ _ _ _ (by show R.nN ≤ 1000000; omega)) fun c11 _ => ?_)
    repeat refine ok_chk' (by first | exact fun h => h | rfl | exact fun h => absurd h (by decide) | exact fun _ => rfl | (exact fun h => by rw [h]; rfl) | exact EntRel.rw rfl rfl (fun _ _ => rfl) fun _ _ => rfl | exact EntRel.box' rfl rfl rfl rfl rfl | exact EntRel.dead) ?_
    have hb : (bif how == how then v == v else false) = true := by simp
    refine ok_br' (fun _ => ?_) fun h => by rw [show (bif how == how then v == v else false) = false from h] at hb; cases hb
    refine ok_chk' hb (ok_some' ({ R.ar with cap := c7 0 } : Ar) (ok_callf' len_call (fits_of rfl rfl ⟨⟨_, rfl, EntRel.box' rfl rfl rfl rfl rfl⟩, ⟨_, rfl, EntRel.rw rfl rfl (fun _ _ => rfl) fun _ _ => rfl⟩, trivial⟩ fun c _ => ⟨⟨Nat.le_refl _, rfl⟩, ⟨rfl, rfl⟩, ⟨⟨EntRel.box' rfl rfl rfl rfl rfl, rfl, (fun _ => ⟨rfl, rfl⟩), .inr rfl⟩, ⟨EntRel.rw rfl rfl (fun _ _ => rfl) fun _ _ => rfl, rfl, (fun h => by cases h), .inr rfl⟩, trivial⟩⟩) (len_local _ _) fun c12 _ => ?_))
    refine ok_br' (fun _ => ?_) fun h => by rw [show (bif how == how then v == v else false) = false from h] at hb; cases hb
    refine ok_chk' hb (ok_some' ({ R.ar with cap := c9 0 } : Ar) (ok_callf' len_call (fits_of rfl rfl ⟨⟨_, rfl, EntRel.box' rfl rfl rfl rfl rfl⟩, ⟨_, rfl, EntRel.rw rfl rfl (fun _ _ => rfl) fun _ _ => rfl⟩, trivial⟩ fun c _ => ⟨⟨Nat.le_refl _, rfl⟩, ⟨rfl, rfl⟩, ⟨⟨EntRel.box' rfl rfl rfl rfl rfl, rfl, (fun _ => ⟨rfl, rfl⟩), .inr rfl⟩, ⟨EntRel.rw rfl rfl (fun _ _ => rfl) fun _ _ => rfl, rfl, (fun h => by cases h), .inr rfl⟩, trivial⟩⟩) (len_local _ _) fun c13 _ => ?_))
    repeat refine ok_chk' (by first | exact fun h => h | rfl | exact fun h => absurd h (by decide) | exact fun _ => rfl | (exact fun h => by rw [h]; rfl) | exact EntRel.rw rfl rfl (fun _ _ => rfl) fun _ _ => rfl | exact EntRel.box' rfl rfl rfl rfl rfl | exact EntRel.dead) ?_
    refine ok_leaf (fun _ => 0) [] [0, 1, 2] trivial ?_ ⟨⟨_, rfl, EntRel.rw rfl rfl (fun _ _ => rfl) fun _ _ => rfl⟩, ⟨_, rfl, EntRel.rw rfl rfl (fun _ _ => rfl) fun _ _ => rfl⟩, ⟨_, rfl, EntRel.rw rfl rfl (fun _ _ => rfl) fun _ _ => rfl⟩, trivial⟩ rfl
    show XV.a (.c (bv (bif (bif how == how then v == v else false) then lenF { R.ar with cap := c7 0 } == lenF { R.ar with cap := c9 0 } else false))) = XV.a (.c (bv true))
    rw [hb, cond_true, show lenF { R.ar with cap := c7 0 } = lenF { R.ar with cap := c9 0 } from rfl]
    simp
end Go.Proofs.Ytehecaipmdfjmaa.X.Mi

set_option linter.unusedVariables false
set_option linter.unusedSimpArgs false
namespace Go.Proofs.Ytehecaipmdfjmaa.Open
open Go.RowKit Go.Proofs.YtehecaipmdfjmaaW.PrintWords

theorem mapM_get {α β : Type} {f : α → Option β} : ∀ {l : List α} {r : List β}, l.mapM f = some r → r.length = l.length ∧ ∀ (j : Nat) (x : α), l[j]? = some x → ∃ y, f x = some y ∧ r[j]? = some y
  | [], r, h => by
    simp at h
    subst h
    exact ⟨rfl, fun j x hx => by simp at hx⟩
  | a :: l, r, h => by
    simp only [List.mapM_cons, Option.bind_eq_bind, Option.bind_eq_some_iff] at h
    obtain ⟨y, hy, ys, hys, hr⟩ := h
    simp at hr
    subst hr
    obtain ⟨h1, h2⟩ := mapM_get hys
    refine ⟨by simp [h1], fun j x hx => ?_⟩
    cases j with
    | zero => simp at hx; subst hx; exact ⟨y, hy, rfl⟩
    | succ j => simpa using h2 j x (by simpa using hx)

theorem list_of {α : Type} (R : Nat → α → Prop) : ∀ n : Nat, (∀ j, j < n → ∃ x, R j x) → ∃ xs : List α, xs.length = n ∧ ∀ (j : Nat) (x : α), xs[j]? = some x → R j x
  | 0, _ => ⟨[], rfl, fun j x h => by simp at h⟩
  | n + 1, h => by
    obtain ⟨xs, hl, hx⟩ := list_of R n (fun j hj => h j (by omega))
    obtain ⟨x, hr⟩ := h n (by omega)
    refine ⟨xs ++ [x], by simp [hl], fun j y hy => ?_⟩
    rcases Nat.lt_or_ge j xs.length with hj | hj
    · rw [List.getElem?_append_left hj] at hy; exact hx j y hy
    · rw [List.getElem?_append_right hj] at hy
      have hj0 : j - xs.length = 0 := by
        rcases Nat.eq_zero_or_pos (j - xs.length) with h | h
        · exact h
        · rw [List.getElem?_eq_none (by simp; omega)] at hy; cases hy
      rw [hj0] at hy
      simp at hy
      subst hy
      rw [show j = n by omega]
      exact hr

structure Opens {α : Type} (P : Program) (t : TypeId) (k : Kd α) (wf : α → Prop) : Prop where
  out : ∀ {H : Type} (enc : TypeId × Value → H) (w : World) (spare : Nat → Bool) (held : Bool) (fuel : Nat) (cs : List Value) (r : DataW H × List MemPlace),
    DataW.trod enc P w 0 spare held fuel t cs = some r → ∃ x, k.K w x cs ∧ wf x

theorem opens_int {P : Program} {t : TypeId} {k : IntKind} (ht : P.underlying t = some (.int k)) : Opens P t (Kd.int k) (fun x => (Lit.int k x).wf = true) := by
  refine ⟨fun {H} enc w spare held fuel cs r h => ?_⟩
  obtain ⟨n, rfl, _, hw⟩ := DataW.trod_int ht h
  exact ⟨n, rfl, hw⟩

theorem opens_slice {α : Type} {P : Program} {t e : TypeId} {d : Kd α} {wf : α → Prop} (ht : P.underlying t = some (.slice e)) (hs : P.cellsOf e = d.sz) (hd : Opens P e d wf) :
    Opens P t (Kd.slice e d) (fun xs => xs.length ≤ maxLen ∧ ∀ x ∈ xs, wf x) := by
  refine ⟨fun {H} enc w spare held fuel cs r h => ?_⟩
  rcases DataW.trod_slice ht h with ⟨rfl, _⟩ | ⟨a, len, cap, elems, rest, n, rfl, rfl, _, _, hlc, hcm, hel, hat, _⟩
  · exact ⟨[], ⟨none, 0, rfl, Nat.le_refl _, rfl, by simp, fun h => absurd h (by simp)⟩, by simp, by simp⟩
  · have hx : ∀ j, j < len → ∃ x : α, wf x ∧ ∃ c : List Value, c.length = d.sz ∧ d.K w x c ∧ ∀ i u, c[i]? = some u → w.cell? (a.add (j * d.sz + i)) = some u := by
      intro j hj
      have hy := hat j hj
      rw [List.getElem?_eq_getElem (by omega)] at hy
      simp only [Option.bind_eq_some_iff] at hy
      obtain ⟨c, hcells, htr⟩ := hy
      obtain ⟨x, hk, hw⟩ := hd.out enc w spare held n c _ htr
      refine ⟨x, hw, c, d.K_len hk, hk, fun i u hu => ?_⟩
      unfold World.cells? at hcells
      split at hcells
      · obtain ⟨hl2, hg2⟩ := mapM_get hcells
        rw [List.length_range, hs] at hl2
        have hi : i < d.sz := by
          have := (List.getElem?_eq_some_iff.1 hu).1
          omega
        obtain ⟨v, hv, hcv⟩ := hg2 i i (by rw [hs, List.getElem?_range hi])
        rw [hcv] at hu
        injection hu with hu
        subst hu
        have ha : (a.add (j * P.cellsOf e)).add i = a.add (j * d.sz + i) := by
          rw [hs]
          unfold Addr.add
          by_cases h1 : j * d.sz = 0 <;> by_cases h2 : i = 0 <;> simp [h1, h2, Nat.add_assoc]
        rwa [ha] at hv
      · cases hcells
    obtain ⟨xs, hxl, hxs⟩ := list_of _ len hx
    subst hxl
    refine ⟨xs, ⟨some a, cap, rfl, hlc, rfl, by simp only [maxLen] at hcm; omega, fun _ => ⟨a, rfl, fun j p hj => (hxs j p hj).2⟩⟩, by omega, fun x hx => ?_⟩
    obtain ⟨j, hj⟩ := List.mem_iff_getElem?.1 hx
    exact (hxs j x hj).1

structure OpensF {α : Type} (P : Program) (fs : List Field) (off : Nat) (k : Kd α) (wf : α → Prop) : Prop where
  out : ∀ {H : Type} (enc : TypeId × Value → H) (w : World) (spare : Nat → Bool) (held : Bool) (fuel : Nat) (cs : List Value) (r : List (DataW H × List MemPlace)),
    off + k.sz ≤ cs.length → (fs.mapM fun f => DataW.trod enc P w 0 spare held fuel f.type ((cs.drop f.offset).take (P.cellsOf f.type))) = some r → ∃ x, k.K w x ((cs.drop off).take k.sz) ∧ wf x

theorem opensF_one {α : Type} {P : Program} {f : Field} {off : Nat} {k : Kd α} {wf : α → Prop} (h : Opens P f.type k wf) (ho : f.offset = off) (hs : P.cellsOf f.type = k.sz) : OpensF P [f] off k wf := by
  refine ⟨fun {H} enc w spare held fuel cs r hl hm => ?_⟩
  obtain ⟨_, hg⟩ := mapM_get hm
  obtain ⟨y, hy, _⟩ := hg 0 f rfl
  rw [ho, hs] at hy
  exact h.out enc w spare held fuel _ y hy

theorem opensF_cons {α β : Type} {P : Program} {f : Field} {fs : List Field} {off : Nat} {k : Kd α} {q : Kd β} {wf : α → Prop} {wg : β → Prop} (h : Opens P f.type k wf) (ho : f.offset = off) (hs : P.cellsOf f.type = k.sz)
    (hq : OpensF P fs (off + k.sz) q wg) : OpensF P (f :: fs) off (Kd.pair k q) (fun x => wf x.1 ∧ wg x.2) := by
  refine ⟨fun {H} enc w spare held fuel cs r hl hm => ?_⟩
  have hl' : off + (k.sz + q.sz) ≤ cs.length := hl
  obtain ⟨hlr, hg⟩ := mapM_get hm
  obtain ⟨y, hy, _⟩ := hg 0 f rfl
  rw [ho, hs] at hy
  obtain ⟨x, hx, hw⟩ := h.out enc w spare held fuel _ y hy
  simp only [List.mapM_cons, Option.bind_eq_bind, Option.bind_eq_some_iff] at hm
  obtain ⟨_, _, ys, hys, _⟩ := hm
  obtain ⟨z, hz, hwz⟩ := hq.out enc w spare held fuel cs ys (by omega) hys
  refine ⟨(x, z), ⟨_, _, ?_, hx, hz⟩, hw, hwz⟩
  show (cs.drop off).take (k.sz + q.sz) = _
  rw [List.take_add, List.drop_drop]

theorem opens_struct {α : Type} {P : Program} {t : TypeId} {fs : Array Field} {k : Kd α} {wf : α → Prop} (ht : P.underlying t = some (.struct fs)) (hs : P.cellsOf t = k.sz) (h : OpensF P fs.toList 0 k wf) : Opens P t k wf := by
  refine ⟨fun {H} enc w spare held fuel cs r hr => ?_⟩
  cases fuel with
  | zero => simp [DataW.trod] at hr
  | succ n =>
    rw [DataW.trod.eq_def] at hr
    simp only [ht] at hr
    split at hr
    · rename_i hl
      simp only [Option.map_eq_some_iff] at hr
      obtain ⟨ys, hys, _⟩ := hr
      obtain ⟨x, hx, hw⟩ := h.out enc w spare held n cs ys (by omega) hys
      rw [List.drop_zero, List.take_of_length_le (by omega)] at hx
      exact ⟨x, hx, hw⟩
    · cases hr

theorem opens_wf {α : Type} {P : Program} {t : TypeId} {k : Kd α} {wf wf' : α → Prop} (h : Opens P t k wf) (hw : ∀ x, wf x → wf' x) : Opens P t k wf' := by
  refine ⟨fun {H} enc w spare held fuel cs r hr => ?_⟩
  obtain ⟨x, hx, hwx⟩ := h.out enc w spare held fuel cs r hr
  exact ⟨x, hx, hw x hwx⟩

theorem open_slice_arg {α : Type} {P : Program} {t e : TypeId} {k : Kd α} {wf : List α → Prop} (h : Opens P t (Kd.slice e k) wf) {H : Type} {enc : TypeId × Value → H} {w : World} {spare : Nat → Bool} {held : Bool} {v : Value} {d : DataW H} {p : List MemPlace}
    (hv : ∃ a n c, v = .slice a n c) (ht : DataW.Trod enc P w 0 spare held t v d p) : ∃ A xs c, v = .slice A xs.length c ∧ xs.length ≤ c ∧ k.C w A xs.length xs ∧ wf xs := by
  obtain ⟨a, n, c, rfl⟩ := hv
  obtain ⟨fuel, hf⟩ := ht
  obtain ⟨xs, ⟨A, c', he, hl, hc⟩, hw⟩ := h.out enc w spare held fuel _ _ hf
  simp [Value.cells] at he
  obtain ⟨rfl, rfl, rfl⟩ := he
  exact ⟨a, xs, c, rfl, hl, hc, hw⟩

end Go.Proofs.Ytehecaipmdfjmaa.Open

set_option linter.unusedVariables false
set_option linter.unusedSimpArgs false
namespace Go.Proofs.Ytehecaipmdfjmaa.X
open Go Go.RowKit Go.Proofs.YtehecaipmdfjmaaW.PrintWords Go.Proofs.Ytehecaipmdfjmaa.Base Go.Proofs.Ytehecaipmdfjmaa.Open
def CV.plB : CV → Bool
  | .v x => (CV.v x).one
  | _ => false
structure Rep {α : Type} (K : Kd α) (rep : α → List CV) : Prop where
  sz : ∀ x, (rep x).length = K.sz
  pos : 0 < K.sz
  pl : ∀ x, (rep x).all CV.plB = true
  den : ∀ W x cc, K.K W x cc → cc = (rep x).map (CV.den nov)
abbrev roRow {α : Type} (ty : Nat) (K : Kd α) (rep : α → List CV) (z : α) (cap : Nat) (xs : List α) : Ent := Ent.rw false ty K.sz xs.length cap fun i => rep (xs.getD i z)
def RoIn (W : World) (A : Option Addr) (e : Ent) : Prop := ∃ (α : Type) (ty cap : Nat) (K : Kd α) (rep : α → List CV) (z : α) (xs : List α), Rep K rep ∧ e = roRow ty K rep z cap xs ∧ K.C W A xs.length xs
theorem CV.plain_lt {N : Nat} {y : CV} (h : y.plB = true) : y.lt N = true ∧ y.one = true := by
  cases y with
  | v v => exact ⟨rfl, h⟩
  | _ => cases h
theorem den_plain {ν : Val} {y : CV} (h : y.plB = true) : y.den ν = y.den nov := by
  cases y with
  | v v => rfl
  | _ => cases h
theorem holds_ros {W : World} {ν : Val} {H : Hp} (h : ∀ k e, H.get k = some e → RoIn W (ν k 0) e) : Holds (rootOf ν H W) ν H W := by
  refine ⟨Upd.refl _ _, fun k e he => ?_, fun k e j he ho => ?_, ⟨Nat.le_refl _, fun _ _ _ => rfl⟩⟩
  · obtain ⟨α, ty, cap, K, rep, z, xs, R, rfl, -, -, hr⟩ := h k e he
    refine ⟨⟨(fun h => by cases h), .inr (by show 0 < K.sz; exact R.pos)⟩, fun j hj i hi => ⟨R.sz _, fun x hx => CV.plain_lt (List.all_eq_true.1 (R.pl _) x hx)⟩, (fun h => by cases h), fun _ j hj hp => ?_⟩
    obtain rfl : j = 0 := by have : j < 1 := hj; omega
    have hp : 0 < xs.length := hp
    obtain ⟨ad, hA, hc⟩ := hr hp
    refine ⟨ad, hA, .inr (.inl ⟨k, _, 0, ad, he, rfl, Nat.one_pos, hp, hA, rfl⟩), fun i hi c x hx => ?_⟩
    have hi : i < xs.length := hi
    obtain ⟨cc, -, hK, hcell⟩ := hc i xs[i] (List.getElem?_eq_getElem hi)
    refine hcell c _ ?_
    have hg : xs.getD i z = xs[i] := by rw [List.getD_eq_getElem?_getD, List.getElem?_eq_getElem hi, Option.getD_some]
    have hx : (rep (xs.getD i z))[c]? = some x := hx
    rw [R.den W _ _ hK, List.getElem?_map, ← hg, hx, den_plain (List.all_eq_true.1 (R.pl _) x (List.mem_of_getElem? hx))]
    rfl
  · obtain ⟨α, ty, cap, K, rep, z, xs, R, rfl, -⟩ := h k e he
    cases ho
theorem below_of {ν ν' : Val} {H0 H : Hp} {W w' : World} (h : Holds (rootOf ν H0 W) ν' H w') (ho : ∀ k e, H0.get k = some e → e.own = false) : Below W.heap.size W w' :=
  h.upd.below (Nat.le_refl _) fun g ⟨k, e, j, ad, h1, h2, _⟩ => by rw [ho k e h1] at h2; cases h2
theorem ro_own {W : World} {ν : Val} {H : Hp} (h : ∀ k e, H.get k = some e → RoIn W (ν k 0) e) : ∀ k e, H.get k = some e → e.own = false := fun k e he => by
  obtain ⟨α, ty, cap, K, rep, z, xs, R, rfl, -⟩ := h k e he
  rfl
theorem walk_ros {P : Program} {f : FuncId} {C : CallSpec} {W : World} {ν : Val} (hl : C.Local P f) (h : ∀ k e, C.H0.get k = some e → RoIn W (ν k 0) e) {v : Value} (hv : ∀ c ν', (C.x0 c).den ν' = v) : Calls P f (C.args0.map (AV.den ν)).toArray W fun e w' => e = .returned v ∧ Below W.heap.size W w' :=
  (hl ν W (holds_ros h)).mono fun e w' ⟨ν', c, _, h1, h2⟩ => ⟨by rw [h1, hv], below_of h2 (ro_own h)⟩
abbrev kdI : Kd Int := Kd.int .i64
abbrev wfI (x : Int) : Prop := (Lit.int .i64 x).wf = true
theorem rep_int : Rep kdI fun x => [.v (.int .i64 x)] := ⟨fun _ => rfl, Nat.one_pos, fun _ => rfl, fun W x cc h => h⟩
end Go.Proofs.Ytehecaipmdfjmaa.X

set_option linter.unusedVariables false
set_option linter.unusedSimpArgs false
namespace Go.Proofs.Ytehecaipmdfjmaa.X.Mi
open Go Go.RowKit Go.Proofs.YtehecaipmdfjmaaW.PrintWords Go.Proofs.Ytehecaipmdfjmaa.Base Go.Proofs.Ytehecaipmdfjmaa.X Go.Proofs.Ytehecaipmdfjmaa.Open
abbrev InT : Type := Int × Int × Int × Int × Int
abbrev kdIns : Kd InT := Kd.pair kdI (Kd.pair kdI (Kd.pair kdI (Kd.pair kdI kdI)))
theorem opensI : Opens Try.prog 3 kdI X.wfI := opens_int Try.underlying3
theorem opensI64 : Opens Try.prog 2 kdI X.wfI := opens_int Try.underlying2
theorem opensIns : Opens Try.prog 40 kdIns (fun _ => True) :=
  opens_wf (opens_struct Try.underlying40 (by kernel_rfl) (opensF_cons opensI rfl (by kernel_rfl) (opensF_cons opensI rfl (by kernel_rfl) (opensF_cons opensI rfl (by kernel_rfl) (opensF_cons opensI rfl (by kernel_rfl) (opensF_one opensI64 rfl (by kernel_rfl))))))) fun _ _ => trivial
theorem opensCode : Opens Try.prog 22 (Kd.slice 40 kdIns) (fun xs => xs.length ≤ maxLen ∧ ∀ x ∈ xs, True) := opens_slice Try.underlying22 (by kernel_rfl) opensIns
theorem opensInts : Opens Try.prog 28 (Kd.slice 2 kdI) (fun xs => xs.length ≤ maxLen ∧ ∀ x ∈ xs, X.wfI x) := opens_slice Try.underlying28 (by kernel_rfl) opensI64
def In.ofK (x : InT) : In := ⟨x.1, x.2.1, x.2.2.1, x.2.2.2.1, x.2.2.2.2⟩
theorem rep_ins : Rep kdIns fun x => (In.ofK x).cv := ⟨fun _ => rfl, by decide, fun _ => rfl, fun W x cc h => by
  obtain ⟨c0, c1, rfl, rfl, d0, d1, rfl, rfl, e0, e1, rfl, rfl, f0, f1, rfl, rfl, rfl⟩ := h
  rfl⟩
def Cd.ofK (cap : Nat) (xs : List InT) : Cd := ⟨false, xs.length, cap, fun i => In.ofK (xs.getD i (0, 0, 0, 0, 0))⟩
end Go.Proofs.Ytehecaipmdfjmaa.X.Mi

set_option linter.unusedVariables false
set_option linter.unusedSimpArgs false
namespace Go.Proofs.Ytehecaipmdfjmaa.X.Mi
open Go Go.RowKit Go.Proofs.YtehecaipmdfjmaaW.PrintWords Go.Proofs.Ytehecaipmdfjmaa.Base Go.Proofs.Ytehecaipmdfjmaa.X Go.Proofs.Ytehecaipmdfjmaa.Open
def nu3 (A0 A1 A2 : Option Addr) : Val := fun k _ => match k with | 0 => A0 | 1 => A1 | _ => A2
theorem den_sl (ν : Val) (k n cap sz : Nat) : (AV.c (.sl k 0 0 sz n cap)).den ν = .slice (ν k 0) n cap := by
  show Value.slice ((ν k 0).map (·.add (0 * sz))) n cap = _
  rw [Nat.zero_mul, map_add_zero]
theorem again_walk (A0 : Option Addr) (xs0 : List InT) (c0 : Nat) (A1 : Option Addr) (xs1 : List Int) (c1 : Nat) (a2 : Int) (A3 : Option Addr) (xs3 : List Int) (c3 : Nat) (W : World)
    (hl0 : xs0.length ≤ c0) (hC0 : kdIns.C W A0 xs0.length xs0) (hw0 : xs0.length ≤ maxLen ∧ ∀ x ∈ xs0, True) (hl1 : xs1.length ≤ c1) (hC1 : kdI.C W A1 xs1.length xs1) (hw1 : xs1.length ≤ maxLen ∧ ∀ x ∈ xs1, X.wfI x) (w2 : X.wfI a2) (hl3 : xs3.length ≤ c3) (hC3 : kdI.C W A3 xs3.length xs3) (hw3 : xs3.length ≤ maxLen ∧ ∀ x ∈ xs3, X.wfI x) :
    Calls Try.prog 6 #[.slice A0 xs0.length c0, .slice A1 xs1.length c1, .int .i64 a2, .slice A3 xs3.length c3] W fun e w' => e = .returned (.bool true) ∧ Below W.heap.size W w' := by
  have := walk_ros (again_local (Cd.ofK c0 xs0) xs1.length c1 (fun i => xs1.getD i 0) a2 xs3.length c3 (fun i => xs3.getD i 0)) (W := W) (ν := nu3 A0 A1 A3) (fun k e he => by
    cases k with
    | zero => cases he; exact ⟨_, _, c0, kdIns, _, (0, 0, 0, 0, 0), xs0, rep_ins, rfl, hC0⟩
    | succ k =>
      cases k with
      | zero => cases he; exact ⟨_, _, c1, kdI, _, 0, xs1, rep_int, rfl, hC1⟩
      | succ k =>
        cases k with
        | zero => cases he; exact ⟨_, _, c3, kdI, _, 0, xs3, rep_int, rfl, hC3⟩
        | succ k => cases k <;> cases he) (v := .bool true) fun _ _ => rfl
  have e : ((againC (Cd.ofK c0 xs0) xs1.length c1 (fun i => xs1.getD i 0) a2 xs3.length c3 (fun i => xs3.getD i 0)).args0.map (AV.den (nu3 A0 A1 A3))).toArray = #[.slice A0 xs0.length c0, .slice A1 xs1.length c1, .int .i64 a2, .slice A3 xs3.length c3] := by
    show #[(AV.c (.sl 0 0 0 5 xs0.length c0)).den (nu3 A0 A1 A3), (AV.c (.sl 1 0 0 1 xs1.length c1)).den (nu3 A0 A1 A3), .int .i64 a2, (AV.c (.sl 2 0 0 1 xs3.length c3)).den (nu3 A0 A1 A3)] = _
    rw [den_sl, den_sl, den_sl]
    rfl
  rw [e] at this
  exact this
end Go.Proofs.Ytehecaipmdfjmaa.X.Mi

