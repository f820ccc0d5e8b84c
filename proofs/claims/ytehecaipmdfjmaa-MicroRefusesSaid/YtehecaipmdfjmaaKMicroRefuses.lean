/- A symbolic run of functions' texts, proved, and what it tells of the functions that the law MicroRefuses reaches; no conditions. -/
import Derived.Test.YtehecaipmdfjmaaKMicroRefuses3
import Derived.WalkMore
import Derived.ProofKit
import Derived.Lib.SmallJoins
import Derived.OpenShut
set_option linter.unusedVariables false
set_option linter.unusedSimpArgs false
namespace Go.Proofs.Ytehecaipmdfjmaa.X.Mi
open Go Go.RowKit Go.Proofs.YtehecaipmdfjmaaW.PrintWords Go.Proofs.Ytehecaipmdfjmaa.Base Go.Proofs.Ytehecaipmdfjmaa.X
abbrev irow (own : Bool) (n cap : Nat) (z : Nat → Int) : Ent := Ent.rw own 2 1 n cap fun i => [iv (z i)]
def startF (at_ : Int) (n : Nat) (z : Nat → Int) : Fr := ⟨at_, fun k => if k < n then z k else 0⟩
abbrev startC (at_ : Int) (own : Bool) (n cap : Nat) (z : Nat → Int) (ρ : List Nat) (k : Nat) : CallSpec := mSpec ρ k [iav at_, .c (.sl 0 0 0 1 n cap)] [irow own n cap z] (fun _ => True) (fun _ => .a (.c (.sl 1 0 0 17 1 1))) fun _ => [irow own n cap z, frow true 1 1 fun _ => startF at_ n z]
abbrev start0C (at_ : Int) (k : Nat) : CallSpec := mSpec [] k [iav at_, .c (.v (.slice none 0 0))] [] (fun _ => True) (fun _ => .a (.c (.sl 0 0 0 17 1 1))) fun _ => [frow true 1 1 fun _ => ⟨at_, fun _ => 0⟩]
def newA : Ar := ⟨1, 1, fun _ => 0, 4096⟩
def newT (k : Nat) : Tb := ⟨k, k, fun _ => ⟨false, false, false, 0⟩, 0⟩
abbrev newAC (k : Nat) : CallSpec := mSpec [] k [iav 4096] [] (fun _ => True) (fun _ => .tup [bptr 0 2, .c nilE]) fun _ => [newA.box 1, newA.row]
abbrev newTC (n : Nat) (k : Nat) : CallSpec := mSpec [] k [iav n] [] (fun _ => True) (fun _ => .tup [bptr 0 2, .c nilE]) fun _ => [(newT n).box 1, (newT n).row]
def tstart0 (at_ : Int) : Tree :=
  Tree.chk (∀ (q : Nat), q < 0 → q < 16 → [] = [CV.v (Value.int IntKind.i64 (0 : Int))])
   (Tree.done (XV.a (AV.c (CV.sl 1 0 0 17 1 1))) [{ own := true, box := true, ty := 66, sz := 17, m := 1, n := fun a => 1, cap := fun a => 1, f := fun x x_1 => [CV.v (Value.int IntKind.i64 at_), CV.v (Value.int IntKind.i64 (0 : Int)), CV.v (Value.int IntKind.i64 (0 : Int)), CV.v (Value.int IntKind.i64 (0 : Int)), CV.v (Value.int IntKind.i64 (0 : Int)), CV.v (Value.int IntKind.i64 (0 : Int)), CV.v (Value.int IntKind.i64 (0 : Int)), CV.v (Value.int IntKind.i64 (0 : Int)), CV.v (Value.int IntKind.i64 (0 : Int)), CV.v (Value.int IntKind.i64 (0 : Int)), CV.v (Value.int IntKind.i64 (0 : Int)), CV.v (Value.int IntKind.i64 (0 : Int)), CV.v (Value.int IntKind.i64 (0 : Int)), CV.v (Value.int IntKind.i64 (0 : Int)), CV.v (Value.int IntKind.i64 (0 : Int)), CV.v (Value.int IntKind.i64 (0 : Int)), CV.v (Value.int IntKind.i64 (0 : Int))], ov := [] }, (Ent.rw true 66 17 1 1 fun ii => [CV.v (Value.int IntKind.i64 at_), CV.v (Value.int IntKind.i64 (0 : Int)), CV.v (Value.int IntKind.i64 (0 : Int)), CV.v (Value.int IntKind.i64 (0 : Int)), CV.v (Value.int IntKind.i64 (0 : Int)), CV.v (Value.int IntKind.i64 (0 : Int)), CV.v (Value.int IntKind.i64 (0 : Int)), CV.v (Value.int IntKind.i64 (0 : Int)), CV.v (Value.int IntKind.i64 (0 : Int)), CV.v (Value.int IntKind.i64 (0 : Int)), CV.v (Value.int IntKind.i64 (0 : Int)), CV.v (Value.int IntKind.i64 (0 : Int)), CV.v (Value.int IntKind.i64 (0 : Int)), CV.v (Value.int IntKind.i64 (0 : Int)), CV.v (Value.int IntKind.i64 (0 : Int)), CV.v (Value.int IntKind.i64 (0 : Int)), CV.v (Value.int IntKind.i64 (0 : Int))])])
theorem tstart0_eq (at_ : Int) : xfunc tab noCtr noInv Go.Proofs.Try.f12 [iav at_, .c (.v (.slice none 0 0))] [] [0, 1] = tstart0 at_ := by kernel_rfl
def madeF (n i cap : Nat) (z : Nat → Int) : Ar := ⟨1 + n, cap, fun j => if j = 0 then 0 else if j ≤ i then z (j - 1) else 0, 4096⟩
def onlyT : List Nat → Tm → Tm
  | [], _ => []
  | t :: r, tm => match tm.get t with | some x => (t, x) :: onlyT r tm | none => onlyT r tm
def capAt (H : Hp) (k : Nat) : Nat := match H.get k with | some e => e.cap 0 | none => 0
def madeI (n : Nat) (z : Nat → Int) (b : Nat) (tm : Tm) (H : Hp) : LoopInv :=
  ⟨{ i : Nat // i ≤ n }, fun i => ((12, ia i.1) :: onlyT [0, 4, 5, 6, 8] tm, (H.set b ((madeF n i.1 (capAt H (slAt H b 0)) z).box (slAt H b 0))).set (slAt H b 0) (madeF n i.1 (capAt H (slAt H b 0)) z).row), fun i => n - i.1, some ⟨0, Nat.zero_le _⟩, [], .l (List.range H.length), [], fun _ _ => .l (List.range H.length)⟩
def madeG (k : Nat) : Ctr := fun f args H => match args with
  | [.c (.v (.int _ x))] => bif Nat.beq f 18 then some (newAC H.length) else some (newTC k H.length)
  | [.c (.ptr r), .c (.v (.int _ x))] => some (allocG newA x [r.k, slAt H r.k 0] H.length)
  | [.c (.ptr r), .c (.v (.int _ x)), .c (.v (.int _ y))] => some (.ex Ar fun a => storeC a (a.set x.toNat y) x y nilE [r.k, slAt H r.k 0])
  | _ => none
def tmade (own : Bool) (n cap k : Nat) (z : Nat → Int) : Tree :=
  Tree.callf 18 [AV.c (CV.v (Value.int IntKind.i64 (4096 : Int)))] [(Ent.rw own 2 1 n cap fun ii => [CV.v (Value.int IntKind.i64 (z ii))])] (newAC 1) fun c => Tree.callf 19 [AV.c (CV.v (Value.int IntKind.i64 (↑k : Int)))] [(Ent.rw own 2 1 n cap fun ii => [CV.v (Value.int IntKind.i64 (z ii))]), { own := true, box := true, ty := 72, sz := 2, m := 1, n := fun a => 1, cap := fun a => 1, f := fun x x_1 => [CV.sl 2 0 0 1 1 1, CV.v (Value.int IntKind.i64 (4096 : Int))], ov := [] }, (Ent.rw true 2 1 1 1 fun ii => [CV.v (Value.int IntKind.i64 (0 : Int))])] (newTC k 3) fun c_1 => Tree.chk (true = true → true = true)
   (Tree.chk (false = false → true = true)
   (Tree.chk (true = true → true = true)
   (Tree.chk (false = false → true = true)
   (Tree.chk (true = true → true = true)
   (Tree.chk (false = false → true = true)
   (Tree.br false
   (Tree.done (XV.tup [AV.c (CV.v (Value.pointer none)), AV.c (CV.v (Value.pointer none))]) [(Ent.rw own 2 1 n cap fun ii => [CV.v (Value.int IntKind.i64 (z ii))]), { own := true, box := true, ty := 72, sz := 2, m := 1, n := fun a => 1, cap := fun a => 1, f := fun x x_1 => [CV.sl 2 0 0 1 1 1, CV.v (Value.int IntKind.i64 (4096 : Int))], ov := [] }, (Ent.rw true 2 1 1 1 fun ii => [CV.v (Value.int IntKind.i64 (0 : Int))]), { own := true, box := true, ty := 78, sz := 2, m := 1, n := fun a => 1, cap := fun a => 1, f := fun x x_1 => [CV.sl 4 0 0 4 k k, CV.v (Value.int IntKind.i64 (0 : Int))], ov := [] }, (Ent.rw true 59 4 k k fun ii => [CV.v (Value.bool false), CV.v (Value.bool false), CV.v (Value.bool false), CV.v (Value.int IntKind.i64 (0 : Int))])])
   (Tree.br (decide ((↑n : Int) > (0 : Int)))
   (Tree.br (decide ((↑n : Int) < (1 : Int)))
   (Tree.callf 20 [AV.c (CV.ptr ⟨1, 0, 0, 2, 0, 0, 0, 0⟩), AV.c (CV.v (Value.int IntKind.i64 (↑n : Int)))] [(Ent.rw own 2 1 n cap fun ii => [CV.v (Value.int IntKind.i64 (z ii))]), { own := true, box := true, ty := 72, sz := 2, m := 1, n := fun a => 1, cap := fun a => 1, f := fun x x_1 => [CV.sl 2 0 0 1 1 1, CV.v (Value.int IntKind.i64 (4096 : Int))], ov := [] }, (Ent.rw true 2 1 1 1 fun ii => [CV.v (Value.int IntKind.i64 (0 : Int))]), { own := true, box := true, ty := 78, sz := 2, m := 1, n := fun a => 1, cap := fun a => 1, f := fun x x_1 => [CV.sl 4 0 0 4 k k, CV.v (Value.int IntKind.i64 (0 : Int))], ov := [] }, (Ent.rw true 59 4 k k fun ii => [CV.v (Value.bool false), CV.v (Value.bool false), CV.v (Value.bool false), CV.v (Value.int IntKind.i64 (0 : Int))])] (allocC { n := 1, cap := 1, C := fun x => (0 : Int), most := (4096 : Int) } { n := 1, cap := 1, C := fun x => (0 : Int), most := (4096 : Int) } (↑n : Int) (0 : Int) (CV.v (Value.iface 36 (Value.int IntKind.i64 (1 : Int)))) [1, 2] 5) fun c_2 => Tree.br true
   (Tree.done (XV.tup [AV.c (CV.v (Value.pointer none)), AV.c (CV.v (Value.pointer none))]) [(Ent.rw own 2 1 n cap fun ii => [CV.v (Value.int IntKind.i64 (z ii))]), { own := true, box := true, ty := 72, sz := 2, m := 1, n := fun a => 1, cap := fun a => 1, f := fun x x_1 => [CV.sl 5 0 0 1 1 (c_2 0), CV.v (Value.int IntKind.i64 (4096 : Int))], ov := [] }, Ent.dead, { own := true, box := true, ty := 78, sz := 2, m := 1, n := fun a => 1, cap := fun a => 1, f := fun x x_1 => [CV.sl 4 0 0 4 k k, CV.v (Value.int IntKind.i64 (0 : Int))], ov := [] }, (Ent.rw true 59 4 k k fun ii => [CV.v (Value.bool false), CV.v (Value.bool false), CV.v (Value.bool false), CV.v (Value.int IntKind.i64 (0 : Int))]), (Ent.rw true 2 1 1 (c_2 0) fun ii => [CV.v (Value.int IntKind.i64 (0 : Int))])])
   (Tree.both
   (Tree.chk (XV.a (AV.c (CV.v (Value.int IntKind.i64 (0 : Int)))) = XV.a (AV.c (CV.v (Value.int IntKind.i64 (0 : Int)))))
   (Tree.chk (XV.a (AV.c (CV.sl 0 0 0 1 n cap)) = XV.a (AV.c (CV.sl 0 0 0 1 n cap)))
   (Tree.chk (XV.a (AV.c (CV.v (Value.pointer none))) = XV.a (AV.c (CV.v (Value.pointer none))))
   (Tree.chk (XV.a (AV.c (CV.v (Value.pointer none))) = XV.a (AV.c (CV.v (Value.pointer none))))
   (Tree.chk (XV.a (AV.c (CV.ptr ⟨1, 0, 0, 2, 0, 0, 0, 0⟩)) = XV.a (AV.c (CV.ptr ⟨1, 0, 0, 2, 0, 0, 0, 0⟩)))
   (Tree.chk (XV.a (AV.c (CV.ptr ⟨3, 0, 0, 2, 0, 0, 0, 0⟩)) = XV.a (AV.c (CV.ptr ⟨3, 0, 0, 2, 0, 0, 0, 0⟩)))
   (Tree.chk (EntRel 6 [0, 1, 2, 3, 4, 5] 6 (Ent.rw own 2 1 n cap fun ii => [CV.v (Value.int IntKind.i64 (z ii))]) (Ent.rw own 2 1 n cap fun ii => [CV.v (Value.int IntKind.i64 (z ii))]))
   (Tree.chk (EntRel 6 [0, 1, 2, 3, 4, 5] 6 { own := true, box := true, ty := 72, sz := 2, m := 1, n := fun a => 1, cap := fun a => 1, f := fun x x_1 => [CV.sl 5 0 0 1 1 (c_2 0), CV.v (Value.int IntKind.i64 (4096 : Int))], ov := [] } { own := true, box := true, ty := 72, sz := 2, m := 1, n := fun x => 1, cap := fun x => 1, f := fun x x_1 => [CV.sl 5 0 0 1 (1 + n) (c_2 0), CV.v (Value.int IntKind.i64 (4096 : Int))], ov := [] })
   (Tree.chk (EntRel 6 [0, 1, 2, 3, 4, 5] 6 Ent.dead Ent.dead)
   (Tree.chk (EntRel 6 [0, 1, 2, 3, 4, 5] 6 { own := true, box := true, ty := 78, sz := 2, m := 1, n := fun a => 1, cap := fun a => 1, f := fun x x_1 => [CV.sl 4 0 0 4 k k, CV.v (Value.int IntKind.i64 (0 : Int))], ov := [] } { own := true, box := true, ty := 78, sz := 2, m := 1, n := fun a => 1, cap := fun a => 1, f := fun x x_1 => [CV.sl 4 0 0 4 k k, CV.v (Value.int IntKind.i64 (0 : Int))], ov := [] })
   (Tree.chk (EntRel 6 [0, 1, 2, 3, 4, 5] 6 (Ent.rw true 59 4 k k fun ii => [CV.v (Value.bool false), CV.v (Value.bool false), CV.v (Value.bool false), CV.v (Value.int IntKind.i64 (0 : Int))]) (Ent.rw true 59 4 k k fun ii => [CV.v (Value.bool false), CV.v (Value.bool false), CV.v (Value.bool false), CV.v (Value.int IntKind.i64 (0 : Int))]))
   (Tree.chk (EntRel 6 [0, 1, 2, 3, 4, 5] 6 (Ent.rw true 2 1 1 (c_2 0) fun ii => [CV.v (Value.int IntKind.i64 (0 : Int))]) (Ent.rw true 2 1 (1 + n) (c_2 0) fun ii => [CV.v (Value.int IntKind.i64 (if ii = 0 then (0 : Int) else if ii ≤ 0 then z (ii - 1) else (0 : Int)))]))
   (Tree.need True)))))))))))))
   (Tree.every { i // i ≤ n } fun s => Tree.br (decide ((↑(Subtype.val s) : Int) < (↑n : Int)))
   (Tree.chk ((0 : Int) ≤ (↑(Subtype.val s) : Int) ∧ (↑(Subtype.val s) : Int) < (↑n : Int) ∧ Int.toNat (↑(Subtype.val s) : Int) < n ∧ 0 < 1)
   (Tree.chk (0 < 1 ∧ Int.toNat (↑(Subtype.val s) : Int) < n)
   (Tree.some_ Ar fun s_1 => Tree.callf 21 [AV.c (CV.ptr ⟨1, 0, 0, 2, 0, 0, 0, 0⟩), AV.c (CV.v (Value.int IntKind.i64 (IntKind.wrap IntKind.i64 ((↑(Subtype.val s) : Int) + (1 : Int))))), AV.c (CV.v (Value.int IntKind.i64 (z (Int.toNat (↑(Subtype.val s) : Int)))))] [(Ent.rw own 2 1 n cap fun ii => [CV.v (Value.int IntKind.i64 (z ii))]), { own := true, box := true, ty := 72, sz := 2, m := 1, n := fun x => 1, cap := fun x => 1, f := fun x x_1 => [CV.sl 5 0 0 1 (1 + n) (c_2 0), CV.v (Value.int IntKind.i64 (4096 : Int))], ov := [] }, Ent.dead, { own := true, box := true, ty := 78, sz := 2, m := 1, n := fun a => 1, cap := fun a => 1, f := fun x x_1 => [CV.sl 4 0 0 4 k k, CV.v (Value.int IntKind.i64 (0 : Int))], ov := [] }, (Ent.rw true 59 4 k k fun ii => [CV.v (Value.bool false), CV.v (Value.bool false), CV.v (Value.bool false), CV.v (Value.int IntKind.i64 (0 : Int))]), (Ent.rw true 2 1 (1 + n) (c_2 0) fun ii => [CV.v (Value.int IntKind.i64 (if ii = 0 then (0 : Int) else if ii ≤ Subtype.val s then z (ii - 1) else (0 : Int)))])] (storeC s_1 { n := s_1.1, cap := s_1.2, C := fun j => if j = Int.toNat (IntKind.wrap IntKind.i64 ((↑(Subtype.val s) : Int) + (1 : Int))) then z (Int.toNat (↑(Subtype.val s) : Int)) else s_1.3 j, most := s_1.4 } (IntKind.wrap IntKind.i64 ((↑(Subtype.val s) : Int) + (1 : Int))) (z (Int.toNat (↑(Subtype.val s) : Int))) (CV.v Value.nilIface) [1, 5]) fun c_3 => Tree.br false
   (Tree.done (XV.tup [AV.c (CV.v (Value.pointer none)), AV.c (CV.v (Value.pointer none))]) [(Ent.rw own 2 1 n cap fun ii => [CV.v (Value.int IntKind.i64 (z ii))]), { own := true, box := true, ty := 72, sz := 2, m := 1, n := fun a => 1, cap := fun a => 1, f := fun x x_1 => [CV.sl 5 0 0 1 s_1.1 s_1.2, CV.v (Value.int IntKind.i64 s_1.4)], ov := [] }, Ent.dead, { own := true, box := true, ty := 78, sz := 2, m := 1, n := fun a => 1, cap := fun a => 1, f := fun x x_1 => [CV.sl 4 0 0 4 k k, CV.v (Value.int IntKind.i64 (0 : Int))], ov := [] }, (Ent.rw true 59 4 k k fun ii => [CV.v (Value.bool false), CV.v (Value.bool false), CV.v (Value.bool false), CV.v (Value.int IntKind.i64 (0 : Int))]), (Ent.rw true 2 1 s_1.1 s_1.2 fun ii => [CV.v (Value.int IntKind.i64 (if ii = Int.toNat (IntKind.wrap IntKind.i64 ((↑(Subtype.val s) : Int) + (1 : Int))) then z (Int.toNat (↑(Subtype.val s) : Int)) else s_1.3 ii))])])
   (Tree.some_ { i // i ≤ n } fun s' => Tree.chk (n - Subtype.val s' < n - Subtype.val s)
   (Tree.chk (XV.a (AV.c (CV.v (Value.int IntKind.i64 (IntKind.wrap IntKind.i64 ((↑(Subtype.val s) : Int) + (1 : Int)))))) = XV.a (AV.c (CV.v (Value.int IntKind.i64 (↑(Subtype.val s') : Int)))))
   (Tree.chk (XV.a (AV.c (CV.sl 0 0 0 1 n cap)) = XV.a (AV.c (CV.sl 0 0 0 1 n cap)))
   (Tree.chk (XV.a (AV.c (CV.v (Value.pointer none))) = XV.a (AV.c (CV.v (Value.pointer none))))
   (Tree.chk (XV.a (AV.c (CV.v (Value.pointer none))) = XV.a (AV.c (CV.v (Value.pointer none))))
   (Tree.chk (XV.a (AV.c (CV.ptr ⟨1, 0, 0, 2, 0, 0, 0, 0⟩)) = XV.a (AV.c (CV.ptr ⟨1, 0, 0, 2, 0, 0, 0, 0⟩)))
   (Tree.chk (XV.a (AV.c (CV.ptr ⟨3, 0, 0, 2, 0, 0, 0, 0⟩)) = XV.a (AV.c (CV.ptr ⟨3, 0, 0, 2, 0, 0, 0, 0⟩)))
   (Tree.chk (EntRel 6 [0, 1, 2, 3, 4, 5] 6 (Ent.rw own 2 1 n cap fun ii => [CV.v (Value.int IntKind.i64 (z ii))]) (Ent.rw own 2 1 n cap fun ii => [CV.v (Value.int IntKind.i64 (z ii))]))
   (Tree.chk (EntRel 6 [0, 1, 2, 3, 4, 5] 6 { own := true, box := true, ty := 72, sz := 2, m := 1, n := fun a => 1, cap := fun a => 1, f := fun x x_1 => [CV.sl 5 0 0 1 s_1.1 s_1.2, CV.v (Value.int IntKind.i64 s_1.4)], ov := [] } { own := true, box := true, ty := 72, sz := 2, m := 1, n := fun x => 1, cap := fun x => 1, f := fun x x_1 => [CV.sl 5 0 0 1 (1 + n) (c_2 0), CV.v (Value.int IntKind.i64 (4096 : Int))], ov := [] })
   (Tree.chk (EntRel 6 [0, 1, 2, 3, 4, 5] 6 Ent.dead Ent.dead)
   (Tree.chk (EntRel 6 [0, 1, 2, 3, 4, 5] 6 { own := true, box := true, ty := 78, sz := 2, m := 1, n := fun a => 1, cap := fun a => 1, f := fun x x_1 => [CV.sl 4 0 0 4 k k, CV.v (Value.int IntKind.i64 (0 : Int))], ov := [] } { own := true, box := true, ty := 78, sz := 2, m := 1, n := fun a => 1, cap := fun a => 1, f := fun x x_1 => [CV.sl 4 0 0 4 k k, CV.v (Value.int IntKind.i64 (0 : Int))], ov := [] })
   (Tree.chk (EntRel 6 [0, 1, 2, 3, 4, 5] 6 (Ent.rw true 59 4 k k fun ii => [CV.v (Value.bool false), CV.v (Value.bool false), CV.v (Value.bool false), CV.v (Value.int IntKind.i64 (0 : Int))]) (Ent.rw true 59 4 k k fun ii => [CV.v (Value.bool false), CV.v (Value.bool false), CV.v (Value.bool false), CV.v (Value.int IntKind.i64 (0 : Int))]))
   (Tree.chk (EntRel 6 [0, 1, 2, 3, 4, 5] 6 (Ent.rw true 2 1 s_1.1 s_1.2 fun ii => [CV.v (Value.int IntKind.i64 (if ii = Int.toNat (IntKind.wrap IntKind.i64 ((↑(Subtype.val s) : Int) + (1 : Int))) then z (Int.toNat (↑(Subtype.val s) : Int)) else s_1.3 ii))]) (Ent.rw true 2 1 (1 + n) (c_2 0) fun ii => [CV.v (Value.int IntKind.i64 (if ii = 0 then (0 : Int) else if ii ≤ Subtype.val s' then z (ii - 1) else (0 : Int)))]))
   (Tree.need True)))))))))))))))))
   (Tree.done (XV.tup [AV.c (CV.ptr ⟨1, 0, 0, 2, 0, 0, 0, 0⟩), AV.c (CV.ptr ⟨3, 0, 0, 2, 0, 0, 0, 0⟩)]) [(Ent.rw own 2 1 n cap fun ii => [CV.v (Value.int IntKind.i64 (z ii))]), { own := true, box := true, ty := 72, sz := 2, m := 1, n := fun x => 1, cap := fun x => 1, f := fun x x_1 => [CV.sl 5 0 0 1 (1 + n) (c_2 0), CV.v (Value.int IntKind.i64 (4096 : Int))], ov := [] }, Ent.dead, { own := true, box := true, ty := 78, sz := 2, m := 1, n := fun a => 1, cap := fun a => 1, f := fun x x_1 => [CV.sl 4 0 0 4 k k, CV.v (Value.int IntKind.i64 (0 : Int))], ov := [] }, (Ent.rw true 59 4 k k fun ii => [CV.v (Value.bool false), CV.v (Value.bool false), CV.v (Value.bool false), CV.v (Value.int IntKind.i64 (0 : Int))]), (Ent.rw true 2 1 (1 + n) (c_2 0) fun ii => [CV.v (Value.int IntKind.i64 (if ii = 0 then (0 : Int) else if ii ≤ Subtype.val s then z (ii - 1) else (0 : Int)))])]))))
   (Tree.br (fullF { n := 1, cap := 1, C := fun x => (0 : Int), most := (4096 : Int) } (↑n : Int))
   (Tree.callf 20 [AV.c (CV.ptr ⟨1, 0, 0, 2, 0, 0, 0, 0⟩), AV.c (CV.v (Value.int IntKind.i64 (↑n : Int)))] [(Ent.rw own 2 1 n cap fun ii => [CV.v (Value.int IntKind.i64 (z ii))]), { own := true, box := true, ty := 72, sz := 2, m := 1, n := fun a => 1, cap := fun a => 1, f := fun x x_1 => [CV.sl 2 0 0 1 1 1, CV.v (Value.int IntKind.i64 (4096 : Int))], ov := [] }, (Ent.rw true 2 1 1 1 fun ii => [CV.v (Value.int IntKind.i64 (0 : Int))]), { own := true, box := true, ty := 78, sz := 2, m := 1, n := fun a => 1, cap := fun a => 1, f := fun x x_1 => [CV.sl 4 0 0 4 k k, CV.v (Value.int IntKind.i64 (0 : Int))], ov := [] }, (Ent.rw true 59 4 k k fun ii => [CV.v (Value.bool false), CV.v (Value.bool false), CV.v (Value.bool false), CV.v (Value.int IntKind.i64 (0 : Int))])] (allocC { n := 1, cap := 1, C := fun x => (0 : Int), most := (4096 : Int) } { n := 1, cap := 1, C := fun x => (0 : Int), most := (4096 : Int) } (↑n : Int) (0 : Int) (CV.v (Value.iface 36 (Value.int IntKind.i64 (3 : Int)))) [1, 2] 5) fun c_2 => Tree.br true
   (Tree.done (XV.tup [AV.c (CV.v (Value.pointer none)), AV.c (CV.v (Value.pointer none))]) [(Ent.rw own 2 1 n cap fun ii => [CV.v (Value.int IntKind.i64 (z ii))]), { own := true, box := true, ty := 72, sz := 2, m := 1, n := fun a => 1, cap := fun a => 1, f := fun x x_1 => [CV.sl 5 0 0 1 1 (c_2 0), CV.v (Value.int IntKind.i64 (4096 : Int))], ov := [] }, Ent.dead, { own := true, box := true, ty := 78, sz := 2, m := 1, n := fun a => 1, cap := fun a => 1, f := fun x x_1 => [CV.sl 4 0 0 4 k k, CV.v (Value.int IntKind.i64 (0 : Int))], ov := [] }, (Ent.rw true 59 4 k k fun ii => [CV.v (Value.bool false), CV.v (Value.bool false), CV.v (Value.bool false), CV.v (Value.int IntKind.i64 (0 : Int))]), (Ent.rw true 2 1 1 (c_2 0) fun ii => [CV.v (Value.int IntKind.i64 (0 : Int))])])
   (Tree.both
   (Tree.chk (XV.a (AV.c (CV.v (Value.int IntKind.i64 (0 : Int)))) = XV.a (AV.c (CV.v (Value.int IntKind.i64 (0 : Int)))))
   (Tree.chk (XV.a (AV.c (CV.sl 0 0 0 1 n cap)) = XV.a (AV.c (CV.sl 0 0 0 1 n cap)))
   (Tree.chk (XV.a (AV.c (CV.v (Value.pointer none))) = XV.a (AV.c (CV.v (Value.pointer none))))
   (Tree.chk (XV.a (AV.c (CV.v (Value.pointer none))) = XV.a (AV.c (CV.v (Value.pointer none))))
   (Tree.chk (XV.a (AV.c (CV.ptr ⟨1, 0, 0, 2, 0, 0, 0, 0⟩)) = XV.a (AV.c (CV.ptr ⟨1, 0, 0, 2, 0, 0, 0, 0⟩)))
   (Tree.chk (XV.a (AV.c (CV.ptr ⟨3, 0, 0, 2, 0, 0, 0, 0⟩)) = XV.a (AV.c (CV.ptr ⟨3, 0, 0, 2, 0, 0, 0, 0⟩)))
   (Tree.chk (EntRel 6 [0, 1, 2, 3, 4, 5] 6 (Ent.rw own 2 1 n cap fun ii => [CV.v (Value.int IntKind.i64 (z ii))]) (Ent.rw own 2 1 n cap fun ii => [CV.v (Value.int IntKind.i64 (z ii))]))
   (Tree.chk (EntRel 6 [0, 1, 2, 3, 4, 5] 6 { own := true, box := true, ty := 72, sz := 2, m := 1, n := fun a => 1, cap := fun a => 1, f := fun x x_1 => [CV.sl 5 0 0 1 1 (c_2 0), CV.v (Value.int IntKind.i64 (4096 : Int))], ov := [] } { own := true, box := true, ty := 72, sz := 2, m := 1, n := fun x => 1, cap := fun x => 1, f := fun x x_1 => [CV.sl 5 0 0 1 (1 + n) (c_2 0), CV.v (Value.int IntKind.i64 (4096 : Int))], ov := [] })
   (Tree.chk (EntRel 6 [0, 1, 2, 3, 4, 5] 6 Ent.dead Ent.dead)
   (Tree.chk (EntRel 6 [0, 1, 2, 3, 4, 5] 6 { own := true, box := true, ty := 78, sz := 2, m := 1, n := fun a => 1, cap := fun a => 1, f := fun x x_1 => [CV.sl 4 0 0 4 k k, CV.v (Value.int IntKind.i64 (0 : Int))], ov := [] } { own := true, box := true, ty := 78, sz := 2, m := 1, n := fun a => 1, cap := fun a => 1, f := fun x x_1 => [CV.sl 4 0 0 4 k k, CV.v (Value.int IntKind.i64 (0 : Int))], ov := [] })
   (Tree.chk (EntRel 6 [0, 1, 2, 3, 4, 5] 6 (Ent.rw true 59 4 k k fun ii => [CV.v (Value.bool false), CV.v (Value.bool false), CV.v (Value.bool false), CV.v (Value.int IntKind.i64 (0 : Int))]) (Ent.rw true 59 4 k k fun ii => [CV.v (Value.bool false), CV.v (Value.bool false), CV.v (Value.bool false), CV.v (Value.int IntKind.i64 (0 : Int))]))
   (Tree.chk (EntRel 6 [0, 1, 2, 3, 4, 5] 6 (Ent.rw true 2 1 1 (c_2 0) fun ii => [CV.v (Value.int IntKind.i64 (0 : Int))]) (Ent.rw true 2 1 (1 + n) (c_2 0) fun ii => [CV.v (Value.int IntKind.i64 (if ii = 0 then (0 : Int) else if ii ≤ 0 then z (ii - 1) else (0 : Int)))]))
   (Tree.need True)))))))))))))
   (Tree.every { i // i ≤ n } fun s => Tree.br (decide ((↑(Subtype.val s) : Int) < (↑n : Int)))
   (Tree.chk ((0 : Int) ≤ (↑(Subtype.val s) : Int) ∧ (↑(Subtype.val s) : Int) < (↑n : Int) ∧ Int.toNat (↑(Subtype.val s) : Int) < n ∧ 0 < 1)
   (Tree.chk (0 < 1 ∧ Int.toNat (↑(Subtype.val s) : Int) < n)
   (Tree.some_ Ar fun s_1 => Tree.callf 21 [AV.c (CV.ptr ⟨1, 0, 0, 2, 0, 0, 0, 0⟩), AV.c (CV.v (Value.int IntKind.i64 (IntKind.wrap IntKind.i64 ((↑(Subtype.val s) : Int) + (1 : Int))))), AV.c (CV.v (Value.int IntKind.i64 (z (Int.toNat (↑(Subtype.val s) : Int)))))] [(Ent.rw own 2 1 n cap fun ii => [CV.v (Value.int IntKind.i64 (z ii))]), { own := true, box := true, ty := 72, sz := 2, m := 1, n := fun x => 1, cap := fun x => 1, f := fun x x_1 => [CV.sl 5 0 0 1 (1 + n) (c_2 0), CV.v (Value.int IntKind.i64 (4096 : Int))], ov := [] }, Ent.dead, { own := true, box := true, ty := 78, sz := 2, m := 1, n := fun a => 1, cap := fun a => 1, f := fun x x_1 => [CV.sl 4 0 0 4 k k, CV.v (Value.int IntKind.i64 (0 : Int))], ov := [] }, (Ent.rw true 59 4 k k fun ii => [CV.v (Value.bool false), CV.v (Value.bool false), CV.v (Value.bool false), CV.v (Value.int IntKind.i64 (0 : Int))]), (Ent.rw true 2 1 (1 + n) (c_2 0) fun ii => [CV.v (Value.int IntKind.i64 (if ii = 0 then (0 : Int) else if ii ≤ Subtype.val s then z (ii - 1) else (0 : Int)))])] (storeC s_1 { n := s_1.1, cap := s_1.2, C := fun j => if j = Int.toNat (IntKind.wrap IntKind.i64 ((↑(Subtype.val s) : Int) + (1 : Int))) then z (Int.toNat (↑(Subtype.val s) : Int)) else s_1.3 j, most := s_1.4 } (IntKind.wrap IntKind.i64 ((↑(Subtype.val s) : Int) + (1 : Int))) (z (Int.toNat (↑(Subtype.val s) : Int))) (CV.v Value.nilIface) [1, 5]) fun c_3 => Tree.br false
   (Tree.done (XV.tup [AV.c (CV.v (Value.pointer none)), AV.c (CV.v (Value.pointer none))]) [(Ent.rw own 2 1 n cap fun ii => [CV.v (Value.int IntKind.i64 (z ii))]), { own := true, box := true, ty := 72, sz := 2, m := 1, n := fun a => 1, cap := fun a => 1, f := fun x x_1 => [CV.sl 5 0 0 1 s_1.1 s_1.2, CV.v (Value.int IntKind.i64 s_1.4)], ov := [] }, Ent.dead, { own := true, box := true, ty := 78, sz := 2, m := 1, n := fun a => 1, cap := fun a => 1, f := fun x x_1 => [CV.sl 4 0 0 4 k k, CV.v (Value.int IntKind.i64 (0 : Int))], ov := [] }, (Ent.rw true 59 4 k k fun ii => [CV.v (Value.bool false), CV.v (Value.bool false), CV.v (Value.bool false), CV.v (Value.int IntKind.i64 (0 : Int))]), (Ent.rw true 2 1 s_1.1 s_1.2 fun ii => [CV.v (Value.int IntKind.i64 (if ii = Int.toNat (IntKind.wrap IntKind.i64 ((↑(Subtype.val s) : Int) + (1 : Int))) then z (Int.toNat (↑(Subtype.val s) : Int)) else s_1.3 ii))])])
   (Tree.some_ { i // i ≤ n } fun s' => Tree.chk (n - Subtype.val s' < n - Subtype.val s)
   (Tree.chk (XV.a (AV.c (CV.v (Value.int IntKind.i64 (IntKind.wrap IntKind.i64 ((↑(Subtype.val s) : Int) + (1 : Int)))))) = XV.a (AV.c (CV.v (Value.int IntKind.i64 (↑(Subtype.val s') : Int)))))
   (Tree.chk (XV.a (AV.c (CV.sl 0 0 0 1 n cap)) = XV.a (AV.c (CV.sl 0 0 0 1 n cap)))
   (Tree.chk (XV.a (AV.c (CV.v (Value.pointer none))) = XV.a (AV.c (CV.v (Value.pointer none))))
   (Tree.chk (XV.a (AV.c (CV.v (Value.pointer none))) = XV.a (AV.c (CV.v (Value.pointer none))))
   (Tree.chk (XV.a (AV.c (CV.ptr ⟨1, 0, 0, 2, 0, 0, 0, 0⟩)) = XV.a (AV.c (CV.ptr ⟨1, 0, 0, 2, 0, 0, 0, 0⟩)))
   (Tree.chk (XV.a (AV.c (CV.ptr ⟨3, 0, 0, 2, 0, 0, 0, 0⟩)) = XV.a (AV.c (CV.ptr ⟨3, 0, 0, 2, 0, 0, 0, 0⟩)))
   (Tree.chk (EntRel 6 [0, 1, 2, 3, 4, 5] 6 (Ent.rw own 2 1 n cap fun ii => [CV.v (Value.int IntKind.i64 (z ii))]) (Ent.rw own 2 1 n cap fun ii => [CV.v (Value.int IntKind.i64 (z ii))]))
   (Tree.chk (EntRel 6 [0, 1, 2, 3, 4, 5] 6 { own := true, box := true, ty := 72, sz := 2, m := 1, n := fun a => 1, cap := fun a => 1, f := fun x x_1 => [CV.sl 5 0 0 1 s_1.1 s_1.2, CV.v (Value.int IntKind.i64 s_1.4)], ov := [] } { own := true, box := true, ty := 72, sz := 2, m := 1, n := fun x => 1, cap := fun x => 1, f := fun x x_1 => [CV.sl 5 0 0 1 (1 + n) (c_2 0), CV.v (Value.int IntKind.i64 (4096 : Int))], ov := [] })
   (Tree.chk (EntRel 6 [0, 1, 2, 3, 4, 5] 6 Ent.dead Ent.dead)
   (Tree.chk (EntRel 6 [0, 1, 2, 3, 4, 5] 6 { own := true, box := true, ty := 78, sz := 2, m := 1, n := fun a => 1, cap := fun a => 1, f := fun x x_1 => [CV.sl 4 0 0 4 k k, CV.v (Value.int IntKind.i64 (0 : Int))], ov := [] } { own := true, box := true, ty := 78, sz := 2, m := 1, n := fun a => 1, cap := fun a => 1, f := fun x x_1 => [CV.sl 4 0 0 4 k k, CV.v (Value.int IntKind.i64 (0 : Int))], ov := [] })
   (Tree.chk (EntRel 6 [0, 1, 2, 3, 4, 5] 6 (Ent.rw true 59 4 k k fun ii => [CV.v (Value.bool false), CV.v (Value.bool false), CV.v (Value.bool false), CV.v (Value.int IntKind.i64 (0 : Int))]) (Ent.rw true 59 4 k k fun ii => [CV.v (Value.bool false), CV.v (Value.bool false), CV.v (Value.bool false), CV.v (Value.int IntKind.i64 (0 : Int))]))
   (Tree.chk (EntRel 6 [0, 1, 2, 3, 4, 5] 6 (Ent.rw true 2 1 s_1.1 s_1.2 fun ii => [CV.v (Value.int IntKind.i64 (if ii = Int.toNat (IntKind.wrap IntKind.i64 ((↑(Subtype.val s) : Int) + (1 : Int))) then z (Int.toNat (↑(Subtype.val s) : Int)) else s_1.3 ii))]) (Ent.rw true 2 1 (1 + n) (c_2 0) fun ii => [CV.v (Value.int IntKind.i64 (if ii = 0 then (0 : Int) else if ii ≤ Subtype.val s' then z (ii - 1) else (0 : Int)))]))
   (Tree.need True)))))))))))))))))
   (Tree.done (XV.tup [AV.c (CV.ptr ⟨1, 0, 0, 2, 0, 0, 0, 0⟩), AV.c (CV.ptr ⟨3, 0, 0, 2, 0, 0, 0, 0⟩)]) [(Ent.rw own 2 1 n cap fun ii => [CV.v (Value.int IntKind.i64 (z ii))]), { own := true, box := true, ty := 72, sz := 2, m := 1, n := fun x => 1, cap := fun x => 1, f := fun x x_1 => [CV.sl 5 0 0 1 (1 + n) (c_2 0), CV.v (Value.int IntKind.i64 (4096 : Int))], ov := [] }, Ent.dead, { own := true, box := true, ty := 78, sz := 2, m := 1, n := fun a => 1, cap := fun a => 1, f := fun x x_1 => [CV.sl 4 0 0 4 k k, CV.v (Value.int IntKind.i64 (0 : Int))], ov := [] }, (Ent.rw true 59 4 k k fun ii => [CV.v (Value.bool false), CV.v (Value.bool false), CV.v (Value.bool false), CV.v (Value.int IntKind.i64 (0 : Int))]), (Ent.rw true 2 1 (1 + n) (c_2 0) fun ii => [CV.v (Value.int IntKind.i64 (if ii = 0 then (0 : Int) else if ii ≤ Subtype.val s then z (ii - 1) else (0 : Int)))])]))))
   (Tree.callf 20 [AV.c (CV.ptr ⟨1, 0, 0, 2, 0, 0, 0, 0⟩), AV.c (CV.v (Value.int IntKind.i64 (↑n : Int)))] [(Ent.rw own 2 1 n cap fun ii => [CV.v (Value.int IntKind.i64 (z ii))]), { own := true, box := true, ty := 72, sz := 2, m := 1, n := fun a => 1, cap := fun a => 1, f := fun x x_1 => [CV.sl 2 0 0 1 1 1, CV.v (Value.int IntKind.i64 (4096 : Int))], ov := [] }, (Ent.rw true 2 1 1 1 fun ii => [CV.v (Value.int IntKind.i64 (0 : Int))]), { own := true, box := true, ty := 78, sz := 2, m := 1, n := fun a => 1, cap := fun a => 1, f := fun x x_1 => [CV.sl 4 0 0 4 k k, CV.v (Value.int IntKind.i64 (0 : Int))], ov := [] }, (Ent.rw true 59 4 k k fun ii => [CV.v (Value.bool false), CV.v (Value.bool false), CV.v (Value.bool false), CV.v (Value.int IntKind.i64 (0 : Int))])] (allocC { n := 1, cap := 1, C := fun x => (0 : Int), most := (4096 : Int) } { n := 1 + Int.toNat (↑n : Int), cap := 1, C := fun j => if j < 1 then (0 : Int) else (0 : Int), most := (4096 : Int) } (↑n : Int) (1 : Int) (CV.v Value.nilIface) [1, 2] 5) fun c_2 => Tree.br false
   (Tree.done (XV.tup [AV.c (CV.v (Value.pointer none)), AV.c (CV.v (Value.pointer none))]) [(Ent.rw own 2 1 n cap fun ii => [CV.v (Value.int IntKind.i64 (z ii))]), { own := true, box := true, ty := 72, sz := 2, m := 1, n := fun a => 1, cap := fun a => 1, f := fun x x_1 => [CV.sl 5 0 0 1 (1 + Int.toNat (↑n : Int)) (c_2 0), CV.v (Value.int IntKind.i64 (4096 : Int))], ov := [] }, Ent.dead, { own := true, box := true, ty := 78, sz := 2, m := 1, n := fun a => 1, cap := fun a => 1, f := fun x x_1 => [CV.sl 4 0 0 4 k k, CV.v (Value.int IntKind.i64 (0 : Int))], ov := [] }, (Ent.rw true 59 4 k k fun ii => [CV.v (Value.bool false), CV.v (Value.bool false), CV.v (Value.bool false), CV.v (Value.int IntKind.i64 (0 : Int))]), (Ent.rw true 2 1 (1 + Int.toNat (↑n : Int)) (c_2 0) fun ii => [CV.v (Value.int IntKind.i64 (if ii < 1 then (0 : Int) else (0 : Int)))])])
   (Tree.both
   (Tree.chk (XV.a (AV.c (CV.v (Value.int IntKind.i64 (0 : Int)))) = XV.a (AV.c (CV.v (Value.int IntKind.i64 (0 : Int)))))
   (Tree.chk (XV.a (AV.c (CV.sl 0 0 0 1 n cap)) = XV.a (AV.c (CV.sl 0 0 0 1 n cap)))
   (Tree.chk (XV.a (AV.c (CV.v (Value.pointer none))) = XV.a (AV.c (CV.v (Value.pointer none))))
   (Tree.chk (XV.a (AV.c (CV.v (Value.pointer none))) = XV.a (AV.c (CV.v (Value.pointer none))))
   (Tree.chk (XV.a (AV.c (CV.ptr ⟨1, 0, 0, 2, 0, 0, 0, 0⟩)) = XV.a (AV.c (CV.ptr ⟨1, 0, 0, 2, 0, 0, 0, 0⟩)))
   (Tree.chk (XV.a (AV.c (CV.ptr ⟨3, 0, 0, 2, 0, 0, 0, 0⟩)) = XV.a (AV.c (CV.ptr ⟨3, 0, 0, 2, 0, 0, 0, 0⟩)))
   (Tree.chk (EntRel 6 [0, 1, 2, 3, 4, 5] 6 (Ent.rw own 2 1 n cap fun ii => [CV.v (Value.int IntKind.i64 (z ii))]) (Ent.rw own 2 1 n cap fun ii => [CV.v (Value.int IntKind.i64 (z ii))]))
   (Tree.chk (EntRel 6 [0, 1, 2, 3, 4, 5] 6 { own := true, box := true, ty := 72, sz := 2, m := 1, n := fun a => 1, cap := fun a => 1, f := fun x x_1 => [CV.sl 5 0 0 1 (1 + Int.toNat (↑n : Int)) (c_2 0), CV.v (Value.int IntKind.i64 (4096 : Int))], ov := [] } { own := true, box := true, ty := 72, sz := 2, m := 1, n := fun x => 1, cap := fun x => 1, f := fun x x_1 => [CV.sl 5 0 0 1 (1 + n) (c_2 0), CV.v (Value.int IntKind.i64 (4096 : Int))], ov := [] })
   (Tree.chk (EntRel 6 [0, 1, 2, 3, 4, 5] 6 Ent.dead Ent.dead)
   (Tree.chk (EntRel 6 [0, 1, 2, 3, 4, 5] 6 { own := true, box := true, ty := 78, sz := 2, m := 1, n := fun a => 1, cap := fun a => 1, f := fun x x_1 => [CV.sl 4 0 0 4 k k, CV.v (Value.int IntKind.i64 (0 : Int))], ov := [] } { own := true, box := true, ty := 78, sz := 2, m := 1, n := fun a => 1, cap := fun a => 1, f := fun x x_1 => [CV.sl 4 0 0 4 k k, CV.v (Value.int IntKind.i64 (0 : Int))], ov := [] })
   (Tree.chk (EntRel 6 [0, 1, 2, 3, 4, 5] 6 (Ent.rw true 59 4 k k fun ii => [CV.v (Value.bool false), CV.v (Value.bool false), CV.v (Value.bool false), CV.v (Value.int IntKind.i64 (0 : Int))]) (Ent.rw true 59 4 k k fun ii => [CV.v (Value.bool false), CV.v (Value.bool false), CV.v (Value.bool false), CV.v (Value.int IntKind.i64 (0 : Int))]))
   (Tree.chk (EntRel 6 [0, 1, 2, 3, 4, 5] 6 (Ent.rw true 2 1 (1 + Int.toNat (↑n : Int)) (c_2 0) fun ii => [CV.v (Value.int IntKind.i64 (if ii < 1 then (0 : Int) else (0 : Int)))]) (Ent.rw true 2 1 (1 + n) (c_2 0) fun ii => [CV.v (Value.int IntKind.i64 (if ii = 0 then (0 : Int) else if ii ≤ 0 then z (ii - 1) else (0 : Int)))]))
   (Tree.need True)))))))))))))
   (Tree.every { i // i ≤ n } fun s => Tree.br (decide ((↑(Subtype.val s) : Int) < (↑n : Int)))
   (Tree.chk ((0 : Int) ≤ (↑(Subtype.val s) : Int) ∧ (↑(Subtype.val s) : Int) < (↑n : Int) ∧ Int.toNat (↑(Subtype.val s) : Int) < n ∧ 0 < 1)
   (Tree.chk (0 < 1 ∧ Int.toNat (↑(Subtype.val s) : Int) < n)
   (Tree.some_ Ar fun s_1 => Tree.callf 21 [AV.c (CV.ptr ⟨1, 0, 0, 2, 0, 0, 0, 0⟩), AV.c (CV.v (Value.int IntKind.i64 (IntKind.wrap IntKind.i64 ((↑(Subtype.val s) : Int) + (1 : Int))))), AV.c (CV.v (Value.int IntKind.i64 (z (Int.toNat (↑(Subtype.val s) : Int)))))] [(Ent.rw own 2 1 n cap fun ii => [CV.v (Value.int IntKind.i64 (z ii))]), { own := true, box := true, ty := 72, sz := 2, m := 1, n := fun x => 1, cap := fun x => 1, f := fun x x_1 => [CV.sl 5 0 0 1 (1 + n) (c_2 0), CV.v (Value.int IntKind.i64 (4096 : Int))], ov := [] }, Ent.dead, { own := true, box := true, ty := 78, sz := 2, m := 1, n := fun a => 1, cap := fun a => 1, f := fun x x_1 => [CV.sl 4 0 0 4 k k, CV.v (Value.int IntKind.i64 (0 : Int))], ov := [] }, (Ent.rw true 59 4 k k fun ii => [CV.v (Value.bool false), CV.v (Value.bool false), CV.v (Value.bool false), CV.v (Value.int IntKind.i64 (0 : Int))]), (Ent.rw true 2 1 (1 + n) (c_2 0) fun ii => [CV.v (Value.int IntKind.i64 (if ii = 0 then (0 : Int) else if ii ≤ Subtype.val s then z (ii - 1) else (0 : Int)))])] (storeC s_1 { n := s_1.1, cap := s_1.2, C := fun j => if j = Int.toNat (IntKind.wrap IntKind.i64 ((↑(Subtype.val s) : Int) + (1 : Int))) then z (Int.toNat (↑(Subtype.val s) : Int)) else s_1.3 j, most := s_1.4 } (IntKind.wrap IntKind.i64 ((↑(Subtype.val s) : Int) + (1 : Int))) (z (Int.toNat (↑(Subtype.val s) : Int))) (CV.v Value.nilIface) [1, 5]) fun c_3 => Tree.br false
   (Tree.done (XV.tup [AV.c (CV.v (Value.pointer none)), AV.c (CV.v (Value.pointer none))]) [(Ent.rw own 2 1 n cap fun ii => [CV.v (Value.int IntKind.i64 (z ii))]), { own := true, box := true, ty := 72, sz := 2, m := 1, n := fun a => 1, cap := fun a => 1, f := fun x x_1 => [CV.sl 5 0 0 1 s_1.1 s_1.2, CV.v (Value.int IntKind.i64 s_1.4)], ov := [] }, Ent.dead, { own := true, box := true, ty := 78, sz := 2, m := 1, n := fun a => 1, cap := fun a => 1, f := fun x x_1 => [CV.sl 4 0 0 4 k k, CV.v (Value.int IntKind.i64 (0 : Int))], ov := [] }, (Ent.rw true 59 4 k k fun ii => [CV.v (Value.bool false), CV.v (Value.bool false), CV.v (Value.bool false), CV.v (Value.int IntKind.i64 (0 : Int))]), (Ent.rw true 2 1 s_1.1 s_1.2 fun ii => [CV.v (Value.int IntKind.i64 (if ii = Int.toNat (IntKind.wrap IntKind.i64 ((↑(Subtype.val s) : Int) + (1 : Int))) then z (Int.toNat (↑(Subtype.val s) : Int)) else s_1.3 ii))])])
   (Tree.some_ { i // i ≤ n } fun s' => Tree.chk (n - Subtype.val s' < n - Subtype.val s)
   (Tree.chk (XV.a (AV.c (CV.v (Value.int IntKind.i64 (IntKind.wrap IntKind.i64 ((↑(Subtype.val s) : Int) + (1 : Int)))))) = XV.a (AV.c (CV.v (Value.int IntKind.i64 (↑(Subtype.val s') : Int)))))
   (Tree.chk (XV.a (AV.c (CV.sl 0 0 0 1 n cap)) = XV.a (AV.c (CV.sl 0 0 0 1 n cap)))
   (Tree.chk (XV.a (AV.c (CV.v (Value.pointer none))) = XV.a (AV.c (CV.v (Value.pointer none))))
   (Tree.chk (XV.a (AV.c (CV.v (Value.pointer none))) = XV.a (AV.c (CV.v (Value.pointer none))))
   (Tree.chk (XV.a (AV.c (CV.ptr ⟨1, 0, 0, 2, 0, 0, 0, 0⟩)) = XV.a (AV.c (CV.ptr ⟨1, 0, 0, 2, 0, 0, 0, 0⟩)))
   (Tree.chk (XV.a (AV.c (CV.ptr ⟨3, 0, 0, 2, 0, 0, 0, 0⟩)) = XV.a (AV.c (CV.ptr ⟨3, 0, 0, 2, 0, 0, 0, 0⟩)))
   (Tree.chk (EntRel 6 [0, 1, 2, 3, 4, 5] 6 (Ent.rw own 2 1 n cap fun ii => [CV.v (Value.int IntKind.i64 (z ii))]) (Ent.rw own 2 1 n cap fun ii => [CV.v (Value.int IntKind.i64 (z ii))]))
   (Tree.chk (EntRel 6 [0, 1, 2, 3, 4, 5] 6 { own := true, box := true, ty := 72, sz := 2, m := 1, n := fun a => 1, cap := fun a => 1, f := fun x x_1 => [CV.sl 5 0 0 1 s_1.1 s_1.2, CV.v (Value.int IntKind.i64 s_1.4)], ov := [] } { own := true, box := true, ty := 72, sz := 2, m := 1, n := fun x => 1, cap := fun x => 1, f := fun x x_1 => [CV.sl 5 0 0 1 (1 + n) (c_2 0), CV.v (Value.int IntKind.i64 (4096 : Int))], ov := [] })
   (Tree.chk (EntRel 6 [0, 1, 2, 3, 4, 5] 6 Ent.dead Ent.dead)
   (Tree.chk (EntRel 6 [0, 1, 2, 3, 4, 5] 6 { own := true, box := true, ty := 78, sz := 2, m := 1, n := fun a => 1, cap := fun a => 1, f := fun x x_1 => [CV.sl 4 0 0 4 k k, CV.v (Value.int IntKind.i64 (0 : Int))], ov := [] } { own := true, box := true, ty := 78, sz := 2, m := 1, n := fun a => 1, cap := fun a => 1, f := fun x x_1 => [CV.sl 4 0 0 4 k k, CV.v (Value.int IntKind.i64 (0 : Int))], ov := [] })
   (Tree.chk (EntRel 6 [0, 1, 2, 3, 4, 5] 6 (Ent.rw true 59 4 k k fun ii => [CV.v (Value.bool false), CV.v (Value.bool false), CV.v (Value.bool false), CV.v (Value.int IntKind.i64 (0 : Int))]) (Ent.rw true 59 4 k k fun ii => [CV.v (Value.bool false), CV.v (Value.bool false), CV.v (Value.bool false), CV.v (Value.int IntKind.i64 (0 : Int))]))
   (Tree.chk (EntRel 6 [0, 1, 2, 3, 4, 5] 6 (Ent.rw true 2 1 s_1.1 s_1.2 fun ii => [CV.v (Value.int IntKind.i64 (if ii = Int.toNat (IntKind.wrap IntKind.i64 ((↑(Subtype.val s) : Int) + (1 : Int))) then z (Int.toNat (↑(Subtype.val s) : Int)) else s_1.3 ii))]) (Ent.rw true 2 1 (1 + n) (c_2 0) fun ii => [CV.v (Value.int IntKind.i64 (if ii = 0 then (0 : Int) else if ii ≤ Subtype.val s' then z (ii - 1) else (0 : Int)))]))
   (Tree.need True)))))))))))))))))
   (Tree.done (XV.tup [AV.c (CV.ptr ⟨1, 0, 0, 2, 0, 0, 0, 0⟩), AV.c (CV.ptr ⟨3, 0, 0, 2, 0, 0, 0, 0⟩)]) [(Ent.rw own 2 1 n cap fun ii => [CV.v (Value.int IntKind.i64 (z ii))]), { own := true, box := true, ty := 72, sz := 2, m := 1, n := fun x => 1, cap := fun x => 1, f := fun x x_1 => [CV.sl 5 0 0 1 (1 + n) (c_2 0), CV.v (Value.int IntKind.i64 (4096 : Int))], ov := [] }, Ent.dead, { own := true, box := true, ty := 78, sz := 2, m := 1, n := fun a => 1, cap := fun a => 1, f := fun x x_1 => [CV.sl 4 0 0 4 k k, CV.v (Value.int IntKind.i64 (0 : Int))], ov := [] }, (Ent.rw true 59 4 k k fun ii => [CV.v (Value.bool false), CV.v (Value.bool false), CV.v (Value.bool false), CV.v (Value.int IntKind.i64 (0 : Int))]), (Ent.rw true 2 1 (1 + n) (c_2 0) fun ii => [CV.v (Value.int IntKind.i64 (if ii = 0 then (0 : Int) else if ii ≤ Subtype.val s then z (ii - 1) else (0 : Int)))])]))))))
   (Tree.both
   (Tree.chk (XV.a (AV.c (CV.v (Value.int IntKind.i64 (0 : Int)))) = XV.a (AV.c (CV.v (Value.int IntKind.i64 (0 : Int)))))
   (Tree.chk (XV.a (AV.c (CV.sl 0 0 0 1 n cap)) = XV.a (AV.c (CV.sl 0 0 0 1 n cap)))
   (Tree.chk (XV.a (AV.c (CV.v (Value.pointer none))) = XV.a (AV.c (CV.v (Value.pointer none))))
   (Tree.chk (XV.a (AV.c (CV.v (Value.pointer none))) = XV.a (AV.c (CV.v (Value.pointer none))))
   (Tree.chk (XV.a (AV.c (CV.ptr ⟨1, 0, 0, 2, 0, 0, 0, 0⟩)) = XV.a (AV.c (CV.ptr ⟨1, 0, 0, 2, 0, 0, 0, 0⟩)))
   (Tree.chk (XV.a (AV.c (CV.ptr ⟨3, 0, 0, 2, 0, 0, 0, 0⟩)) = XV.a (AV.c (CV.ptr ⟨3, 0, 0, 2, 0, 0, 0, 0⟩)))
   (Tree.chk (EntRel 5 [0, 1, 2, 3, 4] 5 (Ent.rw own 2 1 n cap fun ii => [CV.v (Value.int IntKind.i64 (z ii))]) (Ent.rw own 2 1 n cap fun ii => [CV.v (Value.int IntKind.i64 (z ii))]))
   (Tree.chk (EntRel 5 [0, 1, 2, 3, 4] 5 { own := true, box := true, ty := 72, sz := 2, m := 1, n := fun a => 1, cap := fun a => 1, f := fun x x_1 => [CV.sl 2 0 0 1 1 1, CV.v (Value.int IntKind.i64 (4096 : Int))], ov := [] } { own := true, box := true, ty := 72, sz := 2, m := 1, n := fun x => 1, cap := fun x => 1, f := fun x x_1 => [CV.sl 2 0 0 1 (1 + n) 1, CV.v (Value.int IntKind.i64 (4096 : Int))], ov := [] })
   (Tree.chk (EntRel 5 [0, 1, 2, 3, 4] 5 (Ent.rw true 2 1 1 1 fun ii => [CV.v (Value.int IntKind.i64 (0 : Int))]) (Ent.rw true 2 1 (1 + n) 1 fun ii => [CV.v (Value.int IntKind.i64 (if ii = 0 then (0 : Int) else if ii ≤ 0 then z (ii - 1) else (0 : Int)))]))
   (Tree.chk (EntRel 5 [0, 1, 2, 3, 4] 5 { own := true, box := true, ty := 78, sz := 2, m := 1, n := fun a => 1, cap := fun a => 1, f := fun x x_1 => [CV.sl 4 0 0 4 k k, CV.v (Value.int IntKind.i64 (0 : Int))], ov := [] } { own := true, box := true, ty := 78, sz := 2, m := 1, n := fun a => 1, cap := fun a => 1, f := fun x x_1 => [CV.sl 4 0 0 4 k k, CV.v (Value.int IntKind.i64 (0 : Int))], ov := [] })
   (Tree.chk (EntRel 5 [0, 1, 2, 3, 4] 5 (Ent.rw true 59 4 k k fun ii => [CV.v (Value.bool false), CV.v (Value.bool false), CV.v (Value.bool false), CV.v (Value.int IntKind.i64 (0 : Int))]) (Ent.rw true 59 4 k k fun ii => [CV.v (Value.bool false), CV.v (Value.bool false), CV.v (Value.bool false), CV.v (Value.int IntKind.i64 (0 : Int))]))
   (Tree.need True))))))))))))
   (Tree.every { i // i ≤ n } fun s => Tree.br (decide ((↑(Subtype.val s) : Int) < (↑n : Int)))
   (Tree.chk ((0 : Int) ≤ (↑(Subtype.val s) : Int) ∧ (↑(Subtype.val s) : Int) < (↑n : Int) ∧ Int.toNat (↑(Subtype.val s) : Int) < n ∧ 0 < 1)
   (Tree.chk (0 < 1 ∧ Int.toNat (↑(Subtype.val s) : Int) < n)
   (Tree.some_ Ar fun s_1 => Tree.callf 21 [AV.c (CV.ptr ⟨1, 0, 0, 2, 0, 0, 0, 0⟩), AV.c (CV.v (Value.int IntKind.i64 (IntKind.wrap IntKind.i64 ((↑(Subtype.val s) : Int) + (1 : Int))))), AV.c (CV.v (Value.int IntKind.i64 (z (Int.toNat (↑(Subtype.val s) : Int)))))] [(Ent.rw own 2 1 n cap fun ii => [CV.v (Value.int IntKind.i64 (z ii))]), { own := true, box := true, ty := 72, sz := 2, m := 1, n := fun x => 1, cap := fun x => 1, f := fun x x_1 => [CV.sl 2 0 0 1 (1 + n) 1, CV.v (Value.int IntKind.i64 (4096 : Int))], ov := [] }, (Ent.rw true 2 1 (1 + n) 1 fun ii => [CV.v (Value.int IntKind.i64 (if ii = 0 then (0 : Int) else if ii ≤ Subtype.val s then z (ii - 1) else (0 : Int)))]), { own := true, box := true, ty := 78, sz := 2, m := 1, n := fun a => 1, cap := fun a => 1, f := fun x x_1 => [CV.sl 4 0 0 4 k k, CV.v (Value.int IntKind.i64 (0 : Int))], ov := [] }, (Ent.rw true 59 4 k k fun ii => [CV.v (Value.bool false), CV.v (Value.bool false), CV.v (Value.bool false), CV.v (Value.int IntKind.i64 (0 : Int))])] (storeC s_1 { n := s_1.1, cap := s_1.2, C := fun j => if j = Int.toNat (IntKind.wrap IntKind.i64 ((↑(Subtype.val s) : Int) + (1 : Int))) then z (Int.toNat (↑(Subtype.val s) : Int)) else s_1.3 j, most := s_1.4 } (IntKind.wrap IntKind.i64 ((↑(Subtype.val s) : Int) + (1 : Int))) (z (Int.toNat (↑(Subtype.val s) : Int))) (CV.v Value.nilIface) [1, 2]) fun c_2 => Tree.br false
   (Tree.done (XV.tup [AV.c (CV.v (Value.pointer none)), AV.c (CV.v (Value.pointer none))]) [(Ent.rw own 2 1 n cap fun ii => [CV.v (Value.int IntKind.i64 (z ii))]), { own := true, box := true, ty := 72, sz := 2, m := 1, n := fun a => 1, cap := fun a => 1, f := fun x x_1 => [CV.sl 2 0 0 1 s_1.1 s_1.2, CV.v (Value.int IntKind.i64 s_1.4)], ov := [] }, (Ent.rw true 2 1 s_1.1 s_1.2 fun ii => [CV.v (Value.int IntKind.i64 (if ii = Int.toNat (IntKind.wrap IntKind.i64 ((↑(Subtype.val s) : Int) + (1 : Int))) then z (Int.toNat (↑(Subtype.val s) : Int)) else s_1.3 ii))]), { own := true, box := true, ty := 78, sz := 2, m := 1, n := fun a => 1, cap := fun a => 1, f := fun x x_1 => [CV.sl 4 0 0 4 k k, CV.v (Value.int IntKind.i64 (0 : Int))], ov := [] }, (Ent.rw true 59 4 k k fun ii => [CV.v (Value.bool false), CV.v (Value.bool false), CV.v (Value.bool false), CV.v (Value.int IntKind.i64 (0 : Int))])])
   (Tree.some_ { i // i ≤ n } fun s' => Tree.chk (n - Subtype.val s' < n - Subtype.val s)
   (Tree.chk (XV.a (AV.c (CV.v (Value.int IntKind.i64 (IntKind.wrap IntKind.i64 ((↑(Subtype.val s) : Int) + (1 : Int)))))) = XV.a (AV.c (CV.v (Value.int IntKind.i64 (↑(Subtype.val s') : Int)))))
   (Tree.chk (XV.a (AV.c (CV.sl 0 0 0 1 n cap)) = XV.a (AV.c (CV.sl 0 0 0 1 n cap)))
   (Tree.chk (XV.a (AV.c (CV.v (Value.pointer none))) = XV.a (AV.c (CV.v (Value.pointer none))))
   (Tree.chk (XV.a (AV.c (CV.v (Value.pointer none))) = XV.a (AV.c (CV.v (Value.pointer none))))
   (Tree.chk (XV.a (AV.c (CV.ptr ⟨1, 0, 0, 2, 0, 0, 0, 0⟩)) = XV.a (AV.c (CV.ptr ⟨1, 0, 0, 2, 0, 0, 0, 0⟩)))
   (Tree.chk (XV.a (AV.c (CV.ptr ⟨3, 0, 0, 2, 0, 0, 0, 0⟩)) = XV.a (AV.c (CV.ptr ⟨3, 0, 0, 2, 0, 0, 0, 0⟩)))
   (Tree.chk (EntRel 5 [0, 1, 2, 3, 4] 5 (Ent.rw own 2 1 n cap fun ii => [CV.v (Value.int IntKind.i64 (z ii))]) (Ent.rw own 2 1 n cap fun ii => [CV.v (Value.int IntKind.i64 (z ii))]))
   (Tree.chk (EntRel 5 [0, 1, 2, 3, 4] 5 { own := true, box := true, ty := 72, sz := 2, m := 1, n := fun a => 1, cap := fun a => 1, f := fun x x_1 => [CV.sl 2 0 0 1 s_1.1 s_1.2, CV.v (Value.int IntKind.i64 s_1.4)], ov := [] } { own := true, box := true, ty := 72, sz := 2, m := 1, n := fun x => 1, cap := fun x => 1, f := fun x x_1 => [CV.sl 2 0 0 1 (1 + n) 1, CV.v (Value.int IntKind.i64 (4096 : Int))], ov := [] })
   (Tree.chk (EntRel 5 [0, 1, 2, 3, 4] 5 (Ent.rw true 2 1 s_1.1 s_1.2 fun ii => [CV.v (Value.int IntKind.i64 (if ii = Int.toNat (IntKind.wrap IntKind.i64 ((↑(Subtype.val s) : Int) + (1 : Int))) then z (Int.toNat (↑(Subtype.val s) : Int)) else s_1.3 ii))]) (Ent.rw true 2 1 (1 + n) 1 fun ii => [CV.v (Value.int IntKind.i64 (if ii = 0 then (0 : Int) else if ii ≤ Subtype.val s' then z (ii - 1) else (0 : Int)))]))
   (Tree.chk (EntRel 5 [0, 1, 2, 3, 4] 5 { own := true, box := true, ty := 78, sz := 2, m := 1, n := fun a => 1, cap := fun a => 1, f := fun x x_1 => [CV.sl 4 0 0 4 k k, CV.v (Value.int IntKind.i64 (0 : Int))], ov := [] } { own := true, box := true, ty := 78, sz := 2, m := 1, n := fun a => 1, cap := fun a => 1, f := fun x x_1 => [CV.sl 4 0 0 4 k k, CV.v (Value.int IntKind.i64 (0 : Int))], ov := [] })
   (Tree.chk (EntRel 5 [0, 1, 2, 3, 4] 5 (Ent.rw true 59 4 k k fun ii => [CV.v (Value.bool false), CV.v (Value.bool false), CV.v (Value.bool false), CV.v (Value.int IntKind.i64 (0 : Int))]) (Ent.rw true 59 4 k k fun ii => [CV.v (Value.bool false), CV.v (Value.bool false), CV.v (Value.bool false), CV.v (Value.int IntKind.i64 (0 : Int))]))
   (Tree.need True))))))))))))))))
   (Tree.done (XV.tup [AV.c (CV.ptr ⟨1, 0, 0, 2, 0, 0, 0, 0⟩), AV.c (CV.ptr ⟨3, 0, 0, 2, 0, 0, 0, 0⟩)]) [(Ent.rw own 2 1 n cap fun ii => [CV.v (Value.int IntKind.i64 (z ii))]), { own := true, box := true, ty := 72, sz := 2, m := 1, n := fun x => 1, cap := fun x => 1, f := fun x x_1 => [CV.sl 2 0 0 1 (1 + n) 1, CV.v (Value.int IntKind.i64 (4096 : Int))], ov := [] }, (Ent.rw true 2 1 (1 + n) 1 fun ii => [CV.v (Value.int IntKind.i64 (if ii = 0 then (0 : Int) else if ii ≤ Subtype.val s then z (ii - 1) else (0 : Int)))]), { own := true, box := true, ty := 78, sz := 2, m := 1, n := fun a => 1, cap := fun a => 1, f := fun x x_1 => [CV.sl 4 0 0 4 k k, CV.v (Value.int IntKind.i64 (0 : Int))], ov := [] }, (Ent.rw true 59 4 k k fun ii => [CV.v (Value.bool false), CV.v (Value.bool false), CV.v (Value.bool false), CV.v (Value.int IntKind.i64 (0 : Int))])]))))))))))
theorem tmade_eq (own : Bool) (n cap k : Nat) (z : Nat → Int) : xfunc tab (madeG k) (lpI fun _ tm H => madeI n z 1 tm H) Go.Proofs.Try.f8 [.c (.sl 0 0 0 1 n cap), iav k] [irow own n cap z] [0, 1, 2, 3, 4, 5] = tmade own n cap k z := by kernel_rfl
def tmade0 (k : Nat) : Tree :=
  Tree.callf 18 [AV.c (CV.v (Value.int IntKind.i64 (4096 : Int)))] [] (newAC 0) fun c => Tree.callf 19 [AV.c (CV.v (Value.int IntKind.i64 (↑k : Int)))] [{ own := true, box := true, ty := 72, sz := 2, m := 1, n := fun a => 1, cap := fun a => 1, f := fun x x_1 => [CV.sl 1 0 0 1 1 1, CV.v (Value.int IntKind.i64 (4096 : Int))], ov := [] }, (Ent.rw true 2 1 1 1 fun ii => [CV.v (Value.int IntKind.i64 (0 : Int))])] (newTC k 2) fun c_1 => Tree.chk (true = true → true = true)
   (Tree.chk (false = false → true = true)
   (Tree.chk (true = true → true = true)
   (Tree.chk (false = false → true = true)
   (Tree.chk (true = true → true = true)
   (Tree.chk (false = false → true = true)
   (Tree.br false
   (Tree.done (XV.tup [AV.c (CV.v (Value.pointer none)), AV.c (CV.v (Value.pointer none))]) [{ own := true, box := true, ty := 72, sz := 2, m := 1, n := fun a => 1, cap := fun a => 1, f := fun x x_1 => [CV.sl 1 0 0 1 1 1, CV.v (Value.int IntKind.i64 (4096 : Int))], ov := [] }, (Ent.rw true 2 1 1 1 fun ii => [CV.v (Value.int IntKind.i64 (0 : Int))]), { own := true, box := true, ty := 78, sz := 2, m := 1, n := fun a => 1, cap := fun a => 1, f := fun x x_1 => [CV.sl 3 0 0 4 k k, CV.v (Value.int IntKind.i64 (0 : Int))], ov := [] }, (Ent.rw true 59 4 k k fun ii => [CV.v (Value.bool false), CV.v (Value.bool false), CV.v (Value.bool false), CV.v (Value.int IntKind.i64 (0 : Int))])])
   (Tree.br false
   (Tree.br true
   (Tree.callf 20 [AV.c (CV.ptr ⟨0, 0, 0, 2, 0, 0, 0, 0⟩), AV.c (CV.v (Value.int IntKind.i64 (0 : Int)))] [{ own := true, box := true, ty := 72, sz := 2, m := 1, n := fun a => 1, cap := fun a => 1, f := fun x x_1 => [CV.sl 1 0 0 1 1 1, CV.v (Value.int IntKind.i64 (4096 : Int))], ov := [] }, (Ent.rw true 2 1 1 1 fun ii => [CV.v (Value.int IntKind.i64 (0 : Int))]), { own := true, box := true, ty := 78, sz := 2, m := 1, n := fun a => 1, cap := fun a => 1, f := fun x x_1 => [CV.sl 3 0 0 4 k k, CV.v (Value.int IntKind.i64 (0 : Int))], ov := [] }, (Ent.rw true 59 4 k k fun ii => [CV.v (Value.bool false), CV.v (Value.bool false), CV.v (Value.bool false), CV.v (Value.int IntKind.i64 (0 : Int))])] (allocC { n := 1, cap := 1, C := fun x => (0 : Int), most := (4096 : Int) } { n := 1, cap := 1, C := fun x => (0 : Int), most := (4096 : Int) } (0 : Int) (0 : Int) (CV.v (Value.iface 36 (Value.int IntKind.i64 (1 : Int)))) [0, 1] 4) fun c_2 => Tree.br true
   (Tree.done (XV.tup [AV.c (CV.v (Value.pointer none)), AV.c (CV.v (Value.pointer none))]) [{ own := true, box := true, ty := 72, sz := 2, m := 1, n := fun a => 1, cap := fun a => 1, f := fun x x_1 => [CV.sl 4 0 0 1 1 (c_2 0), CV.v (Value.int IntKind.i64 (4096 : Int))], ov := [] }, Ent.dead, { own := true, box := true, ty := 78, sz := 2, m := 1, n := fun a => 1, cap := fun a => 1, f := fun x x_1 => [CV.sl 3 0 0 4 k k, CV.v (Value.int IntKind.i64 (0 : Int))], ov := [] }, (Ent.rw true 59 4 k k fun ii => [CV.v (Value.bool false), CV.v (Value.bool false), CV.v (Value.bool false), CV.v (Value.int IntKind.i64 (0 : Int))]), (Ent.rw true 2 1 1 (c_2 0) fun ii => [CV.v (Value.int IntKind.i64 (0 : Int))])])
   (Tree.both
   (Tree.chk (XV.a (AV.c (CV.v (Value.int IntKind.i64 (0 : Int)))) = XV.a (AV.c (CV.v (Value.int IntKind.i64 (0 : Int)))))
   (Tree.chk (XV.a (AV.c (CV.v (Value.slice none 0 0))) = XV.a (AV.c (CV.v (Value.slice none 0 0))))
   (Tree.chk (XV.a (AV.c (CV.v (Value.pointer none))) = XV.a (AV.c (CV.v (Value.pointer none))))
   (Tree.chk (XV.a (AV.c (CV.v (Value.pointer none))) = XV.a (AV.c (CV.v (Value.pointer none))))
   (Tree.chk (XV.a (AV.c (CV.ptr ⟨0, 0, 0, 2, 0, 0, 0, 0⟩)) = XV.a (AV.c (CV.ptr ⟨0, 0, 0, 2, 0, 0, 0, 0⟩)))
   (Tree.chk (XV.a (AV.c (CV.ptr ⟨2, 0, 0, 2, 0, 0, 0, 0⟩)) = XV.a (AV.c (CV.ptr ⟨2, 0, 0, 2, 0, 0, 0, 0⟩)))
   (Tree.chk (EntRel 5 [0, 1, 2, 3, 4] 5 { own := true, box := true, ty := 72, sz := 2, m := 1, n := fun a => 1, cap := fun a => 1, f := fun x x_1 => [CV.sl 4 0 0 1 1 (c_2 0), CV.v (Value.int IntKind.i64 (4096 : Int))], ov := [] } { own := true, box := true, ty := 72, sz := 2, m := 1, n := fun x => 1, cap := fun x => 1, f := fun x x_1 => [CV.sl 4 0 0 1 1 (c_2 0), CV.v (Value.int IntKind.i64 (4096 : Int))], ov := [] })
   (Tree.chk (EntRel 5 [0, 1, 2, 3, 4] 5 Ent.dead Ent.dead)
   (Tree.chk (EntRel 5 [0, 1, 2, 3, 4] 5 { own := true, box := true, ty := 78, sz := 2, m := 1, n := fun a => 1, cap := fun a => 1, f := fun x x_1 => [CV.sl 3 0 0 4 k k, CV.v (Value.int IntKind.i64 (0 : Int))], ov := [] } { own := true, box := true, ty := 78, sz := 2, m := 1, n := fun a => 1, cap := fun a => 1, f := fun x x_1 => [CV.sl 3 0 0 4 k k, CV.v (Value.int IntKind.i64 (0 : Int))], ov := [] })
   (Tree.chk (EntRel 5 [0, 1, 2, 3, 4] 5 (Ent.rw true 59 4 k k fun ii => [CV.v (Value.bool false), CV.v (Value.bool false), CV.v (Value.bool false), CV.v (Value.int IntKind.i64 (0 : Int))]) (Ent.rw true 59 4 k k fun ii => [CV.v (Value.bool false), CV.v (Value.bool false), CV.v (Value.bool false), CV.v (Value.int IntKind.i64 (0 : Int))]))
   (Tree.chk (EntRel 5 [0, 1, 2, 3, 4] 5 (Ent.rw true 2 1 1 (c_2 0) fun ii => [CV.v (Value.int IntKind.i64 (0 : Int))]) (Ent.rw true 2 1 1 (c_2 0) fun ii => [CV.v (Value.int IntKind.i64 (if ii = 0 then (0 : Int) else if ii ≤ 0 then (0 : Int) else (0 : Int)))]))
   (Tree.need True))))))))))))
   (Tree.every { i // i ≤ 0 } fun s => Tree.br false
   (Tree.fail 67)
   (Tree.done (XV.tup [AV.c (CV.ptr ⟨0, 0, 0, 2, 0, 0, 0, 0⟩), AV.c (CV.ptr ⟨2, 0, 0, 2, 0, 0, 0, 0⟩)]) [{ own := true, box := true, ty := 72, sz := 2, m := 1, n := fun x => 1, cap := fun x => 1, f := fun x x_1 => [CV.sl 4 0 0 1 1 (c_2 0), CV.v (Value.int IntKind.i64 (4096 : Int))], ov := [] }, Ent.dead, { own := true, box := true, ty := 78, sz := 2, m := 1, n := fun a => 1, cap := fun a => 1, f := fun x x_1 => [CV.sl 3 0 0 4 k k, CV.v (Value.int IntKind.i64 (0 : Int))], ov := [] }, (Ent.rw true 59 4 k k fun ii => [CV.v (Value.bool false), CV.v (Value.bool false), CV.v (Value.bool false), CV.v (Value.int IntKind.i64 (0 : Int))]), (Ent.rw true 2 1 1 (c_2 0) fun ii => [CV.v (Value.int IntKind.i64 (if ii = 0 then (0 : Int) else if ii ≤ Subtype.val s then (0 : Int) else (0 : Int)))])]))))
   (Tree.br false
   (Tree.callf 20 [AV.c (CV.ptr ⟨0, 0, 0, 2, 0, 0, 0, 0⟩), AV.c (CV.v (Value.int IntKind.i64 (0 : Int)))] [{ own := true, box := true, ty := 72, sz := 2, m := 1, n := fun a => 1, cap := fun a => 1, f := fun x x_1 => [CV.sl 1 0 0 1 1 1, CV.v (Value.int IntKind.i64 (4096 : Int))], ov := [] }, (Ent.rw true 2 1 1 1 fun ii => [CV.v (Value.int IntKind.i64 (0 : Int))]), { own := true, box := true, ty := 78, sz := 2, m := 1, n := fun a => 1, cap := fun a => 1, f := fun x x_1 => [CV.sl 3 0 0 4 k k, CV.v (Value.int IntKind.i64 (0 : Int))], ov := [] }, (Ent.rw true 59 4 k k fun ii => [CV.v (Value.bool false), CV.v (Value.bool false), CV.v (Value.bool false), CV.v (Value.int IntKind.i64 (0 : Int))])] (allocC { n := 1, cap := 1, C := fun x => (0 : Int), most := (4096 : Int) } { n := 1, cap := 1, C := fun x => (0 : Int), most := (4096 : Int) } (0 : Int) (0 : Int) (CV.v (Value.iface 36 (Value.int IntKind.i64 (3 : Int)))) [0, 1] 4) fun c_2 => Tree.br true
   (Tree.done (XV.tup [AV.c (CV.v (Value.pointer none)), AV.c (CV.v (Value.pointer none))]) [{ own := true, box := true, ty := 72, sz := 2, m := 1, n := fun a => 1, cap := fun a => 1, f := fun x x_1 => [CV.sl 4 0 0 1 1 (c_2 0), CV.v (Value.int IntKind.i64 (4096 : Int))], ov := [] }, Ent.dead, { own := true, box := true, ty := 78, sz := 2, m := 1, n := fun a => 1, cap := fun a => 1, f := fun x x_1 => [CV.sl 3 0 0 4 k k, CV.v (Value.int IntKind.i64 (0 : Int))], ov := [] }, (Ent.rw true 59 4 k k fun ii => [CV.v (Value.bool false), CV.v (Value.bool false), CV.v (Value.bool false), CV.v (Value.int IntKind.i64 (0 : Int))]), (Ent.rw true 2 1 1 (c_2 0) fun ii => [CV.v (Value.int IntKind.i64 (0 : Int))])])
   (Tree.both
   (Tree.chk (XV.a (AV.c (CV.v (Value.int IntKind.i64 (0 : Int)))) = XV.a (AV.c (CV.v (Value.int IntKind.i64 (0 : Int)))))
   (Tree.chk (XV.a (AV.c (CV.v (Value.slice none 0 0))) = XV.a (AV.c (CV.v (Value.slice none 0 0))))
   (Tree.chk (XV.a (AV.c (CV.v (Value.pointer none))) = XV.a (AV.c (CV.v (Value.pointer none))))
   (Tree.chk (XV.a (AV.c (CV.v (Value.pointer none))) = XV.a (AV.c (CV.v (Value.pointer none))))
   (Tree.chk (XV.a (AV.c (CV.ptr ⟨0, 0, 0, 2, 0, 0, 0, 0⟩)) = XV.a (AV.c (CV.ptr ⟨0, 0, 0, 2, 0, 0, 0, 0⟩)))
   (Tree.chk (XV.a (AV.c (CV.ptr ⟨2, 0, 0, 2, 0, 0, 0, 0⟩)) = XV.a (AV.c (CV.ptr ⟨2, 0, 0, 2, 0, 0, 0, 0⟩)))
   (Tree.chk (EntRel 5 [0, 1, 2, 3, 4] 5 { own := true, box := true, ty := 72, sz := 2, m := 1, n := fun a => 1, cap := fun a => 1, f := fun x x_1 => [CV.sl 4 0 0 1 1 (c_2 0), CV.v (Value.int IntKind.i64 (4096 : Int))], ov := [] } { own := true, box := true, ty := 72, sz := 2, m := 1, n := fun x => 1, cap := fun x => 1, f := fun x x_1 => [CV.sl 4 0 0 1 1 (c_2 0), CV.v (Value.int IntKind.i64 (4096 : Int))], ov := [] })
   (Tree.chk (EntRel 5 [0, 1, 2, 3, 4] 5 Ent.dead Ent.dead)
   (Tree.chk (EntRel 5 [0, 1, 2, 3, 4] 5 { own := true, box := true, ty := 78, sz := 2, m := 1, n := fun a => 1, cap := fun a => 1, f := fun x x_1 => [CV.sl 3 0 0 4 k k, CV.v (Value.int IntKind.i64 (0 : Int))], ov := [] } { own := true, box := true, ty := 78, sz := 2, m := 1, n := fun a => 1, cap := fun a => 1, f := fun x x_1 => [CV.sl 3 0 0 4 k k, CV.v (Value.int IntKind.i64 (0 : Int))], ov := [] })
   (Tree.chk (EntRel 5 [0, 1, 2, 3, 4] 5 (Ent.rw true 59 4 k k fun ii => [CV.v (Value.bool false), CV.v (Value.bool false), CV.v (Value.bool false), CV.v (Value.int IntKind.i64 (0 : Int))]) (Ent.rw true 59 4 k k fun ii => [CV.v (Value.bool false), CV.v (Value.bool false), CV.v (Value.bool false), CV.v (Value.int IntKind.i64 (0 : Int))]))
   (Tree.chk (EntRel 5 [0, 1, 2, 3, 4] 5 (Ent.rw true 2 1 1 (c_2 0) fun ii => [CV.v (Value.int IntKind.i64 (0 : Int))]) (Ent.rw true 2 1 1 (c_2 0) fun ii => [CV.v (Value.int IntKind.i64 (if ii = 0 then (0 : Int) else if ii ≤ 0 then (0 : Int) else (0 : Int)))]))
   (Tree.need True))))))))))))
   (Tree.every { i // i ≤ 0 } fun s => Tree.br false
   (Tree.fail 67)
   (Tree.done (XV.tup [AV.c (CV.ptr ⟨0, 0, 0, 2, 0, 0, 0, 0⟩), AV.c (CV.ptr ⟨2, 0, 0, 2, 0, 0, 0, 0⟩)]) [{ own := true, box := true, ty := 72, sz := 2, m := 1, n := fun x => 1, cap := fun x => 1, f := fun x x_1 => [CV.sl 4 0 0 1 1 (c_2 0), CV.v (Value.int IntKind.i64 (4096 : Int))], ov := [] }, Ent.dead, { own := true, box := true, ty := 78, sz := 2, m := 1, n := fun a => 1, cap := fun a => 1, f := fun x x_1 => [CV.sl 3 0 0 4 k k, CV.v (Value.int IntKind.i64 (0 : Int))], ov := [] }, (Ent.rw true 59 4 k k fun ii => [CV.v (Value.bool false), CV.v (Value.bool false), CV.v (Value.bool false), CV.v (Value.int IntKind.i64 (0 : Int))]), (Ent.rw true 2 1 1 (c_2 0) fun ii => [CV.v (Value.int IntKind.i64 (if ii = 0 then (0 : Int) else if ii ≤ Subtype.val s then (0 : Int) else (0 : Int)))])]))))
   (Tree.callf 20 [AV.c (CV.ptr ⟨0, 0, 0, 2, 0, 0, 0, 0⟩), AV.c (CV.v (Value.int IntKind.i64 (0 : Int)))] [{ own := true, box := true, ty := 72, sz := 2, m := 1, n := fun a => 1, cap := fun a => 1, f := fun x x_1 => [CV.sl 1 0 0 1 1 1, CV.v (Value.int IntKind.i64 (4096 : Int))], ov := [] }, (Ent.rw true 2 1 1 1 fun ii => [CV.v (Value.int IntKind.i64 (0 : Int))]), { own := true, box := true, ty := 78, sz := 2, m := 1, n := fun a => 1, cap := fun a => 1, f := fun x x_1 => [CV.sl 3 0 0 4 k k, CV.v (Value.int IntKind.i64 (0 : Int))], ov := [] }, (Ent.rw true 59 4 k k fun ii => [CV.v (Value.bool false), CV.v (Value.bool false), CV.v (Value.bool false), CV.v (Value.int IntKind.i64 (0 : Int))])] (allocC { n := 1, cap := 1, C := fun x => (0 : Int), most := (4096 : Int) } { n := 1, cap := 1, C := fun j => if j < 1 then (0 : Int) else (0 : Int), most := (4096 : Int) } (0 : Int) (1 : Int) (CV.v Value.nilIface) [0, 1] 4) fun c_2 => Tree.br false
   (Tree.done (XV.tup [AV.c (CV.v (Value.pointer none)), AV.c (CV.v (Value.pointer none))]) [{ own := true, box := true, ty := 72, sz := 2, m := 1, n := fun a => 1, cap := fun a => 1, f := fun x x_1 => [CV.sl 4 0 0 1 1 (c_2 0), CV.v (Value.int IntKind.i64 (4096 : Int))], ov := [] }, Ent.dead, { own := true, box := true, ty := 78, sz := 2, m := 1, n := fun a => 1, cap := fun a => 1, f := fun x x_1 => [CV.sl 3 0 0 4 k k, CV.v (Value.int IntKind.i64 (0 : Int))], ov := [] }, (Ent.rw true 59 4 k k fun ii => [CV.v (Value.bool false), CV.v (Value.bool false), CV.v (Value.bool false), CV.v (Value.int IntKind.i64 (0 : Int))]), (Ent.rw true 2 1 1 (c_2 0) fun ii => [CV.v (Value.int IntKind.i64 (if ii < 1 then (0 : Int) else (0 : Int)))])])
   (Tree.both
   (Tree.chk (XV.a (AV.c (CV.v (Value.int IntKind.i64 (0 : Int)))) = XV.a (AV.c (CV.v (Value.int IntKind.i64 (0 : Int)))))
   (Tree.chk (XV.a (AV.c (CV.v (Value.slice none 0 0))) = XV.a (AV.c (CV.v (Value.slice none 0 0))))
   (Tree.chk (XV.a (AV.c (CV.v (Value.pointer none))) = XV.a (AV.c (CV.v (Value.pointer none))))
   (Tree.chk (XV.a (AV.c (CV.v (Value.pointer none))) = XV.a (AV.c (CV.v (Value.pointer none))))
   (Tree.chk (XV.a (AV.c (CV.ptr ⟨0, 0, 0, 2, 0, 0, 0, 0⟩)) = XV.a (AV.c (CV.ptr ⟨0, 0, 0, 2, 0, 0, 0, 0⟩)))
   (Tree.chk (XV.a (AV.c (CV.ptr ⟨2, 0, 0, 2, 0, 0, 0, 0⟩)) = XV.a (AV.c (CV.ptr ⟨2, 0, 0, 2, 0, 0, 0, 0⟩)))
   (Tree.chk (EntRel 5 [0, 1, 2, 3, 4] 5 { own := true, box := true, ty := 72, sz := 2, m := 1, n := fun a => 1, cap := fun a => 1, f := fun x x_1 => [CV.sl 4 0 0 1 1 (c_2 0), CV.v (Value.int IntKind.i64 (4096 : Int))], ov := [] } { own := true, box := true, ty := 72, sz := 2, m := 1, n := fun x => 1, cap := fun x => 1, f := fun x x_1 => [CV.sl 4 0 0 1 1 (c_2 0), CV.v (Value.int IntKind.i64 (4096 : Int))], ov := [] })
   (Tree.chk (EntRel 5 [0, 1, 2, 3, 4] 5 Ent.dead Ent.dead)
   (Tree.chk (EntRel 5 [0, 1, 2, 3, 4] 5 { own := true, box := true, ty := 78, sz := 2, m := 1, n := fun a => 1, cap := fun a => 1, f := fun x x_1 => [CV.sl 3 0 0 4 k k, CV.v (Value.int IntKind.i64 (0 : Int))], ov := [] } { own := true, box := true, ty := 78, sz := 2, m := 1, n := fun a => 1, cap := fun a => 1, f := fun x x_1 => [CV.sl 3 0 0 4 k k, CV.v (Value.int IntKind.i64 (0 : Int))], ov := [] })
   (Tree.chk (EntRel 5 [0, 1, 2, 3, 4] 5 (Ent.rw true 59 4 k k fun ii => [CV.v (Value.bool false), CV.v (Value.bool false), CV.v (Value.bool false), CV.v (Value.int IntKind.i64 (0 : Int))]) (Ent.rw true 59 4 k k fun ii => [CV.v (Value.bool false), CV.v (Value.bool false), CV.v (Value.bool false), CV.v (Value.int IntKind.i64 (0 : Int))]))
   (Tree.chk (EntRel 5 [0, 1, 2, 3, 4] 5 (Ent.rw true 2 1 1 (c_2 0) fun ii => [CV.v (Value.int IntKind.i64 (if ii < 1 then (0 : Int) else (0 : Int)))]) (Ent.rw true 2 1 1 (c_2 0) fun ii => [CV.v (Value.int IntKind.i64 (if ii = 0 then (0 : Int) else if ii ≤ 0 then (0 : Int) else (0 : Int)))]))
   (Tree.need True))))))))))))
   (Tree.every { i // i ≤ 0 } fun s => Tree.br false
   (Tree.fail 67)
   (Tree.done (XV.tup [AV.c (CV.ptr ⟨0, 0, 0, 2, 0, 0, 0, 0⟩), AV.c (CV.ptr ⟨2, 0, 0, 2, 0, 0, 0, 0⟩)]) [{ own := true, box := true, ty := 72, sz := 2, m := 1, n := fun x => 1, cap := fun x => 1, f := fun x x_1 => [CV.sl 4 0 0 1 1 (c_2 0), CV.v (Value.int IntKind.i64 (4096 : Int))], ov := [] }, Ent.dead, { own := true, box := true, ty := 78, sz := 2, m := 1, n := fun a => 1, cap := fun a => 1, f := fun x x_1 => [CV.sl 3 0 0 4 k k, CV.v (Value.int IntKind.i64 (0 : Int))], ov := [] }, (Ent.rw true 59 4 k k fun ii => [CV.v (Value.bool false), CV.v (Value.bool false), CV.v (Value.bool false), CV.v (Value.int IntKind.i64 (0 : Int))]), (Ent.rw true 2 1 1 (c_2 0) fun ii => [CV.v (Value.int IntKind.i64 (if ii = 0 then (0 : Int) else if ii ≤ Subtype.val s then (0 : Int) else (0 : Int)))])]))))))
   (Tree.both
   (Tree.chk (XV.a (AV.c (CV.v (Value.int IntKind.i64 (0 : Int)))) = XV.a (AV.c (CV.v (Value.int IntKind.i64 (0 : Int)))))
   (Tree.chk (XV.a (AV.c (CV.v (Value.slice none 0 0))) = XV.a (AV.c (CV.v (Value.slice none 0 0))))
   (Tree.chk (XV.a (AV.c (CV.v (Value.pointer none))) = XV.a (AV.c (CV.v (Value.pointer none))))
   (Tree.chk (XV.a (AV.c (CV.v (Value.pointer none))) = XV.a (AV.c (CV.v (Value.pointer none))))
   (Tree.chk (XV.a (AV.c (CV.ptr ⟨0, 0, 0, 2, 0, 0, 0, 0⟩)) = XV.a (AV.c (CV.ptr ⟨0, 0, 0, 2, 0, 0, 0, 0⟩)))
   (Tree.chk (XV.a (AV.c (CV.ptr ⟨2, 0, 0, 2, 0, 0, 0, 0⟩)) = XV.a (AV.c (CV.ptr ⟨2, 0, 0, 2, 0, 0, 0, 0⟩)))
   (Tree.chk (EntRel 4 [0, 1, 2, 3] 4 { own := true, box := true, ty := 72, sz := 2, m := 1, n := fun a => 1, cap := fun a => 1, f := fun x x_1 => [CV.sl 1 0 0 1 1 1, CV.v (Value.int IntKind.i64 (4096 : Int))], ov := [] } { own := true, box := true, ty := 72, sz := 2, m := 1, n := fun x => 1, cap := fun x => 1, f := fun x x_1 => [CV.sl 1 0 0 1 1 1, CV.v (Value.int IntKind.i64 (4096 : Int))], ov := [] })
   (Tree.chk (EntRel 4 [0, 1, 2, 3] 4 (Ent.rw true 2 1 1 1 fun ii => [CV.v (Value.int IntKind.i64 (0 : Int))]) (Ent.rw true 2 1 1 1 fun ii => [CV.v (Value.int IntKind.i64 (if ii = 0 then (0 : Int) else if ii ≤ 0 then (0 : Int) else (0 : Int)))]))
   (Tree.chk (EntRel 4 [0, 1, 2, 3] 4 { own := true, box := true, ty := 78, sz := 2, m := 1, n := fun a => 1, cap := fun a => 1, f := fun x x_1 => [CV.sl 3 0 0 4 k k, CV.v (Value.int IntKind.i64 (0 : Int))], ov := [] } { own := true, box := true, ty := 78, sz := 2, m := 1, n := fun a => 1, cap := fun a => 1, f := fun x x_1 => [CV.sl 3 0 0 4 k k, CV.v (Value.int IntKind.i64 (0 : Int))], ov := [] })
   (Tree.chk (EntRel 4 [0, 1, 2, 3] 4 (Ent.rw true 59 4 k k fun ii => [CV.v (Value.bool false), CV.v (Value.bool false), CV.v (Value.bool false), CV.v (Value.int IntKind.i64 (0 : Int))]) (Ent.rw true 59 4 k k fun ii => [CV.v (Value.bool false), CV.v (Value.bool false), CV.v (Value.bool false), CV.v (Value.int IntKind.i64 (0 : Int))]))
   (Tree.need True)))))))))))
   (Tree.every { i // i ≤ 0 } fun s => Tree.br false
   (Tree.fail 67)
   (Tree.done (XV.tup [AV.c (CV.ptr ⟨0, 0, 0, 2, 0, 0, 0, 0⟩), AV.c (CV.ptr ⟨2, 0, 0, 2, 0, 0, 0, 0⟩)]) [{ own := true, box := true, ty := 72, sz := 2, m := 1, n := fun x => 1, cap := fun x => 1, f := fun x x_1 => [CV.sl 1 0 0 1 1 1, CV.v (Value.int IntKind.i64 (4096 : Int))], ov := [] }, (Ent.rw true 2 1 1 1 fun ii => [CV.v (Value.int IntKind.i64 (if ii = 0 then (0 : Int) else if ii ≤ Subtype.val s then (0 : Int) else (0 : Int)))]), { own := true, box := true, ty := 78, sz := 2, m := 1, n := fun a => 1, cap := fun a => 1, f := fun x x_1 => [CV.sl 3 0 0 4 k k, CV.v (Value.int IntKind.i64 (0 : Int))], ov := [] }, (Ent.rw true 59 4 k k fun ii => [CV.v (Value.bool false), CV.v (Value.bool false), CV.v (Value.bool false), CV.v (Value.int IntKind.i64 (0 : Int))])]))))))))))
theorem tmade0_eq (k : Nat) : xfunc tab (madeG k) (lpI fun _ tm H => madeI 0 (fun _ => 0) 0 tm H) Go.Proofs.Try.f8 [.c (.v (.slice none 0 0)), iav k] [] [0, 1, 2, 3, 4, 5] = tmade0 k := by kernel_rfl
end Go.Proofs.Ytehecaipmdfjmaa.X.Mi

set_option linter.unusedVariables false
set_option linter.unusedSimpArgs false
namespace Go.Proofs.Ytehecaipmdfjmaa.X.Mi
open Go Go.RowKit Go.Proofs.YtehecaipmdfjmaaW.PrintWords Go.Proofs.Ytehecaipmdfjmaa.Base Go.Proofs.Ytehecaipmdfjmaa.X
theorem newA_call : Callable Try.prog 18 := ⟨_, Try.func18, by kernel_rfl, rfl⟩
theorem newT_call : Callable Try.prog 19 := ⟨_, Try.func19, by kernel_rfl, rfl⟩
theorem start0_local (at_ : Int) (k : Nat) : (start0C at_ k).Local Try.prog 12 := by
  refine local_of Try.func12 rfl (tstart0_eq at_) fun ν w => ?_
  repeat refine ok_chk' (by first | rfl | (intro q hq; omega) | exact ⟨by omega, by omega⟩) ?_
  exact ok_leaf (fun _ => 0) [] [1] trivial rfl ⟨⟨_, rfl, EntRel.rw rfl rfl (fun _ _ => rfl) fun _ _ => rfl⟩, trivial⟩ rfl
theorem newA_local (k : Nat) : (newAC k).Local Try.prog 18 := by
  refine local_of Try.func18 rfl (tnew_eq 4096) fun ν w => ?_
  repeat refine ok_chk' (fun h => h) ?_
  refine ok_chk' (fun _ => rfl) (ok_br' (fun h => by cases h) fun _ => ?_)
  exact ok_leaf (fun _ => 0) [] [1, 0] trivial rfl ⟨⟨_, rfl, EntRel.box' rfl rfl rfl rfl rfl⟩, ⟨_, rfl, EntRel.rw rfl rfl (fun _ _ => rfl) fun _ _ => rfl⟩, trivial⟩ rfl
theorem newT_local (n k : Nat) (h1 : 1 ≤ n) (h2 : n ≤ 8) : (newTC n k).Local Try.prog 19 := by
  refine local_of Try.func19 rfl (tnewt_eq n) fun ν w => ?_
  repeat refine ok_chk' (fun h => h) ?_
  refine ok_chk' (fun h => by rw [h]; rfl) (ok_br' (fun h => by simp at h; omega) fun _ => ok_chk' ⟨by omega, by omega, by omega⟩ ?_)
  exact ok_leaf (fun _ => 0) [] [1, 0] trivial rfl ⟨⟨_, rfl, EntRel.box' rfl rfl rfl rfl rfl⟩, ⟨_, rfl, EntRel.rw (by show n = Int.toNat n; simp) (by show n = Int.toNat n; simp) (fun _ _ => rfl) fun _ _ => rfl⟩, trivial⟩ rfl
end Go.Proofs.Ytehecaipmdfjmaa.X.Mi

set_option linter.unusedVariables false
set_option linter.unusedSimpArgs false
namespace Go.Proofs.Ytehecaipmdfjmaa.X.Mi
open Go Go.RowKit Go.Proofs.YtehecaipmdfjmaaW.PrintWords Go.Proofs.Ytehecaipmdfjmaa.Base Go.Proofs.Ytehecaipmdfjmaa.X
abbrev madeC (own : Bool) (n cap k : Nat) (z : Nat → Int) (ρ : List Nat) (kk : Nat) : CallSpec := mSpec ρ kk [.c (.sl 0 0 0 1 n cap), iav k] [irow own n cap z] (fun _ => True) (fun _ => .tup [bptr 1 2, bptr 3 2]) fun c => [irow own n cap z, (madeF n n (c 0) z).box 2, (madeF n n (c 0) z).row, (newT k).box 4, (newT k).row]
abbrev made0C (k kk : Nat) : CallSpec := mSpec [] kk [.c (.v (.slice none 0 0)), iav k] [] (fun _ => True) (fun _ => .tup [bptr 0 2, bptr 2 2]) fun c => [newA.box 1, newA.row, (newT k).box 3, (newT k).row]
theorem newA_ok : newA.Ok := ⟨Nat.le_refl _, by decide, by decide, by decide⟩
theorem newA_full {n : Nat} (h : n ≤ 100) : fullF newA n = false := by
  unfold fullF
  rw [lenF_eq newA_ok]
  have : IntKind.wrap .i64 (newA.most - ((newA.n : Int) - 1)) = 4096 := rfl
  rw [this]
  simp
  omega
theorem madeF_ok {n i cap : Nat} {z : Nat → Int} (h : n ≤ 100) : (madeF n i cap z).Ok := ⟨by show 1 ≤ 1 + n; omega, by show (0 : Int) ≤ 4096; decide, by show (4096 : Int) ≤ 4096; decide, by show ((1 + n : Nat) : Int) ≤ 4096 + 1; omega⟩
set_option maxHeartbeats 2000000 in
theorem made_local (own : Bool) (n cap k : Nat) (z : Nat → Int) (ρ : List Nat) (kk : Nat) (hn : n ≤ 100) (hk : 1 ≤ k) (hk8 : k ≤ 8) : (madeC own n cap k z ρ kk).Local Try.prog 8 := by
  refine local_of Try.func8 rfl (tmade_eq own n cap k z) fun ν w => ?_
  refine ok_callf' newA_call (fits_of rfl rfl trivial fun c _ => ⟨⟨Nat.zero_le _, rfl⟩, ⟨rfl, rfl⟩, ⟨⟨EntRel.box' rfl rfl rfl rfl rfl, rfl, (fun _ => ⟨rfl, rfl⟩), .inr rfl⟩, ⟨EntRel.rw rfl rfl (fun _ _ => rfl) fun _ _ => rfl, rfl, (fun h => by cases h), .inr rfl⟩, trivial⟩⟩) (newA_local _) fun c1 _ => ok_callf' newT_call (fits_of rfl rfl trivial fun c _ => ⟨⟨Nat.zero_le _, rfl⟩, ⟨rfl, rfl⟩, ⟨⟨EntRel.box' rfl rfl rfl rfl rfl, rfl, (fun _ => ⟨rfl, rfl⟩), .inr rfl⟩, ⟨EntRel.rw rfl rfl (fun _ _ => rfl) fun _ _ => rfl, rfl, (fun h => by cases h), .inr rfl⟩, trivial⟩⟩) (newT_local k _ hk hk8) fun c2 _ => ?_
  repeat refine ok_chk' (by first | rfl | exact fun h => h | exact fun _ => rfl) ?_
  refine ok_br' (fun h => by cases h) fun _ => ok_br' (fun h1 => ?_) fun h1 => ?_
  · refine ok_br' (fun h => by simp at h h1; omega) fun h2 => ok_br' (fun h => by have h : fullF newA n = true := h; rw [newA_full hn] at h; cases h) fun h3 => ?_
    refine ok_callf' alloc_call (fits_of rfl rfl ⟨⟨_, rfl, EntRel.box' rfl rfl rfl rfl rfl⟩, ⟨_, rfl, EntRel.rw rfl rfl (fun _ _ => rfl) fun _ _ => rfl⟩, trivial⟩ fun c _ => ⟨⟨(by show 2 ≤ 3; decide), rfl⟩, ⟨rfl, rfl⟩, ⟨⟨EntRel.box' rfl rfl rfl rfl rfl, rfl, (fun _ => ⟨rfl, rfl⟩), .inr rfl⟩, ⟨EntRel.dead, rfl, (fun h => by cases h), .inr rfl⟩, ⟨EntRel.rw rfl rfl (fun _ _ => rfl) fun _ _ => rfl, rfl, (fun h => by cases h), .inr rfl⟩, trivial⟩⟩) ((alloc_local newA n _ _ newA_ok).2.2 h2 (newA_full hn)) fun c3 _ => ok_br' (fun h => by cases h) fun _ => ?_
    refine ok_both' ?_ (ok_every' fun s => ok_br' (fun h4 => ?_) fun h4 => ?_)
    · repeat (refine ok_chk' rfl ?_)
      refine ok_chk' (EntRel.rw rfl rfl (fun _ _ => rfl) fun _ _ => rfl) (ok_chk' (EntRel.box' rfl rfl rfl rfl rfl) (ok_chk' EntRel.dead (ok_chk' (EntRel.box' rfl rfl rfl rfl rfl) (ok_chk' (EntRel.rw rfl rfl (fun _ _ => rfl) fun _ _ => rfl) (ok_chk' (EntRel.rw rfl rfl (fun i _ => ?_) fun _ _ => rfl) trivial)))))
      show [iv (if i < 1 then 0 else 0)] = [iv (if i = 0 then 0 else if i ≤ 0 then z (i - 1) else 0)]
      by_cases h5 : i = 0
      · simp [h5]
      · have : ¬ i ≤ 0 := by omega
        simp [h5]
    · have h4 : s.1 < n := by simpa using h4
      have hw : IntKind.wrap .i64 ((s.1 : Int) + 1) = (s.1 : Int) + 1 := wrap64 (by omega) (by omega)
      have hh : hereF (madeF n s.1 (c3 0) z) (IntKind.wrap .i64 ((s.1 : Int) + 1)) = true := by
        unfold hereF
        rw [hw]
        have e1 : decide ((s.1 : Int) + 1 ≥ 1) = true := by simp; omega
        have e2 : decide ((s.1 : Int) + 1 < ((1 + n : Nat) : Int)) = true := by simp; omega
        rw [e1, cond_true]
        exact e2
      refine ok_chk' ⟨by omega, by omega, by omega, Nat.one_pos⟩ (ok_chk' ⟨Nat.one_pos, by omega⟩ (ok_some' (madeF n s.1 (c3 0) z) (ok_callf' store_call (fits_of rfl rfl ⟨⟨_, rfl, EntRel.box' rfl rfl rfl rfl rfl⟩, ⟨_, rfl, EntRel.rw rfl rfl (fun _ _ => rfl) fun _ _ => rfl⟩, trivial⟩ fun c _ => ⟨⟨Nat.le_refl _, rfl⟩, ⟨rfl, rfl⟩, ⟨⟨EntRel.box' rfl rfl rfl rfl rfl, rfl, (fun _ => ⟨rfl, rfl⟩), .inr rfl⟩, ⟨EntRel.rw rfl rfl (fun _ _ => rfl) fun _ _ => rfl, rfl, (fun h => by cases h), .inr rfl⟩, trivial⟩⟩) ((store_local _ _ _ _).1 hh) fun c4 _ => ok_br' (fun h => by cases h) fun _ => ?_)))
      refine ok_some' ⟨s.1 + 1, h4⟩ (ok_chk' (by show n - (s.1 + 1) < n - s.1; omega) (ok_chk' (by rw [hw]; rfl) ?_))
      repeat (refine ok_chk' rfl ?_)
      refine ok_chk' (EntRel.rw rfl rfl (fun _ _ => rfl) fun _ _ => rfl) (ok_chk' (EntRel.box' rfl rfl rfl rfl rfl) (ok_chk' EntRel.dead (ok_chk' (EntRel.box' rfl rfl rfl rfl rfl) (ok_chk' (EntRel.rw rfl rfl (fun _ _ => rfl) fun _ _ => rfl) (ok_chk' (EntRel.rw rfl rfl (fun i _ => ?_) fun _ _ => rfl) trivial)))))
      show [iv (if i = (IntKind.wrap .i64 ((s.1 : Int) + 1)).toNat then z (s.1 : Int).toNat else (if i = 0 then 0 else if i ≤ s.1 then z (i - 1) else 0))] = [iv (if i = 0 then 0 else if i ≤ s.1 + 1 then z (i - 1) else 0)]
      rw [hw, show ((s.1 : Int) + 1).toNat = s.1 + 1 by omega, Int.toNat_natCast]
      by_cases h5 : i = s.1 + 1
      · subst h5; simp
      · by_cases h6 : i ≤ s.1
        · have : i ≤ s.1 + 1 := by omega
          simp [h5, h6, this]
        · have : ¬ i ≤ s.1 + 1 := by omega
          simp [h5, h6, this]
    · have h5 : s.1 = n := by have := s.2; simp at h4; omega
      obtain ⟨i, hi⟩ := s
      have h5 : i = n := h5
      subst h5
      exact ok_leaf2 c3 [] [0, 1, 5, 3, 4] trivial rfl ⟨.inr ⟨_, rfl, EntRel.rw rfl rfl (fun _ _ => rfl) fun _ _ => rfl⟩, .inr ⟨_, rfl, EntRel.box' rfl rfl rfl rfl rfl⟩, .inr ⟨_, rfl, EntRel.rw rfl rfl (fun _ _ => rfl) fun _ _ => rfl⟩, .inr ⟨_, rfl, EntRel.box' rfl rfl rfl rfl rfl⟩, .inr ⟨_, rfl, EntRel.rw rfl rfl (fun _ _ => rfl) fun _ _ => rfl⟩, trivial⟩ rfl
  · have h2 : n = 0 := by simp at h1; omega
    subst h2
    refine ok_both' ?_ (ok_every' fun s => ok_br' (fun h4 => ?_) fun h4 => ?_)
    · repeat (refine ok_chk' rfl ?_)
      refine ok_chk' (EntRel.rw rfl rfl (fun _ _ => rfl) fun _ _ => rfl) (ok_chk' (EntRel.box' rfl rfl rfl rfl rfl) (ok_chk' (EntRel.rw rfl rfl (fun i hi => ?_) fun _ _ => rfl) (ok_chk' (EntRel.box' rfl rfl rfl rfl rfl) (ok_chk' (EntRel.rw rfl rfl (fun _ _ => rfl) fun _ _ => rfl) trivial))))
      have : i = 0 := by omega
      subst this
      rfl
    · exfalso; simp at h4; omega
    · obtain ⟨i, hi⟩ := s
      have h5 : i = 0 := by omega
      subst h5
      exact ok_leaf2 (fun _ => 1) [] [0, 1, 2, 3, 4] trivial rfl ⟨.inr ⟨_, rfl, EntRel.rw rfl rfl (fun _ _ => rfl) fun _ _ => rfl⟩, .inr ⟨_, rfl, EntRel.box' rfl rfl rfl rfl rfl⟩, .inr ⟨_, rfl, EntRel.rw rfl rfl (fun _ _ => rfl) fun _ _ => rfl⟩, .inr ⟨_, rfl, EntRel.box' rfl rfl rfl rfl rfl⟩, .inr ⟨_, rfl, EntRel.rw rfl rfl (fun _ _ => rfl) fun _ _ => rfl⟩, trivial⟩ rfl
theorem made0_local (k kk : Nat) (hk : 1 ≤ k) (hk8 : k ≤ 8) : (made0C k kk).Local Try.prog 8 := by
  refine local_of Try.func8 rfl (tmade0_eq k) fun ν w => ?_
  refine ok_callf' newA_call (fits_of rfl rfl trivial fun c _ => ⟨⟨Nat.zero_le _, rfl⟩, ⟨rfl, rfl⟩, ⟨⟨EntRel.box' rfl rfl rfl rfl rfl, rfl, (fun _ => ⟨rfl, rfl⟩), .inr rfl⟩, ⟨EntRel.rw rfl rfl (fun _ _ => rfl) fun _ _ => rfl, rfl, (fun h => by cases h), .inr rfl⟩, trivial⟩⟩) (newA_local _) fun c1 _ => ok_callf' newT_call (fits_of rfl rfl trivial fun c _ => ⟨⟨Nat.zero_le _, rfl⟩, ⟨rfl, rfl⟩, ⟨⟨EntRel.box' rfl rfl rfl rfl rfl, rfl, (fun _ => ⟨rfl, rfl⟩), .inr rfl⟩, ⟨EntRel.rw rfl rfl (fun _ _ => rfl) fun _ _ => rfl, rfl, (fun h => by cases h), .inr rfl⟩, trivial⟩⟩) (newT_local k _ hk hk8) fun c2 _ => ?_
  repeat refine ok_chk' (by first | rfl | exact fun h => h | exact fun _ => rfl) ?_
  refine ok_br' (fun h => by cases h) fun _ => ok_br' (fun h => by cases h) fun h1 => ?_
  refine ok_both' ?_ (ok_every' fun s => ok_br' (fun h => by cases h) fun h4 => ?_)
  · repeat (refine ok_chk' rfl ?_)
    refine ok_chk' (EntRel.box' rfl rfl rfl rfl rfl) (ok_chk' (EntRel.rw rfl rfl (fun i hi => ?_) fun _ _ => rfl) (ok_chk' (EntRel.box' rfl rfl rfl rfl rfl) (ok_chk' (EntRel.rw rfl rfl (fun _ _ => rfl) fun _ _ => rfl) trivial)))
    have : i = 0 := by have hi : i < 1 := hi; omega
    subst this
    rfl
  · obtain ⟨i, hi⟩ := s
    have h5 : i = 0 := by omega
    subst h5
    refine ok_leaf2 (fun _ => 1) [] [0, 1, 2, 3] trivial rfl ⟨.inr ⟨_, rfl, EntRel.box' rfl rfl rfl rfl rfl⟩, .inr ⟨_, rfl, EntRel.rw rfl rfl (fun i hi => ?_) fun _ _ => rfl⟩, .inr ⟨_, rfl, EntRel.box' rfl rfl rfl rfl rfl⟩, .inr ⟨_, rfl, EntRel.rw rfl rfl (fun _ _ => rfl) fun _ _ => rfl⟩, trivial⟩ rfl
    have : i = 0 := by have hi : i < 1 := hi; omega
    subst this
    rfl
end Go.Proofs.Ytehecaipmdfjmaa.X.Mi

set_option linter.unusedVariables false
set_option linter.unusedSimpArgs false
namespace Go.Proofs.Ytehecaipmdfjmaa.X.Mi
open Go Go.RowKit Go.Proofs.YtehecaipmdfjmaaW.PrintWords Go.Proofs.Ytehecaipmdfjmaa.Base Go.Proofs.Ytehecaipmdfjmaa.X
abbrev errX : XV := .tup [.c (.v (.slice none 0 0)), .c (.v (.slice none 0 0)), iav 0, iav 0, .c (errE 1)]
abbrev stepAC (d : Cd) (t : Tb) (i : Int) (ol : Bool) (n cap : Nat) (F : Nat → Fr) (ρ : List Nat) : CallSpec := mSpec ρ 0 [.c (.sl 0 0 0 5 d.n d.cap), .c (.v (.pointer none)), bptr 1 2, iav i, .c (.sl 3 0 0 17 n cap)] [d.row, t.box 2, t.row, frow ol n cap F] (fun _ => True) (fun _ => errX) fun _ => [d.row, t.box 2, t.row, frow ol n cap F]
abbrev stepTC (d : Cd) (a : Ar) (i : Int) (ol : Bool) (n cap : Nat) (F : Nat → Fr) (ρ : List Nat) : CallSpec := mSpec ρ 0 [.c (.sl 0 0 0 5 d.n d.cap), bptr 1 2, .c (.v (.pointer none)), iav i, .c (.sl 3 0 0 17 n cap)] [d.row, a.box 2, a.row, frow ol n cap F] (fun _ => True) (fun _ => errX) fun _ => [d.row, a.box 2, a.row, frow ol n cap F]
abbrev StT : Type := Mc × Mc × Int × Int × Cd
abbrev upC (k : Nat) : CallSpec := mSpec [] k [] [] (fun _ => True) (fun _ => bool true) fun _ => []
def lawG : Ctr := fun f args H => match args with
  | [] => some (upC H.length)
  | [.c (.v (.slice _ _ _)), .c (.v (.int _ k))] => some (made0C k.toNat H.length)
  | [.c (.sl kc _ _ _ n cap), .c (.v (.int _ k))] => some (.ex ((Nat → Int) × Bool) fun z => madeC z.2 n cap k.toNat z.1 [kc] H.length)
  | [.c (.v (.int _ at_)), .c (.v (.slice _ _ _))] => some (start0C at_ H.length)
  | [.c (.v (.int _ at_)), .c (.sl kc _ _ _ n cap)] => some (.ex ((Nat → Int) × Bool) fun z => startC at_ z.2 n cap z.1 [kc] H.length)
  | [.c (.sl kd _ _ _ _ _), .c (.ptr ra), .c (.ptr rt), _, .c (.sl kf _ _ _ _ _)] => some (.ex StT fun s => stepC s.1 s.2.1 s.2.2.1 s.2.2.2.1 s.2.2.2.2 true [kd, ra.k, slAt H ra.k 0, rt.k, slAt H rt.k 0, kf] H.length)
  | [.c (.sl kd _ _ _ _ _), .c (.v (.pointer none)), .c (.ptr rt), .c (.v (.int _ i)), .c (.sl kf _ _ _ n cap)] => some (.ex (Cd × Tb × (Nat → Fr)) fun s => stepAC s.1 s.2.1 i true n cap s.2.2 [kd, rt.k, slAt H rt.k 0, kf])
  | [.c (.ptr r), .c (.v (.int _ x))] => some (.ex (Ar × Int) fun s => loadC s.1 x s.2 nilE [r.k, slAt H r.k 0])
  | _ => none
def tup (u : Unit) : Tree :=
  Tree.callf 8 [AV.c (CV.v (Value.slice none 0 0)), AV.c (CV.v (Value.int IntKind.i64 (1 : Int)))] [] (made0C 1 0) fun c => Tree.br false
   (Tree.done (XV.a (AV.c (CV.v (Value.bool false)))) [Ent.dead, Ent.dead, Ent.dead, Ent.dead])
   (Tree.callf 12 [AV.c (CV.v (Value.int IntKind.i64 (0 : Int))), AV.c (CV.v (Value.slice none 0 0))] [{ own := true, box := true, ty := 72, sz := 2, m := 1, n := fun a => 1, cap := fun a => 1, f := fun x x_1 => [CV.sl 1 0 0 1 1 1, CV.v (Value.int IntKind.i64 (4096 : Int))], ov := [] }, (Ent.rw true 2 1 1 1 fun ii => [CV.v (Value.int IntKind.i64 (0 : Int))]), { own := true, box := true, ty := 78, sz := 2, m := 1, n := fun a => 1, cap := fun a => 1, f := fun x x_1 => [CV.sl 3 0 0 4 1 1, CV.v (Value.int IntKind.i64 (0 : Int))], ov := [] }, (Ent.rw true 59 4 1 1 fun ii => [CV.v (Value.bool false), CV.v (Value.bool false), CV.v (Value.bool false), CV.v (Value.int IntKind.i64 (0 : Int))]), (Ent.rw true 40 5 2 2 fun ii => List.getD [[CV.v (Value.int IntKind.i64 (1 : Int)), CV.v (Value.int IntKind.i64 (0 : Int)), CV.v (Value.int IntKind.i64 (0 : Int)), CV.v (Value.int IntKind.i64 (0 : Int)), CV.v (Value.int IntKind.i64 (5 : Int))], [CV.v (Value.int IntKind.i64 (22 : Int)), CV.v (Value.int IntKind.i64 (0 : Int)), CV.v (Value.int IntKind.i64 (0 : Int)), CV.v (Value.int IntKind.i64 (0 : Int)), CV.v (Value.int IntKind.i64 (0 : Int))]] ii [])] (start0C (0 : Int) 5) fun c => Tree.some_ (Mc × Mc × Int × Int × Cd) fun s => Tree.callf 10 [AV.c (CV.sl 4 0 0 5 2 2), AV.c (CV.ptr ⟨0, 0, 0, 2, 0, 0, 0, 0⟩), AV.c (CV.ptr ⟨2, 0, 0, 2, 0, 0, 0, 0⟩), AV.c (CV.v (Value.int IntKind.i64 (0 : Int))), AV.c (CV.sl 5 0 0 17 1 1)] [{ own := true, box := true, ty := 72, sz := 2, m := 1, n := fun a => 1, cap := fun a => 1, f := fun x x_1 => [CV.sl 1 0 0 1 1 1, CV.v (Value.int IntKind.i64 (4096 : Int))], ov := [] }, (Ent.rw true 2 1 1 1 fun ii => [CV.v (Value.int IntKind.i64 (0 : Int))]), { own := true, box := true, ty := 78, sz := 2, m := 1, n := fun a => 1, cap := fun a => 1, f := fun x x_1 => [CV.sl 3 0 0 4 1 1, CV.v (Value.int IntKind.i64 (0 : Int))], ov := [] }, (Ent.rw true 59 4 1 1 fun ii => [CV.v (Value.bool false), CV.v (Value.bool false), CV.v (Value.bool false), CV.v (Value.int IntKind.i64 (0 : Int))]), (Ent.rw true 40 5 2 2 fun ii => List.getD [[CV.v (Value.int IntKind.i64 (1 : Int)), CV.v (Value.int IntKind.i64 (0 : Int)), CV.v (Value.int IntKind.i64 (0 : Int)), CV.v (Value.int IntKind.i64 (0 : Int)), CV.v (Value.int IntKind.i64 (5 : Int))], [CV.v (Value.int IntKind.i64 (22 : Int)), CV.v (Value.int IntKind.i64 (0 : Int)), CV.v (Value.int IntKind.i64 (0 : Int)), CV.v (Value.int IntKind.i64 (0 : Int)), CV.v (Value.int IntKind.i64 (0 : Int))]] ii []), (Ent.rw true 66 17 1 1 fun ii => [CV.v (Value.int IntKind.i64 (0 : Int)), CV.v (Value.int IntKind.i64 (0 : Int)), CV.v (Value.int IntKind.i64 (0 : Int)), CV.v (Value.int IntKind.i64 (0 : Int)), CV.v (Value.int IntKind.i64 (0 : Int)), CV.v (Value.int IntKind.i64 (0 : Int)), CV.v (Value.int IntKind.i64 (0 : Int)), CV.v (Value.int IntKind.i64 (0 : Int)), CV.v (Value.int IntKind.i64 (0 : Int)), CV.v (Value.int IntKind.i64 (0 : Int)), CV.v (Value.int IntKind.i64 (0 : Int)), CV.v (Value.int IntKind.i64 (0 : Int)), CV.v (Value.int IntKind.i64 (0 : Int)), CV.v (Value.int IntKind.i64 (0 : Int)), CV.v (Value.int IntKind.i64 (0 : Int)), CV.v (Value.int IntKind.i64 (0 : Int)), CV.v (Value.int IntKind.i64 (0 : Int))])] (stepC (Prod.fst s) (Prod.fst (Prod.snd s)) (Prod.fst (Prod.snd (Prod.snd s))) (Prod.fst (Prod.snd (Prod.snd (Prod.snd s)))) (Prod.snd (Prod.snd (Prod.snd (Prod.snd s)))) true [4, 0, 1, 2, 3, 5] 6) fun c => Tree.callf 12 [AV.c (CV.v (Value.int IntKind.i64 (0 : Int))), AV.c (CV.v (Value.slice none 0 0))] [{ own := true, box := true, ty := 72, sz := 2, m := 1, n := fun a => 1, cap := fun a => 1, f := fun x x_1 => [CV.sl 6 0 0 1 (Prod.fst (Prod.snd s)).1.1 (c 0), CV.v (Value.int IntKind.i64 (Prod.fst (Prod.snd s)).1.4)], ov := [] }, Ent.dead, { own := true, box := true, ty := 78, sz := 2, m := 1, n := fun a => 1, cap := fun a => 1, f := fun x x_1 => [CV.sl 3 0 0 4 (Prod.fst (Prod.snd s)).2.1 (Prod.fst (Prod.snd s)).2.2, CV.v (Value.int IntKind.i64 (Prod.fst (Prod.snd s)).2.4)], ov := [] }, (Ent.rw true 59 4 (Prod.fst (Prod.snd s)).2.1 (Prod.fst (Prod.snd s)).2.2 fun ii => [CV.v (Value.bool ((Prod.fst (Prod.snd s)).2.3 ii).1), CV.v (Value.bool ((Prod.fst (Prod.snd s)).2.3 ii).2), CV.v (Value.bool ((Prod.fst (Prod.snd s)).2.3 ii).3), CV.v (Value.int IntKind.i64 ((Prod.fst (Prod.snd s)).2.3 ii).4)]), (Ent.rw (Prod.snd (Prod.snd (Prod.snd (Prod.snd s)))).1 40 5 (Prod.snd (Prod.snd (Prod.snd (Prod.snd s)))).2 (Prod.snd (Prod.snd (Prod.snd (Prod.snd s)))).3 fun ii => [CV.v (Value.int IntKind.i64 ((Prod.snd (Prod.snd (Prod.snd (Prod.snd s)))).4 ii).1), CV.v (Value.int IntKind.i64 ((Prod.snd (Prod.snd (Prod.snd (Prod.snd s)))).4 ii).2), CV.v (Value.int IntKind.i64 ((Prod.snd (Prod.snd (Prod.snd (Prod.snd s)))).4 ii).3), CV.v (Value.int IntKind.i64 ((Prod.snd (Prod.snd (Prod.snd (Prod.snd s)))).4 ii).4), CV.v (Value.int IntKind.i64 ((Prod.snd (Prod.snd (Prod.snd (Prod.snd s)))).4 ii).5)]), (Ent.rw true 66 17 (Mc.nF (Prod.fst s)) (Mc.cF (Prod.fst s)) fun ii => [CV.v (Value.int IntKind.i64 (Mc.F (Prod.fst s) ii).1), CV.v (Value.int IntKind.i64 ((Mc.F (Prod.fst s) ii).2 0)), CV.v (Value.int IntKind.i64 ((Mc.F (Prod.fst s) ii).2 1)), CV.v (Value.int IntKind.i64 ((Mc.F (Prod.fst s) ii).2 2)), CV.v (Value.int IntKind.i64 ((Mc.F (Prod.fst s) ii).2 3)), CV.v (Value.int IntKind.i64 ((Mc.F (Prod.fst s) ii).2 4)), CV.v (Value.int IntKind.i64 ((Mc.F (Prod.fst s) ii).2 5)), CV.v (Value.int IntKind.i64 ((Mc.F (Prod.fst s) ii).2 6)), CV.v (Value.int IntKind.i64 ((Mc.F (Prod.fst s) ii).2 7)), CV.v (Value.int IntKind.i64 ((Mc.F (Prod.fst s) ii).2 8)), CV.v (Value.int IntKind.i64 ((Mc.F (Prod.fst s) ii).2 9)), CV.v (Value.int IntKind.i64 ((Mc.F (Prod.fst s) ii).2 10)), CV.v (Value.int IntKind.i64 ((Mc.F (Prod.fst s) ii).2 11)), CV.v (Value.int IntKind.i64 ((Mc.F (Prod.fst s) ii).2 12)), CV.v (Value.int IntKind.i64 ((Mc.F (Prod.fst s) ii).2 13)), CV.v (Value.int IntKind.i64 ((Mc.F (Prod.fst s) ii).2 14)), CV.v (Value.int IntKind.i64 ((Mc.F (Prod.fst s) ii).2 15))]), (Ent.rw true 2 1 (Prod.fst (Prod.snd s)).1.1 (c 0) fun ii => [CV.v (Value.int IntKind.i64 ((Prod.fst (Prod.snd s)).1.3 ii))]), (Ent.rw true 66 17 (Mc.nF (Prod.fst (Prod.snd s))) (c 1) fun ii => [CV.v (Value.int IntKind.i64 (Mc.F (Prod.fst (Prod.snd s)) ii).1), CV.v (Value.int IntKind.i64 ((Mc.F (Prod.fst (Prod.snd s)) ii).2 0)), CV.v (Value.int IntKind.i64 ((Mc.F (Prod.fst (Prod.snd s)) ii).2 1)), CV.v (Value.int IntKind.i64 ((Mc.F (Prod.fst (Prod.snd s)) ii).2 2)), CV.v (Value.int IntKind.i64 ((Mc.F (Prod.fst (Prod.snd s)) ii).2 3)), CV.v (Value.int IntKind.i64 ((Mc.F (Prod.fst (Prod.snd s)) ii).2 4)), CV.v (Value.int IntKind.i64 ((Mc.F (Prod.fst (Prod.snd s)) ii).2 5)), CV.v (Value.int IntKind.i64 ((Mc.F (Prod.fst (Prod.snd s)) ii).2 6)), CV.v (Value.int IntKind.i64 ((Mc.F (Prod.fst (Prod.snd s)) ii).2 7)), CV.v (Value.int IntKind.i64 ((Mc.F (Prod.fst (Prod.snd s)) ii).2 8)), CV.v (Value.int IntKind.i64 ((Mc.F (Prod.fst (Prod.snd s)) ii).2 9)), CV.v (Value.int IntKind.i64 ((Mc.F (Prod.fst (Prod.snd s)) ii).2 10)), CV.v (Value.int IntKind.i64 ((Mc.F (Prod.fst (Prod.snd s)) ii).2 11)), CV.v (Value.int IntKind.i64 ((Mc.F (Prod.fst (Prod.snd s)) ii).2 12)), CV.v (Value.int IntKind.i64 ((Mc.F (Prod.fst (Prod.snd s)) ii).2 13)), CV.v (Value.int IntKind.i64 ((Mc.F (Prod.fst (Prod.snd s)) ii).2 14)), CV.v (Value.int IntKind.i64 ((Mc.F (Prod.fst (Prod.snd s)) ii).2 15))]), (Ent.rw true 80 2 (Prod.fst (Prod.snd s)).8 (c 2) fun ii => [CV.v (Value.int IntKind.i64 (Prod.fst ((Prod.fst (Prod.snd s)).10 ii))), CV.v (Value.int IntKind.i64 (Prod.snd ((Prod.fst (Prod.snd s)).10 ii)))])] (start0C (0 : Int) 9) fun c_1 => Tree.some_ (Cd × Tb × (Nat → Fr)) fun s_1 => Tree.callf 10 [AV.c (CV.sl 4 0 0 5 2 2), AV.c (CV.v (Value.pointer none)), AV.c (CV.ptr ⟨2, 0, 0, 2, 0, 0, 0, 0⟩), AV.c (CV.v (Value.int IntKind.i64 (0 : Int))), AV.c (CV.sl 9 0 0 17 1 1)] [{ own := true, box := true, ty := 72, sz := 2, m := 1, n := fun a => 1, cap := fun a => 1, f := fun x x_1 => [CV.sl 6 0 0 1 (Prod.fst (Prod.snd s)).1.1 (c 0), CV.v (Value.int IntKind.i64 (Prod.fst (Prod.snd s)).1.4)], ov := [] }, Ent.dead, { own := true, box := true, ty := 78, sz := 2, m := 1, n := fun a => 1, cap := fun a => 1, f := fun x x_1 => [CV.sl 3 0 0 4 (Prod.fst (Prod.snd s)).2.1 (Prod.fst (Prod.snd s)).2.2, CV.v (Value.int IntKind.i64 (Prod.fst (Prod.snd s)).2.4)], ov := [] }, (Ent.rw true 59 4 (Prod.fst (Prod.snd s)).2.1 (Prod.fst (Prod.snd s)).2.2 fun ii => [CV.v (Value.bool ((Prod.fst (Prod.snd s)).2.3 ii).1), CV.v (Value.bool ((Prod.fst (Prod.snd s)).2.3 ii).2), CV.v (Value.bool ((Prod.fst (Prod.snd s)).2.3 ii).3), CV.v (Value.int IntKind.i64 ((Prod.fst (Prod.snd s)).2.3 ii).4)]), (Ent.rw (Prod.snd (Prod.snd (Prod.snd (Prod.snd s)))).1 40 5 (Prod.snd (Prod.snd (Prod.snd (Prod.snd s)))).2 (Prod.snd (Prod.snd (Prod.snd (Prod.snd s)))).3 fun ii => [CV.v (Value.int IntKind.i64 ((Prod.snd (Prod.snd (Prod.snd (Prod.snd s)))).4 ii).1), CV.v (Value.int IntKind.i64 ((Prod.snd (Prod.snd (Prod.snd (Prod.snd s)))).4 ii).2), CV.v (Value.int IntKind.i64 ((Prod.snd (Prod.snd (Prod.snd (Prod.snd s)))).4 ii).3), CV.v (Value.int IntKind.i64 ((Prod.snd (Prod.snd (Prod.snd (Prod.snd s)))).4 ii).4), CV.v (Value.int IntKind.i64 ((Prod.snd (Prod.snd (Prod.snd (Prod.snd s)))).4 ii).5)]), (Ent.rw true 66 17 (Mc.nF (Prod.fst s)) (Mc.cF (Prod.fst s)) fun ii => [CV.v (Value.int IntKind.i64 (Mc.F (Prod.fst s) ii).1), CV.v (Value.int IntKind.i64 ((Mc.F (Prod.fst s) ii).2 0)), CV.v (Value.int IntKind.i64 ((Mc.F (Prod.fst s) ii).2 1)), CV.v (Value.int IntKind.i64 ((Mc.F (Prod.fst s) ii).2 2)), CV.v (Value.int IntKind.i64 ((Mc.F (Prod.fst s) ii).2 3)), CV.v (Value.int IntKind.i64 ((Mc.F (Prod.fst s) ii).2 4)), CV.v (Value.int IntKind.i64 ((Mc.F (Prod.fst s) ii).2 5)), CV.v (Value.int IntKind.i64 ((Mc.F (Prod.fst s) ii).2 6)), CV.v (Value.int IntKind.i64 ((Mc.F (Prod.fst s) ii).2 7)), CV.v (Value.int IntKind.i64 ((Mc.F (Prod.fst s) ii).2 8)), CV.v (Value.int IntKind.i64 ((Mc.F (Prod.fst s) ii).2 9)), CV.v (Value.int IntKind.i64 ((Mc.F (Prod.fst s) ii).2 10)), CV.v (Value.int IntKind.i64 ((Mc.F (Prod.fst s) ii).2 11)), CV.v (Value.int IntKind.i64 ((Mc.F (Prod.fst s) ii).2 12)), CV.v (Value.int IntKind.i64 ((Mc.F (Prod.fst s) ii).2 13)), CV.v (Value.int IntKind.i64 ((Mc.F (Prod.fst s) ii).2 14)), CV.v (Value.int IntKind.i64 ((Mc.F (Prod.fst s) ii).2 15))]), (Ent.rw true 2 1 (Prod.fst (Prod.snd s)).1.1 (c 0) fun ii => [CV.v (Value.int IntKind.i64 ((Prod.fst (Prod.snd s)).1.3 ii))]), (Ent.rw true 66 17 (Mc.nF (Prod.fst (Prod.snd s))) (c 1) fun ii => [CV.v (Value.int IntKind.i64 (Mc.F (Prod.fst (Prod.snd s)) ii).1), CV.v (Value.int IntKind.i64 ((Mc.F (Prod.fst (Prod.snd s)) ii).2 0)), CV.v (Value.int IntKind.i64 ((Mc.F (Prod.fst (Prod.snd s)) ii).2 1)), CV.v (Value.int IntKind.i64 ((Mc.F (Prod.fst (Prod.snd s)) ii).2 2)), CV.v (Value.int IntKind.i64 ((Mc.F (Prod.fst (Prod.snd s)) ii).2 3)), CV.v (Value.int IntKind.i64 ((Mc.F (Prod.fst (Prod.snd s)) ii).2 4)), CV.v (Value.int IntKind.i64 ((Mc.F (Prod.fst (Prod.snd s)) ii).2 5)), CV.v (Value.int IntKind.i64 ((Mc.F (Prod.fst (Prod.snd s)) ii).2 6)), CV.v (Value.int IntKind.i64 ((Mc.F (Prod.fst (Prod.snd s)) ii).2 7)), CV.v (Value.int IntKind.i64 ((Mc.F (Prod.fst (Prod.snd s)) ii).2 8)), CV.v (Value.int IntKind.i64 ((Mc.F (Prod.fst (Prod.snd s)) ii).2 9)), CV.v (Value.int IntKind.i64 ((Mc.F (Prod.fst (Prod.snd s)) ii).2 10)), CV.v (Value.int IntKind.i64 ((Mc.F (Prod.fst (Prod.snd s)) ii).2 11)), CV.v (Value.int IntKind.i64 ((Mc.F (Prod.fst (Prod.snd s)) ii).2 12)), CV.v (Value.int IntKind.i64 ((Mc.F (Prod.fst (Prod.snd s)) ii).2 13)), CV.v (Value.int IntKind.i64 ((Mc.F (Prod.fst (Prod.snd s)) ii).2 14)), CV.v (Value.int IntKind.i64 ((Mc.F (Prod.fst (Prod.snd s)) ii).2 15))]), (Ent.rw true 80 2 (Prod.fst (Prod.snd s)).8 (c 2) fun ii => [CV.v (Value.int IntKind.i64 (Prod.fst ((Prod.fst (Prod.snd s)).10 ii))), CV.v (Value.int IntKind.i64 (Prod.snd ((Prod.fst (Prod.snd s)).10 ii)))]), (Ent.rw true 66 17 1 1 fun ii => [CV.v (Value.int IntKind.i64 (0 : Int)), CV.v (Value.int IntKind.i64 (0 : Int)), CV.v (Value.int IntKind.i64 (0 : Int)), CV.v (Value.int IntKind.i64 (0 : Int)), CV.v (Value.int IntKind.i64 (0 : Int)), CV.v (Value.int IntKind.i64 (0 : Int)), CV.v (Value.int IntKind.i64 (0 : Int)), CV.v (Value.int IntKind.i64 (0 : Int)), CV.v (Value.int IntKind.i64 (0 : Int)), CV.v (Value.int IntKind.i64 (0 : Int)), CV.v (Value.int IntKind.i64 (0 : Int)), CV.v (Value.int IntKind.i64 (0 : Int)), CV.v (Value.int IntKind.i64 (0 : Int)), CV.v (Value.int IntKind.i64 (0 : Int)), CV.v (Value.int IntKind.i64 (0 : Int)), CV.v (Value.int IntKind.i64 (0 : Int)), CV.v (Value.int IntKind.i64 (0 : Int))])] (stepAC (Prod.fst s_1) (Prod.fst (Prod.snd s_1)) (0 : Int) true 1 1 (fun a => Prod.snd (Prod.snd s_1) a) [4, 2, 3, 9]) fun c => Tree.chk (true = true → true = true)
   (Tree.chk (true = true → true = true)
   (Tree.chk ((bif true then Prod.fst (Prod.snd (Prod.snd s)) == (2 : Int) else false) = true → (bif true then Prod.fst (Prod.snd (Prod.snd s)) == (2 : Int) else false) = true)
   (Tree.chk ((bif true then Prod.fst (Prod.snd (Prod.snd s)) == (2 : Int) else false) = true → (bif true then Prod.fst (Prod.snd (Prod.snd s)) == (2 : Int) else false) = true)
   (Tree.chk ((bif bif true then Prod.fst (Prod.snd (Prod.snd s)) == (2 : Int) else false then Prod.fst (Prod.snd (Prod.snd (Prod.snd s))) == (5 : Int) else false) = true → (bif bif true then Prod.fst (Prod.snd (Prod.snd s)) == (2 : Int) else false then Prod.fst (Prod.snd (Prod.snd (Prod.snd s))) == (5 : Int) else false) = true)
   (Tree.chk ((bif bif true then Prod.fst (Prod.snd (Prod.snd s)) == (2 : Int) else false then Prod.fst (Prod.snd (Prod.snd (Prod.snd s))) == (5 : Int) else false) = true → (bif bif true then Prod.fst (Prod.snd (Prod.snd s)) == (2 : Int) else false then Prod.fst (Prod.snd (Prod.snd (Prod.snd s))) == (5 : Int) else false) = true)
   (Tree.chk ((bif bif true then Prod.fst (Prod.snd (Prod.snd s)) == (2 : Int) else false then Prod.fst (Prod.snd (Prod.snd (Prod.snd s))) == (5 : Int) else false) = true → (bif bif true then Prod.fst (Prod.snd (Prod.snd s)) == (2 : Int) else false then Prod.fst (Prod.snd (Prod.snd (Prod.snd s))) == (5 : Int) else false) = true)
   (Tree.done (XV.a (AV.c (CV.v (Value.bool (bif bif bif true then Prod.fst (Prod.snd (Prod.snd s)) == (2 : Int) else false then Prod.fst (Prod.snd (Prod.snd (Prod.snd s))) == (5 : Int) else false then (1 : Int) == (1 : Int) else false))))) [Ent.dead, Ent.dead, Ent.dead, Ent.dead, Ent.dead, Ent.dead, Ent.dead, Ent.dead, Ent.dead, Ent.dead]))))))))
theorem tup_eq (u : Unit) : xfunc tab lawG noInv Go.Proofs.Try.f7 [] [] [] = tup u := by kernel_rfl
end Go.Proofs.Ytehecaipmdfjmaa.X.Mi

set_option linter.unusedVariables false
set_option linter.unusedSimpArgs false
namespace Go.Proofs.Ytehecaipmdfjmaa.X.Mi
open Go Go.RowKit Go.Proofs.YtehecaipmdfjmaaW.PrintWords Go.Proofs.Ytehecaipmdfjmaa.Base Go.Proofs.Ytehecaipmdfjmaa.X
theorem step_call : Callable Try.prog 10 := ⟨_, Try.func10, by kernel_rfl, rfl⟩
theorem start_call : Callable Try.prog 12 := ⟨_, Try.func12, by kernel_rfl, rfl⟩
theorem made_call : Callable Try.prog 8 := ⟨_, Try.func8, by kernel_rfl, rfl⟩
theorem up_call : Callable Try.prog 7 := ⟨_, Try.func7, by kernel_rfl, rfl⟩
theorem results_tmp5 {fn : Func} {t u v x y : Tmp} (h : fn.results = #[.tmp t, .tmp u, .tmp v, .tmp x, .tmp y]) (tmps : Array Value) (P : Program) (w : World) :
    (results fn tmps).run P w = .ok (.tuple #[tmps.getD t undef, tmps.getD u undef, tmps.getD v undef, tmps.getD x undef, tmps.getD y undef]) w := by
  simp [results, h]
def errV : Value := .tuple #[.slice none 0 0, .slice none 0 0, .int .i64 0, .int .i64 0, .iface 36 (.int .i64 1)]
set_option maxRecDepth 4000 in
theorem stepA_calls (w : World) (a c e : Value) (i : Int) : Calls Try.prog 10 #[a, .pointer none, c, .int .i64 i, e] w fun r w' => r = .returned errV ∧ w' = w := by
  go_enter Try.func10, Try.ntmps10
  go_wp2
  go_step3
  go_wp2
  simp only [Exit.noGoto]
  show bodyPost Try.prog Go.Proofs.Try.f10 (fun r w' => r = .returned errV ∧ w' = w) _ _ _
  refine bodyPost_ret (results_tmp5 rfl _ _ _) rfl ?_
  exact ⟨by simp [errV], rfl⟩
set_option maxRecDepth 4000 in
theorem stepT_calls (w : World) (a e : Value) (p : Addr) (i : Int) : Calls Try.prog 10 #[a, .pointer (some p), .pointer none, .int .i64 i, e] w fun r w' => r = .returned errV ∧ w' = w := by
  go_enter Try.func10, Try.ntmps10
  go_wp2
  go_step3
  go_wp2
  simp only [Exit.noGoto]
  show bodyPost Try.prog Go.Proofs.Try.f10 (fun r w' => r = .returned errV ∧ w' = w) _ _ _
  refine bodyPost_ret (results_tmp5 rfl _ _ _) rfl ?_
  exact ⟨by simp [errV], rfl⟩
theorem stepA_local (d : Cd) (t : Tb) (i : Int) (ol : Bool) (n cap : Nat) (F : Nat → Fr) (ρ : List Nat) : (stepAC d t i ol n cap F ρ).Local Try.prog 10 := fun ν w hh =>
  (stepA_calls w _ _ _ i).mono fun r w' ⟨h1, h2⟩ => ⟨ν, fun _ => 0, trivial, h1, by rw [h2]; exact hh⟩
theorem stepT_local (d : Cd) (a : Ar) (i : Int) (ol : Bool) (n cap : Nat) (F : Nat → Fr) (ρ : List Nat) : (stepTC d a i ol n cap F ρ).Local Try.prog 10 := fun ν w hh =>
  (stepT_calls w _ _ _ i).mono fun r w' ⟨h1, h2⟩ => ⟨ν, fun _ => 0, trivial, h1, by rw [h2]; exact hh⟩
def dU : Cd := ⟨true, 2, 2, fun i => match i with | 0 => ⟨1, 0, 0, 0, 5⟩ | _ => ⟨22, 0, 0, 0, 0⟩⟩
def mU : Mc := ⟨newA, newT 1, 0, 0, 1, 1, fun _ => ⟨0, fun _ => 0⟩, 0, 0, fun _ => (0, 0)⟩
theorem runU : (runF dU mU).2 = (2, 5) := by kernel_rfl
theorem canU : canF mU = true := by kernel_rfl
theorem run_eq {d : Cd} {m : Mc} {how v : Int} (h : (runF d m).2 = (how, v)) : runF d m = ((runF d m).1, how, v) := by rw [← h]
theorem up_local (k : Nat) : (upC k).Local Try.prog 7 := by
  refine local_of Try.func7 rfl (tup_eq ()) fun ν w => ?_
  refine ok_callf' made_call (fits_of rfl rfl trivial fun c _ => ⟨⟨Nat.zero_le _, rfl⟩, ⟨rfl, rfl⟩, ⟨⟨EntRel.box' rfl rfl rfl rfl rfl, rfl, (fun _ => ⟨rfl, rfl⟩), .inr rfl⟩, ⟨EntRel.rw rfl rfl (fun _ _ => rfl) fun _ _ => rfl, rfl, (fun h => by cases h), .inr rfl⟩, ⟨EntRel.box' rfl rfl rfl rfl rfl, rfl, (fun _ => ⟨rfl, rfl⟩), .inr rfl⟩, ⟨EntRel.rw rfl rfl (fun _ _ => rfl) fun _ _ => rfl, rfl, (fun h => by cases h), .inr rfl⟩, trivial⟩⟩) (made0_local 1 _ (by decide) (by decide)) fun c1 _ => ok_br' (fun h => by cases h) fun _ => ?_
  refine ok_callf' start_call (fits_of rfl rfl trivial fun c _ => ⟨⟨Nat.zero_le _, rfl⟩, ⟨rfl, rfl⟩, ⟨⟨EntRel.rw rfl rfl (fun _ _ => rfl) fun _ _ => rfl, rfl, (fun h => by cases h), .inr rfl⟩, trivial⟩⟩) (start0_local 0 _) fun c2 _ => ok_some' (mU, (runF dU mU).1, 2, 5, dU) ?_
  refine ok_callf' step_call (fits_of rfl rfl ⟨⟨_, rfl, EntRel.rw rfl rfl (fun i hi => by match i, hi with | 0, _ => rfl | 1, _ => rfl) fun _ _ => rfl⟩, ⟨_, rfl, EntRel.box' rfl rfl rfl rfl rfl⟩, ⟨_, rfl, EntRel.rw rfl rfl (fun _ _ => rfl) fun _ _ => rfl⟩, ⟨_, rfl, EntRel.box' rfl rfl rfl rfl rfl⟩, ⟨_, rfl, EntRel.rw rfl rfl (fun _ _ => rfl) fun _ _ => rfl⟩, ⟨_, rfl, EntRel.rw rfl rfl (fun _ _ => rfl) fun _ _ => rfl⟩, trivial⟩ fun c _ => ⟨⟨(by show 6 ≤ 9; decide), rfl⟩, ⟨rfl, rfl⟩, ⟨⟨EntRel.rw rfl rfl (fun _ _ => rfl) fun _ _ => rfl, rfl, (fun h => by cases h), .inr rfl⟩, ⟨EntRel.box' rfl rfl rfl rfl rfl, rfl, (fun _ => ⟨rfl, rfl⟩), .inr rfl⟩, ⟨EntRel.dead, rfl, (fun h => by cases h), .inr rfl⟩, ⟨EntRel.box' rfl rfl rfl rfl rfl, rfl, (fun _ => ⟨rfl, rfl⟩), .inr rfl⟩, ⟨EntRel.rw rfl rfl (fun _ _ => rfl) fun _ _ => rfl, rfl, (fun h => by cases h), .inr rfl⟩, ⟨EntRel.rw rfl rfl (fun _ _ => rfl) fun _ _ => rfl, rfl, (fun h => by cases h), .inr rfl⟩, ⟨EntRel.rw rfl rfl (fun _ _ => rfl) fun _ _ => rfl, rfl, (fun h => by cases h), .inr rfl⟩, ⟨EntRel.rw rfl rfl (fun _ _ => rfl) fun _ _ => rfl, rfl, (fun h => by cases h), .inr rfl⟩, ⟨EntRel.rw rfl rfl (fun _ _ => rfl) fun _ _ => rfl, rfl, (fun h => by cases h), .inr rfl⟩, trivial⟩⟩) (step_local may_local mU _ 2 5 dU true _ _ newA_ok canU (run_eq runU)) fun c3 hc3 => ?_
  refine ok_callf' start_call (fits_of rfl rfl trivial fun c _ => ⟨⟨Nat.zero_le _, rfl⟩, ⟨rfl, rfl⟩, ⟨⟨EntRel.rw rfl rfl (fun _ _ => rfl) fun _ _ => rfl, rfl, (fun h => by cases h), .inr rfl⟩, trivial⟩⟩) (start0_local 0 _) fun c4 _ => ok_some' (dU, (runF dU mU).1.tb, fun _ => ⟨0, fun _ => 0⟩) ?_
  refine ok_callf' step_call (fits_of rfl rfl ⟨⟨_, rfl, EntRel.rw rfl rfl (fun _ _ => rfl) fun _ _ => rfl⟩, ⟨_, rfl, EntRel.box' rfl rfl rfl rfl rfl⟩, ⟨_, rfl, EntRel.rw rfl rfl (fun _ _ => rfl) fun _ _ => rfl⟩, ⟨_, rfl, EntRel.rw rfl rfl (fun _ _ => rfl) fun _ _ => rfl⟩, trivial⟩ fun c _ => ⟨⟨Nat.le_refl _, rfl⟩, ⟨rfl, rfl⟩, ⟨⟨EntRel.rw rfl rfl (fun _ _ => rfl) fun _ _ => rfl, rfl, (fun h => by cases h), .inr rfl⟩, ⟨EntRel.box' rfl rfl rfl rfl rfl, rfl, (fun _ => ⟨rfl, rfl⟩), .inr rfl⟩, ⟨EntRel.rw rfl rfl (fun _ _ => rfl) fun _ _ => rfl, rfl, (fun h => by cases h), .inr rfl⟩, ⟨EntRel.rw rfl rfl (fun _ _ => rfl) fun _ _ => rfl, rfl, (fun h => by cases h), .inr rfl⟩, trivial⟩⟩) (stepA_local _ _ _ _ _ _ _ _) fun c5 _ => ?_
  repeat refine ok_chk' (fun h => h) ?_
  exact ok_leaf (fun _ => 0) [] [] trivial rfl trivial rfl
def dL : Cd := ⟨true, 4, 4, fun i => match i with | 0 => ⟨6, 0, 2, 0, 1⟩ | 1 => ⟨5, 3, 2, 0, 1⟩ | 2 => ⟨6, 1, 2, 0, 1⟩ | _ => ⟨22, 3, 0, 0, 0⟩⟩
end Go.Proofs.Ytehecaipmdfjmaa.X.Mi

set_option linter.unusedVariables false
set_option linter.unusedSimpArgs false
namespace Go.Proofs.Ytehecaipmdfjmaa.X.Mi
open Go Go.RowKit Go.Proofs.YtehecaipmdfjmaaW.PrintWords Go.Proofs.Ytehecaipmdfjmaa.Base Go.Proofs.Ytehecaipmdfjmaa.X
structure Kept (m m' : Mc) : Prop where
  n1 : 1 ≤ m'.nF
  n2 : m'.nF ≤ 16
  ar : m'.ar.Ok
  i : m'.i = m.i
  tn : m'.tb.n = m.tb.n
  now : m'.tb.now = m.tb.now
  most : m'.ar.most = m.ar.most
  an : m.ar.n ≤ m'.ar.n
structure RunL (m R : Mc) (how u v : Int) : Prop where
  run : runF dL m = (R, how, u)
  at2 : R.ar.C 2 = v
  here : hereF R.ar 2 = true
  can : canF m = true
  ok : R.ar.Ok
theorem RunL.of {m : Mc} {how u v : Int} (h1 : (runF dL m).2 = (how, u)) (h2 : (runF dL m).1.ar.C 2 = v) (h3 : hereF (runF dL m).1.ar 2 = true) (h4 : canF m = true) (k : Kept m (runF dL m).1) : RunL m (runF dL m).1 how u v := ⟨run_eq h1, h2, h3, h4, k.ar⟩
abbrev wfI (x : Int) : Prop := (Lit.int .i64 x).wf = true
end Go.Proofs.Ytehecaipmdfjmaa.X.Mi

set_option linter.unusedVariables false
set_option linter.unusedSimpArgs false
namespace Go.Proofs.Ytehecaipmdfjmaa.X.Mi
open Go Go.RowKit Go.Proofs.YtehecaipmdfjmaaW.PrintWords Go.Proofs.Ytehecaipmdfjmaa.Base Go.Proofs.Ytehecaipmdfjmaa.X
def tpick20 (c : Int) : Tree :=
  Tree.br (decide (c < (0 : Int)))
   (Tree.done (XV.a (AV.c (CV.v (Value.int IntKind.i64 (Int.tmod (IntKind.wrap IntKind.i64 ((0 : Int) - IntKind.wrap IntKind.i64 (c + (1 : Int)))) (20 : Int)))))) [])
   (Tree.done (XV.a (AV.c (CV.v (Value.int IntKind.i64 (Int.tmod c (20 : Int)))))) [])
theorem tpick20_eq (c : Int) : xfunc tab noCtr noInv Go.Proofs.Try.f9 [iav c, iav 20] [] [] = tpick20 c := by kernel_rfl
def tpick3 (c : Int) : Tree :=
  Tree.br (decide (c < (0 : Int)))
   (Tree.done (XV.a (AV.c (CV.v (Value.int IntKind.i64 (Int.tmod (IntKind.wrap IntKind.i64 ((0 : Int) - IntKind.wrap IntKind.i64 (c + (1 : Int)))) (3 : Int)))))) [])
   (Tree.done (XV.a (AV.c (CV.v (Value.int IntKind.i64 (Int.tmod c (3 : Int)))))) [])
theorem tpick3_eq (c : Int) : xfunc tab noCtr noInv Go.Proofs.Try.f9 [iav c, iav 3] [] [] = tpick3 c := by kernel_rfl
def pickF (c n : Int) : Int := Int.tmod (bif decide (c < 0) then wr (-(wr (c + 1))) else c) n
abbrev pickC (c n z : Int) : CallSpec := mSpec [] 0 [iav c, iav n] [] (fun _ => True) (fun _ => ia z) fun _ => []
def canB (n : Nat) (i : Int) : Bool := bif (bif (n : Int) == 0 then true else decide ((n : Int) > 16)) then false else (bif decide (0 ≤ i) then decide (i < 2) else false)
def refG : Ctr := fun f args H => match args with
  | [] => some (upC H.length)
  | [.c (.v (.int _ x)), .c (.v (.int _ k))] => some (.ex Int fun z => pickC x k z)
  | [.c (.sl kc _ _ _ n cap), .c (.v (.int _ k))] => some (.ex ((Nat → Int) × Bool) fun z => madeC z.2 n cap k.toNat z.1 [kc] H.length)
  | [.c (.ptr r)] => some (.ex Ar fun a => lenC a [r.k, slAt H r.k 0])
  | [.c (.sl _ _ _ _ _ _), .c (.v (.pointer none)), .c (.v (.pointer none)), _, _] => some (upC H.length)
  | [.c (.sl kd _ _ _ _ _), .c (.v (.pointer none)), .c (.ptr rt), .c (.v (.int _ i)), .c (.sl kf _ _ _ n cap)] => some (.ex (Cd × Tb × (Nat → Fr)) fun s => stepAC s.1 s.2.1 i true n cap s.2.2 [kd, rt.k, slAt H rt.k 0, kf])
  | [.c (.sl kd _ _ _ _ _), .c (.ptr ra), .c (.v (.pointer none)), .c (.v (.int _ i)), .c (.sl kf _ _ _ n cap)] => some (.ex (Cd × Ar × (Nat → Fr)) fun s => stepTC s.1 s.2.1 i true n cap s.2.2 [kd, ra.k, slAt H ra.k 0, kf])
  | [.c (.sl kd _ _ _ _ _), .c (.ptr ra), .c (.ptr rt), .c (.v (.int _ i)), .c (.sl kf _ _ _ n _)] => some (.br (canB n i) (.ex StT fun s => stepC s.1 s.2.1 s.2.2.1 s.2.2.2.1 s.2.2.2.2 true [kd, ra.k, slAt H ra.k 0, rt.k, slAt H rt.k 0, kf] H.length) (.ex (Mc × Cd) fun s => badC s.1 s.2 true [kd, ra.k, slAt H ra.k 0, rt.k, slAt H rt.k 0, kf] H.length))
  | _ => none
def trefuses (d : Cd) (i frames which : Int) : Tree :=
  Tree.callf 7 [] [(Ent.rw d.1 40 5 d.2 d.3 fun ii => [CV.v (Value.int IntKind.i64 (d.4 ii).1), CV.v (Value.int IntKind.i64 (d.4 ii).2), CV.v (Value.int IntKind.i64 (d.4 ii).3), CV.v (Value.int IntKind.i64 (d.4 ii).4), CV.v (Value.int IntKind.i64 (d.4 ii).5)])] (upC 1) fun c => Tree.br (decide ((↑d.2 : Int) > (1024 : Int)))
   (Tree.done (XV.a (AV.c (CV.v (Value.bool true)))) [(Ent.rw d.1 40 5 d.2 d.3 fun ii => [CV.v (Value.int IntKind.i64 (d.4 ii).1), CV.v (Value.int IntKind.i64 (d.4 ii).2), CV.v (Value.int IntKind.i64 (d.4 ii).3), CV.v (Value.int IntKind.i64 (d.4 ii).4), CV.v (Value.int IntKind.i64 (d.4 ii).5)])])
   (Tree.some_ ((Nat → Int) × Bool) fun s => Tree.callf 8 [AV.c (CV.sl 1 0 0 1 3 3), AV.c (CV.v (Value.int IntKind.i64 (2 : Int)))] [(Ent.rw d.1 40 5 d.2 d.3 fun ii => [CV.v (Value.int IntKind.i64 (d.4 ii).1), CV.v (Value.int IntKind.i64 (d.4 ii).2), CV.v (Value.int IntKind.i64 (d.4 ii).3), CV.v (Value.int IntKind.i64 (d.4 ii).4), CV.v (Value.int IntKind.i64 (d.4 ii).5)]), (Ent.rw true 2 1 3 3 fun ii => List.getD [[CV.v (Value.int IntKind.i64 (1 : Int))], [CV.v (Value.int IntKind.i64 (2 : Int))], [CV.v (Value.int IntKind.i64 (3 : Int))]] ii [])] (madeC (Prod.snd s) 3 3 2 (fun a => Prod.fst s a) [1] 2) fun c => Tree.br false
   (Tree.done (XV.a (AV.c (CV.v (Value.bool false)))) [(Ent.rw d.1 40 5 d.2 d.3 fun ii => [CV.v (Value.int IntKind.i64 (d.4 ii).1), CV.v (Value.int IntKind.i64 (d.4 ii).2), CV.v (Value.int IntKind.i64 (d.4 ii).3), CV.v (Value.int IntKind.i64 (d.4 ii).4), CV.v (Value.int IntKind.i64 (d.4 ii).5)]), Ent.dead, Ent.dead, Ent.dead, Ent.dead, Ent.dead])
   (Tree.some_ Int fun s_1 => Tree.callf 9 [AV.c (CV.v (Value.int IntKind.i64 frames)), AV.c (CV.v (Value.int IntKind.i64 (20 : Int)))] [(Ent.rw d.1 40 5 d.2 d.3 fun ii => [CV.v (Value.int IntKind.i64 (d.4 ii).1), CV.v (Value.int IntKind.i64 (d.4 ii).2), CV.v (Value.int IntKind.i64 (d.4 ii).3), CV.v (Value.int IntKind.i64 (d.4 ii).4), CV.v (Value.int IntKind.i64 (d.4 ii).5)]), (Ent.rw (Prod.snd s) 2 1 3 3 fun ii => [CV.v (Value.int IntKind.i64 (Prod.fst s ii))]), { own := true, box := true, ty := 72, sz := 2, m := 1, n := fun a => 1, cap := fun a => 1, f := fun x x_1 => [CV.sl 3 0 0 1 4 (c 0), CV.v (Value.int IntKind.i64 (4096 : Int))], ov := [] }, (Ent.rw true 2 1 4 (c 0) fun ii => [CV.v (Value.int IntKind.i64 (if ii = 0 then (0 : Int) else if ii ≤ 3 then Prod.fst s (ii - 1) else (0 : Int)))]), { own := true, box := true, ty := 78, sz := 2, m := 1, n := fun a => 1, cap := fun a => 1, f := fun x x_1 => [CV.sl 5 0 0 4 2 2, CV.v (Value.int IntKind.i64 (0 : Int))], ov := [] }, (Ent.rw true 59 4 2 2 fun ii => [CV.v (Value.bool false), CV.v (Value.bool false), CV.v (Value.bool false), CV.v (Value.int IntKind.i64 (0 : Int))])] (pickC frames (20 : Int) s_1) fun c_1 => Tree.chk ((0 : Int) ≤ s_1 ∧ s_1 ≤ s_1 ∧ s_1 * (↑136 : Int) ≤ (140737488355328 : Int))
   (Tree.some_ Int fun s_2 => Tree.callf 9 [AV.c (CV.v (Value.int IntKind.i64 which)), AV.c (CV.v (Value.int IntKind.i64 (3 : Int)))] [(Ent.rw d.1 40 5 d.2 d.3 fun ii => [CV.v (Value.int IntKind.i64 (d.4 ii).1), CV.v (Value.int IntKind.i64 (d.4 ii).2), CV.v (Value.int IntKind.i64 (d.4 ii).3), CV.v (Value.int IntKind.i64 (d.4 ii).4), CV.v (Value.int IntKind.i64 (d.4 ii).5)]), (Ent.rw (Prod.snd s) 2 1 3 3 fun ii => [CV.v (Value.int IntKind.i64 (Prod.fst s ii))]), { own := true, box := true, ty := 72, sz := 2, m := 1, n := fun a => 1, cap := fun a => 1, f := fun x x_1 => [CV.sl 3 0 0 1 4 (c 0), CV.v (Value.int IntKind.i64 (4096 : Int))], ov := [] }, (Ent.rw true 2 1 4 (c 0) fun ii => [CV.v (Value.int IntKind.i64 (if ii = 0 then (0 : Int) else if ii ≤ 3 then Prod.fst s (ii - 1) else (0 : Int)))]), { own := true, box := true, ty := 78, sz := 2, m := 1, n := fun a => 1, cap := fun a => 1, f := fun x x_1 => [CV.sl 5 0 0 4 2 2, CV.v (Value.int IntKind.i64 (0 : Int))], ov := [] }, (Ent.rw true 59 4 2 2 fun ii => [CV.v (Value.bool false), CV.v (Value.bool false), CV.v (Value.bool false), CV.v (Value.int IntKind.i64 (0 : Int))]), (Ent.rw true 66 17 (Int.toNat s_1) (Int.toNat s_1) fun ii => [CV.v (Value.int IntKind.i64 (0 : Int)), CV.v (Value.int IntKind.i64 (0 : Int)), CV.v (Value.int IntKind.i64 (0 : Int)), CV.v (Value.int IntKind.i64 (0 : Int)), CV.v (Value.int IntKind.i64 (0 : Int)), CV.v (Value.int IntKind.i64 (0 : Int)), CV.v (Value.int IntKind.i64 (0 : Int)), CV.v (Value.int IntKind.i64 (0 : Int)), CV.v (Value.int IntKind.i64 (0 : Int)), CV.v (Value.int IntKind.i64 (0 : Int)), CV.v (Value.int IntKind.i64 (0 : Int)), CV.v (Value.int IntKind.i64 (0 : Int)), CV.v (Value.int IntKind.i64 (0 : Int)), CV.v (Value.int IntKind.i64 (0 : Int)), CV.v (Value.int IntKind.i64 (0 : Int)), CV.v (Value.int IntKind.i64 (0 : Int)), CV.v (Value.int IntKind.i64 (0 : Int))])] (pickC which (3 : Int) s_2) fun c_2 => Tree.br (s_2 == (1 : Int))
   (Tree.br (s_2 == (2 : Int))
   (Tree.callf 10 [AV.c (CV.sl 0 0 0 5 d.2 d.3), AV.c (CV.v (Value.pointer none)), AV.c (CV.v (Value.pointer none)), AV.c (CV.v (Value.int IntKind.i64 i)), AV.c (CV.sl 6 0 0 17 (Int.toNat s_1) (Int.toNat s_1))] [(Ent.rw d.1 40 5 d.2 d.3 fun ii => [CV.v (Value.int IntKind.i64 (d.4 ii).1), CV.v (Value.int IntKind.i64 (d.4 ii).2), CV.v (Value.int IntKind.i64 (d.4 ii).3), CV.v (Value.int IntKind.i64 (d.4 ii).4), CV.v (Value.int IntKind.i64 (d.4 ii).5)]), (Ent.rw (Prod.snd s) 2 1 3 3 fun ii => [CV.v (Value.int IntKind.i64 (Prod.fst s ii))]), { own := true, box := true, ty := 72, sz := 2, m := 1, n := fun a => 1, cap := fun a => 1, f := fun x x_1 => [CV.sl 3 0 0 1 4 (c 0), CV.v (Value.int IntKind.i64 (4096 : Int))], ov := [] }, (Ent.rw true 2 1 4 (c 0) fun ii => [CV.v (Value.int IntKind.i64 (if ii = 0 then (0 : Int) else if ii ≤ 3 then Prod.fst s (ii - 1) else (0 : Int)))]), { own := true, box := true, ty := 78, sz := 2, m := 1, n := fun a => 1, cap := fun a => 1, f := fun x x_1 => [CV.sl 5 0 0 4 2 2, CV.v (Value.int IntKind.i64 (0 : Int))], ov := [] }, (Ent.rw true 59 4 2 2 fun ii => [CV.v (Value.bool false), CV.v (Value.bool false), CV.v (Value.bool false), CV.v (Value.int IntKind.i64 (0 : Int))]), (Ent.rw true 66 17 (Int.toNat s_1) (Int.toNat s_1) fun ii => [CV.v (Value.int IntKind.i64 (0 : Int)), CV.v (Value.int IntKind.i64 (0 : Int)), CV.v (Value.int IntKind.i64 (0 : Int)), CV.v (Value.int IntKind.i64 (0 : Int)), CV.v (Value.int IntKind.i64 (0 : Int)), CV.v (Value.int IntKind.i64 (0 : Int)), CV.v (Value.int IntKind.i64 (0 : Int)), CV.v (Value.int IntKind.i64 (0 : Int)), CV.v (Value.int IntKind.i64 (0 : Int)), CV.v (Value.int IntKind.i64 (0 : Int)), CV.v (Value.int IntKind.i64 (0 : Int)), CV.v (Value.int IntKind.i64 (0 : Int)), CV.v (Value.int IntKind.i64 (0 : Int)), CV.v (Value.int IntKind.i64 (0 : Int)), CV.v (Value.int IntKind.i64 (0 : Int)), CV.v (Value.int IntKind.i64 (0 : Int)), CV.v (Value.int IntKind.i64 (0 : Int))])] (upC 7) fun c => Tree.fail 94)
   (Tree.some_ (Cd × Tb × (Nat → Fr)) fun s_3 => Tree.callf 10 [AV.c (CV.sl 0 0 0 5 d.2 d.3), AV.c (CV.v (Value.pointer none)), AV.c (CV.ptr ⟨4, 0, 0, 2, 0, 0, 0, 0⟩), AV.c (CV.v (Value.int IntKind.i64 i)), AV.c (CV.sl 6 0 0 17 (Int.toNat s_1) (Int.toNat s_1))] [(Ent.rw d.1 40 5 d.2 d.3 fun ii => [CV.v (Value.int IntKind.i64 (d.4 ii).1), CV.v (Value.int IntKind.i64 (d.4 ii).2), CV.v (Value.int IntKind.i64 (d.4 ii).3), CV.v (Value.int IntKind.i64 (d.4 ii).4), CV.v (Value.int IntKind.i64 (d.4 ii).5)]), (Ent.rw (Prod.snd s) 2 1 3 3 fun ii => [CV.v (Value.int IntKind.i64 (Prod.fst s ii))]), { own := true, box := true, ty := 72, sz := 2, m := 1, n := fun a => 1, cap := fun a => 1, f := fun x x_1 => [CV.sl 3 0 0 1 4 (c 0), CV.v (Value.int IntKind.i64 (4096 : Int))], ov := [] }, (Ent.rw true 2 1 4 (c 0) fun ii => [CV.v (Value.int IntKind.i64 (if ii = 0 then (0 : Int) else if ii ≤ 3 then Prod.fst s (ii - 1) else (0 : Int)))]), { own := true, box := true, ty := 78, sz := 2, m := 1, n := fun a => 1, cap := fun a => 1, f := fun x x_1 => [CV.sl 5 0 0 4 2 2, CV.v (Value.int IntKind.i64 (0 : Int))], ov := [] }, (Ent.rw true 59 4 2 2 fun ii => [CV.v (Value.bool false), CV.v (Value.bool false), CV.v (Value.bool false), CV.v (Value.int IntKind.i64 (0 : Int))]), (Ent.rw true 66 17 (Int.toNat s_1) (Int.toNat s_1) fun ii => [CV.v (Value.int IntKind.i64 (0 : Int)), CV.v (Value.int IntKind.i64 (0 : Int)), CV.v (Value.int IntKind.i64 (0 : Int)), CV.v (Value.int IntKind.i64 (0 : Int)), CV.v (Value.int IntKind.i64 (0 : Int)), CV.v (Value.int IntKind.i64 (0 : Int)), CV.v (Value.int IntKind.i64 (0 : Int)), CV.v (Value.int IntKind.i64 (0 : Int)), CV.v (Value.int IntKind.i64 (0 : Int)), CV.v (Value.int IntKind.i64 (0 : Int)), CV.v (Value.int IntKind.i64 (0 : Int)), CV.v (Value.int IntKind.i64 (0 : Int)), CV.v (Value.int IntKind.i64 (0 : Int)), CV.v (Value.int IntKind.i64 (0 : Int)), CV.v (Value.int IntKind.i64 (0 : Int)), CV.v (Value.int IntKind.i64 (0 : Int)), CV.v (Value.int IntKind.i64 (0 : Int))])] (stepAC (Prod.fst s_3) (Prod.fst (Prod.snd s_3)) i true (Int.toNat s_1) (Int.toNat s_1) (fun a => Prod.snd (Prod.snd s_3) a) [0, 4, 5, 6]) fun c_3 => Tree.chk ((!decide (s_2 > (0 : Int))) = true → (!decide (s_2 > (0 : Int))) = true)
   (Tree.chk (decide (s_2 > (0 : Int)) = false → (!decide (s_2 > (0 : Int))) = true)
   (Tree.chk ((!bif decide (s_2 > (0 : Int)) then true else decide (i < (0 : Int))) = true → (!bif decide (s_2 > (0 : Int)) then true else decide (i < (0 : Int))) = true)
   (Tree.chk ((bif decide (s_2 > (0 : Int)) then true else decide (i < (0 : Int))) = false → (!bif decide (s_2 > (0 : Int)) then true else decide (i < (0 : Int))) = true)
   (Tree.chk ((!bif bif decide (s_2 > (0 : Int)) then true else decide (i < (0 : Int)) then true else decide (i > (1 : Int))) = true → (!bif bif decide (s_2 > (0 : Int)) then true else decide (i < (0 : Int)) then true else decide (i > (1 : Int))) = true)
   (Tree.chk ((bif bif decide (s_2 > (0 : Int)) then true else decide (i < (0 : Int)) then true else decide (i > (1 : Int))) = false → (!bif bif decide (s_2 > (0 : Int)) then true else decide (i < (0 : Int)) then true else decide (i > (1 : Int))) = true)
   (Tree.chk ((!bif bif bif decide (s_2 > (0 : Int)) then true else decide (i < (0 : Int)) then true else decide (i > (1 : Int)) then true else s_1 == (0 : Int)) = true → (!bif bif bif decide (s_2 > (0 : Int)) then true else decide (i < (0 : Int)) then true else decide (i > (1 : Int)) then true else s_1 == (0 : Int)) = true)
   (Tree.chk ((bif bif bif decide (s_2 > (0 : Int)) then true else decide (i < (0 : Int)) then true else decide (i > (1 : Int)) then true else s_1 == (0 : Int)) = false → (!bif bif bif decide (s_2 > (0 : Int)) then true else decide (i < (0 : Int)) then true else decide (i > (1 : Int)) then true else s_1 == (0 : Int)) = true)
   (Tree.br (!bif bif bif bif decide (s_2 > (0 : Int)) then true else decide (i < (0 : Int)) then true else decide (i > (1 : Int)) then true else s_1 == (0 : Int) then true else decide (s_1 > (16 : Int)))
   (Tree.chk (true = true → true = true)
   (Tree.chk (true = true → true = true)
   (Tree.chk (false = true → false = true)
   (Tree.chk (false = true → false = true)
   (Tree.chk (false = true → false = true)
   (Tree.chk (false = true → false = true)
   (Tree.done (XV.a (AV.c (CV.v (Value.bool false)))) [(Ent.rw (Prod.fst s_3).1 40 5 (Prod.fst s_3).2 (Prod.fst s_3).3 fun ii => [CV.v (Value.int IntKind.i64 ((Prod.fst s_3).4 ii).1), CV.v (Value.int IntKind.i64 ((Prod.fst s_3).4 ii).2), CV.v (Value.int IntKind.i64 ((Prod.fst s_3).4 ii).3), CV.v (Value.int IntKind.i64 ((Prod.fst s_3).4 ii).4), CV.v (Value.int IntKind.i64 ((Prod.fst s_3).4 ii).5)]), Ent.dead, Ent.dead, Ent.dead, Ent.dead, Ent.dead, Ent.dead])))))))
   (Tree.chk (true = true → true = true)
   (Tree.chk (true = true → true = true)
   (Tree.chk (true = true → true = true)
   (Tree.chk (true = true → true = true)
   (Tree.chk (true = true → true = true)
   (Tree.chk (true = true → true = true)
   (Tree.chk (true = true → true = true)
   (Tree.chk (true = true → true = true)
   (Tree.chk (true = true → true = true)
   (Tree.chk (true = true → true = true)
   (Tree.chk (true = true → true = true)
   (Tree.chk (true = true → true = true)
   (Tree.chk (true = true → true = true)
   (Tree.br true
   (Tree.chk (true = true)
   (Tree.some_ Ar fun s_4 => Tree.callf 11 [AV.c (CV.ptr ⟨2, 0, 0, 2, 0, 0, 0, 0⟩)] [(Ent.rw (Prod.fst s_3).1 40 5 (Prod.fst s_3).2 (Prod.fst s_3).3 fun ii => [CV.v (Value.int IntKind.i64 ((Prod.fst s_3).4 ii).1), CV.v (Value.int IntKind.i64 ((Prod.fst s_3).4 ii).2), CV.v (Value.int IntKind.i64 ((Prod.fst s_3).4 ii).3), CV.v (Value.int IntKind.i64 ((Prod.fst s_3).4 ii).4), CV.v (Value.int IntKind.i64 ((Prod.fst s_3).4 ii).5)]), (Ent.rw (Prod.snd s) 2 1 3 3 fun ii => [CV.v (Value.int IntKind.i64 (Prod.fst s ii))]), { own := true, box := true, ty := 72, sz := 2, m := 1, n := fun a => 1, cap := fun a => 1, f := fun x x_1 => [CV.sl 3 0 0 1 4 (c 0), CV.v (Value.int IntKind.i64 (4096 : Int))], ov := [] }, (Ent.rw true 2 1 4 (c 0) fun ii => [CV.v (Value.int IntKind.i64 (if ii = 0 then (0 : Int) else if ii ≤ 3 then Prod.fst s (ii - 1) else (0 : Int)))]), { own := true, box := true, ty := 78, sz := 2, m := 1, n := fun a => 1, cap := fun a => 1, f := fun x x_1 => [CV.sl 5 0 0 4 (Prod.fst (Prod.snd s_3)).1 (Prod.fst (Prod.snd s_3)).2, CV.v (Value.int IntKind.i64 (Prod.fst (Prod.snd s_3)).4)], ov := [] }, (Ent.rw true 59 4 (Prod.fst (Prod.snd s_3)).1 (Prod.fst (Prod.snd s_3)).2 fun ii => [CV.v (Value.bool ((Prod.fst (Prod.snd s_3)).3 ii).1), CV.v (Value.bool ((Prod.fst (Prod.snd s_3)).3 ii).2), CV.v (Value.bool ((Prod.fst (Prod.snd s_3)).3 ii).3), CV.v (Value.int IntKind.i64 ((Prod.fst (Prod.snd s_3)).3 ii).4)]), (Ent.rw true 66 17 (Int.toNat s_1) (Int.toNat s_1) fun ii => [CV.v (Value.int IntKind.i64 (Prod.snd (Prod.snd s_3) ii).1), CV.v (Value.int IntKind.i64 ((Prod.snd (Prod.snd s_3) ii).2 0)), CV.v (Value.int IntKind.i64 ((Prod.snd (Prod.snd s_3) ii).2 1)), CV.v (Value.int IntKind.i64 ((Prod.snd (Prod.snd s_3) ii).2 2)), CV.v (Value.int IntKind.i64 ((Prod.snd (Prod.snd s_3) ii).2 3)), CV.v (Value.int IntKind.i64 ((Prod.snd (Prod.snd s_3) ii).2 4)), CV.v (Value.int IntKind.i64 ((Prod.snd (Prod.snd s_3) ii).2 5)), CV.v (Value.int IntKind.i64 ((Prod.snd (Prod.snd s_3) ii).2 6)), CV.v (Value.int IntKind.i64 ((Prod.snd (Prod.snd s_3) ii).2 7)), CV.v (Value.int IntKind.i64 ((Prod.snd (Prod.snd s_3) ii).2 8)), CV.v (Value.int IntKind.i64 ((Prod.snd (Prod.snd s_3) ii).2 9)), CV.v (Value.int IntKind.i64 ((Prod.snd (Prod.snd s_3) ii).2 10)), CV.v (Value.int IntKind.i64 ((Prod.snd (Prod.snd s_3) ii).2 11)), CV.v (Value.int IntKind.i64 ((Prod.snd (Prod.snd s_3) ii).2 12)), CV.v (Value.int IntKind.i64 ((Prod.snd (Prod.snd s_3) ii).2 13)), CV.v (Value.int IntKind.i64 ((Prod.snd (Prod.snd s_3) ii).2 14)), CV.v (Value.int IntKind.i64 ((Prod.snd (Prod.snd s_3) ii).2 15))])] (lenC s_4 [2, 3]) fun c => Tree.chk (true = true → true = true)
   (Tree.done (XV.a (AV.c (CV.v (Value.bool (bif bif bif bif bif bif true then (1 : Int) == (1 : Int) else false then (↑(0 : Nat) : Int) == (0 : Int) else false then (↑0 : Int) == (0 : Int) else false then (0 : Int) == (0 : Int) else false then (0 : Int) == (0 : Int) else false then lenF s_4 == (3 : Int) else false))))) [(Ent.rw (Prod.fst s_3).1 40 5 (Prod.fst s_3).2 (Prod.fst s_3).3 fun ii => [CV.v (Value.int IntKind.i64 ((Prod.fst s_3).4 ii).1), CV.v (Value.int IntKind.i64 ((Prod.fst s_3).4 ii).2), CV.v (Value.int IntKind.i64 ((Prod.fst s_3).4 ii).3), CV.v (Value.int IntKind.i64 ((Prod.fst s_3).4 ii).4), CV.v (Value.int IntKind.i64 ((Prod.fst s_3).4 ii).5)]), Ent.dead, Ent.dead, Ent.dead, Ent.dead, Ent.dead, Ent.dead])))
   (Tree.chk (true = true → False)
   (Tree.chk (true = false)
   (Tree.done (XV.a (AV.c (CV.v (Value.bool false)))) [(Ent.rw (Prod.fst s_3).1 40 5 (Prod.fst s_3).2 (Prod.fst s_3).3 fun ii => [CV.v (Value.int IntKind.i64 ((Prod.fst s_3).4 ii).1), CV.v (Value.int IntKind.i64 ((Prod.fst s_3).4 ii).2), CV.v (Value.int IntKind.i64 ((Prod.fst s_3).4 ii).3), CV.v (Value.int IntKind.i64 ((Prod.fst s_3).4 ii).4), CV.v (Value.int IntKind.i64 ((Prod.fst s_3).4 ii).5)]), Ent.dead, Ent.dead, Ent.dead, Ent.dead, Ent.dead, Ent.dead])))))))))))))))))))))))))))
   (Tree.br (s_2 == (2 : Int))
   (Tree.some_ (Cd × Ar × (Nat → Fr)) fun s_3 => Tree.callf 10 [AV.c (CV.sl 0 0 0 5 d.2 d.3), AV.c (CV.ptr ⟨2, 0, 0, 2, 0, 0, 0, 0⟩), AV.c (CV.v (Value.pointer none)), AV.c (CV.v (Value.int IntKind.i64 i)), AV.c (CV.sl 6 0 0 17 (Int.toNat s_1) (Int.toNat s_1))] [(Ent.rw d.1 40 5 d.2 d.3 fun ii => [CV.v (Value.int IntKind.i64 (d.4 ii).1), CV.v (Value.int IntKind.i64 (d.4 ii).2), CV.v (Value.int IntKind.i64 (d.4 ii).3), CV.v (Value.int IntKind.i64 (d.4 ii).4), CV.v (Value.int IntKind.i64 (d.4 ii).5)]), (Ent.rw (Prod.snd s) 2 1 3 3 fun ii => [CV.v (Value.int IntKind.i64 (Prod.fst s ii))]), { own := true, box := true, ty := 72, sz := 2, m := 1, n := fun a => 1, cap := fun a => 1, f := fun x x_1 => [CV.sl 3 0 0 1 4 (c 0), CV.v (Value.int IntKind.i64 (4096 : Int))], ov := [] }, (Ent.rw true 2 1 4 (c 0) fun ii => [CV.v (Value.int IntKind.i64 (if ii = 0 then (0 : Int) else if ii ≤ 3 then Prod.fst s (ii - 1) else (0 : Int)))]), { own := true, box := true, ty := 78, sz := 2, m := 1, n := fun a => 1, cap := fun a => 1, f := fun x x_1 => [CV.sl 5 0 0 4 2 2, CV.v (Value.int IntKind.i64 (0 : Int))], ov := [] }, (Ent.rw true 59 4 2 2 fun ii => [CV.v (Value.bool false), CV.v (Value.bool false), CV.v (Value.bool false), CV.v (Value.int IntKind.i64 (0 : Int))]), (Ent.rw true 66 17 (Int.toNat s_1) (Int.toNat s_1) fun ii => [CV.v (Value.int IntKind.i64 (0 : Int)), CV.v (Value.int IntKind.i64 (0 : Int)), CV.v (Value.int IntKind.i64 (0 : Int)), CV.v (Value.int IntKind.i64 (0 : Int)), CV.v (Value.int IntKind.i64 (0 : Int)), CV.v (Value.int IntKind.i64 (0 : Int)), CV.v (Value.int IntKind.i64 (0 : Int)), CV.v (Value.int IntKind.i64 (0 : Int)), CV.v (Value.int IntKind.i64 (0 : Int)), CV.v (Value.int IntKind.i64 (0 : Int)), CV.v (Value.int IntKind.i64 (0 : Int)), CV.v (Value.int IntKind.i64 (0 : Int)), CV.v (Value.int IntKind.i64 (0 : Int)), CV.v (Value.int IntKind.i64 (0 : Int)), CV.v (Value.int IntKind.i64 (0 : Int)), CV.v (Value.int IntKind.i64 (0 : Int)), CV.v (Value.int IntKind.i64 (0 : Int))])] (stepTC (Prod.fst s_3) (Prod.fst (Prod.snd s_3)) i true (Int.toNat s_1) (Int.toNat s_1) (fun a => Prod.snd (Prod.snd s_3) a) [0, 2, 3, 6]) fun c => Tree.chk ((!decide (s_2 > (0 : Int))) = true → (!decide (s_2 > (0 : Int))) = true)
   (Tree.chk (decide (s_2 > (0 : Int)) = false → (!decide (s_2 > (0 : Int))) = true)
   (Tree.chk ((!bif decide (s_2 > (0 : Int)) then true else decide (i < (0 : Int))) = true → (!bif decide (s_2 > (0 : Int)) then true else decide (i < (0 : Int))) = true)
   (Tree.chk ((bif decide (s_2 > (0 : Int)) then true else decide (i < (0 : Int))) = false → (!bif decide (s_2 > (0 : Int)) then true else decide (i < (0 : Int))) = true)
   (Tree.chk ((!bif bif decide (s_2 > (0 : Int)) then true else decide (i < (0 : Int)) then true else decide (i > (1 : Int))) = true → (!bif bif decide (s_2 > (0 : Int)) then true else decide (i < (0 : Int)) then true else decide (i > (1 : Int))) = true)
   (Tree.chk ((bif bif decide (s_2 > (0 : Int)) then true else decide (i < (0 : Int)) then true else decide (i > (1 : Int))) = false → (!bif bif decide (s_2 > (0 : Int)) then true else decide (i < (0 : Int)) then true else decide (i > (1 : Int))) = true)
   (Tree.chk ((!bif bif bif decide (s_2 > (0 : Int)) then true else decide (i < (0 : Int)) then true else decide (i > (1 : Int)) then true else s_1 == (0 : Int)) = true → (!bif bif bif decide (s_2 > (0 : Int)) then true else decide (i < (0 : Int)) then true else decide (i > (1 : Int)) then true else s_1 == (0 : Int)) = true)
   (Tree.chk ((bif bif bif decide (s_2 > (0 : Int)) then true else decide (i < (0 : Int)) then true else decide (i > (1 : Int)) then true else s_1 == (0 : Int)) = false → (!bif bif bif decide (s_2 > (0 : Int)) then true else decide (i < (0 : Int)) then true else decide (i > (1 : Int)) then true else s_1 == (0 : Int)) = true)
   (Tree.br (!bif bif bif bif decide (s_2 > (0 : Int)) then true else decide (i < (0 : Int)) then true else decide (i > (1 : Int)) then true else s_1 == (0 : Int) then true else decide (s_1 > (16 : Int)))
   (Tree.chk (true = true → true = true)
   (Tree.chk (true = true → true = true)
   (Tree.chk (false = true → false = true)
   (Tree.chk (false = true → false = true)
   (Tree.chk (false = true → false = true)
   (Tree.chk (false = true → false = true)
   (Tree.done (XV.a (AV.c (CV.v (Value.bool false)))) [(Ent.rw (Prod.fst s_3).1 40 5 (Prod.fst s_3).2 (Prod.fst s_3).3 fun ii => [CV.v (Value.int IntKind.i64 ((Prod.fst s_3).4 ii).1), CV.v (Value.int IntKind.i64 ((Prod.fst s_3).4 ii).2), CV.v (Value.int IntKind.i64 ((Prod.fst s_3).4 ii).3), CV.v (Value.int IntKind.i64 ((Prod.fst s_3).4 ii).4), CV.v (Value.int IntKind.i64 ((Prod.fst s_3).4 ii).5)]), Ent.dead, Ent.dead, Ent.dead, Ent.dead, Ent.dead, Ent.dead])))))))
   (Tree.chk (true = true → true = true)
   (Tree.chk (true = true → true = true)
   (Tree.chk (true = true → true = true)
   (Tree.chk (true = true → true = true)
   (Tree.chk (true = true → true = true)
   (Tree.chk (true = true → true = true)
   (Tree.chk (true = true → true = true)
   (Tree.chk (true = true → true = true)
   (Tree.chk (true = true → true = true)
   (Tree.chk (true = true → true = true)
   (Tree.chk (true = true → true = true)
   (Tree.chk (true = true → true = true)
   (Tree.chk (true = true → true = true)
   (Tree.br true
   (Tree.chk (true = true)
   (Tree.some_ Ar fun s_4 => Tree.callf 11 [AV.c (CV.ptr ⟨2, 0, 0, 2, 0, 0, 0, 0⟩)] [(Ent.rw (Prod.fst s_3).1 40 5 (Prod.fst s_3).2 (Prod.fst s_3).3 fun ii => [CV.v (Value.int IntKind.i64 ((Prod.fst s_3).4 ii).1), CV.v (Value.int IntKind.i64 ((Prod.fst s_3).4 ii).2), CV.v (Value.int IntKind.i64 ((Prod.fst s_3).4 ii).3), CV.v (Value.int IntKind.i64 ((Prod.fst s_3).4 ii).4), CV.v (Value.int IntKind.i64 ((Prod.fst s_3).4 ii).5)]), (Ent.rw (Prod.snd s) 2 1 3 3 fun ii => [CV.v (Value.int IntKind.i64 (Prod.fst s ii))]), { own := true, box := true, ty := 72, sz := 2, m := 1, n := fun a => 1, cap := fun a => 1, f := fun x x_1 => [CV.sl 3 0 0 1 (Prod.fst (Prod.snd s_3)).1 (Prod.fst (Prod.snd s_3)).2, CV.v (Value.int IntKind.i64 (Prod.fst (Prod.snd s_3)).4)], ov := [] }, (Ent.rw true 2 1 (Prod.fst (Prod.snd s_3)).1 (Prod.fst (Prod.snd s_3)).2 fun ii => [CV.v (Value.int IntKind.i64 ((Prod.fst (Prod.snd s_3)).3 ii))]), { own := true, box := true, ty := 78, sz := 2, m := 1, n := fun a => 1, cap := fun a => 1, f := fun x x_1 => [CV.sl 5 0 0 4 2 2, CV.v (Value.int IntKind.i64 (0 : Int))], ov := [] }, (Ent.rw true 59 4 2 2 fun ii => [CV.v (Value.bool false), CV.v (Value.bool false), CV.v (Value.bool false), CV.v (Value.int IntKind.i64 (0 : Int))]), (Ent.rw true 66 17 (Int.toNat s_1) (Int.toNat s_1) fun ii => [CV.v (Value.int IntKind.i64 (Prod.snd (Prod.snd s_3) ii).1), CV.v (Value.int IntKind.i64 ((Prod.snd (Prod.snd s_3) ii).2 0)), CV.v (Value.int IntKind.i64 ((Prod.snd (Prod.snd s_3) ii).2 1)), CV.v (Value.int IntKind.i64 ((Prod.snd (Prod.snd s_3) ii).2 2)), CV.v (Value.int IntKind.i64 ((Prod.snd (Prod.snd s_3) ii).2 3)), CV.v (Value.int IntKind.i64 ((Prod.snd (Prod.snd s_3) ii).2 4)), CV.v (Value.int IntKind.i64 ((Prod.snd (Prod.snd s_3) ii).2 5)), CV.v (Value.int IntKind.i64 ((Prod.snd (Prod.snd s_3) ii).2 6)), CV.v (Value.int IntKind.i64 ((Prod.snd (Prod.snd s_3) ii).2 7)), CV.v (Value.int IntKind.i64 ((Prod.snd (Prod.snd s_3) ii).2 8)), CV.v (Value.int IntKind.i64 ((Prod.snd (Prod.snd s_3) ii).2 9)), CV.v (Value.int IntKind.i64 ((Prod.snd (Prod.snd s_3) ii).2 10)), CV.v (Value.int IntKind.i64 ((Prod.snd (Prod.snd s_3) ii).2 11)), CV.v (Value.int IntKind.i64 ((Prod.snd (Prod.snd s_3) ii).2 12)), CV.v (Value.int IntKind.i64 ((Prod.snd (Prod.snd s_3) ii).2 13)), CV.v (Value.int IntKind.i64 ((Prod.snd (Prod.snd s_3) ii).2 14)), CV.v (Value.int IntKind.i64 ((Prod.snd (Prod.snd s_3) ii).2 15))])] (lenC s_4 [2, 3]) fun c => Tree.chk (true = true → true = true)
   (Tree.done (XV.a (AV.c (CV.v (Value.bool (bif bif bif bif bif bif true then (1 : Int) == (1 : Int) else false then (↑(0 : Nat) : Int) == (0 : Int) else false then (↑0 : Int) == (0 : Int) else false then (0 : Int) == (0 : Int) else false then (0 : Int) == (0 : Int) else false then lenF s_4 == (3 : Int) else false))))) [(Ent.rw (Prod.fst s_3).1 40 5 (Prod.fst s_3).2 (Prod.fst s_3).3 fun ii => [CV.v (Value.int IntKind.i64 ((Prod.fst s_3).4 ii).1), CV.v (Value.int IntKind.i64 ((Prod.fst s_3).4 ii).2), CV.v (Value.int IntKind.i64 ((Prod.fst s_3).4 ii).3), CV.v (Value.int IntKind.i64 ((Prod.fst s_3).4 ii).4), CV.v (Value.int IntKind.i64 ((Prod.fst s_3).4 ii).5)]), Ent.dead, Ent.dead, Ent.dead, Ent.dead, Ent.dead, Ent.dead])))
   (Tree.chk (true = true → False)
   (Tree.chk (true = false)
   (Tree.done (XV.a (AV.c (CV.v (Value.bool false)))) [(Ent.rw (Prod.fst s_3).1 40 5 (Prod.fst s_3).2 (Prod.fst s_3).3 fun ii => [CV.v (Value.int IntKind.i64 ((Prod.fst s_3).4 ii).1), CV.v (Value.int IntKind.i64 ((Prod.fst s_3).4 ii).2), CV.v (Value.int IntKind.i64 ((Prod.fst s_3).4 ii).3), CV.v (Value.int IntKind.i64 ((Prod.fst s_3).4 ii).4), CV.v (Value.int IntKind.i64 ((Prod.fst s_3).4 ii).5)]), Ent.dead, Ent.dead, Ent.dead, Ent.dead, Ent.dead, Ent.dead]))))))))))))))))))))))))))
   (Tree.br (bif bif (↑(Int.toNat s_1) : Int) == (0 : Int) then true else decide ((↑(Int.toNat s_1) : Int) > (16 : Int)) then false else bif decide ((0 : Int) ≤ i) then decide (i < (2 : Int)) else false)
   (Tree.some_ (Mc × Mc × Int × Int × Cd) fun s_3 => Tree.callf 10 [AV.c (CV.sl 0 0 0 5 d.2 d.3), AV.c (CV.ptr ⟨2, 0, 0, 2, 0, 0, 0, 0⟩), AV.c (CV.ptr ⟨4, 0, 0, 2, 0, 0, 0, 0⟩), AV.c (CV.v (Value.int IntKind.i64 i)), AV.c (CV.sl 6 0 0 17 (Int.toNat s_1) (Int.toNat s_1))] [(Ent.rw d.1 40 5 d.2 d.3 fun ii => [CV.v (Value.int IntKind.i64 (d.4 ii).1), CV.v (Value.int IntKind.i64 (d.4 ii).2), CV.v (Value.int IntKind.i64 (d.4 ii).3), CV.v (Value.int IntKind.i64 (d.4 ii).4), CV.v (Value.int IntKind.i64 (d.4 ii).5)]), (Ent.rw (Prod.snd s) 2 1 3 3 fun ii => [CV.v (Value.int IntKind.i64 (Prod.fst s ii))]), { own := true, box := true, ty := 72, sz := 2, m := 1, n := fun a => 1, cap := fun a => 1, f := fun x x_1 => [CV.sl 3 0 0 1 4 (c 0), CV.v (Value.int IntKind.i64 (4096 : Int))], ov := [] }, (Ent.rw true 2 1 4 (c 0) fun ii => [CV.v (Value.int IntKind.i64 (if ii = 0 then (0 : Int) else if ii ≤ 3 then Prod.fst s (ii - 1) else (0 : Int)))]), { own := true, box := true, ty := 78, sz := 2, m := 1, n := fun a => 1, cap := fun a => 1, f := fun x x_1 => [CV.sl 5 0 0 4 2 2, CV.v (Value.int IntKind.i64 (0 : Int))], ov := [] }, (Ent.rw true 59 4 2 2 fun ii => [CV.v (Value.bool false), CV.v (Value.bool false), CV.v (Value.bool false), CV.v (Value.int IntKind.i64 (0 : Int))]), (Ent.rw true 66 17 (Int.toNat s_1) (Int.toNat s_1) fun ii => [CV.v (Value.int IntKind.i64 (0 : Int)), CV.v (Value.int IntKind.i64 (0 : Int)), CV.v (Value.int IntKind.i64 (0 : Int)), CV.v (Value.int IntKind.i64 (0 : Int)), CV.v (Value.int IntKind.i64 (0 : Int)), CV.v (Value.int IntKind.i64 (0 : Int)), CV.v (Value.int IntKind.i64 (0 : Int)), CV.v (Value.int IntKind.i64 (0 : Int)), CV.v (Value.int IntKind.i64 (0 : Int)), CV.v (Value.int IntKind.i64 (0 : Int)), CV.v (Value.int IntKind.i64 (0 : Int)), CV.v (Value.int IntKind.i64 (0 : Int)), CV.v (Value.int IntKind.i64 (0 : Int)), CV.v (Value.int IntKind.i64 (0 : Int)), CV.v (Value.int IntKind.i64 (0 : Int)), CV.v (Value.int IntKind.i64 (0 : Int)), CV.v (Value.int IntKind.i64 (0 : Int))])] (stepC (Prod.fst s_3) (Prod.fst (Prod.snd s_3)) (Prod.fst (Prod.snd (Prod.snd s_3))) (Prod.fst (Prod.snd (Prod.snd (Prod.snd s_3)))) (Prod.snd (Prod.snd (Prod.snd (Prod.snd s_3)))) true [0, 2, 3, 4, 5, 6] 7) fun c => Tree.chk ((!decide (s_2 > (0 : Int))) = true → (!decide (s_2 > (0 : Int))) = true)
   (Tree.chk (decide (s_2 > (0 : Int)) = false → (!decide (s_2 > (0 : Int))) = true)
   (Tree.chk ((!bif decide (s_2 > (0 : Int)) then true else decide (i < (0 : Int))) = true → (!bif decide (s_2 > (0 : Int)) then true else decide (i < (0 : Int))) = true)
   (Tree.chk ((bif decide (s_2 > (0 : Int)) then true else decide (i < (0 : Int))) = false → (!bif decide (s_2 > (0 : Int)) then true else decide (i < (0 : Int))) = true)
   (Tree.chk ((!bif bif decide (s_2 > (0 : Int)) then true else decide (i < (0 : Int)) then true else decide (i > (1 : Int))) = true → (!bif bif decide (s_2 > (0 : Int)) then true else decide (i < (0 : Int)) then true else decide (i > (1 : Int))) = true)
   (Tree.chk ((bif bif decide (s_2 > (0 : Int)) then true else decide (i < (0 : Int)) then true else decide (i > (1 : Int))) = false → (!bif bif decide (s_2 > (0 : Int)) then true else decide (i < (0 : Int)) then true else decide (i > (1 : Int))) = true)
   (Tree.chk ((!bif bif bif decide (s_2 > (0 : Int)) then true else decide (i < (0 : Int)) then true else decide (i > (1 : Int)) then true else s_1 == (0 : Int)) = true → (!bif bif bif decide (s_2 > (0 : Int)) then true else decide (i < (0 : Int)) then true else decide (i > (1 : Int)) then true else s_1 == (0 : Int)) = true)
   (Tree.chk ((bif bif bif decide (s_2 > (0 : Int)) then true else decide (i < (0 : Int)) then true else decide (i > (1 : Int)) then true else s_1 == (0 : Int)) = false → (!bif bif bif decide (s_2 > (0 : Int)) then true else decide (i < (0 : Int)) then true else decide (i > (1 : Int)) then true else s_1 == (0 : Int)) = true)
   (Tree.br (!bif bif bif bif decide (s_2 > (0 : Int)) then true else decide (i < (0 : Int)) then true else decide (i > (1 : Int)) then true else s_1 == (0 : Int) then true else decide (s_1 > (16 : Int)))
   (Tree.chk (true = true → true = true)
   (Tree.chk (true = true → true = true)
   (Tree.chk (true = true → true = true)
   (Tree.chk (true = true → true = true)
   (Tree.chk ((bif bif true then true else false then decide (Prod.fst (Prod.snd (Prod.snd s_3)) ≥ (0 : Int)) else false) = true → (bif bif true then true else false then decide (Prod.fst (Prod.snd (Prod.snd s_3)) ≥ (0 : Int)) else false) = true)
   (Tree.chk ((bif bif true then true else false then decide (Prod.fst (Prod.snd (Prod.snd s_3)) ≥ (0 : Int)) else false) = true → (bif bif true then true else false then decide (Prod.fst (Prod.snd (Prod.snd s_3)) ≥ (0 : Int)) else false) = true)
   (Tree.done (XV.a (AV.c (CV.v (Value.bool (bif bif bif true then true else false then decide (Prod.fst (Prod.snd (Prod.snd s_3)) ≥ (0 : Int)) else false then decide (Prod.fst (Prod.snd (Prod.snd s_3)) ≤ (3 : Int)) else false))))) [(Ent.rw (Prod.snd (Prod.snd (Prod.snd (Prod.snd s_3)))).1 40 5 (Prod.snd (Prod.snd (Prod.snd (Prod.snd s_3)))).2 (Prod.snd (Prod.snd (Prod.snd (Prod.snd s_3)))).3 fun ii => [CV.v (Value.int IntKind.i64 ((Prod.snd (Prod.snd (Prod.snd (Prod.snd s_3)))).4 ii).1), CV.v (Value.int IntKind.i64 ((Prod.snd (Prod.snd (Prod.snd (Prod.snd s_3)))).4 ii).2), CV.v (Value.int IntKind.i64 ((Prod.snd (Prod.snd (Prod.snd (Prod.snd s_3)))).4 ii).3), CV.v (Value.int IntKind.i64 ((Prod.snd (Prod.snd (Prod.snd (Prod.snd s_3)))).4 ii).4), CV.v (Value.int IntKind.i64 ((Prod.snd (Prod.snd (Prod.snd (Prod.snd s_3)))).4 ii).5)]), Ent.dead, Ent.dead, Ent.dead, Ent.dead, Ent.dead, Ent.dead, Ent.dead, Ent.dead, Ent.dead])))))))
   (Tree.chk (true = true → true = true)
   (Tree.chk (true = true → true = true)
   (Tree.chk (true = true → true = true)
   (Tree.chk (false = true → false = true)
   (Tree.chk (false = true → false = true)
   (Tree.chk (false = true → false = true)
   (Tree.chk (false = true → false = true)
   (Tree.chk (false = true → false = true)
   (Tree.chk (false = true → false = true)
   (Tree.chk (false = true → false = true)
   (Tree.chk (false = true → false = true)
   (Tree.chk (false = true → false = true)
   (Tree.chk (false = true → false = true)
   (Tree.br false
   (Tree.chk (false = true)
   (Tree.some_ Ar fun s_4 => Tree.callf 11 [AV.c (CV.ptr ⟨2, 0, 0, 2, 0, 0, 0, 0⟩)] [(Ent.rw (Prod.snd (Prod.snd (Prod.snd (Prod.snd s_3)))).1 40 5 (Prod.snd (Prod.snd (Prod.snd (Prod.snd s_3)))).2 (Prod.snd (Prod.snd (Prod.snd (Prod.snd s_3)))).3 fun ii => [CV.v (Value.int IntKind.i64 ((Prod.snd (Prod.snd (Prod.snd (Prod.snd s_3)))).4 ii).1), CV.v (Value.int IntKind.i64 ((Prod.snd (Prod.snd (Prod.snd (Prod.snd s_3)))).4 ii).2), CV.v (Value.int IntKind.i64 ((Prod.snd (Prod.snd (Prod.snd (Prod.snd s_3)))).4 ii).3), CV.v (Value.int IntKind.i64 ((Prod.snd (Prod.snd (Prod.snd (Prod.snd s_3)))).4 ii).4), CV.v (Value.int IntKind.i64 ((Prod.snd (Prod.snd (Prod.snd (Prod.snd s_3)))).4 ii).5)]), (Ent.rw (Prod.snd s) 2 1 3 3 fun ii => [CV.v (Value.int IntKind.i64 (Prod.fst s ii))]), { own := true, box := true, ty := 72, sz := 2, m := 1, n := fun a => 1, cap := fun a => 1, f := fun x x_1 => [CV.sl 7 0 0 1 (Prod.fst (Prod.snd s_3)).1.1 (c 0), CV.v (Value.int IntKind.i64 (Prod.fst (Prod.snd s_3)).1.4)], ov := [] }, Ent.dead, { own := true, box := true, ty := 78, sz := 2, m := 1, n := fun a => 1, cap := fun a => 1, f := fun x x_1 => [CV.sl 5 0 0 4 (Prod.fst (Prod.snd s_3)).2.1 (Prod.fst (Prod.snd s_3)).2.2, CV.v (Value.int IntKind.i64 (Prod.fst (Prod.snd s_3)).2.4)], ov := [] }, (Ent.rw true 59 4 (Prod.fst (Prod.snd s_3)).2.1 (Prod.fst (Prod.snd s_3)).2.2 fun ii => [CV.v (Value.bool ((Prod.fst (Prod.snd s_3)).2.3 ii).1), CV.v (Value.bool ((Prod.fst (Prod.snd s_3)).2.3 ii).2), CV.v (Value.bool ((Prod.fst (Prod.snd s_3)).2.3 ii).3), CV.v (Value.int IntKind.i64 ((Prod.fst (Prod.snd s_3)).2.3 ii).4)]), (Ent.rw true 66 17 (Mc.nF (Prod.fst s_3)) (Mc.cF (Prod.fst s_3)) fun ii => [CV.v (Value.int IntKind.i64 (Mc.F (Prod.fst s_3) ii).1), CV.v (Value.int IntKind.i64 ((Mc.F (Prod.fst s_3) ii).2 0)), CV.v (Value.int IntKind.i64 ((Mc.F (Prod.fst s_3) ii).2 1)), CV.v (Value.int IntKind.i64 ((Mc.F (Prod.fst s_3) ii).2 2)), CV.v (Value.int IntKind.i64 ((Mc.F (Prod.fst s_3) ii).2 3)), CV.v (Value.int IntKind.i64 ((Mc.F (Prod.fst s_3) ii).2 4)), CV.v (Value.int IntKind.i64 ((Mc.F (Prod.fst s_3) ii).2 5)), CV.v (Value.int IntKind.i64 ((Mc.F (Prod.fst s_3) ii).2 6)), CV.v (Value.int IntKind.i64 ((Mc.F (Prod.fst s_3) ii).2 7)), CV.v (Value.int IntKind.i64 ((Mc.F (Prod.fst s_3) ii).2 8)), CV.v (Value.int IntKind.i64 ((Mc.F (Prod.fst s_3) ii).2 9)), CV.v (Value.int IntKind.i64 ((Mc.F (Prod.fst s_3) ii).2 10)), CV.v (Value.int IntKind.i64 ((Mc.F (Prod.fst s_3) ii).2 11)), CV.v (Value.int IntKind.i64 ((Mc.F (Prod.fst s_3) ii).2 12)), CV.v (Value.int IntKind.i64 ((Mc.F (Prod.fst s_3) ii).2 13)), CV.v (Value.int IntKind.i64 ((Mc.F (Prod.fst s_3) ii).2 14)), CV.v (Value.int IntKind.i64 ((Mc.F (Prod.fst s_3) ii).2 15))]), (Ent.rw true 2 1 (Prod.fst (Prod.snd s_3)).1.1 (c 0) fun ii => [CV.v (Value.int IntKind.i64 ((Prod.fst (Prod.snd s_3)).1.3 ii))]), (Ent.rw true 66 17 (Mc.nF (Prod.fst (Prod.snd s_3))) (c 1) fun ii => [CV.v (Value.int IntKind.i64 (Mc.F (Prod.fst (Prod.snd s_3)) ii).1), CV.v (Value.int IntKind.i64 ((Mc.F (Prod.fst (Prod.snd s_3)) ii).2 0)), CV.v (Value.int IntKind.i64 ((Mc.F (Prod.fst (Prod.snd s_3)) ii).2 1)), CV.v (Value.int IntKind.i64 ((Mc.F (Prod.fst (Prod.snd s_3)) ii).2 2)), CV.v (Value.int IntKind.i64 ((Mc.F (Prod.fst (Prod.snd s_3)) ii).2 3)), CV.v (Value.int IntKind.i64 ((Mc.F (Prod.fst (Prod.snd s_3)) ii).2 4)), CV.v (Value.int IntKind.i64 ((Mc.F (Prod.fst (Prod.snd s_3)) ii).2 5)), CV.v (Value.int IntKind.i64 ((Mc.F (Prod.fst (Prod.snd s_3)) ii).2 6)), CV.v (Value.int IntKind.i64 ((Mc.F (Prod.fst (Prod.snd s_3)) ii).2 7)), CV.v (Value.int IntKind.i64 ((Mc.F (Prod.fst (Prod.snd s_3)) ii).2 8)), CV.v (Value.int IntKind.i64 ((Mc.F (Prod.fst (Prod.snd s_3)) ii).2 9)), CV.v (Value.int IntKind.i64 ((Mc.F (Prod.fst (Prod.snd s_3)) ii).2 10)), CV.v (Value.int IntKind.i64 ((Mc.F (Prod.fst (Prod.snd s_3)) ii).2 11)), CV.v (Value.int IntKind.i64 ((Mc.F (Prod.fst (Prod.snd s_3)) ii).2 12)), CV.v (Value.int IntKind.i64 ((Mc.F (Prod.fst (Prod.snd s_3)) ii).2 13)), CV.v (Value.int IntKind.i64 ((Mc.F (Prod.fst (Prod.snd s_3)) ii).2 14)), CV.v (Value.int IntKind.i64 ((Mc.F (Prod.fst (Prod.snd s_3)) ii).2 15))]), (Ent.rw true 80 2 (Prod.fst (Prod.snd s_3)).8 (c 2) fun ii => [CV.v (Value.int IntKind.i64 (Prod.fst ((Prod.fst (Prod.snd s_3)).10 ii))), CV.v (Value.int IntKind.i64 (Prod.snd ((Prod.fst (Prod.snd s_3)).10 ii)))])] (lenC s_4 [2, 7]) fun c => Tree.chk (false = true → false = true)
   (Tree.done (XV.a (AV.c (CV.v (Value.bool false)))) [(Ent.rw (Prod.snd (Prod.snd (Prod.snd (Prod.snd s_3)))).1 40 5 (Prod.snd (Prod.snd (Prod.snd (Prod.snd s_3)))).2 (Prod.snd (Prod.snd (Prod.snd (Prod.snd s_3)))).3 fun ii => [CV.v (Value.int IntKind.i64 ((Prod.snd (Prod.snd (Prod.snd (Prod.snd s_3)))).4 ii).1), CV.v (Value.int IntKind.i64 ((Prod.snd (Prod.snd (Prod.snd (Prod.snd s_3)))).4 ii).2), CV.v (Value.int IntKind.i64 ((Prod.snd (Prod.snd (Prod.snd (Prod.snd s_3)))).4 ii).3), CV.v (Value.int IntKind.i64 ((Prod.snd (Prod.snd (Prod.snd (Prod.snd s_3)))).4 ii).4), CV.v (Value.int IntKind.i64 ((Prod.snd (Prod.snd (Prod.snd (Prod.snd s_3)))).4 ii).5)]), Ent.dead, Ent.dead, Ent.dead, Ent.dead, Ent.dead, Ent.dead, Ent.dead, Ent.dead, Ent.dead])))
   (Tree.chk (false = true → False)
   (Tree.chk (false = false)
   (Tree.done (XV.a (AV.c (CV.v (Value.bool false)))) [(Ent.rw (Prod.snd (Prod.snd (Prod.snd (Prod.snd s_3)))).1 40 5 (Prod.snd (Prod.snd (Prod.snd (Prod.snd s_3)))).2 (Prod.snd (Prod.snd (Prod.snd (Prod.snd s_3)))).3 fun ii => [CV.v (Value.int IntKind.i64 ((Prod.snd (Prod.snd (Prod.snd (Prod.snd s_3)))).4 ii).1), CV.v (Value.int IntKind.i64 ((Prod.snd (Prod.snd (Prod.snd (Prod.snd s_3)))).4 ii).2), CV.v (Value.int IntKind.i64 ((Prod.snd (Prod.snd (Prod.snd (Prod.snd s_3)))).4 ii).3), CV.v (Value.int IntKind.i64 ((Prod.snd (Prod.snd (Prod.snd (Prod.snd s_3)))).4 ii).4), CV.v (Value.int IntKind.i64 ((Prod.snd (Prod.snd (Prod.snd (Prod.snd s_3)))).4 ii).5)]), Ent.dead, Ent.dead, Ent.dead, Ent.dead, Ent.dead, Ent.dead, Ent.dead, Ent.dead, Ent.dead]))))))))))))))))))))))))))
   (Tree.some_ (Mc × Cd) fun s_3 => Tree.callf 10 [AV.c (CV.sl 0 0 0 5 d.2 d.3), AV.c (CV.ptr ⟨2, 0, 0, 2, 0, 0, 0, 0⟩), AV.c (CV.ptr ⟨4, 0, 0, 2, 0, 0, 0, 0⟩), AV.c (CV.v (Value.int IntKind.i64 i)), AV.c (CV.sl 6 0 0 17 (Int.toNat s_1) (Int.toNat s_1))] [(Ent.rw d.1 40 5 d.2 d.3 fun ii => [CV.v (Value.int IntKind.i64 (d.4 ii).1), CV.v (Value.int IntKind.i64 (d.4 ii).2), CV.v (Value.int IntKind.i64 (d.4 ii).3), CV.v (Value.int IntKind.i64 (d.4 ii).4), CV.v (Value.int IntKind.i64 (d.4 ii).5)]), (Ent.rw (Prod.snd s) 2 1 3 3 fun ii => [CV.v (Value.int IntKind.i64 (Prod.fst s ii))]), { own := true, box := true, ty := 72, sz := 2, m := 1, n := fun a => 1, cap := fun a => 1, f := fun x x_1 => [CV.sl 3 0 0 1 4 (c 0), CV.v (Value.int IntKind.i64 (4096 : Int))], ov := [] }, (Ent.rw true 2 1 4 (c 0) fun ii => [CV.v (Value.int IntKind.i64 (if ii = 0 then (0 : Int) else if ii ≤ 3 then Prod.fst s (ii - 1) else (0 : Int)))]), { own := true, box := true, ty := 78, sz := 2, m := 1, n := fun a => 1, cap := fun a => 1, f := fun x x_1 => [CV.sl 5 0 0 4 2 2, CV.v (Value.int IntKind.i64 (0 : Int))], ov := [] }, (Ent.rw true 59 4 2 2 fun ii => [CV.v (Value.bool false), CV.v (Value.bool false), CV.v (Value.bool false), CV.v (Value.int IntKind.i64 (0 : Int))]), (Ent.rw true 66 17 (Int.toNat s_1) (Int.toNat s_1) fun ii => [CV.v (Value.int IntKind.i64 (0 : Int)), CV.v (Value.int IntKind.i64 (0 : Int)), CV.v (Value.int IntKind.i64 (0 : Int)), CV.v (Value.int IntKind.i64 (0 : Int)), CV.v (Value.int IntKind.i64 (0 : Int)), CV.v (Value.int IntKind.i64 (0 : Int)), CV.v (Value.int IntKind.i64 (0 : Int)), CV.v (Value.int IntKind.i64 (0 : Int)), CV.v (Value.int IntKind.i64 (0 : Int)), CV.v (Value.int IntKind.i64 (0 : Int)), CV.v (Value.int IntKind.i64 (0 : Int)), CV.v (Value.int IntKind.i64 (0 : Int)), CV.v (Value.int IntKind.i64 (0 : Int)), CV.v (Value.int IntKind.i64 (0 : Int)), CV.v (Value.int IntKind.i64 (0 : Int)), CV.v (Value.int IntKind.i64 (0 : Int)), CV.v (Value.int IntKind.i64 (0 : Int))])] (badC (Prod.fst s_3) (Prod.snd s_3) true [0, 2, 3, 4, 5, 6] 7) fun c => Tree.chk ((!decide (s_2 > (0 : Int))) = true → (!decide (s_2 > (0 : Int))) = true)
   (Tree.chk (decide (s_2 > (0 : Int)) = false → (!decide (s_2 > (0 : Int))) = true)
   (Tree.chk ((!bif decide (s_2 > (0 : Int)) then true else decide (i < (0 : Int))) = true → (!bif decide (s_2 > (0 : Int)) then true else decide (i < (0 : Int))) = true)
   (Tree.chk ((bif decide (s_2 > (0 : Int)) then true else decide (i < (0 : Int))) = false → (!bif decide (s_2 > (0 : Int)) then true else decide (i < (0 : Int))) = true)
   (Tree.chk ((!bif bif decide (s_2 > (0 : Int)) then true else decide (i < (0 : Int)) then true else decide (i > (1 : Int))) = true → (!bif bif decide (s_2 > (0 : Int)) then true else decide (i < (0 : Int)) then true else decide (i > (1 : Int))) = true)
   (Tree.chk ((bif bif decide (s_2 > (0 : Int)) then true else decide (i < (0 : Int)) then true else decide (i > (1 : Int))) = false → (!bif bif decide (s_2 > (0 : Int)) then true else decide (i < (0 : Int)) then true else decide (i > (1 : Int))) = true)
   (Tree.chk ((!bif bif bif decide (s_2 > (0 : Int)) then true else decide (i < (0 : Int)) then true else decide (i > (1 : Int)) then true else s_1 == (0 : Int)) = true → (!bif bif bif decide (s_2 > (0 : Int)) then true else decide (i < (0 : Int)) then true else decide (i > (1 : Int)) then true else s_1 == (0 : Int)) = true)
   (Tree.chk ((bif bif bif decide (s_2 > (0 : Int)) then true else decide (i < (0 : Int)) then true else decide (i > (1 : Int)) then true else s_1 == (0 : Int)) = false → (!bif bif bif decide (s_2 > (0 : Int)) then true else decide (i < (0 : Int)) then true else decide (i > (1 : Int)) then true else s_1 == (0 : Int)) = true)
   (Tree.br (!bif bif bif bif decide (s_2 > (0 : Int)) then true else decide (i < (0 : Int)) then true else decide (i > (1 : Int)) then true else s_1 == (0 : Int) then true else decide (s_1 > (16 : Int)))
   (Tree.chk (true = true → true = true)
   (Tree.chk (true = true → true = true)
   (Tree.chk (false = true → false = true)
   (Tree.chk (false = true → false = true)
   (Tree.chk (false = true → false = true)
   (Tree.chk (false = true → false = true)
   (Tree.done (XV.a (AV.c (CV.v (Value.bool false)))) [(Ent.rw (Prod.snd s_3).1 40 5 (Prod.snd s_3).2 (Prod.snd s_3).3 fun ii => [CV.v (Value.int IntKind.i64 ((Prod.snd s_3).4 ii).1), CV.v (Value.int IntKind.i64 ((Prod.snd s_3).4 ii).2), CV.v (Value.int IntKind.i64 ((Prod.snd s_3).4 ii).3), CV.v (Value.int IntKind.i64 ((Prod.snd s_3).4 ii).4), CV.v (Value.int IntKind.i64 ((Prod.snd s_3).4 ii).5)]), Ent.dead, Ent.dead, Ent.dead, Ent.dead, Ent.dead, Ent.dead])))))))
   (Tree.chk (true = true → true = true)
   (Tree.chk (true = true → true = true)
   (Tree.chk (true = true → true = true)
   (Tree.chk (true = true → true = true)
   (Tree.chk (true = true → true = true)
   (Tree.chk (true = true → true = true)
   (Tree.chk (true = true → true = true)
   (Tree.chk (true = true → true = true)
   (Tree.chk (true = true → true = true)
   (Tree.chk (true = true → true = true)
   (Tree.chk (true = true → true = true)
   (Tree.chk (true = true → true = true)
   (Tree.chk (true = true → true = true)
   (Tree.br true
   (Tree.chk (true = true)
   (Tree.some_ Ar fun s_4 => Tree.callf 11 [AV.c (CV.ptr ⟨2, 0, 0, 2, 0, 0, 0, 0⟩)] [(Ent.rw (Prod.snd s_3).1 40 5 (Prod.snd s_3).2 (Prod.snd s_3).3 fun ii => [CV.v (Value.int IntKind.i64 ((Prod.snd s_3).4 ii).1), CV.v (Value.int IntKind.i64 ((Prod.snd s_3).4 ii).2), CV.v (Value.int IntKind.i64 ((Prod.snd s_3).4 ii).3), CV.v (Value.int IntKind.i64 ((Prod.snd s_3).4 ii).4), CV.v (Value.int IntKind.i64 ((Prod.snd s_3).4 ii).5)]), (Ent.rw (Prod.snd s) 2 1 3 3 fun ii => [CV.v (Value.int IntKind.i64 (Prod.fst s ii))]), { own := true, box := true, ty := 72, sz := 2, m := 1, n := fun a => 1, cap := fun a => 1, f := fun x x_1 => [CV.sl 3 0 0 1 (Prod.fst s_3).1.1 (Prod.fst s_3).1.2, CV.v (Value.int IntKind.i64 (Prod.fst s_3).1.4)], ov := [] }, (Ent.rw true 2 1 (Prod.fst s_3).1.1 (Prod.fst s_3).1.2 fun ii => [CV.v (Value.int IntKind.i64 ((Prod.fst s_3).1.3 ii))]), { own := true, box := true, ty := 78, sz := 2, m := 1, n := fun a => 1, cap := fun a => 1, f := fun x x_1 => [CV.sl 5 0 0 4 (Prod.fst s_3).2.1 (Prod.fst s_3).2.2, CV.v (Value.int IntKind.i64 (Prod.fst s_3).2.4)], ov := [] }, (Ent.rw true 59 4 (Prod.fst s_3).2.1 (Prod.fst s_3).2.2 fun ii => [CV.v (Value.bool ((Prod.fst s_3).2.3 ii).1), CV.v (Value.bool ((Prod.fst s_3).2.3 ii).2), CV.v (Value.bool ((Prod.fst s_3).2.3 ii).3), CV.v (Value.int IntKind.i64 ((Prod.fst s_3).2.3 ii).4)]), (Ent.rw true 66 17 (Mc.nF (Prod.fst s_3)) (Mc.cF (Prod.fst s_3)) fun ii => [CV.v (Value.int IntKind.i64 (Mc.F (Prod.fst s_3) ii).1), CV.v (Value.int IntKind.i64 ((Mc.F (Prod.fst s_3) ii).2 0)), CV.v (Value.int IntKind.i64 ((Mc.F (Prod.fst s_3) ii).2 1)), CV.v (Value.int IntKind.i64 ((Mc.F (Prod.fst s_3) ii).2 2)), CV.v (Value.int IntKind.i64 ((Mc.F (Prod.fst s_3) ii).2 3)), CV.v (Value.int IntKind.i64 ((Mc.F (Prod.fst s_3) ii).2 4)), CV.v (Value.int IntKind.i64 ((Mc.F (Prod.fst s_3) ii).2 5)), CV.v (Value.int IntKind.i64 ((Mc.F (Prod.fst s_3) ii).2 6)), CV.v (Value.int IntKind.i64 ((Mc.F (Prod.fst s_3) ii).2 7)), CV.v (Value.int IntKind.i64 ((Mc.F (Prod.fst s_3) ii).2 8)), CV.v (Value.int IntKind.i64 ((Mc.F (Prod.fst s_3) ii).2 9)), CV.v (Value.int IntKind.i64 ((Mc.F (Prod.fst s_3) ii).2 10)), CV.v (Value.int IntKind.i64 ((Mc.F (Prod.fst s_3) ii).2 11)), CV.v (Value.int IntKind.i64 ((Mc.F (Prod.fst s_3) ii).2 12)), CV.v (Value.int IntKind.i64 ((Mc.F (Prod.fst s_3) ii).2 13)), CV.v (Value.int IntKind.i64 ((Mc.F (Prod.fst s_3) ii).2 14)), CV.v (Value.int IntKind.i64 ((Mc.F (Prod.fst s_3) ii).2 15))])] (lenC s_4 [2, 3]) fun c => Tree.chk (true = true → true = true)
   (Tree.done (XV.a (AV.c (CV.v (Value.bool (bif bif bif bif bif bif true then (1 : Int) == (1 : Int) else false then (↑(0 : Nat) : Int) == (0 : Int) else false then (↑(0 : Nat) : Int) == (0 : Int) else false then (0 : Int) == (0 : Int) else false then (0 : Int) == (0 : Int) else false then lenF s_4 == (3 : Int) else false))))) [(Ent.rw (Prod.snd s_3).1 40 5 (Prod.snd s_3).2 (Prod.snd s_3).3 fun ii => [CV.v (Value.int IntKind.i64 ((Prod.snd s_3).4 ii).1), CV.v (Value.int IntKind.i64 ((Prod.snd s_3).4 ii).2), CV.v (Value.int IntKind.i64 ((Prod.snd s_3).4 ii).3), CV.v (Value.int IntKind.i64 ((Prod.snd s_3).4 ii).4), CV.v (Value.int IntKind.i64 ((Prod.snd s_3).4 ii).5)]), Ent.dead, Ent.dead, Ent.dead, Ent.dead, Ent.dead, Ent.dead])))
   (Tree.chk (true = true → False)
   (Tree.chk (true = false)
   (Tree.done (XV.a (AV.c (CV.v (Value.bool false)))) [(Ent.rw (Prod.snd s_3).1 40 5 (Prod.snd s_3).2 (Prod.snd s_3).3 fun ii => [CV.v (Value.int IntKind.i64 ((Prod.snd s_3).4 ii).1), CV.v (Value.int IntKind.i64 ((Prod.snd s_3).4 ii).2), CV.v (Value.int IntKind.i64 ((Prod.snd s_3).4 ii).3), CV.v (Value.int IntKind.i64 ((Prod.snd s_3).4 ii).4), CV.v (Value.int IntKind.i64 ((Prod.snd s_3).4 ii).5)]), Ent.dead, Ent.dead, Ent.dead, Ent.dead, Ent.dead, Ent.dead])))))))))))))))))))))))))))))))
theorem trefuses_eq (d : Cd) (i frames which : Int) : xfunc tab refG noInv Go.Proofs.Try.f3 [.c (.sl 0 0 0 5 d.n d.cap), iav i, iav frames, iav which] [d.row] [0] = trefuses d i frames which := by kernel_rfl
end Go.Proofs.Ytehecaipmdfjmaa.X.Mi

set_option linter.unusedVariables false
set_option linter.unusedSimpArgs false
namespace Go.Proofs.Ytehecaipmdfjmaa.X.Mi
open Go Go.RowKit Go.Proofs.YtehecaipmdfjmaaW.PrintWords Go.Proofs.Ytehecaipmdfjmaa.Base Go.Proofs.Ytehecaipmdfjmaa.X
theorem bad_local (m : Mc) (d : Cd) (ol : Bool) (ρ : List Nat) (k : Nat) (hcan : canF m = false) : (badC m d ol ρ k).Local Try.prog 10 := by
  refine local_of Try.func10 rfl (tstep_eq m d ol) fun ν w => ok_both' ?_ (ok_every' fun s => ?_)
  · unfold canF at hcan
    repeat refine ok_chk' (by first | exact fun h => h | rfl | exact (fun h => absurd h (by decide)) | exact fun _ => rfl | (exact fun h => by rw [h]; rfl) | (intro hg; have hq := out_of hg; exact ⟨hq.1, hq.2.1, by omega, Nat.one_pos⟩) | (intro hg; have hq := out_of hg; exact ⟨Nat.one_pos, by omega⟩) | assumption) ?_
    refine ok_br' (fun e => by exact ok_leaf (fun _ => 0) [] [0, 1, 2, 3, 4, 5] trivial rfl ⟨⟨_, rfl, EntRel.rw rfl rfl (fun _ _ => rfl) fun _ _ => rfl⟩, ⟨_, rfl, EntRel.box' rfl rfl rfl rfl rfl⟩, ⟨_, rfl, EntRel.rw rfl rfl (fun _ _ => rfl) fun _ _ => rfl⟩, ⟨_, rfl, EntRel.box' rfl rfl rfl rfl rfl⟩, ⟨_, rfl, EntRel.rw rfl rfl (fun _ _ => rfl) fun _ _ => rfl⟩, ⟨_, rfl, EntRel.rw rfl rfl (fun _ _ => rfl) fun _ _ => rfl⟩, trivial⟩ rfl) fun e1 => ok_br' (fun e2 => ?_) fun e2 => ?_
    · refine ok_callf' at_call (fits_of rfl rfl ⟨⟨_, rfl, EntRel.box' rfl rfl rfl rfl rfl⟩, ⟨_, rfl, EntRel.rw rfl rfl (fun _ _ => rfl) fun _ _ => rfl⟩, trivial⟩ fun c _ => ⟨⟨Nat.le_refl _, rfl⟩, ⟨rfl, rfl⟩, ⟨⟨EntRel.box' rfl rfl rfl rfl rfl, rfl, (fun _ => ⟨rfl, rfl⟩), .inr rfl⟩, ⟨EntRel.rw rfl rfl (fun _ _ => rfl) fun _ _ => rfl, rfl, (fun h => by cases h), .inr rfl⟩, trivial⟩⟩) ((at_local m.tb m.i _).1 e2) fun c _ => ?_
      repeat refine ok_chk' (by first | exact fun h => h | rfl | exact (fun h => absurd h (by decide)) | exact fun _ => rfl | (exact fun h => by rw [h]; rfl) | (intro hg; have hq := out_of hg; exact ⟨hq.1, hq.2.1, by omega, Nat.one_pos⟩) | (intro hg; have hq := out_of hg; exact ⟨Nat.one_pos, by omega⟩) | assumption) ?_
      refine ok_br' (fun e => by exact ok_leaf (fun _ => 0) [] [0, 1, 2, 3, 4, 5] trivial rfl ⟨⟨_, rfl, EntRel.rw rfl rfl (fun _ _ => rfl) fun _ _ => rfl⟩, ⟨_, rfl, EntRel.box' rfl rfl rfl rfl rfl⟩, ⟨_, rfl, EntRel.rw rfl rfl (fun _ _ => rfl) fun _ _ => rfl⟩, ⟨_, rfl, EntRel.box' rfl rfl rfl rfl rfl⟩, ⟨_, rfl, EntRel.rw rfl rfl (fun _ _ => rfl) fun _ _ => rfl⟩, ⟨_, rfl, EntRel.rw rfl rfl (fun _ _ => rfl) fun _ _ => rfl⟩, trivial⟩ rfl) fun e3 => ?_
      exfalso
      have e1 : (bif (m.nF : Int) == 0 then true else decide ((m.nF : Int) > 16)) = false := e1
      have e2 : hasF m.tb m.i = true := e2
      have e3 : (m.tb.P m.i.toNat).b = false := e3
      rw [e1, cond_false, e2, cond_true, e3] at hcan
      cases hcan
    · refine ok_callf' at_call (fits_of rfl rfl ⟨⟨_, rfl, EntRel.box' rfl rfl rfl rfl rfl⟩, ⟨_, rfl, EntRel.rw rfl rfl (fun _ _ => rfl) fun _ _ => rfl⟩, trivial⟩ fun c _ => ⟨⟨Nat.le_refl _, rfl⟩, ⟨rfl, rfl⟩, ⟨⟨EntRel.box' rfl rfl rfl rfl rfl, rfl, (fun _ => ⟨rfl, rfl⟩), .inr rfl⟩, ⟨EntRel.rw rfl rfl (fun _ _ => rfl) fun _ _ => rfl, rfl, (fun h => by cases h), .inr rfl⟩, trivial⟩⟩) ((at_local m.tb m.i _).2 e2) fun c _ => ?_
      repeat refine ok_chk' (by first | exact fun h => h | rfl | exact (fun h => absurd h (by decide)) | exact fun _ => rfl | (exact fun h => by rw [h]; rfl) | (intro hg; have hq := out_of hg; exact ⟨hq.1, hq.2.1, by omega, Nat.one_pos⟩) | (intro hg; have hq := out_of hg; exact ⟨Nat.one_pos, by omega⟩) | assumption) ?_
      exact ok_br' (fun _ => by exact ok_leaf (fun _ => 0) [] [0, 1, 2, 3, 4, 5] trivial rfl ⟨⟨_, rfl, EntRel.rw rfl rfl (fun _ _ => rfl) fun _ _ => rfl⟩, ⟨_, rfl, EntRel.box' rfl rfl rfl rfl rfl⟩, ⟨_, rfl, EntRel.rw rfl rfl (fun _ _ => rfl) fun _ _ => rfl⟩, ⟨_, rfl, EntRel.box' rfl rfl rfl rfl rfl⟩, ⟨_, rfl, EntRel.rw rfl rfl (fun _ _ => rfl) fun _ _ => rfl⟩, ⟨_, rfl, EntRel.rw rfl rfl (fun _ _ => rfl) fun _ _ => rfl⟩, trivial⟩ rfl) fun e => by cases e
  · have := s.2.1
    rw [hcan] at this
    cases this
end Go.Proofs.Ytehecaipmdfjmaa.X.Mi

set_option linter.unusedVariables false
set_option linter.unusedSimpArgs false
namespace Go.Proofs.Ytehecaipmdfjmaa.X.Mi
open Go Go.RowKit Go.Proofs.YtehecaipmdfjmaaW.PrintWords Go.Proofs.Ytehecaipmdfjmaa.Base Go.Proofs.Ytehecaipmdfjmaa.X
theorem pick_call : Callable Try.prog 9 := ⟨_, Try.func9, by kernel_rfl, rfl⟩
theorem pick20_local (c : Int) : (pickC c 20 (pickF c 20)).Local Try.prog 9 := by
  refine local_of Try.func9 rfl (tpick20_eq c) fun ν w => ok_br' (fun h => ?_) fun h => ?_
  · refine ok_leaf (fun _ => 0) [] [] trivial ?_ trivial rfl
    show XV.a _ = XV.a (.c (iv (pickF c 20)))
    unfold pickF
    rw [h, cond_true, show -(wr (c + 1)) = 0 - wr (c + 1) by omega]
  · refine ok_leaf (fun _ => 0) [] [] trivial ?_ trivial rfl
    show XV.a _ = XV.a (.c (iv (pickF c 20)))
    unfold pickF
    rw [h, cond_false]
theorem pick3_local (c : Int) : (pickC c 3 (pickF c 3)).Local Try.prog 9 := by
  refine local_of Try.func9 rfl (tpick3_eq c) fun ν w => ok_br' (fun h => ?_) fun h => ?_
  · refine ok_leaf (fun _ => 0) [] [] trivial ?_ trivial rfl
    show XV.a _ = XV.a (.c (iv (pickF c 3)))
    unfold pickF
    rw [h, cond_true, show -(wr (c + 1)) = 0 - wr (c + 1) by omega]
  · refine ok_leaf (fun _ => 0) [] [] trivial ?_ trivial rfl
    show XV.a _ = XV.a (.c (iv (pickF c 3)))
    unfold pickF
    rw [h, cond_false]
theorem pickF_in {c n : Int} (hc : -9223372036854775808 ≤ c) (hc2 : c ≤ 9223372036854775807) (hn : 0 < n) : 0 ≤ pickF c n ∧ pickF c n < n := by
  have key : ∀ x : Int, 0 ≤ x → 0 ≤ Int.tmod x n ∧ Int.tmod x n < n := fun x hx => ⟨Int.tmod_nonneg _ hx, Int.tmod_lt_of_pos _ hn⟩
  unfold pickF
  by_cases h : c < 0
  · rw [show decide (c < 0) = true by simpa using h, cond_true]
    have : wr (c + 1) = c + 1 := wrap64 (by omega) (by omega)
    rw [this, show wr (-(c + 1)) = -(c + 1) from wrap64 (by omega) (by omega)]
    exact key _ (by omega)
  · rw [show decide (c < 0) = false by simpa using h, cond_false]
    exact key _ (by omega)
theorem cond_p {α : Type} {P : α → Prop} {b : Bool} {x y : α} (h1 : P x) (h2 : P y) : P (bif b then x else y) := by cases b <;> assumption
def HowF (r : Mc × Int) : Prop := r.2 = 0 ∨ r.2 = 1 ∨ r.2 = 2 ∨ r.2 = 3 ∨ r.2 = -1
theorem oneF_how (m : Mc) (x : In) : HowF (oneF m x) := by
  unfold oneF
  repeat' refine cond_p (P := HowF) ?_ ?_
  all_goals first | exact .inl rfl | exact .inr (.inl rfl) | exact .inr (.inr (.inl rfl)) | exact .inr (.inr (.inr (.inl rfl))) | exact .inr (.inr (.inr (.inr rfl)))
theorem stepF_how (d : Cd) : ∀ (g n : Nat) (m : Mc), 0 ≤ (stepF d g n m).2.1 ∧ (stepF d g n m).2.1 ≤ 3
  | 0, n, m => ⟨by show (0 : Int) ≤ 3; decide, by show (3 : Int) ≤ 3; decide⟩
  | g + 1, n, m => by
    have K : HowF (oneF m (codeF m d)) := oneF_how m (codeF m d)
    unfold stepF
    refine cond_p (P := fun r : Mc × Int × Int => 0 ≤ r.2.1 ∧ r.2.1 ≤ 3) ⟨by show (0 : Int) ≤ 3; decide, by show (3 : Int) ≤ 3; decide⟩ (cond_p (P := fun r : Mc × Int × Int => 0 ≤ r.2.1 ∧ r.2.1 ≤ 3) ⟨by show (0 : Int) ≤ 0; decide, by show (0 : Int) ≤ 3; decide⟩ (cond_p (P := fun r : Mc × Int × Int => 0 ≤ r.2.1 ∧ r.2.1 ≤ 3) (stepF_how d g (n + 1) _) ?_))
    show 0 ≤ (bif (oneF m (codeF m d)).2 == -1 then 0 else (oneF m (codeF m d)).2) ∧ (bif (oneF m (codeF m d)).2 == -1 then 0 else (oneF m (codeF m d)).2) ≤ 3
    rcases K with h | h | h | h | h <;> rw [h] <;> decide
theorem runF_how (d : Cd) (m : Mc) : 0 ≤ (runF d m).2.1 ∧ (runF d m).2.1 ≤ 3 := stepF_how d (201 - 0) 0 (startM m 0)
def zT : Nat → Int := fun i => match i with | 0 => 1 | 1 => 2 | _ => 3
def mT (n : Nat) (i : Int) (c : Nat) : Mc := ⟨madeF 3 3 c zT, newT 2, i, 0, n, n, fun _ => ⟨0, fun _ => 0⟩, 0, 0, fun _ => (0, 0)⟩
theorem canT (n : Nat) (i : Int) (c : Nat) : canF (mT n i c) = canB n i := by
  unfold canF canB hasF
  show (bif (bif (n : Int) == 0 then true else decide ((n : Int) > 16)) then false else bif (bif decide (i ≥ 0) then decide (i < ((2 : Nat) : Int)) else false) then true else false) = _
  cases (bif (n : Int) == 0 then true else decide ((n : Int) > 16)) with
  | true => rfl
  | false =>
    simp only [cond_false]
    show (bif (bif decide (0 ≤ i) then decide (i < 2) else false) then true else false) = (bif decide (0 ≤ i) then decide (i < 2) else false)
    cases decide (0 ≤ i) <;> cases decide (i < 2) <;> rfl
theorem runT_ex (d : Cd) (n : Nat) (i : Int) (c : Nat) : ∃ R how v, runF d (mT n i c) = (R, how, v) ∧ 0 ≤ how ∧ how ≤ 3 := by
  have h := runF_how d (mT n i c)
  generalize runF d (mT n i c) = r at h
  obtain ⟨R, how, v⟩ := r
  exact ⟨R, how, v, rfl, h⟩
abbrev refusesC (d : Cd) (i frames which : Int) : CallSpec := mSpec [] 0 [.c (.sl 0 0 0 5 d.n d.cap), iav i, iav frames, iav which] [d.row] (fun _ => True) (fun _ => bool true) fun _ => [d.row]
set_option maxHeartbeats 2000000 in
theorem refuses_local (d : Cd) (i frames which : Int) (hf : -9223372036854775808 ≤ frames ∧ frames ≤ 9223372036854775807) (hw : -9223372036854775808 ≤ which ∧ which ≤ 9223372036854775807) : (refusesC d i frames which).Local Try.prog 3 := by
  refine local_of Try.func3 rfl (trefuses_eq d i frames which) fun ν W => ?_
  refine ok_callf' up_call (fits_of rfl rfl trivial fun c _ => ⟨⟨Nat.le_refl _, rfl⟩, ⟨rfl, rfl⟩, trivial⟩) (up_local _) fun c0 _ => ok_br' (fun _ => by exact ok_leaf (fun _ => 0) [] [0] trivial rfl ⟨⟨_, rfl, EntRel.rw rfl rfl (fun _ _ => rfl) fun _ _ => rfl⟩, trivial⟩ rfl) fun hlen => ok_some' (zT, true) ?_
  refine ok_callf' made_call (fits_of rfl rfl ⟨⟨_, rfl, EntRel.rw rfl rfl (fun i hi => by match i, hi with | 0, _ => rfl | 1, _ => rfl | 2, _ => rfl) fun _ _ => rfl⟩, trivial⟩ fun c _ => ⟨⟨(by show 1 ≤ 5; decide), rfl⟩, ⟨rfl, rfl⟩, ⟨⟨EntRel.rw rfl rfl (fun _ _ => rfl) fun _ _ => rfl, rfl, (fun h => by cases h), .inr rfl⟩, ⟨EntRel.box' rfl rfl rfl rfl rfl, rfl, (fun _ => ⟨rfl, rfl⟩), .inr rfl⟩, ⟨EntRel.rw rfl rfl (fun _ _ => rfl) fun _ _ => rfl, rfl, (fun h => by cases h), .inr rfl⟩, ⟨EntRel.box' rfl rfl rfl rfl rfl, rfl, (fun _ => ⟨rfl, rfl⟩), .inr rfl⟩, ⟨EntRel.rw rfl rfl (fun _ _ => rfl) fun _ _ => rfl, rfl, (fun h => by cases h), .inr rfl⟩, trivial⟩⟩) (made_local true 3 3 2 zT _ _ (by decide) (by decide) (by decide)) fun c1 _ => ?_
  refine ok_br' (fun h => by cases h) fun _ => ?_
  refine ok_some' (pickF frames 20) (ok_callf' pick_call (fits_of rfl rfl trivial fun c _ => ⟨⟨Nat.le_refl _, rfl⟩, ⟨rfl, rfl⟩, trivial⟩) (pick20_local frames) fun _ _ => ?_)
  obtain ⟨p1, p2⟩ := pickF_in hf.1 hf.2 (n := 20) (by decide)
  obtain ⟨q1, q2⟩ := pickF_in hw.1 hw.2 (n := 3) (by decide)
  generalize pickF frames 20 = n at p1 p2
  refine ok_chk' ⟨p1, by omega, by omega⟩ (ok_some' (pickF which 3) (ok_callf' pick_call (fits_of rfl rfl trivial fun c _ => ⟨⟨Nat.le_refl _, rfl⟩, ⟨rfl, rfl⟩, trivial⟩) (pick3_local which) fun _ _ => ?_))
  generalize pickF which 3 = k at q1 q2
  refine ok_br' (fun hk => ok_br' (fun hk2 => ?_) fun hk2 => ?_) fun hk => ok_br' (fun hk2 => ?_) fun hk2 => ok_br' (fun hcan => ?_) fun hcan => ?_
  · exfalso; simp at hk hk2; omega
  · have hk : k = 1 := by simpa using hk
    subst hk
    refine ok_some' (d, newT 2, fun _ => ⟨0, fun _ => 0⟩) (ok_callf' step_call (fits_of rfl rfl ⟨⟨_, rfl, EntRel.rw rfl rfl (fun _ _ => rfl) fun _ _ => rfl⟩, ⟨_, rfl, EntRel.box' rfl rfl rfl rfl rfl⟩, ⟨_, rfl, EntRel.rw rfl rfl (fun _ _ => rfl) fun _ _ => rfl⟩, ⟨_, rfl, EntRel.rw rfl rfl (fun _ _ => rfl) fun _ _ => rfl⟩, trivial⟩ fun c _ => ⟨⟨Nat.le_refl _, rfl⟩, ⟨rfl, rfl⟩, ⟨⟨EntRel.rw rfl rfl (fun _ _ => rfl) fun _ _ => rfl, rfl, (fun h => by cases h), .inr rfl⟩, ⟨EntRel.box' rfl rfl rfl rfl rfl, rfl, (fun _ => ⟨rfl, rfl⟩), .inr rfl⟩, ⟨EntRel.rw rfl rfl (fun _ _ => rfl) fun _ _ => rfl, rfl, (fun h => by cases h), .inr rfl⟩, ⟨EntRel.rw rfl rfl (fun _ _ => rfl) fun _ _ => rfl, rfl, (fun h => by cases h), .inr rfl⟩, trivial⟩⟩) (stepA_local _ _ _ _ _ _ _ _) fun c5 _ => ?_)
    ((repeat refine ok_chk' (by first | exact fun h => h | rfl | exact fun h => absurd h (by decide) | exact fun _ => rfl | (exact fun h => by rw [h]; rfl)) ?_); refine ok_br' (fun h => by exfalso; simp at h) (fun _ => ?_); ((repeat refine ok_chk' (by first | exact fun h => h | rfl | exact fun h => absurd h (by decide) | exact fun _ => rfl | (exact fun h => by rw [h]; rfl)) ?_); refine ok_br' (fun _ => ?_) (fun h => by cases h); (repeat refine ok_chk' (by first | exact fun h => h | rfl | exact fun h => absurd h (by decide) | exact fun _ => rfl | (exact fun h => by rw [h]; rfl)) ?_); refine ok_some' (madeF 3 3 (c1 0) zT) (ok_callf' len_call (fits_of rfl rfl ⟨⟨_, rfl, EntRel.box' rfl rfl rfl rfl rfl⟩, ⟨_, rfl, EntRel.rw rfl rfl (fun _ _ => rfl) fun _ _ => rfl⟩, trivial⟩ fun c _ => ⟨⟨Nat.le_refl _, rfl⟩, ⟨rfl, rfl⟩, ⟨⟨EntRel.box' rfl rfl rfl rfl rfl, rfl, (fun _ => ⟨rfl, rfl⟩), .inr rfl⟩, ⟨EntRel.rw rfl rfl (fun _ _ => rfl) fun _ _ => rfl, rfl, (fun h => by cases h), .inr rfl⟩, trivial⟩⟩) (len_local _ _) fun c9 _ => ?_); (repeat refine ok_chk' (by first | exact fun h => h | rfl | exact fun h => absurd h (by decide) | exact fun _ => rfl | (exact fun h => by rw [h]; rfl)) ?_); exact ok_leaf (fun _ => 0) [] [0] trivial rfl ⟨⟨_, rfl, EntRel.rw rfl rfl (fun _ _ => rfl) fun _ _ => rfl⟩, trivial⟩ rfl))
  · have hk : k = 2 := by simpa using hk2
    subst hk
    refine ok_some' (d, madeF 3 3 (c1 0) zT, fun _ => ⟨0, fun _ => 0⟩) (ok_callf' step_call (fits_of rfl rfl ⟨⟨_, rfl, EntRel.rw rfl rfl (fun _ _ => rfl) fun _ _ => rfl⟩, ⟨_, rfl, EntRel.box' rfl rfl rfl rfl rfl⟩, ⟨_, rfl, EntRel.rw rfl rfl (fun _ _ => rfl) fun _ _ => rfl⟩, ⟨_, rfl, EntRel.rw rfl rfl (fun _ _ => rfl) fun _ _ => rfl⟩, trivial⟩ fun c _ => ⟨⟨Nat.le_refl _, rfl⟩, ⟨rfl, rfl⟩, ⟨⟨EntRel.rw rfl rfl (fun _ _ => rfl) fun _ _ => rfl, rfl, (fun h => by cases h), .inr rfl⟩, ⟨EntRel.box' rfl rfl rfl rfl rfl, rfl, (fun _ => ⟨rfl, rfl⟩), .inr rfl⟩, ⟨EntRel.rw rfl rfl (fun _ _ => rfl) fun _ _ => rfl, rfl, (fun h => by cases h), .inr rfl⟩, ⟨EntRel.rw rfl rfl (fun _ _ => rfl) fun _ _ => rfl, rfl, (fun h => by cases h), .inr rfl⟩, trivial⟩⟩) (stepT_local _ _ _ _ _ _ _ _) fun c5 _ => ?_)
    ((repeat refine ok_chk' (by first | exact fun h => h | rfl | exact fun h => absurd h (by decide) | exact fun _ => rfl | (exact fun h => by rw [h]; rfl)) ?_); refine ok_br' (fun h => by exfalso; simp at h) (fun _ => ?_); ((repeat refine ok_chk' (by first | exact fun h => h | rfl | exact fun h => absurd h (by decide) | exact fun _ => rfl | (exact fun h => by rw [h]; rfl)) ?_); refine ok_br' (fun _ => ?_) (fun h => by cases h); (repeat refine ok_chk' (by first | exact fun h => h | rfl | exact fun h => absurd h (by decide) | exact fun _ => rfl | (exact fun h => by rw [h]; rfl)) ?_); refine ok_some' (madeF 3 3 (c1 0) zT) (ok_callf' len_call (fits_of rfl rfl ⟨⟨_, rfl, EntRel.box' rfl rfl rfl rfl rfl⟩, ⟨_, rfl, EntRel.rw rfl rfl (fun _ _ => rfl) fun _ _ => rfl⟩, trivial⟩ fun c _ => ⟨⟨Nat.le_refl _, rfl⟩, ⟨rfl, rfl⟩, ⟨⟨EntRel.box' rfl rfl rfl rfl rfl, rfl, (fun _ => ⟨rfl, rfl⟩), .inr rfl⟩, ⟨EntRel.rw rfl rfl (fun _ _ => rfl) fun _ _ => rfl, rfl, (fun h => by cases h), .inr rfl⟩, trivial⟩⟩) (len_local _ _) fun c9 _ => ?_); (repeat refine ok_chk' (by first | exact fun h => h | rfl | exact fun h => absurd h (by decide) | exact fun _ => rfl | (exact fun h => by rw [h]; rfl)) ?_); exact ok_leaf (fun _ => 0) [] [0] trivial rfl ⟨⟨_, rfl, EntRel.rw rfl rfl (fun _ _ => rfl) fun _ _ => rfl⟩, trivial⟩ rfl))
  · have hk0 : k = 0 := by simp at hk hk2; omega
    subst hk0
    have hcan : canB n.toNat i = true := hcan
    obtain ⟨R, how, v, hr, h0, h3⟩ := runT_ex d n.toNat i (c1 0)
    refine ok_some' (mT n.toNat i (c1 0), R, how, v, d) (ok_callf' step_call (fits_of rfl rfl ⟨⟨_, rfl, EntRel.rw rfl rfl (fun _ _ => rfl) fun _ _ => rfl⟩, ⟨_, rfl, EntRel.box' rfl rfl rfl rfl rfl⟩, ⟨_, rfl, EntRel.rw rfl rfl (fun _ _ => rfl) fun _ _ => rfl⟩, ⟨_, rfl, EntRel.box' rfl rfl rfl rfl rfl⟩, ⟨_, rfl, EntRel.rw rfl rfl (fun _ _ => rfl) fun _ _ => rfl⟩, ⟨_, rfl, EntRel.rw rfl rfl (fun _ _ => rfl) fun _ _ => rfl⟩, trivial⟩ fun c _ => ⟨⟨(by show 6 ≤ 9; decide), rfl⟩, ⟨rfl, rfl⟩, ⟨⟨EntRel.rw rfl rfl (fun _ _ => rfl) fun _ _ => rfl, rfl, (fun h => by cases h), .inr rfl⟩, ⟨EntRel.box' rfl rfl rfl rfl rfl, rfl, (fun _ => ⟨rfl, rfl⟩), .inr rfl⟩, ⟨EntRel.dead, rfl, (fun h => by cases h), .inr rfl⟩, ⟨EntRel.box' rfl rfl rfl rfl rfl, rfl, (fun _ => ⟨rfl, rfl⟩), .inr rfl⟩, ⟨EntRel.rw rfl rfl (fun _ _ => rfl) fun _ _ => rfl, rfl, (fun h => by cases h), .inr rfl⟩, ⟨EntRel.rw rfl rfl (fun _ _ => rfl) fun _ _ => rfl, rfl, (fun h => by cases h), .inr rfl⟩, ⟨EntRel.rw rfl rfl (fun _ _ => rfl) fun _ _ => rfl, rfl, (fun h => by cases h), .inr rfl⟩, ⟨EntRel.rw rfl rfl (fun _ _ => rfl) fun _ _ => rfl, rfl, (fun h => by cases h), .inr rfl⟩, ⟨EntRel.rw rfl rfl (fun _ _ => rfl) fun _ _ => rfl, rfl, (fun h => by cases h), .inr rfl⟩, trivial⟩⟩) (step_local may_local _ _ _ _ _ _ _ _ (madeF_ok (by decide)) ((canT _ _ _).trans hcan) hr) fun c5 hc5 => ?_)
    repeat refine ok_chk' (by first | exact fun h => h | rfl | exact fun h => absurd h (by decide) | exact fun _ => rfl | (exact fun h => by rw [h]; rfl)) ?_
    have hg : 0 < n ∧ n ≤ 16 ∧ 0 ≤ i ∧ i < 2 := by
      unfold canB at hcan
      simp at hcan
      omega
    refine ok_br' (fun _ => ?_) fun h => by exfalso; simp at h; omega
    repeat refine ok_chk' (by first | exact fun h => h | rfl | exact fun h => absurd h (by decide) | exact fun _ => rfl | (exact fun h => by rw [h]; rfl)) ?_
    refine ok_leaf (fun _ => 0) [] [0] trivial ?_ ⟨⟨_, rfl, EntRel.rw rfl rfl (fun _ _ => rfl) fun _ _ => rfl⟩, trivial⟩ rfl
    show XV.a (.c (bv (bif bif bif true then true else false then decide (how ≥ 0) else false then decide (how ≤ 3) else false))) = XV.a (.c (bv true))
    rw [show decide (how ≥ 0) = true by simpa using h0, show decide (how ≤ 3) = true by simpa using h3]
    rfl
  · have hk0 : k = 0 := by simp at hk hk2; omega
    subst hk0
    have hcan : canB n.toNat i = false := hcan
    have hg : n = 0 ∨ 16 < n ∨ i < 0 ∨ 1 < i := by
      unfold canB at hcan
      simp at hcan
      omega
    refine ok_some' (mT n.toNat i (c1 0), d) (ok_callf' step_call (fits_of rfl rfl ⟨⟨_, rfl, EntRel.rw rfl rfl (fun _ _ => rfl) fun _ _ => rfl⟩, ⟨_, rfl, EntRel.box' rfl rfl rfl rfl rfl⟩, ⟨_, rfl, EntRel.rw rfl rfl (fun _ _ => rfl) fun _ _ => rfl⟩, ⟨_, rfl, EntRel.box' rfl rfl rfl rfl rfl⟩, ⟨_, rfl, EntRel.rw rfl rfl (fun _ _ => rfl) fun _ _ => rfl⟩, ⟨_, rfl, EntRel.rw rfl rfl (fun _ _ => rfl) fun _ _ => rfl⟩, trivial⟩ fun c _ => ⟨⟨Nat.le_refl _, rfl⟩, ⟨rfl, rfl⟩, ⟨⟨EntRel.rw rfl rfl (fun _ _ => rfl) fun _ _ => rfl, rfl, (fun h => by cases h), .inr rfl⟩, ⟨EntRel.box' rfl rfl rfl rfl rfl, rfl, (fun _ => ⟨rfl, rfl⟩), .inr rfl⟩, ⟨EntRel.rw rfl rfl (fun _ _ => rfl) fun _ _ => rfl, rfl, (fun h => by cases h), .inr rfl⟩, ⟨EntRel.box' rfl rfl rfl rfl rfl, rfl, (fun _ => ⟨rfl, rfl⟩), .inr rfl⟩, ⟨EntRel.rw rfl rfl (fun _ _ => rfl) fun _ _ => rfl, rfl, (fun h => by cases h), .inr rfl⟩, ⟨EntRel.rw rfl rfl (fun _ _ => rfl) fun _ _ => rfl, rfl, (fun h => by cases h), .inr rfl⟩, trivial⟩⟩) (bad_local _ _ _ _ _ ((canT _ _ _).trans hcan)) fun c5 hc5 => ?_)
    repeat refine ok_chk' (by first | exact fun h => h | rfl | exact fun h => absurd h (by decide) | exact fun _ => rfl | (exact fun h => by rw [h]; rfl)) ?_
    refine ok_br' (fun h => by exfalso; simp at h; omega) fun _ => ?_
    ((repeat refine ok_chk' (by first | exact fun h => h | rfl | exact fun h => absurd h (by decide) | exact fun _ => rfl | (exact fun h => by rw [h]; rfl)) ?_); refine ok_br' (fun _ => ?_) (fun h => by cases h); (repeat refine ok_chk' (by first | exact fun h => h | rfl | exact fun h => absurd h (by decide) | exact fun _ => rfl | (exact fun h => by rw [h]; rfl)) ?_); refine ok_some' (madeF 3 3 (c1 0) zT) (ok_callf' len_call (fits_of rfl rfl ⟨⟨_, rfl, EntRel.box' rfl rfl rfl rfl rfl⟩, ⟨_, rfl, EntRel.rw rfl rfl (fun _ _ => rfl) fun _ _ => rfl⟩, trivial⟩ fun c _ => ⟨⟨Nat.le_refl _, rfl⟩, ⟨rfl, rfl⟩, ⟨⟨EntRel.box' rfl rfl rfl rfl rfl, rfl, (fun _ => ⟨rfl, rfl⟩), .inr rfl⟩, ⟨EntRel.rw rfl rfl (fun _ _ => rfl) fun _ _ => rfl, rfl, (fun h => by cases h), .inr rfl⟩, trivial⟩⟩) (len_local _ _) fun c9 _ => ?_); (repeat refine ok_chk' (by first | exact fun h => h | rfl | exact fun h => absurd h (by decide) | exact fun _ => rfl | (exact fun h => by rw [h]; rfl)) ?_); exact ok_leaf (fun _ => 0) [] [0] trivial rfl ⟨⟨_, rfl, EntRel.rw rfl rfl (fun _ _ => rfl) fun _ _ => rfl⟩, trivial⟩ rfl)
end Go.Proofs.Ytehecaipmdfjmaa.X.Mi

set_option linter.unusedVariables false
set_option linter.unusedSimpArgs false
namespace Go.Proofs.Ytehecaipmdfjmaa.Open
open Go.RowKit Go.Proofs.YtehecaipmdfjmaaW.PrintWords

theorem mapM_get {α β : Type} {f : α → Option β} : ∀ {l : List α} {r : List β}, l.mapM f = some r → r.length = l.length ∧ ∀ (j : Nat) (x : α), l[j]? = some x → ∃ y, f x = some y ∧ r[j]? = some y
  | [], r, h => by
    simp at h
    subst h
    exact ⟨rfl, fun j x hx => by simp at hx⟩
  | a :: l, r, h => by
    simp only [List.mapM_cons, Option.bind_eq_bind, Option.bind_eq_some_iff] at h
    obtain ⟨y, hy, ys, hys, hr⟩ := h
    simp at hr
    subst hr
    obtain ⟨h1, h2⟩ := mapM_get hys
    refine ⟨by simp [h1], fun j x hx => ?_⟩
    cases j with
    | zero => simp at hx; subst hx; exact ⟨y, hy, rfl⟩
    | succ j => simpa using h2 j x (by simpa using hx)

theorem list_of {α : Type} (R : Nat → α → Prop) : ∀ n : Nat, (∀ j, j < n → ∃ x, R j x) → ∃ xs : List α, xs.length = n ∧ ∀ (j : Nat) (x : α), xs[j]? = some x → R j x
  | 0, _ => ⟨[], rfl, fun j x h => by simp at h⟩
  | n + 1, h => by
    obtain ⟨xs, hl, hx⟩ := list_of R n (fun j hj => h j (by omega))
    obtain ⟨x, hr⟩ := h n (by omega)
    refine ⟨xs ++ [x], by simp [hl], fun j y hy => ?_⟩
    rcases Nat.lt_or_ge j xs.length with hj | hj
    · rw [List.getElem?_append_left hj] at hy; exact hx j y hy
    · rw [List.getElem?_append_right hj] at hy
      have hj0 : j - xs.length = 0 := by
        rcases Nat.eq_zero_or_pos (j - xs.length) with h | h
        · exact h
        · rw [List.getElem?_eq_none (by simp; omega)] at hy; cases hy
      rw [hj0] at hy
      simp at hy
      subst hy
      rw [show j = n by omega]
      exact hr

structure Opens {α : Type} (P : Program) (t : TypeId) (k : Kd α) (wf : α → Prop) : Prop where
  out : ∀ {H : Type} (enc : TypeId × Value → H) (w : World) (spare : Nat → Bool) (held : Bool) (fuel : Nat) (cs : List Value) (r : DataW H × List MemPlace),
    DataW.trod enc P w 0 spare held fuel t cs = some r → ∃ x, k.K w x cs ∧ wf x

theorem opens_int {P : Program} {t : TypeId} {k : IntKind} (ht : P.underlying t = some (.int k)) : Opens P t (Kd.int k) (fun x => (Lit.int k x).wf = true) := by
  refine ⟨fun {H} enc w spare held fuel cs r h => ?_⟩
  obtain ⟨n, rfl, _, hw⟩ := DataW.trod_int ht h
  exact ⟨n, rfl, hw⟩

theorem opens_slice {α : Type} {P : Program} {t e : TypeId} {d : Kd α} {wf : α → Prop} (ht : P.underlying t = some (.slice e)) (hs : P.cellsOf e = d.sz) (hd : Opens P e d wf) :
    Opens P t (Kd.slice e d) (fun xs => xs.length ≤ maxLen ∧ ∀ x ∈ xs, wf x) := by
  refine ⟨fun {H} enc w spare held fuel cs r h => ?_⟩
  rcases DataW.trod_slice ht h with ⟨rfl, _⟩ | ⟨a, len, cap, elems, rest, n, rfl, rfl, _, _, hlc, hcm, hel, hat, _⟩
  · exact ⟨[], ⟨none, 0, rfl, Nat.le_refl _, rfl, by simp, fun h => absurd h (by simp)⟩, by simp, by simp⟩
  · have hx : ∀ j, j < len → ∃ x : α, wf x ∧ ∃ c : List Value, c.length = d.sz ∧ d.K w x c ∧ ∀ i u, c[i]? = some u → w.cell? (a.add (j * d.sz + i)) = some u := by
      intro j hj
      have hy := hat j hj
      rw [List.getElem?_eq_getElem (by omega)] at hy
      simp only [Option.bind_eq_some_iff] at hy
      obtain ⟨c, hcells, htr⟩ := hy
      obtain ⟨x, hk, hw⟩ := hd.out enc w spare held n c _ htr
      refine ⟨x, hw, c, d.K_len hk, hk, fun i u hu => ?_⟩
      unfold World.cells? at hcells
      split at hcells
      · obtain ⟨hl2, hg2⟩ := mapM_get hcells
        rw [List.length_range, hs] at hl2
        have hi : i < d.sz := by
          have := (List.getElem?_eq_some_iff.1 hu).1
          omega
        obtain ⟨v, hv, hcv⟩ := hg2 i i (by rw [hs, List.getElem?_range hi])
        rw [hcv] at hu
        injection hu with hu
        subst hu
        have ha : (a.add (j * P.cellsOf e)).add i = a.add (j * d.sz + i) := by
          rw [hs]
          unfold Addr.add
          by_cases h1 : j * d.sz = 0 <;> by_cases h2 : i = 0 <;> simp [h1, h2, Nat.add_assoc]
        rwa [ha] at hv
      · cases hcells
    obtain ⟨xs, hxl, hxs⟩ := list_of _ len hx
    subst hxl
    refine ⟨xs, ⟨some a, cap, rfl, hlc, rfl, by simp only [maxLen] at hcm; omega, fun _ => ⟨a, rfl, fun j p hj => (hxs j p hj).2⟩⟩, by omega, fun x hx => ?_⟩
    obtain ⟨j, hj⟩ := List.mem_iff_getElem?.1 hx
    exact (hxs j x hj).1

structure OpensF {α : Type} (P : Program) (fs : List Field) (off : Nat) (k : Kd α) (wf : α → Prop) : Prop where
  out : ∀ {H : Type} (enc : TypeId × Value → H) (w : World) (spare : Nat → Bool) (held : Bool) (fuel : Nat) (cs : List Value) (r : List (DataW H × List MemPlace)),
    off + k.sz ≤ cs.length → (fs.mapM fun f => DataW.trod enc P w 0 spare held fuel f.type ((cs.drop f.offset).take (P.cellsOf f.type))) = some r → ∃ x, k.K w x ((cs.drop off).take k.sz) ∧ wf x

theorem opensF_one {α : Type} {P : Program} {f : Field} {off : Nat} {k : Kd α} {wf : α → Prop} (h : Opens P f.type k wf) (ho : f.offset = off) (hs : P.cellsOf f.type = k.sz) : OpensF P [f] off k wf := by
  refine ⟨fun {H} enc w spare held fuel cs r hl hm => ?_⟩
  obtain ⟨_, hg⟩ := mapM_get hm
  obtain ⟨y, hy, _⟩ := hg 0 f rfl
  rw [ho, hs] at hy
  exact h.out enc w spare held fuel _ y hy

theorem opensF_cons {α β : Type} {P : Program} {f : Field} {fs : List Field} {off : Nat} {k : Kd α} {q : Kd β} {wf : α → Prop} {wg : β → Prop} (h : Opens P f.type k wf) (ho : f.offset = off) (hs : P.cellsOf f.type = k.sz)
    (hq : OpensF P fs (off + k.sz) q wg) : OpensF P (f :: fs) off (Kd.pair k q) (fun x => wf x.1 ∧ wg x.2) := by
  refine ⟨fun {H} enc w spare held fuel cs r hl hm => ?_⟩
  have hl' : off + (k.sz + q.sz) ≤ cs.length := hl
  obtain ⟨hlr, hg⟩ := mapM_get hm
  obtain ⟨y, hy, _⟩ := hg 0 f rfl
  rw [ho, hs] at hy
  obtain ⟨x, hx, hw⟩ := h.out enc w spare held fuel _ y hy
  simp only [List.mapM_cons, Option.bind_eq_bind, Option.bind_eq_some_iff] at hm
  obtain ⟨_, _, ys, hys, _⟩ := hm
  obtain ⟨z, hz, hwz⟩ := hq.out enc w spare held fuel cs ys (by omega) hys
  refine ⟨(x, z), ⟨_, _, ?_, hx, hz⟩, hw, hwz⟩
  show (cs.drop off).take (k.sz + q.sz) = _
  rw [List.take_add, List.drop_drop]

theorem opens_struct {α : Type} {P : Program} {t : TypeId} {fs : Array Field} {k : Kd α} {wf : α → Prop} (ht : P.underlying t = some (.struct fs)) (hs : P.cellsOf t = k.sz) (h : OpensF P fs.toList 0 k wf) : Opens P t k wf := by
  refine ⟨fun {H} enc w spare held fuel cs r hr => ?_⟩
  cases fuel with
  | zero => simp [DataW.trod] at hr
  | succ n =>
    rw [DataW.trod.eq_def] at hr
    simp only [ht] at hr
    split at hr
    · rename_i hl
      simp only [Option.map_eq_some_iff] at hr
      obtain ⟨ys, hys, _⟩ := hr
      obtain ⟨x, hx, hw⟩ := h.out enc w spare held n cs ys (by omega) hys
      rw [List.drop_zero, List.take_of_length_le (by omega)] at hx
      exact ⟨x, hx, hw⟩
    · cases hr

theorem opens_wf {α : Type} {P : Program} {t : TypeId} {k : Kd α} {wf wf' : α → Prop} (h : Opens P t k wf) (hw : ∀ x, wf x → wf' x) : Opens P t k wf' := by
  refine ⟨fun {H} enc w spare held fuel cs r hr => ?_⟩
  obtain ⟨x, hx, hwx⟩ := h.out enc w spare held fuel cs r hr
  exact ⟨x, hx, hw x hwx⟩

theorem open_slice_arg {α : Type} {P : Program} {t e : TypeId} {k : Kd α} {wf : List α → Prop} (h : Opens P t (Kd.slice e k) wf) {H : Type} {enc : TypeId × Value → H} {w : World} {spare : Nat → Bool} {held : Bool} {v : Value} {d : DataW H} {p : List MemPlace}
    (hv : ∃ a n c, v = .slice a n c) (ht : DataW.Trod enc P w 0 spare held t v d p) : ∃ A xs c, v = .slice A xs.length c ∧ xs.length ≤ c ∧ k.C w A xs.length xs ∧ wf xs := by
  obtain ⟨a, n, c, rfl⟩ := hv
  obtain ⟨fuel, hf⟩ := ht
  obtain ⟨xs, ⟨A, c', he, hl, hc⟩, hw⟩ := h.out enc w spare held fuel _ _ hf
  simp [Value.cells] at he
  obtain ⟨rfl, rfl, rfl⟩ := he
  exact ⟨a, xs, c, rfl, hl, hc, hw⟩

end Go.Proofs.Ytehecaipmdfjmaa.Open

set_option linter.unusedVariables false
set_option linter.unusedSimpArgs false
namespace Go.Proofs.Ytehecaipmdfjmaa.X
open Go Go.RowKit Go.Proofs.YtehecaipmdfjmaaW.PrintWords Go.Proofs.Ytehecaipmdfjmaa.Base Go.Proofs.Ytehecaipmdfjmaa.Open
def CV.plB : CV → Bool
  | .v x => (CV.v x).one
  | _ => false
structure Rep {α : Type} (K : Kd α) (rep : α → List CV) : Prop where
  sz : ∀ x, (rep x).length = K.sz
  pos : 0 < K.sz
  pl : ∀ x, (rep x).all CV.plB = true
  den : ∀ W x cc, K.K W x cc → cc = (rep x).map (CV.den nov)
abbrev roRow {α : Type} (ty : Nat) (K : Kd α) (rep : α → List CV) (z : α) (cap : Nat) (xs : List α) : Ent := Ent.rw false ty K.sz xs.length cap fun i => rep (xs.getD i z)
def RoIn (W : World) (A : Option Addr) (e : Ent) : Prop := ∃ (α : Type) (ty cap : Nat) (K : Kd α) (rep : α → List CV) (z : α) (xs : List α), Rep K rep ∧ e = roRow ty K rep z cap xs ∧ K.C W A xs.length xs
theorem CV.plain_lt {N : Nat} {y : CV} (h : y.plB = true) : y.lt N = true ∧ y.one = true := by
  cases y with
  | v v => exact ⟨rfl, h⟩
  | _ => cases h
theorem den_plain {ν : Val} {y : CV} (h : y.plB = true) : y.den ν = y.den nov := by
  cases y with
  | v v => rfl
  | _ => cases h
theorem holds_ros {W : World} {ν : Val} {H : Hp} (h : ∀ k e, H.get k = some e → RoIn W (ν k 0) e) : Holds (rootOf ν H W) ν H W := by
  refine ⟨Upd.refl _ _, fun k e he => ?_, fun k e j he ho => ?_, ⟨Nat.le_refl _, fun _ _ _ => rfl⟩⟩
  · obtain ⟨α, ty, cap, K, rep, z, xs, R, rfl, -, -, hr⟩ := h k e he
    refine ⟨⟨(fun h => by cases h), .inr (by show 0 < K.sz; exact R.pos)⟩, fun j hj i hi => ⟨R.sz _, fun x hx => CV.plain_lt (List.all_eq_true.1 (R.pl _) x hx)⟩, (fun h => by cases h), fun _ j hj hp => ?_⟩
    obtain rfl : j = 0 := by have : j < 1 := hj; omega
    have hp : 0 < xs.length := hp
    obtain ⟨ad, hA, hc⟩ := hr hp
    refine ⟨ad, hA, .inr (.inl ⟨k, _, 0, ad, he, rfl, Nat.one_pos, hp, hA, rfl⟩), fun i hi c x hx => ?_⟩
    have hi : i < xs.length := hi
    obtain ⟨cc, -, hK, hcell⟩ := hc i xs[i] (List.getElem?_eq_getElem hi)
    refine hcell c _ ?_
    have hg : xs.getD i z = xs[i] := by rw [List.getD_eq_getElem?_getD, List.getElem?_eq_getElem hi, Option.getD_some]
    have hx : (rep (xs.getD i z))[c]? = some x := hx
    rw [R.den W _ _ hK, List.getElem?_map, ← hg, hx, den_plain (List.all_eq_true.1 (R.pl _) x (List.mem_of_getElem? hx))]
    rfl
  · obtain ⟨α, ty, cap, K, rep, z, xs, R, rfl, -⟩ := h k e he
    cases ho
theorem below_of {ν ν' : Val} {H0 H : Hp} {W w' : World} (h : Holds (rootOf ν H0 W) ν' H w') (ho : ∀ k e, H0.get k = some e → e.own = false) : Below W.heap.size W w' :=
  h.upd.below (Nat.le_refl _) fun g ⟨k, e, j, ad, h1, h2, _⟩ => by rw [ho k e h1] at h2; cases h2
theorem ro_own {W : World} {ν : Val} {H : Hp} (h : ∀ k e, H.get k = some e → RoIn W (ν k 0) e) : ∀ k e, H.get k = some e → e.own = false := fun k e he => by
  obtain ⟨α, ty, cap, K, rep, z, xs, R, rfl, -⟩ := h k e he
  rfl
theorem den_slice (A : Option Addr) (n cap sz : Nat) : (AV.c (.sl 0 0 0 sz n cap)).den (fun _ _ => A) = .slice A n cap := by
  show Value.slice (A.map (·.add (0 * sz))) n cap = _
  rw [Nat.zero_mul, map_add_zero A]
theorem walk_ros {P : Program} {f : FuncId} {C : CallSpec} {W : World} {ν : Val} (hl : C.Local P f) (h : ∀ k e, C.H0.get k = some e → RoIn W (ν k 0) e) {v : Value} (hv : ∀ c ν', (C.x0 c).den ν' = v) : Calls P f (C.args0.map (AV.den ν)).toArray W fun e w' => e = .returned v ∧ Below W.heap.size W w' :=
  (hl ν W (holds_ros h)).mono fun e w' ⟨ν', c, _, h1, h2⟩ => ⟨by rw [h1, hv], below_of h2 (ro_own h)⟩
abbrev kdI : Kd Int := Kd.int .i64
abbrev wfI (x : Int) : Prop := (Lit.int .i64 x).wf = true
theorem int_in {x : Int} (h : wfI x) : -9223372036854775808 ≤ x ∧ x ≤ 9223372036854775807 := bounds_i64 h
end Go.Proofs.Ytehecaipmdfjmaa.X

set_option linter.unusedVariables false
set_option linter.unusedSimpArgs false
namespace Go.Proofs.Ytehecaipmdfjmaa.X.Mi
open Go Go.RowKit Go.Proofs.YtehecaipmdfjmaaW.PrintWords Go.Proofs.Ytehecaipmdfjmaa.Base Go.Proofs.Ytehecaipmdfjmaa.X Go.Proofs.Ytehecaipmdfjmaa.Open
abbrev InT : Type := Int × Int × Int × Int × Int
abbrev kdIns : Kd InT := Kd.pair kdI (Kd.pair kdI (Kd.pair kdI (Kd.pair kdI kdI)))
theorem opensI : Opens Try.prog 3 kdI X.wfI := opens_int Try.underlying3
theorem opensI64 : Opens Try.prog 2 kdI X.wfI := opens_int Try.underlying2
theorem opensIns : Opens Try.prog 40 kdIns (fun _ => True) :=
  opens_wf (opens_struct Try.underlying40 (by kernel_rfl) (opensF_cons opensI rfl (by kernel_rfl) (opensF_cons opensI rfl (by kernel_rfl) (opensF_cons opensI rfl (by kernel_rfl) (opensF_cons opensI rfl (by kernel_rfl) (opensF_one opensI64 rfl (by kernel_rfl))))))) fun _ _ => trivial
theorem opensCode : Opens Try.prog 22 (Kd.slice 40 kdIns) (fun xs => xs.length ≤ maxLen ∧ ∀ x ∈ xs, True) := opens_slice Try.underlying22 (by kernel_rfl) opensIns
def In.ofK (x : InT) : In := ⟨x.1, x.2.1, x.2.2.1, x.2.2.2.1, x.2.2.2.2⟩
theorem rep_ins : Rep kdIns fun x => (In.ofK x).cv := ⟨fun _ => rfl, by decide, fun _ => rfl, fun W x cc h => by
  obtain ⟨c0, c1, rfl, rfl, d0, d1, rfl, rfl, e0, e1, rfl, rfl, f0, f1, rfl, rfl, rfl⟩ := h
  rfl⟩
def Cd.ofK (cap : Nat) (xs : List InT) : Cd := ⟨false, xs.length, cap, fun i => In.ofK (xs.getD i (0, 0, 0, 0, 0))⟩
theorem refuses_walk (A0 : Option Addr) (xs0 : List InT) (c0 : Nat) (a1 a2 a3 : Int) (W : World) (hl0 : xs0.length ≤ c0) (hC0 : kdIns.C W A0 xs0.length xs0) (hw0 : xs0.length ≤ maxLen ∧ ∀ x ∈ xs0, True) (w1 : X.wfI a1) (w2 : X.wfI a2) (w3 : X.wfI a3) :
    Calls Try.prog 3 #[.slice A0 xs0.length c0, .int .i64 a1, .int .i64 a2, .int .i64 a3] W fun e w' => e = .returned (.bool true) ∧ Below W.heap.size W w' := by
  have := walk_ros (refuses_local (Cd.ofK c0 xs0) a1 a2 a3 (int_in w2) (int_in w3)) (W := W) (ν := fun _ _ => A0) (fun k e he => by
    cases k with
    | zero => cases he; exact ⟨_, _, c0, kdIns, _, (0, 0, 0, 0, 0), xs0, rep_ins, rfl, hC0⟩
    | succ k => cases k <;> cases he) (v := .bool true) fun _ _ => rfl
  rw [← den_slice A0 xs0.length c0 5]
  exact this
end Go.Proofs.Ytehecaipmdfjmaa.X.Mi

