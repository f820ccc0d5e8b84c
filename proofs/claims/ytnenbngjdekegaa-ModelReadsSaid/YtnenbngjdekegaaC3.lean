/- A symbolic run of functions' texts, proved, and what it tells of the program's functions; no conditions. -/
import Derived.Test.YtnenbngjdekegaaC2
import Derived.Test.YtnenbngjdekegaaOpen
import Derived.Test.YtnenbngjdekegaaWArr
/- The laws of the model: the head of all, and what is light: trees. -/
set_option linter.unusedVariables false
set_option linter.unusedSimpArgs false
namespace Go.Proofs.Ytnenbngjdekegaa.X
open Go Go.RowKit Go.Proofs.YtnenbngjdekegaaW.PrintWords Go.Proofs.Ytnenbngjdekegaa.Base
abbrev Gh : Type := List Wt × Bool × Nat
def bi (b : Bool) : XV := .a (.c (.v (.bool b)))
def lightB0 (x : Thg) (n : Nat) : Bool := bif (bif (bif (bif decide (x.n ≥ -1000000) then decide (x.n ≤ 1000000) else false) then decide (x.h ≥ -1000000) else false) then decide (x.h ≤ 1000000) else false) then decide ((n : Int) ≤ 100) else false
def lightF (x : Thg) (n : Nat) : Nat → Bool
  | 0 => lightB0 x n
  | i + 1 => bif (bif lightF x n i then decide (x.rs.getD i 0 ≥ -1000000) else false) then decide (x.rs.getD i 0 ≤ 1000000) else false
def lightInv (x : Thg) (ws : List Wt) (own : Bool) (lo n cap rc : Nat) : LoopInv :=
  ⟨{i : Nat // le8 i}, fun i => ([(3, bi (lightF x n i.1)), (4, ia i.1), (1, .a (.c (.ptr (bref 1 15))))], [Ent.ws own rc ws, Ent.mkBox TT (x.cv (.sl 0 0 lo 2 n cap))]), fun i => 8 - i.1, some ⟨0, Nat.zero_le _⟩, [], .l [0, 1], [], fun _ _ => .l [0, 1]⟩
def tlight (x : Thg) (ws : List Wt) (own : Bool) (lo n cap rc : Nat) : Tree :=
  Tree.chk (decide (x.2 ≥ (-1000000 : Int)) = true → decide (x.2 ≥ (-1000000 : Int)) = true)
   (Tree.chk (decide (x.2 ≥ (-1000000 : Int)) = true → decide (x.2 ≥ (-1000000 : Int)) = true)
   (Tree.chk (decide (x.2 ≥ (-1000000 : Int)) = true → decide (x.2 ≥ (-1000000 : Int)) = true)
   (Tree.chk ((bif decide (x.2 ≥ (-1000000 : Int)) then decide (x.2 ≤ (1000000 : Int)) else false) = true → (bif decide (x.2 ≥ (-1000000 : Int)) then decide (x.2 ≤ (1000000 : Int)) else false) = true)
   (Tree.chk ((bif decide (x.2 ≥ (-1000000 : Int)) then decide (x.2 ≤ (1000000 : Int)) else false) = true → (bif decide (x.2 ≥ (-1000000 : Int)) then decide (x.2 ≤ (1000000 : Int)) else false) = true)
   (Tree.chk ((bif decide (x.2 ≥ (-1000000 : Int)) then decide (x.2 ≤ (1000000 : Int)) else false) = true → (bif decide (x.2 ≥ (-1000000 : Int)) then decide (x.2 ≤ (1000000 : Int)) else false) = true)
   (Tree.chk ((bif bif decide (x.2 ≥ (-1000000 : Int)) then decide (x.2 ≤ (1000000 : Int)) else false then decide (x.4 ≥ (-1000000 : Int)) else false) = true → (bif bif decide (x.2 ≥ (-1000000 : Int)) then decide (x.2 ≤ (1000000 : Int)) else false then decide (x.4 ≥ (-1000000 : Int)) else false) = true)
   (Tree.chk ((bif bif decide (x.2 ≥ (-1000000 : Int)) then decide (x.2 ≤ (1000000 : Int)) else false then decide (x.4 ≥ (-1000000 : Int)) else false) = true → (bif bif decide (x.2 ≥ (-1000000 : Int)) then decide (x.2 ≤ (1000000 : Int)) else false then decide (x.4 ≥ (-1000000 : Int)) else false) = true)
   (Tree.chk ((bif bif decide (x.2 ≥ (-1000000 : Int)) then decide (x.2 ≤ (1000000 : Int)) else false then decide (x.4 ≥ (-1000000 : Int)) else false) = true → (bif bif decide (x.2 ≥ (-1000000 : Int)) then decide (x.2 ≤ (1000000 : Int)) else false then decide (x.4 ≥ (-1000000 : Int)) else false) = true)
   (Tree.chk ((bif bif bif decide (x.2 ≥ (-1000000 : Int)) then decide (x.2 ≤ (1000000 : Int)) else false then decide (x.4 ≥ (-1000000 : Int)) else false then decide (x.4 ≤ (1000000 : Int)) else false) = true → (bif bif bif decide (x.2 ≥ (-1000000 : Int)) then decide (x.2 ≤ (1000000 : Int)) else false then decide (x.4 ≥ (-1000000 : Int)) else false then decide (x.4 ≤ (1000000 : Int)) else false) = true)
   (Tree.chk ((bif bif bif decide (x.2 ≥ (-1000000 : Int)) then decide (x.2 ≤ (1000000 : Int)) else false then decide (x.4 ≥ (-1000000 : Int)) else false then decide (x.4 ≤ (1000000 : Int)) else false) = true → (bif bif bif decide (x.2 ≥ (-1000000 : Int)) then decide (x.2 ≤ (1000000 : Int)) else false then decide (x.4 ≥ (-1000000 : Int)) else false then decide (x.4 ≤ (1000000 : Int)) else false) = true)
   (Tree.chk ((bif bif bif decide (x.2 ≥ (-1000000 : Int)) then decide (x.2 ≤ (1000000 : Int)) else false then decide (x.4 ≥ (-1000000 : Int)) else false then decide (x.4 ≤ (1000000 : Int)) else false) = true → (bif bif bif decide (x.2 ≥ (-1000000 : Int)) then decide (x.2 ≤ (1000000 : Int)) else false then decide (x.4 ≥ (-1000000 : Int)) else false then decide (x.4 ≤ (1000000 : Int)) else false) = true)
   (Tree.chk ((bif bif bif decide (x.2 ≥ (-1000000 : Int)) then decide (x.2 ≤ (1000000 : Int)) else false then decide (x.4 ≥ (-1000000 : Int)) else false then decide (x.4 ≤ (1000000 : Int)) else false) = true → (bif bif bif decide (x.2 ≥ (-1000000 : Int)) then decide (x.2 ≤ (1000000 : Int)) else false then decide (x.4 ≥ (-1000000 : Int)) else false then decide (x.4 ≤ (1000000 : Int)) else false) = true)
   (Tree.both
   (Tree.chk (XV.a (AV.c (CV.v (Value.bool (bif bif bif bif decide (x.2 ≥ (-1000000 : Int)) then decide (x.2 ≤ (1000000 : Int)) else false then decide (x.4 ≥ (-1000000 : Int)) else false then decide (x.4 ≤ (1000000 : Int)) else false then decide ((↑n : Int) ≤ (100 : Int)) else false)))) = XV.a (AV.c (CV.v (Value.bool (lightF x n 0)))))
   (Tree.chk (XV.a (AV.c (iv (0 : Int))) = XV.a (AV.c (iv (0 : Int))))
   (Tree.chk (XV.a (AV.c (CV.ptr { k := 1, j := 0, i := 0, sz := 15, c := 0, d := 0, dn := 0, cu := 0 })) = XV.a (AV.c (CV.ptr { k := 1, j := 0, i := 0, sz := 15, c := 0, d := 0, dn := 0, cu := 0 })))
   (Tree.chk (EntRel 2 [0, 1] 2 (Ent.ws own rc ws) (Ent.ws own rc ws))
   (Tree.chk (EntRel 2 [0, 1] 2 (Ent.mkBox 25 [iv x.1, iv x.2, iv x.3, iv x.4, iv x.5, iv x.6, iv x.7, iv x.8, iv x.9, iv x.10, iv x.11, iv x.12, CV.sl 0 0 lo 2 n cap, iv x.13, iv x.14]) (Ent.mkBox 25 [iv x.1, iv x.2, iv x.3, iv x.4, iv x.5, iv x.6, iv x.7, iv x.8, iv x.9, iv x.10, iv x.11, iv x.12, CV.sl 0 0 lo 2 n cap, iv x.13, iv x.14]))
   (Tree.need True))))))
   (Tree.every { i // le8 i } fun s => Tree.br (decide ((↑(Subtype.val s) : Int) < (8 : Int)))
   (Tree.chk (lightF x n (Subtype.val s) = true → lightF x n (Subtype.val s) = true)
   (Tree.chk (lightF x n (Subtype.val s) = true → lightF x n (Subtype.val s) = true)
   (Tree.chk (lightF x n (Subtype.val s) = true → (0 : Int) ≤ (↑(Subtype.val s) : Int) ∧ (↑(Subtype.val s) : Int) < (↑8 : Int))
   (Tree.chk (lightF x n (Subtype.val s) = true → lightF x n (Subtype.val s) = true)
   (Tree.chk (lightF x n (Subtype.val s) = true → Int.toNat (↑(Subtype.val s) : Int) < 8)
   (Tree.chk (lightF x n (Subtype.val s) = true → lightF x n (Subtype.val s) = true)
   (Tree.chk (lightF x n (Subtype.val s) = true → lightF x n (Subtype.val s) = true)
   (Tree.chk ((bif lightF x n (Subtype.val s) then decide (List.getD [x.5, x.6, x.7, x.8, x.9, x.10, x.11, x.12] (Int.toNat (↑(Subtype.val s) : Int)) (0 : Int) ≥ (-1000000 : Int)) else false) = true → (bif lightF x n (Subtype.val s) then decide (List.getD [x.5, x.6, x.7, x.8, x.9, x.10, x.11, x.12] (Int.toNat (↑(Subtype.val s) : Int)) (0 : Int) ≥ (-1000000 : Int)) else false) = true)
   (Tree.chk ((bif lightF x n (Subtype.val s) then decide (List.getD [x.5, x.6, x.7, x.8, x.9, x.10, x.11, x.12] (Int.toNat (↑(Subtype.val s) : Int)) (0 : Int) ≥ (-1000000 : Int)) else false) = true → (bif lightF x n (Subtype.val s) then decide (List.getD [x.5, x.6, x.7, x.8, x.9, x.10, x.11, x.12] (Int.toNat (↑(Subtype.val s) : Int)) (0 : Int) ≥ (-1000000 : Int)) else false) = true)
   (Tree.chk ((bif lightF x n (Subtype.val s) then decide (List.getD [x.5, x.6, x.7, x.8, x.9, x.10, x.11, x.12] (Int.toNat (↑(Subtype.val s) : Int)) (0 : Int) ≥ (-1000000 : Int)) else false) = true → (0 : Int) ≤ (↑(Subtype.val s) : Int) ∧ (↑(Subtype.val s) : Int) < (↑8 : Int))
   (Tree.chk ((bif lightF x n (Subtype.val s) then decide (List.getD [x.5, x.6, x.7, x.8, x.9, x.10, x.11, x.12] (Int.toNat (↑(Subtype.val s) : Int)) (0 : Int) ≥ (-1000000 : Int)) else false) = true → (bif lightF x n (Subtype.val s) then decide (List.getD [x.5, x.6, x.7, x.8, x.9, x.10, x.11, x.12] (Int.toNat (↑(Subtype.val s) : Int)) (0 : Int) ≥ (-1000000 : Int)) else false) = true)
   (Tree.chk ((bif lightF x n (Subtype.val s) then decide (List.getD [x.5, x.6, x.7, x.8, x.9, x.10, x.11, x.12] (Int.toNat (↑(Subtype.val s) : Int)) (0 : Int) ≥ (-1000000 : Int)) else false) = true → Int.toNat (↑(Subtype.val s) : Int) < 8)
   (Tree.chk ((bif lightF x n (Subtype.val s) then decide (List.getD [x.5, x.6, x.7, x.8, x.9, x.10, x.11, x.12] (Int.toNat (↑(Subtype.val s) : Int)) (0 : Int) ≥ (-1000000 : Int)) else false) = true → (bif lightF x n (Subtype.val s) then decide (List.getD [x.5, x.6, x.7, x.8, x.9, x.10, x.11, x.12] (Int.toNat (↑(Subtype.val s) : Int)) (0 : Int) ≥ (-1000000 : Int)) else false) = true)
   (Tree.chk ((bif lightF x n (Subtype.val s) then decide (List.getD [x.5, x.6, x.7, x.8, x.9, x.10, x.11, x.12] (Int.toNat (↑(Subtype.val s) : Int)) (0 : Int) ≥ (-1000000 : Int)) else false) = true → (bif lightF x n (Subtype.val s) then decide (List.getD [x.5, x.6, x.7, x.8, x.9, x.10, x.11, x.12] (Int.toNat (↑(Subtype.val s) : Int)) (0 : Int) ≥ (-1000000 : Int)) else false) = true)
   (Tree.some_ { i // le8 i } fun s' => Tree.chk (8 - Subtype.val s' < 8 - Subtype.val s)
   (Tree.chk (XV.a (AV.c (CV.v (Value.bool (bif bif lightF x n (Subtype.val s) then decide (List.getD [x.5, x.6, x.7, x.8, x.9, x.10, x.11, x.12] (Int.toNat (↑(Subtype.val s) : Int)) (0 : Int) ≥ (-1000000 : Int)) else false then decide (List.getD [x.5, x.6, x.7, x.8, x.9, x.10, x.11, x.12] (Int.toNat (↑(Subtype.val s) : Int)) (0 : Int) ≤ (1000000 : Int)) else false)))) = XV.a (AV.c (CV.v (Value.bool (lightF x n (Subtype.val s'))))))
   (Tree.chk (XV.a (AV.c (iv (IntKind.wrap IntKind.i64 ((↑(Subtype.val s) : Int) + (1 : Int))))) = XV.a (AV.c (iv (↑(Subtype.val s') : Int))))
   (Tree.chk (XV.a (AV.c (CV.ptr { k := 1, j := 0, i := 0, sz := 15, c := 0, d := 0, dn := 0, cu := 0 })) = XV.a (AV.c (CV.ptr { k := 1, j := 0, i := 0, sz := 15, c := 0, d := 0, dn := 0, cu := 0 })))
   (Tree.chk (EntRel 2 [0, 1] 2 (Ent.ws own rc ws) (Ent.ws own rc ws))
   (Tree.chk (EntRel 2 [0, 1] 2 (Ent.mkBox 25 [iv x.1, iv x.2, iv x.3, iv x.4, iv x.5, iv x.6, iv x.7, iv x.8, iv x.9, iv x.10, iv x.11, iv x.12, CV.sl 0 0 lo 2 n cap, iv x.13, iv x.14]) (Ent.mkBox 25 [iv x.1, iv x.2, iv x.3, iv x.4, iv x.5, iv x.6, iv x.7, iv x.8, iv x.9, iv x.10, iv x.11, iv x.12, CV.sl 0 0 lo 2 n cap, iv x.13, iv x.14]))
   (Tree.need True)))))))))))))))))))))
   (Tree.done (XV.a (AV.c (CV.v (Value.bool (lightF x n (Subtype.val s)))))) [(Ent.ws own rc ws), Ent.dead])))))))))))))))
theorem tlight_eq (x : Thg) (ws : List Wt) (own : Bool) (lo n cap rc : Nat) : xfunc tab noCtr (lpI fun _ _ _ => (lightInv x ws own lo n cap rc)) Go.Proofs.Try.f10 [x.av 0 lo n cap] [Ent.ws own rc ws] [0] = tlight x ws own lo n cap rc := by kernel_rfl
def upG : Ctr := fun f args H => match args with
  | [.agg [.v (.int _ k), .v (.bool b), .v (.int _ n)]] => some (newC k n b H.length)
  | [.agg l, .c (.v (.int _ t)), .agg [.v (.int _ k), .v (.int _ v)]] => some (doC (thgOf l) t k v [] false 0 0 0 0 H.length [slK l])
  | _ => none
def tup (u : Unit) : Tree :=
  Tree.callf 14 [AV.agg [iv (1 : Int), CV.v (Value.bool false), iv (0 : Int)]] [] (newC (1 : Int) (0 : Int) false 0) fun c => Tree.callf 11 [AV.agg [iv (1 : Int), iv (0 : Int), iv (-1 : Int), iv (0 : Int), iv (0 : Int), iv (0 : Int), iv (0 : Int), iv (0 : Int), iv (0 : Int), iv (0 : Int), iv (0 : Int), iv (0 : Int), CV.sl 0 0 0 2 0 0, iv (-1 : Int), iv (0 : Int)], AV.c (iv (3 : Int)), AV.agg [iv (1 : Int), iv (1 : Int)]] [{ own := false, box := false, ty := 37, sz := 2, m := 1, n := fun x => 0, cap := fun x => 0, f := fun x i => [iv (0 : Int), iv (0 : Int)], ov := [] }] (doC { kd := (1 : Int), n := (0 : Int), o := (-1 : Int), h := (0 : Int), r0 := (0 : Int), r1 := (0 : Int), r2 := (0 : Int), r3 := (0 : Int), r4 := (0 : Int), r5 := (0 : Int), r6 := (0 : Int), r7 := (0 : Int), f := (-1 : Int), i := (0 : Int) } (3 : Int) (1 : Int) (1 : Int) [] false 0 0 0 0 1 [0]) fun c => Tree.callf 14 [AV.agg [iv (1 : Int), CV.v (Value.bool false), iv (0 : Int)]] [{ own := false, box := false, ty := 37, sz := 2, m := 1, n := fun x => 0, cap := fun x => 0, f := fun x i => [iv (0 : Int), iv (0 : Int)], ov := [] }, { own := true, box := false, ty := 37, sz := 2, m := 1, n := fun x => 0, cap := fun x => c 1, f := fun x i => [iv (0 : Int), iv (0 : Int)], ov := [] }, (Ent.mkBox 25 [iv (1 : Int), iv (0 : Int), iv (3 : Int), iv (1 : Int), iv (0 : Int), iv (0 : Int), iv (0 : Int), iv (0 : Int), iv (0 : Int), iv (0 : Int), iv (0 : Int), iv (0 : Int), CV.sl 1 0 (c 2) 2 0 (c 0), iv (-1 : Int), iv (0 : Int)])] (newC (1 : Int) (0 : Int) false 3) fun c_1 => Tree.callf 11 [AV.agg [iv (1 : Int), iv (0 : Int), iv (-1 : Int), iv (0 : Int), iv (0 : Int), iv (0 : Int), iv (0 : Int), iv (0 : Int), iv (0 : Int), iv (0 : Int), iv (0 : Int), iv (0 : Int), CV.sl 3 0 0 2 0 0, iv (-1 : Int), iv (0 : Int)], AV.c (iv (3 : Int)), AV.agg [iv (3 : Int), iv (0 : Int)]] [{ own := false, box := false, ty := 37, sz := 2, m := 1, n := fun x => 0, cap := fun x => 0, f := fun x i => [iv (0 : Int), iv (0 : Int)], ov := [] }, { own := true, box := false, ty := 37, sz := 2, m := 1, n := fun x => 0, cap := fun x => c 1, f := fun x i => [iv (0 : Int), iv (0 : Int)], ov := [] }, (Ent.mkBox 25 [iv (1 : Int), iv (0 : Int), iv (3 : Int), iv (1 : Int), iv (0 : Int), iv (0 : Int), iv (0 : Int), iv (0 : Int), iv (0 : Int), iv (0 : Int), iv (0 : Int), iv (0 : Int), CV.sl 1 0 (c 2) 2 0 (c 0), iv (-1 : Int), iv (0 : Int)]), { own := false, box := false, ty := 37, sz := 2, m := 1, n := fun x => 0, cap := fun x => 0, f := fun x i => [iv (0 : Int), iv (0 : Int)], ov := [] }] (doC { kd := (1 : Int), n := (0 : Int), o := (-1 : Int), h := (0 : Int), r0 := (0 : Int), r1 := (0 : Int), r2 := (0 : Int), r3 := (0 : Int), r4 := (0 : Int), r5 := (0 : Int), r6 := (0 : Int), r7 := (0 : Int), f := (-1 : Int), i := (0 : Int) } (3 : Int) (3 : Int) (0 : Int) [] false 0 0 0 0 4 [3]) fun c => Tree.chk (true = true → true = true)
   (Tree.chk (true = true → true = true)
   (Tree.chk (true = true → true = true)
   (Tree.chk (true = true → true = true)
   (Tree.chk (true = true → true = true)
   (Tree.chk (true = true → true = true)
   (Tree.chk (true = true → true = true)
   (Tree.chk (true = true → true = true)
   (Tree.done (XV.a (AV.c (CV.v (Value.bool true)))) [Ent.dead, Ent.dead, Ent.dead, Ent.dead, Ent.dead, Ent.dead]))))))))
theorem tup_eq (u : Unit) : xfunc tab upG noInv Go.Proofs.Try.f9 [] [] [] = tup u := by kernel_rfl
end Go.Proofs.Ytnenbngjdekegaa.X

/- The laws of the model: the head of all, and what is light: proved. -/
set_option linter.unusedVariables false
set_option linter.unusedSimpArgs false
namespace Go.Proofs.Ytnenbngjdekegaa.X
open Go Go.RowKit Go.Proofs.YtnenbngjdekegaaW.PrintWords Go.Proofs.Ytnenbngjdekegaa.Base
def lightC (x : Thg) (ws : List Wt) (own : Bool) (lo n cap rc : Nat) (ρ : List Nat) : CallSpec := rdSpec ρ [x.av 0 lo n cap] [Ent.ws own rc ws] (bi (lightF x n 8))
theorem light_local (x : Thg) (ws : List Wt) (own : Bool) (lo n cap rc : Nat) (ρ : List Nat) : (lightC x ws own lo n cap rc ρ).Local Try.prog 10 := by
  refine local_of Try.func10 rfl (tlight_eq x ws own lo n cap rc) fun ν w => ?_
  repeat refine ok_chk' (fun h => h) ?_
  refine ok_both' ?_ (ok_every' fun s => ok_br' (fun h => ?_) fun h => ?_)
  · repeat' first | exact rfl | exact EntRel.ws | exact EntRel.box' rfl rfl rfl rfl rfl | exact trivial | refine ok_chk' ?_ ?_
  · have hi : s.1 < 8 := by simp only [decide_eq_true_eq] at h; omega
    repeat (first | refine ok_chk' (fun h => h) ?_ | refine ok_chk' (fun _ => ⟨by omega, by omega⟩) ?_ | refine ok_chk' (fun _ => (show (s.1 : Int).toNat < 8 by omega)) ?_)
    refine ok_some' ⟨s.1 + 1, hi⟩ (ok_chk' (Nat.sub_lt_sub_left hi (Nat.lt_succ_self _)) (ok_chk' ?_ (ok_chk' ?_ ?_)))
    · rfl
    · (rw [wrap64 (by omega) (by omega)]; try rfl)
    · repeat' first | exact rfl | exact EntRel.ws | exact EntRel.box' rfl rfl rfl rfl rfl | exact trivial | refine ok_chk' ?_ ?_
  · refine ok_leaf (fun _ => 0) [] [0] trivial ?_ ⟨⟨_, rfl, EntRel.ws⟩, trivial⟩ rfl
    have hs : s.1 = 8 := by have : s.1 ≤ 8 := s.2; simp only [decide_eq_false_iff_not] at h; omega
    show bi (lightF x n s.1) = bi (lightF x n 8)
    rw [hs]
theorem lightF_iff {x : Thg} {n : Nat} : lightF x n 8 = true ↔ lightP x ∧ n ≤ 100 := by
  have a : ∀ b c : Bool, (bif b then c else false) = (b && c) := fun b c => by cases b <;> rfl
  simp only [lightF, lightB0, a, Bool.and_eq_true, decide_eq_true_eq, lightP, Thg.rs, List.getD_cons_zero, List.getD_cons_succ, List.forall_mem_cons, List.not_mem_nil, false_imp_iff, implies_true, and_true]
  omega
def upC : CallSpec := rdSpec [] [] [] (bi true)
theorem new_call : Callable Try.prog 14 := ⟨_, Try.func14, by kernel_rfl, rfl⟩
theorem newr_call : Callable Try.prog 15 := ⟨_, Try.func15, by kernel_rfl, rfl⟩
theorem up_local : upC.Local Try.prog 9 := by
  refine local_of Try.func9 rfl (tup_eq ()) fun ν w => ?_
  refine ok_callf' new_call (fits_of rfl rfl trivial fun c _ => ⟨⟨Nat.zero_le _, rfl⟩, ⟨rfl, rfl⟩, ⟨⟨EntRel.ws, rfl, (fun h => by cases h), .inr rfl⟩, trivial⟩⟩) (new_local _ _ _ _) fun c _ => ?_
  have lp : lightP (newF 1 0) := ⟨⟨by decide, by decide⟩, ⟨by decide, by decide⟩, by decide⟩
  refine ok_callf' do_call (fits_of rfl rfl ⟨⟨_, rfl, EntRel.ws (own := false) (cap := 0) (ws := [])⟩, trivial⟩ fun c _ => ⟨⟨Nat.le_succ 1, rfl⟩, ⟨rfl, rfl⟩, ⟨⟨EntRel.ws (own := false) (cap := 0) (ws := []), rfl, (fun h => by cases h), .inr rfl⟩, ⟨EntRel.ws, rfl, (fun h => by cases h), .inr rfl⟩, trivial⟩⟩) (do_local _ _ _ _ _ _ _ _ _ _ _ _ lp (Nat.le_refl _) (Nat.zero_le _)) fun c hc => ?_
  refine ok_callf' new_call (fits_of rfl rfl trivial fun c _ => ⟨⟨Nat.zero_le _, rfl⟩, ⟨rfl, rfl⟩, ⟨⟨EntRel.ws, rfl, (fun h => by cases h), .inr rfl⟩, trivial⟩⟩) (new_local _ _ _ _) fun c _ => ?_
  refine ok_callf' do_call (fits_of rfl rfl ⟨⟨_, rfl, EntRel.ws (own := false) (cap := 0) (ws := [])⟩, trivial⟩ fun c _ => ⟨⟨Nat.le_succ 1, rfl⟩, ⟨rfl, rfl⟩, ⟨⟨EntRel.ws (own := false) (cap := 0) (ws := []), rfl, (fun h => by cases h), .inr rfl⟩, ⟨EntRel.ws, rfl, (fun h => by cases h), .inr rfl⟩, trivial⟩⟩) (do_local _ _ _ _ _ _ _ _ _ _ _ _ lp (Nat.le_refl _) (Nat.zero_le _)) fun c hc => ?_
  repeat (first | refine ok_chk' (fun h => h) ?_ | refine ok_chk' rfl ?_)
  exact ok_leaf (fun _ => 0) [] [] trivial rfl trivial rfl
end Go.Proofs.Ytnenbngjdekegaa.X

/- The laws of the model: what is known of callees. -/
set_option linter.unusedVariables false
set_option linter.unusedSimpArgs false
namespace Go.Proofs.Ytnenbngjdekegaa.X
open Go Go.RowKit Go.Proofs.YtnenbngjdekegaaW.PrintWords Go.Proofs.Ytnenbngjdekegaa.Base
def lawG : Ctr := fun f args H =>
  if f = 14 ∨ f = 15 then (match args with
    | [.agg [.v (.int _ k), .v (.bool b), .v (.int _ n)]] => some (newC k n b H.length)
    | _ => none)
  else match args with
  | [] => some upC
  | [.agg l] => if f = 10 then some (.ex Gh fun g => lightC (thgOf l) g.1 g.2.1 (slLN l).1 (slLN l).2 (slCap l) g.2.2 [slK l])
    else some (.ex Gh fun g => copy2C (thgOf l) g.1 g.2.1 (slLN l).1 (slLN l).2 (slCap l) g.2.2 H.length [slK l])
  | [.agg l, .agg l'] => some (.ex (Gh × Gh) fun g => eq2C (thgOf l) (thgOf l') g.1.1 g.2.1 g.1.2.1 g.2.2.1 (slLN l).1 (slLN l).2 (slCap l) g.1.2.2 (slLN l').1 (slLN l').2 (slCap l') g.2.2.2 [slK l, slK l'])
  | [.agg l, .c (.v (.int _ t)), .agg [.v (.int _ k), .v (.int _ v)]] => if f = 11 then some (.ex Gh fun g => doC (thgOf l) t k v g.1 g.2.1 (slLN l).1 (slLN l).2 (slCap l) g.2.2 H.length [slK l])
    else some (.ex (List Wt) fun ws => doRC (thgOf l) t k v ws (slCap l) H.length [slK l])
  | [.agg l, .c (.v (.int _ t)), .agg [.v (.int _ k), .v (.int _ o), .v (.int _ q), .v (.int _ w), .v (.bool b)]] => if f = 17 then some (.ex Gh fun g => canC (thgOf l) t k o q w b g.1 g.2.1 (slLN l).1 (slLN l).2 (slCap l) g.2.2 [slK l])
    else some (.ex (List Wt) fun ws => canRC (thgOf l) t k o q w b ws (slCap l) [slK l])
  | _ => none
end Go.Proofs.Ytnenbngjdekegaa.X

/- The laws of the model: words that all proofs use. -/
set_option linter.unusedVariables false
set_option linter.unusedSimpArgs false
namespace Go.Proofs.Ytnenbngjdekegaa.X
open Go Go.RowKit Go.Proofs.YtnenbngjdekegaaW.PrintWords Go.Proofs.Ytnenbngjdekegaa.Base
theorem up_call : Callable Try.prog 9 := ⟨_, Try.func9, by kernel_rfl, rfl⟩
theorem light_call : Callable Try.prog 10 := ⟨_, Try.func10, by kernel_rfl, rfl⟩
theorem can_call : Callable Try.prog 17 := ⟨_, Try.func17, by kernel_rfl, rfl⟩
theorem canR_call : Callable Try.prog 18 := ⟨_, Try.func18, by kernel_rfl, rfl⟩
theorem eq2_call : Callable Try.prog 12 := ⟨_, Try.func12, by kernel_rfl, rfl⟩
theorem copy_call : Callable Try.prog 13 := ⟨_, Try.func13, by kernel_rfl, rfl⟩
theorem do_kd0 {x : Thg} {t k v : Int} {ws : List Wt} (h : x.kd = 0) : (doRF x t k v ws).2.2 = false := by
  unfold doRF
  have : decide (x.kd < 1) = true := by simp; omega
  rw [this]
  cases (bif decide (t < 0) then true else decide (t > 7)) <;> rfl
/-- What can go on may be done. -/
theorem can_do {x : Thg} {t k q : Int} {ws : List Wt} (h : canF x t k q ws = true) :
    (bif k == 4 then (doRF x t 1 q ws).2.2 else bif k == 8 then (doRF x t 1 0 ws).2.2 else bif k == 10 then (doRF x t 2 0 ws).2.2 else bif k == 19 then (doRF x t 14 x.f ws).2.2 else (doRF x t 1 1 ws).2.2) = true := by
  have key : ∀ a b : Bool, (bif a then b else false) = true → a = true := fun a b h => by cases a <;> simp_all
  unfold canF at h
  by_cases h1 : k = 1
  · subst h1; exact key _ _ h
  · by_cases h4 : k = 4
    · subst h4; exact key _ _ h
    · by_cases h8 : k = 8
      · subst h8; exact key _ _ h
      · by_cases h13 : k = 13
        · subst h13; exact key _ _ h
        · by_cases h10 : k = 10
          · subst h10; exact key _ _ h
          · by_cases h19 : k = 19
            · subst h19
              simp at h
              obtain ⟨⟨⟨⟨h5, t0⟩, t8⟩, f1⟩, f2⟩ := h
              have a1 : decide (t < 0) = false := by simp; omega
              have a2 : decide (t > 7) = false := by simp; omega
              have f1' : (x.f != -1) = true := by simpa using f1
              have f2' : (x.f != t) = true := by simpa using f2
              simp [doRF, swaprS, h5, a1, a2, f1', f2']
            · simp only [beqF h1, beqF h4, beqF h8, beqF h13, beqF h10, beqF h19, cond_false] at h
              cases hd : (doRF x t 1 0 ws).2.2 with
              | false => rw [hd] at h; cases h
              | true =>
                rw [hd] at h
                have : x.kd = 0 := by simpa using h
                rw [do_kd0 this] at hd
                cases hd
end Go.Proofs.Ytnenbngjdekegaa.X

/- How a thing, a mark, a call that is handed in opens. -/
set_option linter.unusedVariables false
set_option linter.unusedSimpArgs false
namespace Go.Proofs.Ytnenbngjdekegaa.X
open Go Go.RowKit Go.Proofs.YtnenbngjdekegaaW.PrintWords Go.Proofs.Ytnenbngjdekegaa.Base Go.Proofs.Ytnenbngjdekegaa.Open
abbrev kdI : Kd Int := Kd.int .i64
abbrev kdWt : Kd Wt := Kd.pair kdI kdI
abbrev wfI (x : Int) : Prop := (Lit.int .i64 x).wf = true
theorem opensI : Opens Try.prog 3 kdI wfI := opens_int Try.underlying3
theorem opensI64 : Opens Try.prog 2 kdI wfI := opens_int Try.underlying2
theorem opensWt : Opens Try.prog 37 kdWt (fun x => wfI x.1 ∧ wfI x.2) :=
  opens_struct Try.underlying37 (by kernel_rfl) (opensF_cons opensI rfl (by kernel_rfl) (opensF_one opensI rfl (by kernel_rfl)))
theorem opensNote : Opens Try.prog 29 kdWt (fun x => wfI x.1 ∧ wfI x.2) :=
  opens_struct Try.underlying29 (by kernel_rfl) (opensF_cons opensI rfl (by kernel_rfl) (opensF_one opensI64 rfl (by kernel_rfl)))
abbrev kdThing : Kd (Int × Int × Int × Int × List Int × List Wt × Int × Int) := Kd.pair kdI (Kd.pair kdI (Kd.pair kdI (Kd.pair kdI (Kd.pair (Kd.arr 8 kdI Nat.one_pos) (Kd.pair (Kd.slice 37 kdWt) (Kd.pair kdI kdI))))))
theorem opensThing : Opens Try.prog 25 kdThing (fun _ => True) :=
  opens_wf (opens_struct Try.underlying25 (by kernel_rfl) (opensF_cons opensI rfl (by kernel_rfl) (opensF_cons opensI rfl (by kernel_rfl) (opensF_cons opensI rfl (by kernel_rfl) (opensF_cons opensI rfl (by kernel_rfl)
    (opensF_cons (opens_array Try.underlying22 (by kernel_rfl) (by kernel_rfl) Nat.one_pos opensI) rfl (by kernel_rfl) (opensF_cons (opens_slice Try.underlying23 (by kernel_rfl) opensWt) rfl (by kernel_rfl) (opensF_cons opensI rfl (by kernel_rfl) (opensF_one opensI rfl (by kernel_rfl)))))))))) fun _ _ => trivial
abbrev kdCall : Kd (Int × Int × Int × Int × Bool) := Kd.pair kdI (Kd.pair kdI (Kd.pair kdI (Kd.pair kdI Kd.bool)))
theorem opensCall : Opens Try.prog 42 kdCall (fun _ => True) :=
  opens_wf (opens_struct Try.underlying42 (by kernel_rfl) (opensF_cons opensI rfl (by kernel_rfl) (opensF_cons opensI rfl (by kernel_rfl) (opensF_cons opensI rfl (by kernel_rfl) (opensF_cons opensI64 rfl (by kernel_rfl) (opensF_one (opens_bool Try.underlying4) rfl (by kernel_rfl))))))) fun _ _ => trivial
abbrev kdObj : Kd (Int × Bool × Int) := Kd.pair kdI (Kd.pair Kd.bool kdI)
theorem opensObj : Opens Try.prog 40 kdObj (fun _ => True) :=
  opens_wf (opens_struct Try.underlying40 (by kernel_rfl) (opensF_cons opensI rfl (by kernel_rfl) (opensF_cons (opens_bool Try.underlying4) rfl (by kernel_rfl) (opensF_one opensI rfl (by kernel_rfl))))) fun _ _ => trivial
theorem agg_of {cs : Array Value} {l : List Value} (h : cs.toList = l) : Value.agg cs = .agg l.toArray := by rw [← h]
theorem call_open {W : World} {x : Int × Int × Int × Int × Bool} {cs : Array Value} (h : kdCall.K W x cs.toList) (ν : Val) : Value.agg cs = (callA x.1 x.2.1 x.2.2.1 x.2.2.2.1 x.2.2.2.2).den ν := by
  obtain ⟨c0, c1, he, rfl, d0, d1, rfl, rfl, e0, e1, rfl, rfl, f0, f1, rfl, rfl, rfl⟩ := h
  exact agg_of he
theorem note_open {W : World} {x : Wt} {cs : Array Value} (h : kdWt.K W x cs.toList) (ν : Val) : Value.agg cs = (markA x.1 x.2).den ν := by
  obtain ⟨c0, c1, he, rfl, rfl⟩ := h
  exact agg_of he
theorem obj_open {W : World} {x : Int × Bool × Int} {cs : Array Value} (h : kdObj.K W x cs.toList) (ν : Val) : Value.agg cs = (objA x.1 x.2.2 x.2.1).den ν := by
  obtain ⟨c0, c1, he, rfl, d0, d1, rfl, rfl, rfl⟩ := h
  exact agg_of he
def Thg.ofK (x : Int × Int × Int × Int × List Int × List Wt × Int × Int) : Thg := ⟨x.1, x.2.1, x.2.2.1, x.2.2.2.1, x.2.2.2.2.1.getD 0 0, x.2.2.2.2.1.getD 1 0, x.2.2.2.2.1.getD 2 0, x.2.2.2.2.1.getD 3 0, x.2.2.2.2.1.getD 4 0, x.2.2.2.2.1.getD 5 0, x.2.2.2.2.1.getD 6 0, x.2.2.2.2.1.getD 7 0, x.2.2.2.2.2.2.1, x.2.2.2.2.2.2.2⟩
theorem reads_open {W : World} {xs : List Int} {c : List Value} (h : (Kd.arr 8 kdI Nat.one_pos).K W xs c) : c = [.int .i64 (xs.getD 0 0), .int .i64 (xs.getD 1 0), .int .i64 (xs.getD 2 0), .int .i64 (xs.getD 3 0), .int .i64 (xs.getD 4 0), .int .i64 (xs.getD 5 0), .int .i64 (xs.getD 6 0), .int .i64 (xs.getD 7 0)] := by
  obtain ⟨hl, hc, hr⟩ := h
  rw [hl] at hc
  have hc : c.length = 8 := hc
  match xs, hl with
  | [a0, a1, a2, a3, a4, a5, a6, a7], _ =>
    match c, hc with
    | [b0, b1, b2, b3, b4, b5, b6, b7], _ =>
      have h0 : [b0] = [Value.int .i64 a0] := hr 0 a0 rfl
      have h1 : [b1] = [Value.int .i64 a1] := hr 1 a1 rfl
      have h2 : [b2] = [Value.int .i64 a2] := hr 2 a2 rfl
      have h3 : [b3] = [Value.int .i64 a3] := hr 3 a3 rfl
      have h4 : [b4] = [Value.int .i64 a4] := hr 4 a4 rfl
      have h5 : [b5] = [Value.int .i64 a5] := hr 5 a5 rfl
      have h6 : [b6] = [Value.int .i64 a6] := hr 6 a6 rfl
      have h7 : [b7] = [Value.int .i64 a7] := hr 7 a7 rfl
      cases h0; cases h1; cases h2; cases h3; cases h4; cases h5; cases h6; cases h7
      rfl
theorem holds_ro {W : World} {A : Option Addr} {cap : Nat} {ws : List Wt} (hC : kdWt.C W A ws.length ws) : Holds (rootOf (fun _ _ => A) [Ent.ws false cap ws] W) (fun _ _ => A) [Ent.ws false cap ws] W := by
  obtain ⟨-, -, hr⟩ := hC
  have h0 : ∀ k e, Hp.get k [Ent.ws false cap ws] = some e → k = 0 ∧ e = Ent.ws false cap ws := fun k e he => by
    cases k with
    | zero => exact ⟨rfl, (Option.some.inj he).symm⟩
    | succ k => cases k <;> cases he
  refine ⟨Upd.refl _ _, fun k e he => ?_, fun k e j he ho => ?_, ⟨Nat.le_refl _, fun _ _ _ => rfl⟩⟩
  · obtain ⟨rfl, rfl⟩ := h0 k e he
    refine ⟨⟨(fun h => by cases h), .inr (show 0 < 2 by decide)⟩, fun j hj i hi => ⟨rfl, fun x hx => ?_⟩, (fun h => by cases h), fun _ j hj hp => ?_⟩
    · have hx : x ∈ wrow ws i := hx
      simp only [wrow, wc, List.mem_cons, List.not_mem_nil, or_false] at hx
      rcases hx with rfl | rfl <;> exact ⟨rfl, rfl⟩
    · have hp : 0 < ws.length := hp
      obtain ⟨ad, hA, hc⟩ := hr hp
      refine ⟨ad, hA, .inr (.inl ⟨0, _, 0, ad, rfl, rfl, Nat.one_pos, hp, hA, rfl⟩), fun i hi c x hx => ?_⟩
      have hi : i < ws.length := hi
      obtain ⟨cc, -, hK, hcell⟩ := hc i ws[i] (List.getElem?_eq_getElem hi)
      refine hcell c _ ?_
      obtain ⟨c0, c1, rfl, rfl, rfl⟩ := hK
      have hx : (wrow ws i)[c]? = some x := hx
      have hg : ws.getD i (0, 0) = ws[i] := by rw [List.getD_eq_getElem?_getD, List.getElem?_eq_getElem hi, Option.getD_some]
      rw [wrow, hg, wc] at hx
      match c, hx with
      | 0, hx => cases hx; rfl
      | 1, hx => cases hx; rfl
  · obtain ⟨rfl, rfl⟩ := h0 k e he
    cases ho
theorem thing_open {W : World} {x : Int × Int × Int × Int × List Int × List Wt × Int × Int} {cs : Array Value} (h : kdThing.K W x cs.toList) : ∃ A cap, Value.agg cs = ((Thg.ofK x).av 0 0 x.2.2.2.2.2.1.length cap).den (fun _ _ => A) ∧ Holds (rootOf (fun _ _ => A) [Ent.ws false cap x.2.2.2.2.2.1] W) (fun _ _ => A) [Ent.ws false cap x.2.2.2.2.2.1] W := by
  obtain ⟨c0, c1, he, rfl, d0, d1, rfl, rfl, e0, e1, rfl, rfl, f0, f1, rfl, rfl, g0, g1, rfl, hr, k0, k1, rfl, ⟨A, cap, rfl, -, hC⟩, m0, m1, rfl, rfl, rfl⟩ := h
  refine ⟨A, cap, ?_, holds_ro hC⟩
  rw [agg_of he, reads_open hr]
  show Value.agg _ = Value.agg _
  have hA : A.map (·.add (0 * 2)) = A := map_add_zero A
  simp only [Thg.cv, List.map, CV.den, iv, hA, Thg.ofK]
  rfl
/-- What is handed in is but read: nothing that was is changed. -/
theorem below_of {ν ν' : Val} {H0 H : Hp} {W w' : World} (h : Holds (rootOf ν H0 W) ν' H w') (ho : ∀ k e, H0.get k = some e → e.own = false) : Below W.heap.size W w' :=
  h.upd.below (Nat.le_refl _) fun g ⟨k, e, j, ad, h1, h2, _⟩ => by rw [ho k e h1] at h2; cases h2
end Go.Proofs.Ytnenbngjdekegaa.X

