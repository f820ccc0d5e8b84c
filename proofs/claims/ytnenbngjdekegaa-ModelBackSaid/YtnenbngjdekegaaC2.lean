/- A symbolic run of functions' texts, proved, and what it tells of the program's functions; no conditions. -/
import Derived.Test.YtnenbngjdekegaaC1
/- The model: trees of what is done with rows. -/
set_option linter.unusedVariables false
set_option linter.unusedSimpArgs false
namespace Go.Proofs.Ytnenbngjdekegaa.X
open Go Go.RowKit Go.Proofs.YtnenbngjdekegaaW.PrintWords Go.Proofs.Ytnenbngjdekegaa.Base
def readsG (ws : List Wt) (own : Bool) : Ctr := fun f args H => match args with
  | [.agg l] => if f = 37 ∨ f = 33 then some (readsC (thgOf l) ws own (slCap l) [slK l]) else some (freeC (thgOf l) ws own (slCap l) [slK l])
  | [.agg l, .c (.v (.int _ t))] => some (waitsC (thgOf l) ws t own (slCap l) [slK l])
  | _ => none
def trw (x : Thg) (t k v : Int) (ws : List Wt) (own : Bool) (cap : Nat) : Tree :=
  Tree.callf 37 [AV.agg [iv x.1, iv x.2, iv x.3, iv x.4, iv x.5, iv x.6, iv x.7, iv x.8, iv x.9, iv x.10, iv x.11, iv x.12, CV.sl 0 0 0 2 (List.length ws) cap, iv x.13, iv x.14]] [(Ent.ws own cap ws), (Ent.mkBox 25 [iv x.1, iv x.2, iv x.3, iv x.4, iv x.5, iv x.6, iv x.7, iv x.8, iv x.9, iv x.10, iv x.11, iv x.12, CV.sl 0 0 0 2 (List.length ws) cap, iv x.13, iv x.14]), (Ent.mkBox 29 [iv k, iv v]), (Ent.mkBox 25 [iv (0 : Int), iv (0 : Int), iv (0 : Int), iv (0 : Int), iv (0 : Int), iv (0 : Int), iv (0 : Int), iv (0 : Int), iv (0 : Int), iv (0 : Int), iv (0 : Int), iv (0 : Int), CV.v (Value.slice none 0 0), iv (0 : Int), iv (0 : Int)])] (readsC x ws own cap [0]) fun c => Tree.chk (AV.c (CV.v (Value.bool (x.3 == t))) = AV.c (CV.v (Value.bool (x.3 == t))))
   (Tree.chk (AV.c (iv t) = AV.c (iv t))
   (Tree.chk (AV.c (iv x.3) = AV.c (iv x.3))
   (Tree.chk (AV.c (CV.ptr { k := 1, j := 0, i := 0, sz := 15, c := 2, d := 0, dn := 0, cu := 0 }) = AV.c (CV.ptr { k := 1, j := 0, i := 0, sz := 15, c := 2, d := 0, dn := 0, cu := 0 }))
   (Tree.chk (AV.c (iv v) = AV.c (iv v))
   (Tree.chk (AV.c (CV.ptr { k := 2, j := 0, i := 0, sz := 2, c := 1, d := 0, dn := 0, cu := 0 }) = AV.c (CV.ptr { k := 2, j := 0, i := 0, sz := 2, c := 1, d := 0, dn := 0, cu := 0 }))
   (Tree.br (k == (1 : Int))
   (Tree.chk ((v == (1 : Int)) = true → (v == (1 : Int)) = true)
   (Tree.chk ((v == (1 : Int)) = true → (v == (1 : Int)) = true)
   (Tree.chk ((v == (1 : Int)) = true → (v == (1 : Int)) = true)
   (Tree.chk ((v == (1 : Int) && x.3 == (-1 : Int)) = true → (v == (1 : Int) && x.3 == (-1 : Int)) = true)
   (Tree.chk ((v == (1 : Int)) = true → (v == (1 : Int)) = true)
   (Tree.chk ((v == (1 : Int)) = true → (x.3 == (-1 : Int)) = true → (v == (1 : Int) && x.3 == (-1 : Int)) = true)
   (Tree.chk ((v == (1 : Int)) = true → (v == (1 : Int)) = true)
   (Tree.chk ((v == (1 : Int) && !bif x.3 == (-1 : Int) then allW [x.5, x.6, x.7, x.8, x.9, x.10, x.11, x.12] 8 == (0 : Int) else false) = true → (v == (1 : Int) && !bif x.3 == (-1 : Int) then allW [x.5, x.6, x.7, x.8, x.9, x.10, x.11, x.12] 8 == (0 : Int) else false) = true)
   (Tree.chk (((v == (1 : Int) && !bif x.3 == (-1 : Int) then allW [x.5, x.6, x.7, x.8, x.9, x.10, x.11, x.12] 8 == (0 : Int) else false) && x.3 == t) = true → ((v == (1 : Int) && !bif x.3 == (-1 : Int) then allW [x.5, x.6, x.7, x.8, x.9, x.10, x.11, x.12] 8 == (0 : Int) else false) && x.3 == t) = true)
   (Tree.chk (((v == (1 : Int) && !bif x.3 == (-1 : Int) then allW [x.5, x.6, x.7, x.8, x.9, x.10, x.11, x.12] 8 == (0 : Int) else false) && x.3 == t) = true → ((v == (1 : Int) && !bif x.3 == (-1 : Int) then allW [x.5, x.6, x.7, x.8, x.9, x.10, x.11, x.12] 8 == (0 : Int) else false) && x.3 == t) = true)
   (Tree.chk ((v == (1 : Int) && !bif x.3 == (-1 : Int) then allW [x.5, x.6, x.7, x.8, x.9, x.10, x.11, x.12] 8 == (0 : Int) else false) = true → (v == (1 : Int) && !bif x.3 == (-1 : Int) then allW [x.5, x.6, x.7, x.8, x.9, x.10, x.11, x.12] 8 == (0 : Int) else false) = true)
   (Tree.chk ((v == (1 : Int) && !bif x.3 == (-1 : Int) then allW [x.5, x.6, x.7, x.8, x.9, x.10, x.11, x.12] 8 == (0 : Int) else false) = true → (x.3 == t) = true → ((v == (1 : Int) && !bif x.3 == (-1 : Int) then allW [x.5, x.6, x.7, x.8, x.9, x.10, x.11, x.12] 8 == (0 : Int) else false) && x.3 == t) = true)
   (Tree.chk ((v == (1 : Int)) = true → (v == (1 : Int)) = true)
   (Tree.chk ((v == (1 : Int)) = true → (bif x.3 == (-1 : Int) then allW [x.5, x.6, x.7, x.8, x.9, x.10, x.11, x.12] 8 == (0 : Int) else false) = false → (v == (1 : Int) && !bif x.3 == (-1 : Int) then allW [x.5, x.6, x.7, x.8, x.9, x.10, x.11, x.12] 8 == (0 : Int) else false) = true)
   (Tree.chk ((v == (1 : Int)) = true → (v == (1 : Int)) = true)
   (Tree.done (XV.tup [AV.agg [iv x.1, iv x.2, iv t, iv (IntKind.wrap IntKind.i64 (x.4 + (1 : Int))), iv x.5, iv x.6, iv x.7, iv x.8, iv x.9, iv x.10, iv x.11, iv x.12, CV.sl 0 0 0 2 (List.length ws) cap, iv x.13, iv x.14], AV.c (CV.v (Value.bool (bif v == (1 : Int) then bif bif x.3 == (-1 : Int) then allW [x.5, x.6, x.7, x.8, x.9, x.10, x.11, x.12] 8 == (0 : Int) else false then true else bif x.3 == t then decide (x.4 < (1000 : Int)) else false else false)))]) [(Ent.ws own cap ws), Ent.dead, Ent.dead, Ent.dead]))))))))))))))))
   (Tree.br (k == (3 : Int))
   (Tree.callf 35 [AV.agg [iv x.1, iv x.2, iv x.3, iv x.4, iv x.5, iv x.6, iv x.7, iv x.8, iv x.9, iv x.10, iv x.11, iv x.12, CV.sl 0 0 0 2 (List.length ws) cap, iv x.13, iv x.14]] [(Ent.ws own cap ws), (Ent.mkBox 25 [iv x.1, iv x.2, iv x.3, iv x.4, iv x.5, iv x.6, iv x.7, iv x.8, iv x.9, iv x.10, iv x.11, iv x.12, CV.sl 0 0 0 2 (List.length ws) cap, iv x.13, iv x.14]), (Ent.mkBox 29 [iv k, iv v]), (Ent.mkBox 25 [iv (0 : Int), iv (0 : Int), iv (0 : Int), iv (0 : Int), iv (0 : Int), iv (0 : Int), iv (0 : Int), iv (0 : Int), iv (0 : Int), iv (0 : Int), iv (0 : Int), iv (0 : Int), CV.v (Value.slice none 0 0), iv (0 : Int), iv (0 : Int)])] (freeC x ws own cap [0]) fun c => Tree.chk ((x.3 == t) = true → (x.3 == t) = true)
   (Tree.chk ((x.3 == t) = true → (x.3 == t) = true)
   (Tree.done (XV.tup [AV.agg [iv (freeS x).1, iv (freeS x).2, iv (freeS x).3, iv (freeS x).4, iv (freeS x).5, iv (freeS x).6, iv (freeS x).7, iv (freeS x).8, iv (freeS x).9, iv (freeS x).10, iv (freeS x).11, iv (freeS x).12, CV.sl 0 0 0 2 (List.length ws) cap, iv (freeS x).13, iv (freeS x).14], AV.c (CV.v (Value.bool (bif x.3 == t then v == (0 : Int) else false)))]) [(Ent.ws own cap ws), Ent.dead, Ent.dead, Ent.dead])))
   (Tree.br (k == (2 : Int))
   (Tree.chk ((0 : Int) ≤ t ∧ t < (↑8 : Int))
   (Tree.chk (Int.toNat t < 8)
   (Tree.chk ((0 : Int) ≤ t ∧ t < (↑8 : Int))
   (Tree.chk (Int.toNat t < 8)
   (Tree.chk ((v == (0 : Int)) = true → (v == (0 : Int)) = true)
   (Tree.chk ((v == (0 : Int)) = true → (v == (0 : Int)) = true)
   (Tree.chk ((v == (0 : Int)) = true → (v == (0 : Int)) = true)
   (Tree.chk ((v == (0 : Int)) = true → (v == (0 : Int)) = true)
   (Tree.chk ((v == (0 : Int)) = true → (x.3 == (-1 : Int)) = false → (v == (0 : Int) && !x.3 == (-1 : Int)) = true)
   (Tree.chk ((v == (0 : Int)) = true → (v == (0 : Int)) = true)
   (Tree.chk ((bif v == (0 : Int) then bif x.3 == (-1 : Int) then true else x.3 == t else false) = true → (bif v == (0 : Int) then bif x.3 == (-1 : Int) then true else x.3 == t else false) = true)
   (Tree.chk ((bif v == (0 : Int) then bif x.3 == (-1 : Int) then true else x.3 == t else false) = true → (bif v == (0 : Int) then bif x.3 == (-1 : Int) then true else x.3 == t else false) = true)
   (Tree.done (XV.tup [AV.agg [iv x.1, iv x.2, iv x.3, iv x.4, iv (if Int.toNat t = 0 then IntKind.wrap IntKind.i64 (List.getD [x.5, x.6, x.7, x.8, x.9, x.10, x.11, x.12] (Int.toNat t) (0 : Int) + (1 : Int)) else x.5), iv (if Int.toNat t = 1 then IntKind.wrap IntKind.i64 (List.getD [x.5, x.6, x.7, x.8, x.9, x.10, x.11, x.12] (Int.toNat t) (0 : Int) + (1 : Int)) else x.6), iv (if Int.toNat t = 2 then IntKind.wrap IntKind.i64 (List.getD [x.5, x.6, x.7, x.8, x.9, x.10, x.11, x.12] (Int.toNat t) (0 : Int) + (1 : Int)) else x.7), iv (if Int.toNat t = 3 then IntKind.wrap IntKind.i64 (List.getD [x.5, x.6, x.7, x.8, x.9, x.10, x.11, x.12] (Int.toNat t) (0 : Int) + (1 : Int)) else x.8), iv (if Int.toNat t = 4 then IntKind.wrap IntKind.i64 (List.getD [x.5, x.6, x.7, x.8, x.9, x.10, x.11, x.12] (Int.toNat t) (0 : Int) + (1 : Int)) else x.9), iv (if Int.toNat t = 5 then IntKind.wrap IntKind.i64 (List.getD [x.5, x.6, x.7, x.8, x.9, x.10, x.11, x.12] (Int.toNat t) (0 : Int) + (1 : Int)) else x.10), iv (if Int.toNat t = 6 then IntKind.wrap IntKind.i64 (List.getD [x.5, x.6, x.7, x.8, x.9, x.10, x.11, x.12] (Int.toNat t) (0 : Int) + (1 : Int)) else x.11), iv (if Int.toNat t = 7 then IntKind.wrap IntKind.i64 (List.getD [x.5, x.6, x.7, x.8, x.9, x.10, x.11, x.12] (Int.toNat t) (0 : Int) + (1 : Int)) else x.12), CV.sl 0 0 0 2 (List.length ws) cap, iv x.13, iv x.14], AV.c (CV.v (Value.bool (bif bif v == (0 : Int) then bif x.3 == (-1 : Int) then true else x.3 == t else false then decide (allW [x.5, x.6, x.7, x.8, x.9, x.10, x.11, x.12] 8 < (1000 : Int)) else false)))]) [(Ent.ws own cap ws), Ent.dead, Ent.dead, Ent.dead])))))))))))))
   (Tree.br (k == (4 : Int))
   (Tree.chk ((0 : Int) ≤ t ∧ t < (↑8 : Int))
   (Tree.chk (Int.toNat t < 8)
   (Tree.chk ((0 : Int) ≤ t ∧ t < (↑8 : Int))
   (Tree.chk (Int.toNat t < 8)
   (Tree.chk ((v == (0 : Int)) = true → (v == (0 : Int)) = true)
   (Tree.chk ((v == (0 : Int)) = true → (v == (0 : Int)) = true)
   (Tree.chk ((v == (0 : Int)) = true → (0 : Int) ≤ t ∧ t < (↑8 : Int))
   (Tree.chk ((v == (0 : Int)) = true → (v == (0 : Int)) = true)
   (Tree.chk ((v == (0 : Int)) = true → Int.toNat t < 8)
   (Tree.chk ((v == (0 : Int)) = true → (v == (0 : Int)) = true)
   (Tree.chk ((v == (0 : Int)) = true → (v == (0 : Int)) = true)
   (Tree.chk ((v == (0 : Int)) = true → (v == (0 : Int)) = true)
   (Tree.chk (AV.c (CV.v (Value.bool (bif v == (0 : Int) then decide (List.getD [if Int.toNat t = 0 then IntKind.wrap IntKind.i64 (List.getD [x.5, x.6, x.7, x.8, x.9, x.10, x.11, x.12] (Int.toNat t) (0 : Int) - (1 : Int)) else x.5, if Int.toNat t = 1 then IntKind.wrap IntKind.i64 (List.getD [x.5, x.6, x.7, x.8, x.9, x.10, x.11, x.12] (Int.toNat t) (0 : Int) - (1 : Int)) else x.6, if Int.toNat t = 2 then IntKind.wrap IntKind.i64 (List.getD [x.5, x.6, x.7, x.8, x.9, x.10, x.11, x.12] (Int.toNat t) (0 : Int) - (1 : Int)) else x.7, if Int.toNat t = 3 then IntKind.wrap IntKind.i64 (List.getD [x.5, x.6, x.7, x.8, x.9, x.10, x.11, x.12] (Int.toNat t) (0 : Int) - (1 : Int)) else x.8, if Int.toNat t = 4 then IntKind.wrap IntKind.i64 (List.getD [x.5, x.6, x.7, x.8, x.9, x.10, x.11, x.12] (Int.toNat t) (0 : Int) - (1 : Int)) else x.9, if Int.toNat t = 5 then IntKind.wrap IntKind.i64 (List.getD [x.5, x.6, x.7, x.8, x.9, x.10, x.11, x.12] (Int.toNat t) (0 : Int) - (1 : Int)) else x.10, if Int.toNat t = 6 then IntKind.wrap IntKind.i64 (List.getD [x.5, x.6, x.7, x.8, x.9, x.10, x.11, x.12] (Int.toNat t) (0 : Int) - (1 : Int)) else x.11, if Int.toNat t = 7 then IntKind.wrap IntKind.i64 (List.getD [x.5, x.6, x.7, x.8, x.9, x.10, x.11, x.12] (Int.toNat t) (0 : Int) - (1 : Int)) else x.12] (Int.toNat t) (0 : Int) ≥ (0 : Int)) else false))) = AV.c (CV.v (Value.bool (bif v == (0 : Int) then decide (List.getD [if Int.toNat t = 0 then IntKind.wrap IntKind.i64 (List.getD [x.5, x.6, x.7, x.8, x.9, x.10, x.11, x.12] (Int.toNat t) (0 : Int) - (1 : Int)) else x.5, if Int.toNat t = 1 then IntKind.wrap IntKind.i64 (List.getD [x.5, x.6, x.7, x.8, x.9, x.10, x.11, x.12] (Int.toNat t) (0 : Int) - (1 : Int)) else x.6, if Int.toNat t = 2 then IntKind.wrap IntKind.i64 (List.getD [x.5, x.6, x.7, x.8, x.9, x.10, x.11, x.12] (Int.toNat t) (0 : Int) - (1 : Int)) else x.7, if Int.toNat t = 3 then IntKind.wrap IntKind.i64 (List.getD [x.5, x.6, x.7, x.8, x.9, x.10, x.11, x.12] (Int.toNat t) (0 : Int) - (1 : Int)) else x.8, if Int.toNat t = 4 then IntKind.wrap IntKind.i64 (List.getD [x.5, x.6, x.7, x.8, x.9, x.10, x.11, x.12] (Int.toNat t) (0 : Int) - (1 : Int)) else x.9, if Int.toNat t = 5 then IntKind.wrap IntKind.i64 (List.getD [x.5, x.6, x.7, x.8, x.9, x.10, x.11, x.12] (Int.toNat t) (0 : Int) - (1 : Int)) else x.10, if Int.toNat t = 6 then IntKind.wrap IntKind.i64 (List.getD [x.5, x.6, x.7, x.8, x.9, x.10, x.11, x.12] (Int.toNat t) (0 : Int) - (1 : Int)) else x.11, if Int.toNat t = 7 then IntKind.wrap IntKind.i64 (List.getD [x.5, x.6, x.7, x.8, x.9, x.10, x.11, x.12] (Int.toNat t) (0 : Int) - (1 : Int)) else x.12] (Int.toNat t) (0 : Int) ≥ (0 : Int)) else false))))
   (Tree.chk ((v == (0 : Int)) = true → (v == (0 : Int)) = true)
   (Tree.chk ((v == (0 : Int)) = true → AV.c (CV.v (Value.bool (decide (List.getD [if Int.toNat t = 0 then IntKind.wrap IntKind.i64 (List.getD [x.5, x.6, x.7, x.8, x.9, x.10, x.11, x.12] (Int.toNat t) (0 : Int) - (1 : Int)) else x.5, if Int.toNat t = 1 then IntKind.wrap IntKind.i64 (List.getD [x.5, x.6, x.7, x.8, x.9, x.10, x.11, x.12] (Int.toNat t) (0 : Int) - (1 : Int)) else x.6, if Int.toNat t = 2 then IntKind.wrap IntKind.i64 (List.getD [x.5, x.6, x.7, x.8, x.9, x.10, x.11, x.12] (Int.toNat t) (0 : Int) - (1 : Int)) else x.7, if Int.toNat t = 3 then IntKind.wrap IntKind.i64 (List.getD [x.5, x.6, x.7, x.8, x.9, x.10, x.11, x.12] (Int.toNat t) (0 : Int) - (1 : Int)) else x.8, if Int.toNat t = 4 then IntKind.wrap IntKind.i64 (List.getD [x.5, x.6, x.7, x.8, x.9, x.10, x.11, x.12] (Int.toNat t) (0 : Int) - (1 : Int)) else x.9, if Int.toNat t = 5 then IntKind.wrap IntKind.i64 (List.getD [x.5, x.6, x.7, x.8, x.9, x.10, x.11, x.12] (Int.toNat t) (0 : Int) - (1 : Int)) else x.10, if Int.toNat t = 6 then IntKind.wrap IntKind.i64 (List.getD [x.5, x.6, x.7, x.8, x.9, x.10, x.11, x.12] (Int.toNat t) (0 : Int) - (1 : Int)) else x.11, if Int.toNat t = 7 then IntKind.wrap IntKind.i64 (List.getD [x.5, x.6, x.7, x.8, x.9, x.10, x.11, x.12] (Int.toNat t) (0 : Int) - (1 : Int)) else x.12] (Int.toNat t) (0 : Int) ≥ (0 : Int))))) = AV.c (CV.v (Value.bool (decide (List.getD [if Int.toNat t = 0 then IntKind.wrap IntKind.i64 (List.getD [x.5, x.6, x.7, x.8, x.9, x.10, x.11, x.12] (Int.toNat t) (0 : Int) - (1 : Int)) else x.5, if Int.toNat t = 1 then IntKind.wrap IntKind.i64 (List.getD [x.5, x.6, x.7, x.8, x.9, x.10, x.11, x.12] (Int.toNat t) (0 : Int) - (1 : Int)) else x.6, if Int.toNat t = 2 then IntKind.wrap IntKind.i64 (List.getD [x.5, x.6, x.7, x.8, x.9, x.10, x.11, x.12] (Int.toNat t) (0 : Int) - (1 : Int)) else x.7, if Int.toNat t = 3 then IntKind.wrap IntKind.i64 (List.getD [x.5, x.6, x.7, x.8, x.9, x.10, x.11, x.12] (Int.toNat t) (0 : Int) - (1 : Int)) else x.8, if Int.toNat t = 4 then IntKind.wrap IntKind.i64 (List.getD [x.5, x.6, x.7, x.8, x.9, x.10, x.11, x.12] (Int.toNat t) (0 : Int) - (1 : Int)) else x.9, if Int.toNat t = 5 then IntKind.wrap IntKind.i64 (List.getD [x.5, x.6, x.7, x.8, x.9, x.10, x.11, x.12] (Int.toNat t) (0 : Int) - (1 : Int)) else x.10, if Int.toNat t = 6 then IntKind.wrap IntKind.i64 (List.getD [x.5, x.6, x.7, x.8, x.9, x.10, x.11, x.12] (Int.toNat t) (0 : Int) - (1 : Int)) else x.11, if Int.toNat t = 7 then IntKind.wrap IntKind.i64 (List.getD [x.5, x.6, x.7, x.8, x.9, x.10, x.11, x.12] (Int.toNat t) (0 : Int) - (1 : Int)) else x.12] (Int.toNat t) (0 : Int) ≥ (0 : Int))))))
   (Tree.chk ((v == (0 : Int)) = true → (v == (0 : Int)) = true)
   (Tree.chk ((v == (0 : Int)) = true → Int.toNat t < 8)
   (Tree.chk ((v == (0 : Int)) = true → AV.c (iv (List.getD [if Int.toNat t = 0 then IntKind.wrap IntKind.i64 (List.getD [x.5, x.6, x.7, x.8, x.9, x.10, x.11, x.12] (Int.toNat t) (0 : Int) - (1 : Int)) else x.5, if Int.toNat t = 1 then IntKind.wrap IntKind.i64 (List.getD [x.5, x.6, x.7, x.8, x.9, x.10, x.11, x.12] (Int.toNat t) (0 : Int) - (1 : Int)) else x.6, if Int.toNat t = 2 then IntKind.wrap IntKind.i64 (List.getD [x.5, x.6, x.7, x.8, x.9, x.10, x.11, x.12] (Int.toNat t) (0 : Int) - (1 : Int)) else x.7, if Int.toNat t = 3 then IntKind.wrap IntKind.i64 (List.getD [x.5, x.6, x.7, x.8, x.9, x.10, x.11, x.12] (Int.toNat t) (0 : Int) - (1 : Int)) else x.8, if Int.toNat t = 4 then IntKind.wrap IntKind.i64 (List.getD [x.5, x.6, x.7, x.8, x.9, x.10, x.11, x.12] (Int.toNat t) (0 : Int) - (1 : Int)) else x.9, if Int.toNat t = 5 then IntKind.wrap IntKind.i64 (List.getD [x.5, x.6, x.7, x.8, x.9, x.10, x.11, x.12] (Int.toNat t) (0 : Int) - (1 : Int)) else x.10, if Int.toNat t = 6 then IntKind.wrap IntKind.i64 (List.getD [x.5, x.6, x.7, x.8, x.9, x.10, x.11, x.12] (Int.toNat t) (0 : Int) - (1 : Int)) else x.11, if Int.toNat t = 7 then IntKind.wrap IntKind.i64 (List.getD [x.5, x.6, x.7, x.8, x.9, x.10, x.11, x.12] (Int.toNat t) (0 : Int) - (1 : Int)) else x.12] (Int.toNat t) (0 : Int))) = AV.c (iv (List.getD [if Int.toNat t = 0 then IntKind.wrap IntKind.i64 (List.getD [x.5, x.6, x.7, x.8, x.9, x.10, x.11, x.12] (Int.toNat t) (0 : Int) - (1 : Int)) else x.5, if Int.toNat t = 1 then IntKind.wrap IntKind.i64 (List.getD [x.5, x.6, x.7, x.8, x.9, x.10, x.11, x.12] (Int.toNat t) (0 : Int) - (1 : Int)) else x.6, if Int.toNat t = 2 then IntKind.wrap IntKind.i64 (List.getD [x.5, x.6, x.7, x.8, x.9, x.10, x.11, x.12] (Int.toNat t) (0 : Int) - (1 : Int)) else x.7, if Int.toNat t = 3 then IntKind.wrap IntKind.i64 (List.getD [x.5, x.6, x.7, x.8, x.9, x.10, x.11, x.12] (Int.toNat t) (0 : Int) - (1 : Int)) else x.8, if Int.toNat t = 4 then IntKind.wrap IntKind.i64 (List.getD [x.5, x.6, x.7, x.8, x.9, x.10, x.11, x.12] (Int.toNat t) (0 : Int) - (1 : Int)) else x.9, if Int.toNat t = 5 then IntKind.wrap IntKind.i64 (List.getD [x.5, x.6, x.7, x.8, x.9, x.10, x.11, x.12] (Int.toNat t) (0 : Int) - (1 : Int)) else x.10, if Int.toNat t = 6 then IntKind.wrap IntKind.i64 (List.getD [x.5, x.6, x.7, x.8, x.9, x.10, x.11, x.12] (Int.toNat t) (0 : Int) - (1 : Int)) else x.11, if Int.toNat t = 7 then IntKind.wrap IntKind.i64 (List.getD [x.5, x.6, x.7, x.8, x.9, x.10, x.11, x.12] (Int.toNat t) (0 : Int) - (1 : Int)) else x.12] (Int.toNat t) (0 : Int))))
   (Tree.chk ((v == (0 : Int)) = true → (v == (0 : Int)) = true)
   (Tree.chk ((v == (0 : Int)) = true → (v == (0 : Int)) = true)
   (Tree.chk ((v == (0 : Int)) = true → (0 : Int) ≤ t ∧ t < (↑8 : Int))
   (Tree.chk ((v == (0 : Int)) = true → AV.c (CV.ptr { k := 1, j := 0, i := 0, sz := 15, c := 4, d := Int.toNat t, dn := 8, cu := 0 }) = AV.c (CV.ptr { k := 1, j := 0, i := 0, sz := 15, c := 4, d := Int.toNat t, dn := 8, cu := 0 }))
   (Tree.chk ((v == (0 : Int)) = true → AV.c (CV.ptr { k := 1, j := 0, i := 0, sz := 15, c := 4, d := 0, dn := 0, cu := 0 }) = AV.c (CV.ptr { k := 1, j := 0, i := 0, sz := 15, c := 4, d := 0, dn := 0, cu := 0 }))
   (Tree.chk ((v == (0 : Int)) = true → AV.c (iv t) = AV.c (iv t))
   (Tree.done (XV.tup [AV.agg [iv x.1, iv x.2, iv x.3, iv x.4, iv (if Int.toNat t = 0 then IntKind.wrap IntKind.i64 (List.getD [x.5, x.6, x.7, x.8, x.9, x.10, x.11, x.12] (Int.toNat t) (0 : Int) - (1 : Int)) else x.5), iv (if Int.toNat t = 1 then IntKind.wrap IntKind.i64 (List.getD [x.5, x.6, x.7, x.8, x.9, x.10, x.11, x.12] (Int.toNat t) (0 : Int) - (1 : Int)) else x.6), iv (if Int.toNat t = 2 then IntKind.wrap IntKind.i64 (List.getD [x.5, x.6, x.7, x.8, x.9, x.10, x.11, x.12] (Int.toNat t) (0 : Int) - (1 : Int)) else x.7), iv (if Int.toNat t = 3 then IntKind.wrap IntKind.i64 (List.getD [x.5, x.6, x.7, x.8, x.9, x.10, x.11, x.12] (Int.toNat t) (0 : Int) - (1 : Int)) else x.8), iv (if Int.toNat t = 4 then IntKind.wrap IntKind.i64 (List.getD [x.5, x.6, x.7, x.8, x.9, x.10, x.11, x.12] (Int.toNat t) (0 : Int) - (1 : Int)) else x.9), iv (if Int.toNat t = 5 then IntKind.wrap IntKind.i64 (List.getD [x.5, x.6, x.7, x.8, x.9, x.10, x.11, x.12] (Int.toNat t) (0 : Int) - (1 : Int)) else x.10), iv (if Int.toNat t = 6 then IntKind.wrap IntKind.i64 (List.getD [x.5, x.6, x.7, x.8, x.9, x.10, x.11, x.12] (Int.toNat t) (0 : Int) - (1 : Int)) else x.11), iv (if Int.toNat t = 7 then IntKind.wrap IntKind.i64 (List.getD [x.5, x.6, x.7, x.8, x.9, x.10, x.11, x.12] (Int.toNat t) (0 : Int) - (1 : Int)) else x.12), CV.sl 0 0 0 2 (List.length ws) cap, iv x.13, iv x.14], AV.c (CV.v (Value.bool (bif v == (0 : Int) then decide (List.getD [if Int.toNat t = 0 then IntKind.wrap IntKind.i64 (List.getD [x.5, x.6, x.7, x.8, x.9, x.10, x.11, x.12] (Int.toNat t) (0 : Int) - (1 : Int)) else x.5, if Int.toNat t = 1 then IntKind.wrap IntKind.i64 (List.getD [x.5, x.6, x.7, x.8, x.9, x.10, x.11, x.12] (Int.toNat t) (0 : Int) - (1 : Int)) else x.6, if Int.toNat t = 2 then IntKind.wrap IntKind.i64 (List.getD [x.5, x.6, x.7, x.8, x.9, x.10, x.11, x.12] (Int.toNat t) (0 : Int) - (1 : Int)) else x.7, if Int.toNat t = 3 then IntKind.wrap IntKind.i64 (List.getD [x.5, x.6, x.7, x.8, x.9, x.10, x.11, x.12] (Int.toNat t) (0 : Int) - (1 : Int)) else x.8, if Int.toNat t = 4 then IntKind.wrap IntKind.i64 (List.getD [x.5, x.6, x.7, x.8, x.9, x.10, x.11, x.12] (Int.toNat t) (0 : Int) - (1 : Int)) else x.9, if Int.toNat t = 5 then IntKind.wrap IntKind.i64 (List.getD [x.5, x.6, x.7, x.8, x.9, x.10, x.11, x.12] (Int.toNat t) (0 : Int) - (1 : Int)) else x.10, if Int.toNat t = 6 then IntKind.wrap IntKind.i64 (List.getD [x.5, x.6, x.7, x.8, x.9, x.10, x.11, x.12] (Int.toNat t) (0 : Int) - (1 : Int)) else x.11, if Int.toNat t = 7 then IntKind.wrap IntKind.i64 (List.getD [x.5, x.6, x.7, x.8, x.9, x.10, x.11, x.12] (Int.toNat t) (0 : Int) - (1 : Int)) else x.12] (Int.toNat t) (0 : Int) ≥ (0 : Int)) else false)))]) [(Ent.ws own cap ws), Ent.dead, Ent.dead, Ent.dead])))))))))))))))))))))))))
   (Tree.br (k == (5 : Int))
   (Tree.chk ((v == (0 : Int)) = true → (v == (0 : Int)) = true)
   (Tree.chk ((v == (0 : Int)) = true → (v == (0 : Int)) = true)
   (Tree.chk ((bif v == (0 : Int) then !x.3 == t else false) = true → (bif v == (0 : Int) then !x.3 == t else false) = true)
   (Tree.chk ((bif v == (0 : Int) then !x.3 == t else false) = true → (bif v == (0 : Int) then !x.3 == t else false) = true)
   (Tree.chk ((bif v == (0 : Int) then !x.3 == t else false) = true → (bif v == (0 : Int) then !x.3 == t else false) = true)
   (Tree.chk (((bif v == (0 : Int) then !x.3 == t else false) && !x.3 != (-1 : Int)) = true → ((bif v == (0 : Int) then !x.3 == t else false) && !x.3 != (-1 : Int)) = true)
   (Tree.chk ((bif v == (0 : Int) then !x.3 == t else false) = true → (bif v == (0 : Int) then !x.3 == t else false) = true)
   (Tree.chk ((bif v == (0 : Int) then !x.3 == t else false) = true → (x.3 != (-1 : Int)) = false → ((bif v == (0 : Int) then !x.3 == t else false) && !x.3 != (-1 : Int)) = true)
   (Tree.chk ((bif v == (0 : Int) then !x.3 == t else false) = true → (bif v == (0 : Int) then !x.3 == t else false) = true)
   (Tree.chk ((!bif bif v == (0 : Int) then !x.3 == t else false then bif x.3 != (-1 : Int) then true else decide (allW [x.5, x.6, x.7, x.8, x.9, x.10, x.11, x.12] 8 > (0 : Int)) else false) = true → (!bif bif v == (0 : Int) then !x.3 == t else false then bif x.3 != (-1 : Int) then true else decide (allW [x.5, x.6, x.7, x.8, x.9, x.10, x.11, x.12] 8 > (0 : Int)) else false) = true)
   (Tree.chk ((!bif bif v == (0 : Int) then !x.3 == t else false then bif x.3 != (-1 : Int) then true else decide (allW [x.5, x.6, x.7, x.8, x.9, x.10, x.11, x.12] 8 > (0 : Int)) else false) = true → (!bif bif v == (0 : Int) then !x.3 == t else false then bif x.3 != (-1 : Int) then true else decide (allW [x.5, x.6, x.7, x.8, x.9, x.10, x.11, x.12] 8 > (0 : Int)) else false) = true)
   (Tree.chk (((!bif bif v == (0 : Int) then !x.3 == t else false then bif x.3 != (-1 : Int) then true else decide (allW [x.5, x.6, x.7, x.8, x.9, x.10, x.11, x.12] 8 > (0 : Int)) else false) && v == (1 : Int)) = true → ((!bif bif v == (0 : Int) then !x.3 == t else false then bif x.3 != (-1 : Int) then true else decide (allW [x.5, x.6, x.7, x.8, x.9, x.10, x.11, x.12] 8 > (0 : Int)) else false) && v == (1 : Int)) = true)
   (Tree.chk (((!bif bif v == (0 : Int) then !x.3 == t else false then bif x.3 != (-1 : Int) then true else decide (allW [x.5, x.6, x.7, x.8, x.9, x.10, x.11, x.12] 8 > (0 : Int)) else false) && v == (1 : Int)) = true → ((!bif bif v == (0 : Int) then !x.3 == t else false then bif x.3 != (-1 : Int) then true else decide (allW [x.5, x.6, x.7, x.8, x.9, x.10, x.11, x.12] 8 > (0 : Int)) else false) && v == (1 : Int)) = true)
   (Tree.chk ((!bif bif v == (0 : Int) then !x.3 == t else false then bif x.3 != (-1 : Int) then true else decide (allW [x.5, x.6, x.7, x.8, x.9, x.10, x.11, x.12] 8 > (0 : Int)) else false) = true → (!bif bif v == (0 : Int) then !x.3 == t else false then bif x.3 != (-1 : Int) then true else decide (allW [x.5, x.6, x.7, x.8, x.9, x.10, x.11, x.12] 8 > (0 : Int)) else false) = true)
   (Tree.chk ((!bif bif v == (0 : Int) then !x.3 == t else false then bif x.3 != (-1 : Int) then true else decide (allW [x.5, x.6, x.7, x.8, x.9, x.10, x.11, x.12] 8 > (0 : Int)) else false) = true → (v == (1 : Int)) = true → ((!bif bif v == (0 : Int) then !x.3 == t else false then bif x.3 != (-1 : Int) then true else decide (allW [x.5, x.6, x.7, x.8, x.9, x.10, x.11, x.12] 8 > (0 : Int)) else false) && v == (1 : Int)) = true)
   (Tree.chk ((!bif bif v == (0 : Int) then !x.3 == t else false then bif x.3 != (-1 : Int) then true else decide (allW [x.5, x.6, x.7, x.8, x.9, x.10, x.11, x.12] 8 > (0 : Int)) else false) = true → (!bif bif v == (0 : Int) then !x.3 == t else false then bif x.3 != (-1 : Int) then true else decide (allW [x.5, x.6, x.7, x.8, x.9, x.10, x.11, x.12] 8 > (0 : Int)) else false) = true)
   (Tree.chk (((!bif bif v == (0 : Int) then !x.3 == t else false then bif x.3 != (-1 : Int) then true else decide (allW [x.5, x.6, x.7, x.8, x.9, x.10, x.11, x.12] 8 > (0 : Int)) else false) && bif v == (1 : Int) then x.3 != (-1 : Int) else false) = true → ((!bif bif v == (0 : Int) then !x.3 == t else false then bif x.3 != (-1 : Int) then true else decide (allW [x.5, x.6, x.7, x.8, x.9, x.10, x.11, x.12] 8 > (0 : Int)) else false) && bif v == (1 : Int) then x.3 != (-1 : Int) else false) = true)
   (Tree.chk ((!bif bif v == (0 : Int) then !x.3 == t else false then bif x.3 != (-1 : Int) then true else decide (allW [x.5, x.6, x.7, x.8, x.9, x.10, x.11, x.12] 8 > (0 : Int)) else false) = true → (!bif bif v == (0 : Int) then !x.3 == t else false then bif x.3 != (-1 : Int) then true else decide (allW [x.5, x.6, x.7, x.8, x.9, x.10, x.11, x.12] 8 > (0 : Int)) else false) = true)
   (Tree.chk ((!bif bif v == (0 : Int) then !x.3 == t else false then bif x.3 != (-1 : Int) then true else decide (allW [x.5, x.6, x.7, x.8, x.9, x.10, x.11, x.12] 8 > (0 : Int)) else false) = true → (bif v == (1 : Int) then x.3 != (-1 : Int) else false) = true → ((!bif bif v == (0 : Int) then !x.3 == t else false then bif x.3 != (-1 : Int) then true else decide (allW [x.5, x.6, x.7, x.8, x.9, x.10, x.11, x.12] 8 > (0 : Int)) else false) && bif v == (1 : Int) then x.3 != (-1 : Int) else false) = true)
   (Tree.chk ((bif bif v == (0 : Int) then !x.3 == t else false then bif x.3 != (-1 : Int) then true else decide (allW [x.5, x.6, x.7, x.8, x.9, x.10, x.11, x.12] 8 > (0 : Int)) else false) = false → (!bif bif v == (0 : Int) then !x.3 == t else false then bif x.3 != (-1 : Int) then true else decide (allW [x.5, x.6, x.7, x.8, x.9, x.10, x.11, x.12] 8 > (0 : Int)) else false) = true)
   (Tree.done (XV.tup [AV.agg [iv x.1, iv x.2, iv x.3, iv x.4, iv x.5, iv x.6, iv x.7, iv x.8, iv x.9, iv x.10, iv x.11, iv x.12, CV.sl 0 0 0 2 (List.length ws) cap, iv x.13, iv x.14], AV.c (CV.v (Value.bool (bif bif bif v == (0 : Int) then !x.3 == t else false then bif x.3 != (-1 : Int) then true else decide (allW [x.5, x.6, x.7, x.8, x.9, x.10, x.11, x.12] 8 > (0 : Int)) else false then true else bif bif v == (1 : Int) then x.3 != (-1 : Int) else false then !x.3 == t else false)))]) [(Ent.ws own cap ws), Ent.dead, Ent.dead, Ent.dead])))))))))))))))))))))
   (Tree.br (k == (6 : Int))
   (Tree.chk ((v == (0 : Int)) = true → (v == (0 : Int)) = true)
   (Tree.chk ((v == (0 : Int)) = true → (v == (0 : Int)) = true)
   (Tree.chk ((!bif v == (0 : Int) then !x.3 == t else false) = true → (!bif v == (0 : Int) then !x.3 == t else false) = true)
   (Tree.chk ((!bif v == (0 : Int) then !x.3 == t else false) = true → (!bif v == (0 : Int) then !x.3 == t else false) = true)
   (Tree.chk (((!bif v == (0 : Int) then !x.3 == t else false) && v == (1 : Int)) = true → ((!bif v == (0 : Int) then !x.3 == t else false) && v == (1 : Int)) = true)
   (Tree.chk (((!bif v == (0 : Int) then !x.3 == t else false) && v == (1 : Int)) = true → ((!bif v == (0 : Int) then !x.3 == t else false) && v == (1 : Int)) = true)
   (Tree.chk (((!bif v == (0 : Int) then !x.3 == t else false) && v == (1 : Int)) = true → (0 : Int) ≤ t ∧ t < (↑8 : Int))
   (Tree.chk (((!bif v == (0 : Int) then !x.3 == t else false) && v == (1 : Int)) = true → ((!bif v == (0 : Int) then !x.3 == t else false) && v == (1 : Int)) = true)
   (Tree.chk (((!bif v == (0 : Int) then !x.3 == t else false) && v == (1 : Int)) = true → Int.toNat t < 8)
   (Tree.chk (((!bif v == (0 : Int) then !x.3 == t else false) && v == (1 : Int)) = true → ((!bif v == (0 : Int) then !x.3 == t else false) && v == (1 : Int)) = true)
   (Tree.chk ((!bif v == (0 : Int) then !x.3 == t else false) = true → (!bif v == (0 : Int) then !x.3 == t else false) = true)
   (Tree.chk ((!bif v == (0 : Int) then !x.3 == t else false) = true → (v == (1 : Int)) = true → ((!bif v == (0 : Int) then !x.3 == t else false) && v == (1 : Int)) = true)
   (Tree.chk ((bif v == (0 : Int) then !x.3 == t else false) = false → (!bif v == (0 : Int) then !x.3 == t else false) = true)
   (Tree.chk ((bif v == (0 : Int) then !x.3 == t else false) = false → (!bif v == (0 : Int) then !x.3 == t else false) = true)
   (Tree.chk (AV.c (CV.v (Value.bool (bif bif v == (0 : Int) then !x.3 == t else false then true else bif v == (1 : Int) then List.getD [x.5, x.6, x.7, x.8, x.9, x.10, x.11, x.12] (Int.toNat t) (0 : Int) == (0 : Int) else false))) = AV.c (CV.v (Value.bool (bif bif v == (0 : Int) then !x.3 == t else false then true else bif v == (1 : Int) then List.getD [x.5, x.6, x.7, x.8, x.9, x.10, x.11, x.12] (Int.toNat t) (0 : Int) == (0 : Int) else false))))
   (Tree.chk ((!bif v == (0 : Int) then !x.3 == t else false) = true → (!bif v == (0 : Int) then !x.3 == t else false) = true)
   (Tree.chk ((!bif v == (0 : Int) then !x.3 == t else false) = true → (v == (1 : Int)) = true → ((!bif v == (0 : Int) then !x.3 == t else false) && v == (1 : Int)) = true)
   (Tree.chk ((!bif v == (0 : Int) then !x.3 == t else false) = true → AV.c (CV.v (Value.bool (bif v == (1 : Int) then List.getD [x.5, x.6, x.7, x.8, x.9, x.10, x.11, x.12] (Int.toNat t) (0 : Int) == (0 : Int) else false))) = AV.c (CV.v (Value.bool (bif v == (1 : Int) then List.getD [x.5, x.6, x.7, x.8, x.9, x.10, x.11, x.12] (Int.toNat t) (0 : Int) == (0 : Int) else false))))
   (Tree.chk (((!bif v == (0 : Int) then !x.3 == t else false) && v == (1 : Int)) = true → ((!bif v == (0 : Int) then !x.3 == t else false) && v == (1 : Int)) = true)
   (Tree.chk (((!bif v == (0 : Int) then !x.3 == t else false) && v == (1 : Int)) = true → AV.c (CV.v (Value.bool (List.getD [x.5, x.6, x.7, x.8, x.9, x.10, x.11, x.12] (Int.toNat t) (0 : Int) == (0 : Int)))) = AV.c (CV.v (Value.bool (List.getD [x.5, x.6, x.7, x.8, x.9, x.10, x.11, x.12] (Int.toNat t) (0 : Int) == (0 : Int)))))
   (Tree.chk (((!bif v == (0 : Int) then !x.3 == t else false) && v == (1 : Int)) = true → ((!bif v == (0 : Int) then !x.3 == t else false) && v == (1 : Int)) = true)
   (Tree.chk (((!bif v == (0 : Int) then !x.3 == t else false) && v == (1 : Int)) = true → Int.toNat t < 8)
   (Tree.chk (((!bif v == (0 : Int) then !x.3 == t else false) && v == (1 : Int)) = true → AV.c (iv (List.getD [x.5, x.6, x.7, x.8, x.9, x.10, x.11, x.12] (Int.toNat t) (0 : Int))) = AV.c (iv (List.getD [x.5, x.6, x.7, x.8, x.9, x.10, x.11, x.12] (Int.toNat t) (0 : Int))))
   (Tree.chk (((!bif v == (0 : Int) then !x.3 == t else false) && v == (1 : Int)) = true → ((!bif v == (0 : Int) then !x.3 == t else false) && v == (1 : Int)) = true)
   (Tree.chk (((!bif v == (0 : Int) then !x.3 == t else false) && v == (1 : Int)) = true → ((!bif v == (0 : Int) then !x.3 == t else false) && v == (1 : Int)) = true)
   (Tree.chk (((!bif v == (0 : Int) then !x.3 == t else false) && v == (1 : Int)) = true → (0 : Int) ≤ t ∧ t < (↑8 : Int))
   (Tree.chk (((!bif v == (0 : Int) then !x.3 == t else false) && v == (1 : Int)) = true → AV.c (CV.ptr { k := 1, j := 0, i := 0, sz := 15, c := 4, d := Int.toNat t, dn := 8, cu := 0 }) = AV.c (CV.ptr { k := 1, j := 0, i := 0, sz := 15, c := 4, d := Int.toNat t, dn := 8, cu := 0 }))
   (Tree.chk (((!bif v == (0 : Int) then !x.3 == t else false) && v == (1 : Int)) = true → AV.c (CV.ptr { k := 1, j := 0, i := 0, sz := 15, c := 4, d := 0, dn := 0, cu := 0 }) = AV.c (CV.ptr { k := 1, j := 0, i := 0, sz := 15, c := 4, d := 0, dn := 0, cu := 0 }))
   (Tree.chk (((!bif v == (0 : Int) then !x.3 == t else false) && v == (1 : Int)) = true → AV.c (iv t) = AV.c (iv t))
   (Tree.done (XV.tup [AV.agg [iv x.1, iv x.2, iv x.3, iv x.4, iv x.5, iv x.6, iv x.7, iv x.8, iv x.9, iv x.10, iv x.11, iv x.12, CV.sl 0 0 0 2 (List.length ws) cap, iv x.13, iv x.14], AV.c (CV.v (Value.bool (bif bif v == (0 : Int) then !x.3 == t else false then true else bif v == (1 : Int) then List.getD [x.5, x.6, x.7, x.8, x.9, x.10, x.11, x.12] (Int.toNat t) (0 : Int) == (0 : Int) else false)))]) [(Ent.ws own cap ws), Ent.dead, Ent.dead, Ent.dead]))))))))))))))))))))))))))))))
   (Tree.br (k == (7 : Int))
   (Tree.chk ((v == (0 : Int)) = true → (v == (0 : Int)) = true)
   (Tree.chk ((bif v == (0 : Int) then x.3 == t else false) = true → (bif v == (0 : Int) then x.3 == t else false) = true)
   (Tree.chk ((bif v == (0 : Int) then x.3 == t else false) = true → (bif v == (0 : Int) then x.3 == t else false) = true)
   (Tree.chk ((bif v == (0 : Int) then x.3 == t else false) = true → (bif v == (0 : Int) then x.3 == t else false) = true)
   (Tree.chk ((!bif bif v == (0 : Int) then x.3 == t else false then x.4 == (1000 : Int) else false) = true → (!bif bif v == (0 : Int) then x.3 == t else false then x.4 == (1000 : Int) else false) = true)
   (Tree.chk ((!bif bif v == (0 : Int) then x.3 == t else false then x.4 == (1000 : Int) else false) = true → (!bif bif v == (0 : Int) then x.3 == t else false then x.4 == (1000 : Int) else false) = true)
   (Tree.chk (((!bif bif v == (0 : Int) then x.3 == t else false then x.4 == (1000 : Int) else false) && v == (1 : Int)) = true → ((!bif bif v == (0 : Int) then x.3 == t else false then x.4 == (1000 : Int) else false) && v == (1 : Int)) = true)
   (Tree.chk ((!bif bif v == (0 : Int) then x.3 == t else false then x.4 == (1000 : Int) else false) = true → (!bif bif v == (0 : Int) then x.3 == t else false then x.4 == (1000 : Int) else false) = true)
   (Tree.chk ((!bif bif v == (0 : Int) then x.3 == t else false then x.4 == (1000 : Int) else false) = true → (v == (1 : Int)) = true → ((!bif bif v == (0 : Int) then x.3 == t else false then x.4 == (1000 : Int) else false) && v == (1 : Int)) = true)
   (Tree.chk ((bif bif v == (0 : Int) then x.3 == t else false then x.4 == (1000 : Int) else false) = false → (!bif bif v == (0 : Int) then x.3 == t else false then x.4 == (1000 : Int) else false) = true)
   (Tree.done (XV.tup [AV.agg [iv x.1, iv x.2, iv x.3, iv x.4, iv x.5, iv x.6, iv x.7, iv x.8, iv x.9, iv x.10, iv x.11, iv x.12, CV.sl 0 0 0 2 (List.length ws) cap, iv x.13, iv x.14], AV.c (CV.v (Value.bool (bif bif bif v == (0 : Int) then x.3 == t else false then x.4 == (1000 : Int) else false then true else bif v == (1 : Int) then allW [x.5, x.6, x.7, x.8, x.9, x.10, x.11, x.12] 8 == (1000 : Int) else false)))]) [(Ent.ws own cap ws), Ent.dead, Ent.dead, Ent.dead])))))))))))
   (Tree.done (XV.tup [AV.agg [iv x.1, iv x.2, iv x.3, iv x.4, iv x.5, iv x.6, iv x.7, iv x.8, iv x.9, iv x.10, iv x.11, iv x.12, CV.sl 0 0 0 2 (List.length ws) cap, iv x.13, iv x.14], AV.c (CV.v (Value.bool false))]) [(Ent.ws own cap ws), Ent.dead, Ent.dead, Ent.dead])))))))))))))
theorem trw_eq (x : Thg) (t k v : Int) (ws : List Wt) (own : Bool) (cap : Nat) : xfunc tab (readsG ws own) noInv Go.Proofs.Try.f28 [x.av 0 0 ws.length cap, .c (iv t), markA k v] [Ent.ws own cap ws] [0] = trw x t k v ws own cap := by kernel_rfl
def trwr (x : Thg) (t k v : Int) (ws : List Wt) (own : Bool) (cap : Nat) : Tree :=
  Tree.callf 33 [AV.agg [iv x.1, iv x.2, iv x.3, iv x.4, iv x.5, iv x.6, iv x.7, iv x.8, iv x.9, iv x.10, iv x.11, iv x.12, CV.sl 0 0 0 2 (List.length ws) cap, iv x.13, iv x.14]] [(Ent.ws own cap ws), (Ent.mkBox 25 [iv x.1, iv x.2, iv x.3, iv x.4, iv x.5, iv x.6, iv x.7, iv x.8, iv x.9, iv x.10, iv x.11, iv x.12, CV.sl 0 0 0 2 (List.length ws) cap, iv x.13, iv x.14]), (Ent.mkBox 25 [iv (0 : Int), iv (0 : Int), iv (0 : Int), iv (0 : Int), iv (0 : Int), iv (0 : Int), iv (0 : Int), iv (0 : Int), iv (0 : Int), iv (0 : Int), iv (0 : Int), iv (0 : Int), CV.v (Value.slice none 0 0), iv (0 : Int), iv (0 : Int)])] (readsC x ws own cap [0]) fun c => Tree.br (k == (1 : Int))
   (Tree.chk ((v == (1 : Int)) = true → (v == (1 : Int)) = true)
   (Tree.chk ((v == (1 : Int)) = true → (v == (1 : Int)) = true)
   (Tree.chk ((v == (1 : Int)) = true → (v == (1 : Int)) = true)
   (Tree.chk ((v == (1 : Int) && x.3 == (-1 : Int)) = true → (v == (1 : Int) && x.3 == (-1 : Int)) = true)
   (Tree.chk ((v == (1 : Int)) = true → (v == (1 : Int)) = true)
   (Tree.chk ((v == (1 : Int)) = true → (x.3 == (-1 : Int)) = true → (v == (1 : Int) && x.3 == (-1 : Int)) = true)
   (Tree.chk ((v == (1 : Int)) = true → (v == (1 : Int)) = true)
   (Tree.chk ((v == (1 : Int) && !bif x.3 == (-1 : Int) then allW [x.5, x.6, x.7, x.8, x.9, x.10, x.11, x.12] 8 == (0 : Int) else false) = true → (v == (1 : Int) && !bif x.3 == (-1 : Int) then allW [x.5, x.6, x.7, x.8, x.9, x.10, x.11, x.12] 8 == (0 : Int) else false) = true)
   (Tree.chk (((v == (1 : Int) && !bif x.3 == (-1 : Int) then allW [x.5, x.6, x.7, x.8, x.9, x.10, x.11, x.12] 8 == (0 : Int) else false) && x.3 == t) = true → ((v == (1 : Int) && !bif x.3 == (-1 : Int) then allW [x.5, x.6, x.7, x.8, x.9, x.10, x.11, x.12] 8 == (0 : Int) else false) && x.3 == t) = true)
   (Tree.chk (((v == (1 : Int) && !bif x.3 == (-1 : Int) then allW [x.5, x.6, x.7, x.8, x.9, x.10, x.11, x.12] 8 == (0 : Int) else false) && x.3 == t) = true → ((v == (1 : Int) && !bif x.3 == (-1 : Int) then allW [x.5, x.6, x.7, x.8, x.9, x.10, x.11, x.12] 8 == (0 : Int) else false) && x.3 == t) = true)
   (Tree.chk ((v == (1 : Int) && !bif x.3 == (-1 : Int) then allW [x.5, x.6, x.7, x.8, x.9, x.10, x.11, x.12] 8 == (0 : Int) else false) = true → (v == (1 : Int) && !bif x.3 == (-1 : Int) then allW [x.5, x.6, x.7, x.8, x.9, x.10, x.11, x.12] 8 == (0 : Int) else false) = true)
   (Tree.chk ((v == (1 : Int) && !bif x.3 == (-1 : Int) then allW [x.5, x.6, x.7, x.8, x.9, x.10, x.11, x.12] 8 == (0 : Int) else false) = true → (x.3 == t) = true → ((v == (1 : Int) && !bif x.3 == (-1 : Int) then allW [x.5, x.6, x.7, x.8, x.9, x.10, x.11, x.12] 8 == (0 : Int) else false) && x.3 == t) = true)
   (Tree.chk ((v == (1 : Int)) = true → (v == (1 : Int)) = true)
   (Tree.chk ((v == (1 : Int)) = true → (bif x.3 == (-1 : Int) then allW [x.5, x.6, x.7, x.8, x.9, x.10, x.11, x.12] 8 == (0 : Int) else false) = false → (v == (1 : Int) && !bif x.3 == (-1 : Int) then allW [x.5, x.6, x.7, x.8, x.9, x.10, x.11, x.12] 8 == (0 : Int) else false) = true)
   (Tree.chk ((v == (1 : Int)) = true → (v == (1 : Int)) = true)
   (Tree.br (bif v == (1 : Int) then bif bif x.3 == (-1 : Int) then allW [x.5, x.6, x.7, x.8, x.9, x.10, x.11, x.12] 8 == (0 : Int) else false then true else bif x.3 == t then decide (x.4 < (1000 : Int)) else false else false)
   (Tree.done (XV.tup [AV.agg [iv x.1, iv x.2, iv t, iv (IntKind.wrap IntKind.i64 (x.4 + (1 : Int))), iv x.5, iv x.6, iv x.7, iv x.8, iv x.9, iv x.10, iv x.11, iv x.12, CV.sl 0 0 0 2 (List.length ws) cap, iv x.13, iv x.14], AV.c (CV.v (Value.bool true))]) [(Ent.ws own cap ws), Ent.dead, Ent.dead])
   (Tree.done (XV.tup [AV.agg [iv x.1, iv x.2, iv x.3, iv x.4, iv x.5, iv x.6, iv x.7, iv x.8, iv x.9, iv x.10, iv x.11, iv x.12, CV.sl 0 0 0 2 (List.length ws) cap, iv x.13, iv x.14], AV.c (CV.v (Value.bool false))]) [(Ent.ws own cap ws), Ent.dead, Ent.dead])))))))))))))))))
   (Tree.br (k == (2 : Int))
   (Tree.chk ((v == (0 : Int)) = true → (v == (0 : Int)) = true)
   (Tree.chk ((v == (0 : Int)) = true → (v == (0 : Int)) = true)
   (Tree.chk ((v == (0 : Int)) = true → (v == (0 : Int)) = true)
   (Tree.chk ((v == (0 : Int)) = true → (v == (0 : Int)) = true)
   (Tree.chk ((v == (0 : Int)) = true → (x.3 == (-1 : Int)) = false → (v == (0 : Int) && !x.3 == (-1 : Int)) = true)
   (Tree.chk ((v == (0 : Int)) = true → (v == (0 : Int)) = true)
   (Tree.chk ((bif v == (0 : Int) then bif x.3 == (-1 : Int) then true else x.3 == t else false) = true → (bif v == (0 : Int) then bif x.3 == (-1 : Int) then true else x.3 == t else false) = true)
   (Tree.chk ((bif v == (0 : Int) then bif x.3 == (-1 : Int) then true else x.3 == t else false) = true → (bif v == (0 : Int) then bif x.3 == (-1 : Int) then true else x.3 == t else false) = true)
   (Tree.br (bif bif v == (0 : Int) then bif x.3 == (-1 : Int) then true else x.3 == t else false then decide (allW [x.5, x.6, x.7, x.8, x.9, x.10, x.11, x.12] 8 < (1000 : Int)) else false)
   (Tree.chk ((0 : Int) ≤ t ∧ t < (↑8 : Int))
   (Tree.chk (Int.toNat t < 8)
   (Tree.chk ((0 : Int) ≤ t ∧ t < (↑8 : Int))
   (Tree.chk (Int.toNat t < 8)
   (Tree.done (XV.tup [AV.agg [iv x.1, iv x.2, iv x.3, iv x.4, iv (if Int.toNat t = 0 then IntKind.wrap IntKind.i64 (List.getD [x.5, x.6, x.7, x.8, x.9, x.10, x.11, x.12] (Int.toNat t) (0 : Int) + (1 : Int)) else x.5), iv (if Int.toNat t = 1 then IntKind.wrap IntKind.i64 (List.getD [x.5, x.6, x.7, x.8, x.9, x.10, x.11, x.12] (Int.toNat t) (0 : Int) + (1 : Int)) else x.6), iv (if Int.toNat t = 2 then IntKind.wrap IntKind.i64 (List.getD [x.5, x.6, x.7, x.8, x.9, x.10, x.11, x.12] (Int.toNat t) (0 : Int) + (1 : Int)) else x.7), iv (if Int.toNat t = 3 then IntKind.wrap IntKind.i64 (List.getD [x.5, x.6, x.7, x.8, x.9, x.10, x.11, x.12] (Int.toNat t) (0 : Int) + (1 : Int)) else x.8), iv (if Int.toNat t = 4 then IntKind.wrap IntKind.i64 (List.getD [x.5, x.6, x.7, x.8, x.9, x.10, x.11, x.12] (Int.toNat t) (0 : Int) + (1 : Int)) else x.9), iv (if Int.toNat t = 5 then IntKind.wrap IntKind.i64 (List.getD [x.5, x.6, x.7, x.8, x.9, x.10, x.11, x.12] (Int.toNat t) (0 : Int) + (1 : Int)) else x.10), iv (if Int.toNat t = 6 then IntKind.wrap IntKind.i64 (List.getD [x.5, x.6, x.7, x.8, x.9, x.10, x.11, x.12] (Int.toNat t) (0 : Int) + (1 : Int)) else x.11), iv (if Int.toNat t = 7 then IntKind.wrap IntKind.i64 (List.getD [x.5, x.6, x.7, x.8, x.9, x.10, x.11, x.12] (Int.toNat t) (0 : Int) + (1 : Int)) else x.12), CV.sl 0 0 0 2 (List.length ws) cap, iv x.13, iv x.14], AV.c (CV.v (Value.bool true))]) [(Ent.ws own cap ws), Ent.dead, Ent.dead])))))
   (Tree.done (XV.tup [AV.agg [iv x.1, iv x.2, iv x.3, iv x.4, iv x.5, iv x.6, iv x.7, iv x.8, iv x.9, iv x.10, iv x.11, iv x.12, CV.sl 0 0 0 2 (List.length ws) cap, iv x.13, iv x.14], AV.c (CV.v (Value.bool false))]) [(Ent.ws own cap ws), Ent.dead, Ent.dead]))))))))))
   (Tree.br (k == (3 : Int))
   (Tree.chk ((x.3 == t) = true → (x.3 == t) = true)
   (Tree.chk ((x.3 == t) = true → (x.3 == t) = true)
   (Tree.br (bif x.3 == t then v == (0 : Int) else false)
   (Tree.callf 31 [AV.agg [iv x.1, iv x.2, iv x.3, iv x.4, iv x.5, iv x.6, iv x.7, iv x.8, iv x.9, iv x.10, iv x.11, iv x.12, CV.sl 0 0 0 2 (List.length ws) cap, iv x.13, iv x.14]] [(Ent.ws own cap ws), (Ent.mkBox 25 [iv x.1, iv x.2, iv x.3, iv x.4, iv x.5, iv x.6, iv x.7, iv x.8, iv x.9, iv x.10, iv x.11, iv x.12, CV.sl 0 0 0 2 (List.length ws) cap, iv x.13, iv x.14]), (Ent.mkBox 25 [iv (0 : Int), iv (0 : Int), iv (0 : Int), iv (0 : Int), iv (0 : Int), iv (0 : Int), iv (0 : Int), iv (0 : Int), iv (0 : Int), iv (0 : Int), iv (0 : Int), iv (0 : Int), CV.v (Value.slice none 0 0), iv (0 : Int), iv (0 : Int)])] (freeC x ws own cap [0]) fun c => Tree.done (XV.tup [AV.agg [iv (freeS x).1, iv (freeS x).2, iv (freeS x).3, iv (freeS x).4, iv (freeS x).5, iv (freeS x).6, iv (freeS x).7, iv (freeS x).8, iv (freeS x).9, iv (freeS x).10, iv (freeS x).11, iv (freeS x).12, CV.sl 0 0 0 2 (List.length ws) cap, iv (freeS x).13, iv (freeS x).14], AV.c (CV.v (Value.bool true))]) [(Ent.ws own cap ws), Ent.dead, Ent.dead])
   (Tree.done (XV.tup [AV.agg [iv x.1, iv x.2, iv x.3, iv x.4, iv x.5, iv x.6, iv x.7, iv x.8, iv x.9, iv x.10, iv x.11, iv x.12, CV.sl 0 0 0 2 (List.length ws) cap, iv x.13, iv x.14], AV.c (CV.v (Value.bool false))]) [(Ent.ws own cap ws), Ent.dead, Ent.dead]))))
   (Tree.br (k == (4 : Int))
   (Tree.chk ((v == (0 : Int)) = true → (v == (0 : Int)) = true)
   (Tree.chk ((v == (0 : Int)) = true → (v == (0 : Int)) = true)
   (Tree.chk ((v == (0 : Int)) = true → (0 : Int) ≤ t ∧ t < (↑8 : Int))
   (Tree.chk ((v == (0 : Int)) = true → (v == (0 : Int)) = true)
   (Tree.chk ((v == (0 : Int)) = true → Int.toNat t < 8)
   (Tree.chk ((v == (0 : Int)) = true → (v == (0 : Int)) = true)
   (Tree.chk ((v == (0 : Int)) = true → (v == (0 : Int)) = true)
   (Tree.br (bif v == (0 : Int) then decide (List.getD [x.5, x.6, x.7, x.8, x.9, x.10, x.11, x.12] (Int.toNat t) (0 : Int) > (0 : Int)) else false)
   (Tree.chk ((0 : Int) ≤ t ∧ t < (↑8 : Int))
   (Tree.chk (Int.toNat t < 8)
   (Tree.chk ((0 : Int) ≤ t ∧ t < (↑8 : Int))
   (Tree.chk (Int.toNat t < 8)
   (Tree.done (XV.tup [AV.agg [iv x.1, iv x.2, iv x.3, iv x.4, iv (if Int.toNat t = 0 then IntKind.wrap IntKind.i64 (List.getD [x.5, x.6, x.7, x.8, x.9, x.10, x.11, x.12] (Int.toNat t) (0 : Int) - (1 : Int)) else x.5), iv (if Int.toNat t = 1 then IntKind.wrap IntKind.i64 (List.getD [x.5, x.6, x.7, x.8, x.9, x.10, x.11, x.12] (Int.toNat t) (0 : Int) - (1 : Int)) else x.6), iv (if Int.toNat t = 2 then IntKind.wrap IntKind.i64 (List.getD [x.5, x.6, x.7, x.8, x.9, x.10, x.11, x.12] (Int.toNat t) (0 : Int) - (1 : Int)) else x.7), iv (if Int.toNat t = 3 then IntKind.wrap IntKind.i64 (List.getD [x.5, x.6, x.7, x.8, x.9, x.10, x.11, x.12] (Int.toNat t) (0 : Int) - (1 : Int)) else x.8), iv (if Int.toNat t = 4 then IntKind.wrap IntKind.i64 (List.getD [x.5, x.6, x.7, x.8, x.9, x.10, x.11, x.12] (Int.toNat t) (0 : Int) - (1 : Int)) else x.9), iv (if Int.toNat t = 5 then IntKind.wrap IntKind.i64 (List.getD [x.5, x.6, x.7, x.8, x.9, x.10, x.11, x.12] (Int.toNat t) (0 : Int) - (1 : Int)) else x.10), iv (if Int.toNat t = 6 then IntKind.wrap IntKind.i64 (List.getD [x.5, x.6, x.7, x.8, x.9, x.10, x.11, x.12] (Int.toNat t) (0 : Int) - (1 : Int)) else x.11), iv (if Int.toNat t = 7 then IntKind.wrap IntKind.i64 (List.getD [x.5, x.6, x.7, x.8, x.9, x.10, x.11, x.12] (Int.toNat t) (0 : Int) - (1 : Int)) else x.12), CV.sl 0 0 0 2 (List.length ws) cap, iv x.13, iv x.14], AV.c (CV.v (Value.bool true))]) [(Ent.ws own cap ws), Ent.dead, Ent.dead])))))
   (Tree.done (XV.tup [AV.agg [iv x.1, iv x.2, iv x.3, iv x.4, iv x.5, iv x.6, iv x.7, iv x.8, iv x.9, iv x.10, iv x.11, iv x.12, CV.sl 0 0 0 2 (List.length ws) cap, iv x.13, iv x.14], AV.c (CV.v (Value.bool false))]) [(Ent.ws own cap ws), Ent.dead, Ent.dead])))))))))
   (Tree.br (k == (5 : Int))
   (Tree.chk ((v == (0 : Int)) = true → (v == (0 : Int)) = true)
   (Tree.chk ((v == (0 : Int)) = true → (v == (0 : Int)) = true)
   (Tree.chk ((bif v == (0 : Int) then !x.3 == t else false) = true → (bif v == (0 : Int) then !x.3 == t else false) = true)
   (Tree.chk ((bif v == (0 : Int) then !x.3 == t else false) = true → (bif v == (0 : Int) then !x.3 == t else false) = true)
   (Tree.chk ((bif v == (0 : Int) then !x.3 == t else false) = true → (bif v == (0 : Int) then !x.3 == t else false) = true)
   (Tree.chk (((bif v == (0 : Int) then !x.3 == t else false) && !x.3 != (-1 : Int)) = true → ((bif v == (0 : Int) then !x.3 == t else false) && !x.3 != (-1 : Int)) = true)
   (Tree.chk ((bif v == (0 : Int) then !x.3 == t else false) = true → (bif v == (0 : Int) then !x.3 == t else false) = true)
   (Tree.chk ((bif v == (0 : Int) then !x.3 == t else false) = true → (x.3 != (-1 : Int)) = false → ((bif v == (0 : Int) then !x.3 == t else false) && !x.3 != (-1 : Int)) = true)
   (Tree.chk ((bif v == (0 : Int) then !x.3 == t else false) = true → (bif v == (0 : Int) then !x.3 == t else false) = true)
   (Tree.chk ((!bif bif v == (0 : Int) then !x.3 == t else false then bif x.3 != (-1 : Int) then true else decide (allW [x.5, x.6, x.7, x.8, x.9, x.10, x.11, x.12] 8 > (0 : Int)) else false) = true → (!bif bif v == (0 : Int) then !x.3 == t else false then bif x.3 != (-1 : Int) then true else decide (allW [x.5, x.6, x.7, x.8, x.9, x.10, x.11, x.12] 8 > (0 : Int)) else false) = true)
   (Tree.chk ((!bif bif v == (0 : Int) then !x.3 == t else false then bif x.3 != (-1 : Int) then true else decide (allW [x.5, x.6, x.7, x.8, x.9, x.10, x.11, x.12] 8 > (0 : Int)) else false) = true → (!bif bif v == (0 : Int) then !x.3 == t else false then bif x.3 != (-1 : Int) then true else decide (allW [x.5, x.6, x.7, x.8, x.9, x.10, x.11, x.12] 8 > (0 : Int)) else false) = true)
   (Tree.chk (((!bif bif v == (0 : Int) then !x.3 == t else false then bif x.3 != (-1 : Int) then true else decide (allW [x.5, x.6, x.7, x.8, x.9, x.10, x.11, x.12] 8 > (0 : Int)) else false) && v == (1 : Int)) = true → ((!bif bif v == (0 : Int) then !x.3 == t else false then bif x.3 != (-1 : Int) then true else decide (allW [x.5, x.6, x.7, x.8, x.9, x.10, x.11, x.12] 8 > (0 : Int)) else false) && v == (1 : Int)) = true)
   (Tree.chk (((!bif bif v == (0 : Int) then !x.3 == t else false then bif x.3 != (-1 : Int) then true else decide (allW [x.5, x.6, x.7, x.8, x.9, x.10, x.11, x.12] 8 > (0 : Int)) else false) && v == (1 : Int)) = true → ((!bif bif v == (0 : Int) then !x.3 == t else false then bif x.3 != (-1 : Int) then true else decide (allW [x.5, x.6, x.7, x.8, x.9, x.10, x.11, x.12] 8 > (0 : Int)) else false) && v == (1 : Int)) = true)
   (Tree.chk ((!bif bif v == (0 : Int) then !x.3 == t else false then bif x.3 != (-1 : Int) then true else decide (allW [x.5, x.6, x.7, x.8, x.9, x.10, x.11, x.12] 8 > (0 : Int)) else false) = true → (!bif bif v == (0 : Int) then !x.3 == t else false then bif x.3 != (-1 : Int) then true else decide (allW [x.5, x.6, x.7, x.8, x.9, x.10, x.11, x.12] 8 > (0 : Int)) else false) = true)
   (Tree.chk ((!bif bif v == (0 : Int) then !x.3 == t else false then bif x.3 != (-1 : Int) then true else decide (allW [x.5, x.6, x.7, x.8, x.9, x.10, x.11, x.12] 8 > (0 : Int)) else false) = true → (v == (1 : Int)) = true → ((!bif bif v == (0 : Int) then !x.3 == t else false then bif x.3 != (-1 : Int) then true else decide (allW [x.5, x.6, x.7, x.8, x.9, x.10, x.11, x.12] 8 > (0 : Int)) else false) && v == (1 : Int)) = true)
   (Tree.chk ((!bif bif v == (0 : Int) then !x.3 == t else false then bif x.3 != (-1 : Int) then true else decide (allW [x.5, x.6, x.7, x.8, x.9, x.10, x.11, x.12] 8 > (0 : Int)) else false) = true → (!bif bif v == (0 : Int) then !x.3 == t else false then bif x.3 != (-1 : Int) then true else decide (allW [x.5, x.6, x.7, x.8, x.9, x.10, x.11, x.12] 8 > (0 : Int)) else false) = true)
   (Tree.chk (((!bif bif v == (0 : Int) then !x.3 == t else false then bif x.3 != (-1 : Int) then true else decide (allW [x.5, x.6, x.7, x.8, x.9, x.10, x.11, x.12] 8 > (0 : Int)) else false) && bif v == (1 : Int) then x.3 != (-1 : Int) else false) = true → ((!bif bif v == (0 : Int) then !x.3 == t else false then bif x.3 != (-1 : Int) then true else decide (allW [x.5, x.6, x.7, x.8, x.9, x.10, x.11, x.12] 8 > (0 : Int)) else false) && bif v == (1 : Int) then x.3 != (-1 : Int) else false) = true)
   (Tree.chk ((!bif bif v == (0 : Int) then !x.3 == t else false then bif x.3 != (-1 : Int) then true else decide (allW [x.5, x.6, x.7, x.8, x.9, x.10, x.11, x.12] 8 > (0 : Int)) else false) = true → (!bif bif v == (0 : Int) then !x.3 == t else false then bif x.3 != (-1 : Int) then true else decide (allW [x.5, x.6, x.7, x.8, x.9, x.10, x.11, x.12] 8 > (0 : Int)) else false) = true)
   (Tree.chk ((!bif bif v == (0 : Int) then !x.3 == t else false then bif x.3 != (-1 : Int) then true else decide (allW [x.5, x.6, x.7, x.8, x.9, x.10, x.11, x.12] 8 > (0 : Int)) else false) = true → (bif v == (1 : Int) then x.3 != (-1 : Int) else false) = true → ((!bif bif v == (0 : Int) then !x.3 == t else false then bif x.3 != (-1 : Int) then true else decide (allW [x.5, x.6, x.7, x.8, x.9, x.10, x.11, x.12] 8 > (0 : Int)) else false) && bif v == (1 : Int) then x.3 != (-1 : Int) else false) = true)
   (Tree.chk ((bif bif v == (0 : Int) then !x.3 == t else false then bif x.3 != (-1 : Int) then true else decide (allW [x.5, x.6, x.7, x.8, x.9, x.10, x.11, x.12] 8 > (0 : Int)) else false) = false → (!bif bif v == (0 : Int) then !x.3 == t else false then bif x.3 != (-1 : Int) then true else decide (allW [x.5, x.6, x.7, x.8, x.9, x.10, x.11, x.12] 8 > (0 : Int)) else false) = true)
   (Tree.done (XV.tup [AV.agg [iv x.1, iv x.2, iv x.3, iv x.4, iv x.5, iv x.6, iv x.7, iv x.8, iv x.9, iv x.10, iv x.11, iv x.12, CV.sl 0 0 0 2 (List.length ws) cap, iv x.13, iv x.14], AV.c (CV.v (Value.bool (bif bif bif v == (0 : Int) then !x.3 == t else false then bif x.3 != (-1 : Int) then true else decide (allW [x.5, x.6, x.7, x.8, x.9, x.10, x.11, x.12] 8 > (0 : Int)) else false then true else bif bif v == (1 : Int) then x.3 != (-1 : Int) else false then !x.3 == t else false)))]) [(Ent.ws own cap ws), Ent.dead, Ent.dead])))))))))))))))))))))
   (Tree.br (k == (6 : Int))
   (Tree.chk ((v == (0 : Int)) = true → (v == (0 : Int)) = true)
   (Tree.chk ((v == (0 : Int)) = true → (v == (0 : Int)) = true)
   (Tree.chk ((!bif v == (0 : Int) then !x.3 == t else false) = true → (!bif v == (0 : Int) then !x.3 == t else false) = true)
   (Tree.chk ((!bif v == (0 : Int) then !x.3 == t else false) = true → (!bif v == (0 : Int) then !x.3 == t else false) = true)
   (Tree.chk (((!bif v == (0 : Int) then !x.3 == t else false) && v == (1 : Int)) = true → ((!bif v == (0 : Int) then !x.3 == t else false) && v == (1 : Int)) = true)
   (Tree.chk (((!bif v == (0 : Int) then !x.3 == t else false) && v == (1 : Int)) = true → ((!bif v == (0 : Int) then !x.3 == t else false) && v == (1 : Int)) = true)
   (Tree.chk (((!bif v == (0 : Int) then !x.3 == t else false) && v == (1 : Int)) = true → (0 : Int) ≤ t ∧ t < (↑8 : Int))
   (Tree.chk (((!bif v == (0 : Int) then !x.3 == t else false) && v == (1 : Int)) = true → ((!bif v == (0 : Int) then !x.3 == t else false) && v == (1 : Int)) = true)
   (Tree.chk (((!bif v == (0 : Int) then !x.3 == t else false) && v == (1 : Int)) = true → Int.toNat t < 8)
   (Tree.chk (((!bif v == (0 : Int) then !x.3 == t else false) && v == (1 : Int)) = true → ((!bif v == (0 : Int) then !x.3 == t else false) && v == (1 : Int)) = true)
   (Tree.chk ((!bif v == (0 : Int) then !x.3 == t else false) = true → (!bif v == (0 : Int) then !x.3 == t else false) = true)
   (Tree.chk ((!bif v == (0 : Int) then !x.3 == t else false) = true → (v == (1 : Int)) = true → ((!bif v == (0 : Int) then !x.3 == t else false) && v == (1 : Int)) = true)
   (Tree.chk ((bif v == (0 : Int) then !x.3 == t else false) = false → (!bif v == (0 : Int) then !x.3 == t else false) = true)
   (Tree.chk ((bif v == (0 : Int) then !x.3 == t else false) = false → (!bif v == (0 : Int) then !x.3 == t else false) = true)
   (Tree.chk (AV.c (CV.v (Value.bool (bif bif v == (0 : Int) then !x.3 == t else false then true else bif v == (1 : Int) then List.getD [x.5, x.6, x.7, x.8, x.9, x.10, x.11, x.12] (Int.toNat t) (0 : Int) == (0 : Int) else false))) = AV.c (CV.v (Value.bool (bif bif v == (0 : Int) then !x.3 == t else false then true else bif v == (1 : Int) then List.getD [x.5, x.6, x.7, x.8, x.9, x.10, x.11, x.12] (Int.toNat t) (0 : Int) == (0 : Int) else false))))
   (Tree.chk ((!bif v == (0 : Int) then !x.3 == t else false) = true → (!bif v == (0 : Int) then !x.3 == t else false) = true)
   (Tree.chk ((!bif v == (0 : Int) then !x.3 == t else false) = true → (v == (1 : Int)) = true → ((!bif v == (0 : Int) then !x.3 == t else false) && v == (1 : Int)) = true)
   (Tree.chk ((!bif v == (0 : Int) then !x.3 == t else false) = true → AV.c (CV.v (Value.bool (bif v == (1 : Int) then List.getD [x.5, x.6, x.7, x.8, x.9, x.10, x.11, x.12] (Int.toNat t) (0 : Int) == (0 : Int) else false))) = AV.c (CV.v (Value.bool (bif v == (1 : Int) then List.getD [x.5, x.6, x.7, x.8, x.9, x.10, x.11, x.12] (Int.toNat t) (0 : Int) == (0 : Int) else false))))
   (Tree.chk (((!bif v == (0 : Int) then !x.3 == t else false) && v == (1 : Int)) = true → ((!bif v == (0 : Int) then !x.3 == t else false) && v == (1 : Int)) = true)
   (Tree.chk (((!bif v == (0 : Int) then !x.3 == t else false) && v == (1 : Int)) = true → AV.c (CV.v (Value.bool (List.getD [x.5, x.6, x.7, x.8, x.9, x.10, x.11, x.12] (Int.toNat t) (0 : Int) == (0 : Int)))) = AV.c (CV.v (Value.bool (List.getD [x.5, x.6, x.7, x.8, x.9, x.10, x.11, x.12] (Int.toNat t) (0 : Int) == (0 : Int)))))
   (Tree.chk (((!bif v == (0 : Int) then !x.3 == t else false) && v == (1 : Int)) = true → ((!bif v == (0 : Int) then !x.3 == t else false) && v == (1 : Int)) = true)
   (Tree.chk (((!bif v == (0 : Int) then !x.3 == t else false) && v == (1 : Int)) = true → Int.toNat t < 8)
   (Tree.chk (((!bif v == (0 : Int) then !x.3 == t else false) && v == (1 : Int)) = true → AV.c (iv (List.getD [x.5, x.6, x.7, x.8, x.9, x.10, x.11, x.12] (Int.toNat t) (0 : Int))) = AV.c (iv (List.getD [x.5, x.6, x.7, x.8, x.9, x.10, x.11, x.12] (Int.toNat t) (0 : Int))))
   (Tree.chk (((!bif v == (0 : Int) then !x.3 == t else false) && v == (1 : Int)) = true → ((!bif v == (0 : Int) then !x.3 == t else false) && v == (1 : Int)) = true)
   (Tree.chk (((!bif v == (0 : Int) then !x.3 == t else false) && v == (1 : Int)) = true → ((!bif v == (0 : Int) then !x.3 == t else false) && v == (1 : Int)) = true)
   (Tree.chk (((!bif v == (0 : Int) then !x.3 == t else false) && v == (1 : Int)) = true → (0 : Int) ≤ t ∧ t < (↑8 : Int))
   (Tree.chk (((!bif v == (0 : Int) then !x.3 == t else false) && v == (1 : Int)) = true → AV.c (CV.ptr { k := 1, j := 0, i := 0, sz := 15, c := 4, d := Int.toNat t, dn := 8, cu := 0 }) = AV.c (CV.ptr { k := 1, j := 0, i := 0, sz := 15, c := 4, d := Int.toNat t, dn := 8, cu := 0 }))
   (Tree.chk (((!bif v == (0 : Int) then !x.3 == t else false) && v == (1 : Int)) = true → AV.c (CV.ptr { k := 1, j := 0, i := 0, sz := 15, c := 4, d := 0, dn := 0, cu := 0 }) = AV.c (CV.ptr { k := 1, j := 0, i := 0, sz := 15, c := 4, d := 0, dn := 0, cu := 0 }))
   (Tree.chk (((!bif v == (0 : Int) then !x.3 == t else false) && v == (1 : Int)) = true → AV.c (iv t) = AV.c (iv t))
   (Tree.done (XV.tup [AV.agg [iv x.1, iv x.2, iv x.3, iv x.4, iv x.5, iv x.6, iv x.7, iv x.8, iv x.9, iv x.10, iv x.11, iv x.12, CV.sl 0 0 0 2 (List.length ws) cap, iv x.13, iv x.14], AV.c (CV.v (Value.bool (bif bif v == (0 : Int) then !x.3 == t else false then true else bif v == (1 : Int) then List.getD [x.5, x.6, x.7, x.8, x.9, x.10, x.11, x.12] (Int.toNat t) (0 : Int) == (0 : Int) else false)))]) [(Ent.ws own cap ws), Ent.dead, Ent.dead]))))))))))))))))))))))))))))))
   (Tree.br (k == (7 : Int))
   (Tree.chk ((v == (0 : Int)) = true → (v == (0 : Int)) = true)
   (Tree.chk ((bif v == (0 : Int) then x.3 == t else false) = true → (bif v == (0 : Int) then x.3 == t else false) = true)
   (Tree.chk ((bif v == (0 : Int) then x.3 == t else false) = true → (bif v == (0 : Int) then x.3 == t else false) = true)
   (Tree.chk ((bif v == (0 : Int) then x.3 == t else false) = true → (bif v == (0 : Int) then x.3 == t else false) = true)
   (Tree.chk ((!bif bif v == (0 : Int) then x.3 == t else false then x.4 == (1000 : Int) else false) = true → (!bif bif v == (0 : Int) then x.3 == t else false then x.4 == (1000 : Int) else false) = true)
   (Tree.chk ((!bif bif v == (0 : Int) then x.3 == t else false then x.4 == (1000 : Int) else false) = true → (!bif bif v == (0 : Int) then x.3 == t else false then x.4 == (1000 : Int) else false) = true)
   (Tree.chk (((!bif bif v == (0 : Int) then x.3 == t else false then x.4 == (1000 : Int) else false) && v == (1 : Int)) = true → ((!bif bif v == (0 : Int) then x.3 == t else false then x.4 == (1000 : Int) else false) && v == (1 : Int)) = true)
   (Tree.chk ((!bif bif v == (0 : Int) then x.3 == t else false then x.4 == (1000 : Int) else false) = true → (!bif bif v == (0 : Int) then x.3 == t else false then x.4 == (1000 : Int) else false) = true)
   (Tree.chk ((!bif bif v == (0 : Int) then x.3 == t else false then x.4 == (1000 : Int) else false) = true → (v == (1 : Int)) = true → ((!bif bif v == (0 : Int) then x.3 == t else false then x.4 == (1000 : Int) else false) && v == (1 : Int)) = true)
   (Tree.chk ((bif bif v == (0 : Int) then x.3 == t else false then x.4 == (1000 : Int) else false) = false → (!bif bif v == (0 : Int) then x.3 == t else false then x.4 == (1000 : Int) else false) = true)
   (Tree.done (XV.tup [AV.agg [iv x.1, iv x.2, iv x.3, iv x.4, iv x.5, iv x.6, iv x.7, iv x.8, iv x.9, iv x.10, iv x.11, iv x.12, CV.sl 0 0 0 2 (List.length ws) cap, iv x.13, iv x.14], AV.c (CV.v (Value.bool (bif bif bif v == (0 : Int) then x.3 == t else false then x.4 == (1000 : Int) else false then true else bif v == (1 : Int) then allW [x.5, x.6, x.7, x.8, x.9, x.10, x.11, x.12] 8 == (1000 : Int) else false)))]) [(Ent.ws own cap ws), Ent.dead, Ent.dead])))))))))))
   (Tree.done (XV.tup [AV.agg [iv x.1, iv x.2, iv x.3, iv x.4, iv x.5, iv x.6, iv x.7, iv x.8, iv x.9, iv x.10, iv x.11, iv x.12, CV.sl 0 0 0 2 (List.length ws) cap, iv x.13, iv x.14], AV.c (CV.v (Value.bool false))]) [(Ent.ws own cap ws), Ent.dead, Ent.dead])))))))
theorem trwr_eq (x : Thg) (t k v : Int) (ws : List Wt) (own : Bool) (cap : Nat) : xfunc tab (readsG ws own) noInv Go.Proofs.Try.f23 [x.av 0 0 ws.length cap, .c (iv t), .c (iv k), .c (iv v)] [Ent.ws own cap ws] [0] = trwr x t k v ws own cap := by kernel_rfl
def tsemar (x : Thg) (k v : Int) (ws : List Wt) (own : Bool) (cap : Nat) : Tree :=
  Tree.br (k == (1 : Int))
   (Tree.chk (decide (v ≥ (1 : Int)) = true → decide (v ≥ (1 : Int)) = true)
   (Tree.chk (decide (v ≥ (1 : Int)) = true → decide (v ≥ (1 : Int)) = true)
   (Tree.chk (decide (v ≥ (1 : Int)) = true → decide (v ≥ (1 : Int)) = true)
   (Tree.br (bif decide (v ≥ (1 : Int)) then decide (v ≤ x.2) else false)
   (Tree.done (XV.tup [AV.agg [iv x.1, iv (IntKind.wrap IntKind.i64 (x.2 - v)), iv x.3, iv x.4, iv x.5, iv x.6, iv x.7, iv x.8, iv x.9, iv x.10, iv x.11, iv x.12, CV.sl 0 0 0 2 (List.length ws) cap, iv x.13, iv x.14], AV.c (CV.v (Value.bool true))]) [(Ent.ws own cap ws), Ent.dead, Ent.dead])
   (Tree.done (XV.tup [AV.agg [iv x.1, iv x.2, iv x.3, iv x.4, iv x.5, iv x.6, iv x.7, iv x.8, iv x.9, iv x.10, iv x.11, iv x.12, CV.sl 0 0 0 2 (List.length ws) cap, iv x.13, iv x.14], AV.c (CV.v (Value.bool false))]) [(Ent.ws own cap ws), Ent.dead, Ent.dead])))))
   (Tree.br (k == (3 : Int))
   (Tree.chk (decide (v ≥ (1 : Int)) = true → decide (v ≥ (1 : Int)) = true)
   (Tree.chk (decide (v ≥ (1 : Int)) = true → decide (v ≥ (1 : Int)) = true)
   (Tree.chk (decide (v ≥ (1 : Int)) = true → decide (v ≥ (1 : Int)) = true)
   (Tree.chk (decide (v ≥ (1 : Int)) = true → decide (v ≥ (1 : Int)) = true)
   (Tree.br (bif decide (v ≥ (1 : Int)) then decide (v ≤ IntKind.wrap IntKind.i64 ((1000 : Int) - x.2)) else false)
   (Tree.done (XV.tup [AV.agg [iv x.1, iv (IntKind.wrap IntKind.i64 (x.2 + v)), iv x.3, iv x.4, iv x.5, iv x.6, iv x.7, iv x.8, iv x.9, iv x.10, iv x.11, iv x.12, CV.sl 0 0 0 2 (List.length ws) cap, iv x.13, iv x.14], AV.c (CV.v (Value.bool true))]) [(Ent.ws own cap ws), Ent.dead, Ent.dead])
   (Tree.done (XV.tup [AV.agg [iv x.1, iv x.2, iv x.3, iv x.4, iv x.5, iv x.6, iv x.7, iv x.8, iv x.9, iv x.10, iv x.11, iv x.12, CV.sl 0 0 0 2 (List.length ws) cap, iv x.13, iv x.14], AV.c (CV.v (Value.bool false))]) [(Ent.ws own cap ws), Ent.dead, Ent.dead]))))))
   (Tree.br (k == (5 : Int))
   (Tree.done (XV.tup [AV.agg [iv x.1, iv x.2, iv x.3, iv x.4, iv x.5, iv x.6, iv x.7, iv x.8, iv x.9, iv x.10, iv x.11, iv x.12, CV.sl 0 0 0 2 (List.length ws) cap, iv x.13, iv x.14], AV.c (CV.v (Value.bool (decide (v > x.2))))]) [(Ent.ws own cap ws), Ent.dead, Ent.dead])
   (Tree.br (k == (7 : Int))
   (Tree.chk (decide (v ≥ (1 : Int)) = true → decide (v ≥ (1 : Int)) = true)
   (Tree.chk (decide (v ≥ (1 : Int)) = true → decide (v ≥ (1 : Int)) = true)
   (Tree.chk (decide (v ≥ (1 : Int)) = true → decide (v ≥ (1 : Int)) = true)
   (Tree.chk (decide (v ≥ (1 : Int)) = true → decide (v ≥ (1 : Int)) = true)
   (Tree.done (XV.tup [AV.agg [iv x.1, iv x.2, iv x.3, iv x.4, iv x.5, iv x.6, iv x.7, iv x.8, iv x.9, iv x.10, iv x.11, iv x.12, CV.sl 0 0 0 2 (List.length ws) cap, iv x.13, iv x.14], AV.c (CV.v (Value.bool (bif decide (v ≥ (1 : Int)) then decide (v > IntKind.wrap IntKind.i64 ((1000 : Int) - x.2)) else false)))]) [(Ent.ws own cap ws), Ent.dead, Ent.dead])))))
   (Tree.br (k == (9 : Int))
   (Tree.br (v == x.2)
   (Tree.done (XV.tup [AV.agg [iv x.1, iv (0 : Int), iv x.3, iv x.4, iv x.5, iv x.6, iv x.7, iv x.8, iv x.9, iv x.10, iv x.11, iv x.12, CV.sl 0 0 0 2 (List.length ws) cap, iv x.13, iv x.14], AV.c (CV.v (Value.bool true))]) [(Ent.ws own cap ws), Ent.dead, Ent.dead])
   (Tree.done (XV.tup [AV.agg [iv x.1, iv x.2, iv x.3, iv x.4, iv x.5, iv x.6, iv x.7, iv x.8, iv x.9, iv x.10, iv x.11, iv x.12, CV.sl 0 0 0 2 (List.length ws) cap, iv x.13, iv x.14], AV.c (CV.v (Value.bool false))]) [(Ent.ws own cap ws), Ent.dead, Ent.dead]))
   (Tree.done (XV.tup [AV.agg [iv x.1, iv x.2, iv x.3, iv x.4, iv x.5, iv x.6, iv x.7, iv x.8, iv x.9, iv x.10, iv x.11, iv x.12, CV.sl 0 0 0 2 (List.length ws) cap, iv x.13, iv x.14], AV.c (CV.v (Value.bool false))]) [(Ent.ws own cap ws), Ent.dead, Ent.dead])))))
theorem tsemar_eq (x : Thg) (k v : Int) (ws : List Wt) (own : Bool) (cap : Nat) : xfunc tab noCtr noInv Go.Proofs.Try.f22 [x.av 0 0 ws.length cap, .c (iv k), .c (iv v)] [Ent.ws own cap ws] [0] = tsemar x k v ws own cap := by kernel_rfl
def tswapr (x : Thg) (t k v : Int) (ws : List Wt) (own : Bool) (cap : Nat) : Tree :=
  Tree.br (k == (15 : Int))
   (Tree.chk ((x.13 == (-1 : Int)) = true → (x.13 == (-1 : Int)) = true)
   (Tree.chk ((x.13 == (-1 : Int)) = true → (x.13 == (-1 : Int)) = true)
   (Tree.chk ((bif x.13 == (-1 : Int) then decide (v ≥ (0 : Int)) else false) = true → (bif x.13 == (-1 : Int) then decide (v ≥ (0 : Int)) else false) = true)
   (Tree.chk ((bif x.13 == (-1 : Int) then decide (v ≥ (0 : Int)) else false) = true → (bif x.13 == (-1 : Int) then decide (v ≥ (0 : Int)) else false) = true)
   (Tree.br (bif bif x.13 == (-1 : Int) then decide (v ≥ (0 : Int)) else false then decide (v ≤ (1000 : Int)) else false)
   (Tree.done (XV.tup [AV.agg [iv x.1, iv x.2, iv x.3, iv x.4, iv x.5, iv x.6, iv x.7, iv x.8, iv x.9, iv x.10, iv x.11, iv x.12, CV.sl 0 0 0 2 (List.length ws) cap, iv t, iv v], AV.c (CV.v (Value.bool true))]) [(Ent.ws own cap ws), Ent.dead, Ent.dead])
   (Tree.done (XV.tup [AV.agg [iv x.1, iv x.2, iv x.3, iv x.4, iv x.5, iv x.6, iv x.7, iv x.8, iv x.9, iv x.10, iv x.11, iv x.12, CV.sl 0 0 0 2 (List.length ws) cap, iv x.13, iv x.14], AV.c (CV.v (Value.bool false))]) [(Ent.ws own cap ws), Ent.dead, Ent.dead]))))))
   (Tree.br (k == (14 : Int))
   (Tree.chk ((x.13 != (-1 : Int)) = true → (x.13 != (-1 : Int)) = true)
   (Tree.chk ((x.13 != (-1 : Int)) = true → (x.13 != (-1 : Int)) = true)
   (Tree.chk ((x.13 != (-1 : Int)) = true → (x.13 != (-1 : Int)) = true)
   (Tree.chk ((x.13 != (-1 : Int)) = true → (x.13 != (-1 : Int)) = true)
   (Tree.chk ((bif x.13 != (-1 : Int) then x.13 != t else false) = true → (bif x.13 != (-1 : Int) then x.13 != t else false) = true)
   (Tree.chk ((bif x.13 != (-1 : Int) then x.13 != t else false) = true → (bif x.13 != (-1 : Int) then x.13 != t else false) = true)
   (Tree.chk ((bif x.13 != (-1 : Int) then x.13 != t else false) = true → (bif x.13 != (-1 : Int) then x.13 != t else false) = true)
   (Tree.chk ((bif x.13 != (-1 : Int) then x.13 != t else false) = true → (bif x.13 != (-1 : Int) then x.13 != t else false) = true)
   (Tree.br (bif bif x.13 != (-1 : Int) then x.13 != t else false then v == x.13 else false)
   (Tree.done (XV.tup [AV.agg [iv x.1, iv x.2, iv x.3, iv x.4, iv x.5, iv x.6, iv x.7, iv x.8, iv x.9, iv x.10, iv x.11, iv x.12, CV.sl 0 0 0 2 (List.length ws) cap, iv (-1 : Int), iv (0 : Int)], AV.c (CV.v (Value.bool true))]) [(Ent.ws own cap ws), Ent.dead, Ent.dead])
   (Tree.done (XV.tup [AV.agg [iv x.1, iv x.2, iv x.3, iv x.4, iv x.5, iv x.6, iv x.7, iv x.8, iv x.9, iv x.10, iv x.11, iv x.12, CV.sl 0 0 0 2 (List.length ws) cap, iv x.13, iv x.14], AV.c (CV.v (Value.bool false))]) [(Ent.ws own cap ws), Ent.dead, Ent.dead]))))))))))
   (Tree.br (k == (16 : Int))
   (Tree.chk ((x.13 == t) = true → (x.13 == t) = true)
   (Tree.chk ((x.13 == t) = true → (x.13 == t) = true)
   (Tree.br (bif x.13 == t then v == (0 : Int) else false)
   (Tree.done (XV.tup [AV.agg [iv x.1, iv x.2, iv x.3, iv x.4, iv x.5, iv x.6, iv x.7, iv x.8, iv x.9, iv x.10, iv x.11, iv x.12, CV.sl 0 0 0 2 (List.length ws) cap, iv (-1 : Int), iv (0 : Int)], AV.c (CV.v (Value.bool true))]) [(Ent.ws own cap ws), Ent.dead, Ent.dead])
   (Tree.done (XV.tup [AV.agg [iv x.1, iv x.2, iv x.3, iv x.4, iv x.5, iv x.6, iv x.7, iv x.8, iv x.9, iv x.10, iv x.11, iv x.12, CV.sl 0 0 0 2 (List.length ws) cap, iv x.13, iv x.14], AV.c (CV.v (Value.bool false))]) [(Ent.ws own cap ws), Ent.dead, Ent.dead]))))
   (Tree.done (XV.tup [AV.agg [iv x.1, iv x.2, iv x.3, iv x.4, iv x.5, iv x.6, iv x.7, iv x.8, iv x.9, iv x.10, iv x.11, iv x.12, CV.sl 0 0 0 2 (List.length ws) cap, iv x.13, iv x.14], AV.c (CV.v (Value.bool false))]) [(Ent.ws own cap ws), Ent.dead, Ent.dead])))
theorem tswapr_eq (x : Thg) (t k v : Int) (ws : List Wt) (own : Bool) (cap : Nat) : xfunc tab noCtr noInv Go.Proofs.Try.f24 [x.av 0 0 ws.length cap, .c (iv t), .c (iv k), .c (iv v)] [Ent.ws own cap ws] [0] = tswapr x t k v ws own cap := by kernel_rfl
def tclone (ws : List Wt) (own : Bool) (cap : Nat) : Tree :=
  Tree.chk (0 < 1)
   (Tree.every Bool fun b => Tree.br (!(b && Nat.blt 0 (List.length ws)))
   (Tree.br b
   (Tree.done (XV.a (AV.c (CV.v (Value.slice none 0 0)))) [(Ent.ws own cap ws)])
   (Tree.chk ((0 + List.length ws) * 16 ≤ 140737488355328)
   (Tree.chk (0 < 1 ∧ 0 + List.length ws ≤ List.length ws)
   (Tree.chk (0 = 0 ∧ 0 = 0)
   (Tree.all (fun c => 0 + List.length ws ≤ c 0 ∧ c 0 ≤ maxLen) fun c => Tree.done (XV.a (AV.c (CV.sl 2 0 0 2 (0 + List.length ws) (c 0)))) [(Ent.ws own cap ws), Ent.dead, { own := true, box := false, ty := 37, sz := 2, m := 1, n := fun x => 0 + List.length ws, cap := fun x => c 0, f := fun x i => [iv (Prod.fst (List.getD ws (i - 0) ((0 : Int), (0 : Int)))), iv (Prod.snd (List.getD ws (i - 0) ((0 : Int), (0 : Int))))], ov := [] }])))))
   (Tree.need True))
theorem tclone_eq (ws : List Wt) (own : Bool) (cap : Nat) : xfunc tab noCtr noInv Go.Proofs.Try.f19 [.c (.sl 0 0 0 2 ws.length cap)] [Ent.ws own cap ws] [0, 1, 2, 3] = tclone ws own cap := by kernel_rfl
def tcopy (x : Thg) (ws : List Wt) (own : Bool) (cap : Nat) : Tree :=
  Tree.chk ((0 + List.length ws) * 16 ≤ 140737488355328)
   (Tree.chk (0 < 1 ∧ 0 + List.length ws ≤ List.length ws)
   (Tree.chk (0 = 0 ∧ 0 = 0)
   (Tree.all (fun c => 0 + List.length ws ≤ c 0 ∧ c 0 ≤ maxLen) fun c => Tree.done (XV.a (AV.agg [iv x.1, iv x.2, iv x.3, iv x.4, iv x.5, iv x.6, iv x.7, iv x.8, iv x.9, iv x.10, iv x.11, iv x.12, CV.sl 4 0 0 2 (0 + List.length ws) (c 0), iv x.13, iv x.14])) [(Ent.ws own cap ws), (Ent.mkBox 25 [iv x.1, iv x.2, iv x.3, iv x.4, iv x.5, iv x.6, iv x.7, iv x.8, iv x.9, iv x.10, iv x.11, iv x.12, CV.sl 4 0 0 2 (0 + List.length ws) (c 0), iv x.13, iv x.14]), (Ent.mkBox 25 [iv x.1, iv x.2, iv x.3, iv x.4, iv x.5, iv x.6, iv x.7, iv x.8, iv x.9, iv x.10, iv x.11, iv x.12, CV.sl 4 0 0 2 (0 + List.length ws) (c 0), iv x.13, iv x.14]), Ent.dead, { own := true, box := false, ty := 37, sz := 2, m := 1, n := fun x => 0 + List.length ws, cap := fun x => c 0, f := fun x i => [iv (Prod.fst (List.getD ws (i - 0) ((0 : Int), (0 : Int)))), iv (Prod.snd (List.getD ws (i - 0) ((0 : Int), (0 : Int))))], ov := [] }])))
theorem tcopy_eq (x : Thg) (ws : List Wt) (own : Bool) (cap : Nat) : xfunc tab noCtr noInv Go.Proofs.Try.f13 [x.av 0 0 ws.length cap] [Ent.ws own cap ws] [0, 1, 2, 3, 4] = tcopy x ws own cap := by kernel_rfl
end Go.Proofs.Ytnenbngjdekegaa.X

/- The model: what is done with rows, proved. -/
set_option linter.unusedVariables false
set_option linter.unusedSimpArgs false
namespace Go.Proofs.Ytnenbngjdekegaa.X
open Go Go.RowKit Go.Proofs.YtnenbngjdekegaaW.PrintWords Go.Proofs.Ytnenbngjdekegaa.Base
def rwS (x : Thg) (t k v : Int) : Thg × Bool :=
  bif k == (1 : Int) then ({ kd := x.1, n := x.2, o := t, h := IntKind.wrap IntKind.i64 (x.4 + (1 : Int)), r0 := x.5, r1 := x.6, r2 := x.7, r3 := x.8, r4 := x.9, r5 := x.10, r6 := x.11, r7 := x.12, f := x.13, i := x.14 }, bif v == (1 : Int) then bif bif x.3 == (-1 : Int) then allW [x.5, x.6, x.7, x.8, x.9, x.10, x.11, x.12] 8 == (0 : Int) else false then true else bif x.3 == t then decide (x.4 < (1000 : Int)) else false else false)
  else bif k == (3 : Int) then (freeS x, bif x.3 == t then v == (0 : Int) else false) else bif k == (2 : Int) then ({ kd := x.1, n := x.2, o := x.3, h := x.4, r0 := if Int.toNat t = 0 then IntKind.wrap IntKind.i64 (List.getD [x.5, x.6, x.7, x.8, x.9, x.10, x.11, x.12] (Int.toNat t) (0 : Int) + (1 : Int)) else x.5, r1 := if Int.toNat t = 1 then IntKind.wrap IntKind.i64 (List.getD [x.5, x.6, x.7, x.8, x.9, x.10, x.11, x.12] (Int.toNat t) (0 : Int) + (1 : Int)) else x.6, r2 := if Int.toNat t = 2 then IntKind.wrap IntKind.i64 (List.getD [x.5, x.6, x.7, x.8, x.9, x.10, x.11, x.12] (Int.toNat t) (0 : Int) + (1 : Int)) else x.7, r3 := if Int.toNat t = 3 then IntKind.wrap IntKind.i64 (List.getD [x.5, x.6, x.7, x.8, x.9, x.10, x.11, x.12] (Int.toNat t) (0 : Int) + (1 : Int)) else x.8, r4 := if Int.toNat t = 4 then IntKind.wrap IntKind.i64 (List.getD [x.5, x.6, x.7, x.8, x.9, x.10, x.11, x.12] (Int.toNat t) (0 : Int) + (1 : Int)) else x.9, r5 := if Int.toNat t = 5 then IntKind.wrap IntKind.i64 (List.getD [x.5, x.6, x.7, x.8, x.9, x.10, x.11, x.12] (Int.toNat t) (0 : Int) + (1 : Int)) else x.10, r6 := if Int.toNat t = 6 then IntKind.wrap IntKind.i64 (List.getD [x.5, x.6, x.7, x.8, x.9, x.10, x.11, x.12] (Int.toNat t) (0 : Int) + (1 : Int)) else x.11, r7 := if Int.toNat t = 7 then IntKind.wrap IntKind.i64 (List.getD [x.5, x.6, x.7, x.8, x.9, x.10, x.11, x.12] (Int.toNat t) (0 : Int) + (1 : Int)) else x.12, f := x.13, i := x.14 }, bif bif v == (0 : Int) then bif x.3 == (-1 : Int) then true else x.3 == t else false then decide (allW [x.5, x.6, x.7, x.8, x.9, x.10, x.11, x.12] 8 < (1000 : Int)) else false) else bif k == (4 : Int) then ({ kd := x.1, n := x.2, o := x.3, h := x.4, r0 := if Int.toNat t = 0 then IntKind.wrap IntKind.i64 (List.getD [x.5, x.6, x.7, x.8, x.9, x.10, x.11, x.12] (Int.toNat t) (0 : Int) - (1 : Int)) else x.5, r1 := if Int.toNat t = 1 then IntKind.wrap IntKind.i64 (List.getD [x.5, x.6, x.7, x.8, x.9, x.10, x.11, x.12] (Int.toNat t) (0 : Int) - (1 : Int)) else x.6, r2 := if Int.toNat t = 2 then IntKind.wrap IntKind.i64 (List.getD [x.5, x.6, x.7, x.8, x.9, x.10, x.11, x.12] (Int.toNat t) (0 : Int) - (1 : Int)) else x.7, r3 := if Int.toNat t = 3 then IntKind.wrap IntKind.i64 (List.getD [x.5, x.6, x.7, x.8, x.9, x.10, x.11, x.12] (Int.toNat t) (0 : Int) - (1 : Int)) else x.8, r4 := if Int.toNat t = 4 then IntKind.wrap IntKind.i64 (List.getD [x.5, x.6, x.7, x.8, x.9, x.10, x.11, x.12] (Int.toNat t) (0 : Int) - (1 : Int)) else x.9, r5 := if Int.toNat t = 5 then IntKind.wrap IntKind.i64 (List.getD [x.5, x.6, x.7, x.8, x.9, x.10, x.11, x.12] (Int.toNat t) (0 : Int) - (1 : Int)) else x.10, r6 := if Int.toNat t = 6 then IntKind.wrap IntKind.i64 (List.getD [x.5, x.6, x.7, x.8, x.9, x.10, x.11, x.12] (Int.toNat t) (0 : Int) - (1 : Int)) else x.11, r7 := if Int.toNat t = 7 then IntKind.wrap IntKind.i64 (List.getD [x.5, x.6, x.7, x.8, x.9, x.10, x.11, x.12] (Int.toNat t) (0 : Int) - (1 : Int)) else x.12, f := x.13, i := x.14 }, bif v == (0 : Int) then decide (List.getD [if Int.toNat t = 0 then IntKind.wrap IntKind.i64 (List.getD [x.5, x.6, x.7, x.8, x.9, x.10, x.11, x.12] (Int.toNat t) (0 : Int) - (1 : Int)) else x.5, if Int.toNat t = 1 then IntKind.wrap IntKind.i64 (List.getD [x.5, x.6, x.7, x.8, x.9, x.10, x.11, x.12] (Int.toNat t) (0 : Int) - (1 : Int)) else x.6, if Int.toNat t = 2 then IntKind.wrap IntKind.i64 (List.getD [x.5, x.6, x.7, x.8, x.9, x.10, x.11, x.12] (Int.toNat t) (0 : Int) - (1 : Int)) else x.7, if Int.toNat t = 3 then IntKind.wrap IntKind.i64 (List.getD [x.5, x.6, x.7, x.8, x.9, x.10, x.11, x.12] (Int.toNat t) (0 : Int) - (1 : Int)) else x.8, if Int.toNat t = 4 then IntKind.wrap IntKind.i64 (List.getD [x.5, x.6, x.7, x.8, x.9, x.10, x.11, x.12] (Int.toNat t) (0 : Int) - (1 : Int)) else x.9, if Int.toNat t = 5 then IntKind.wrap IntKind.i64 (List.getD [x.5, x.6, x.7, x.8, x.9, x.10, x.11, x.12] (Int.toNat t) (0 : Int) - (1 : Int)) else x.10, if Int.toNat t = 6 then IntKind.wrap IntKind.i64 (List.getD [x.5, x.6, x.7, x.8, x.9, x.10, x.11, x.12] (Int.toNat t) (0 : Int) - (1 : Int)) else x.11, if Int.toNat t = 7 then IntKind.wrap IntKind.i64 (List.getD [x.5, x.6, x.7, x.8, x.9, x.10, x.11, x.12] (Int.toNat t) (0 : Int) - (1 : Int)) else x.12] (Int.toNat t) (0 : Int) ≥ (0 : Int)) else false) else bif k == (5 : Int) then (x, bif bif bif v == (0 : Int) then !x.3 == t else false then bif x.3 != (-1 : Int) then true else decide (allW [x.5, x.6, x.7, x.8, x.9, x.10, x.11, x.12] 8 > (0 : Int)) else false then true else bif bif v == (1 : Int) then x.3 != (-1 : Int) else false then !x.3 == t else false) else bif k == (6 : Int) then (x, bif bif v == (0 : Int) then !x.3 == t else false then true else bif v == (1 : Int) then List.getD [x.5, x.6, x.7, x.8, x.9, x.10, x.11, x.12] (Int.toNat t) (0 : Int) == (0 : Int) else false) else bif k == (7 : Int) then (x, bif bif bif v == (0 : Int) then x.3 == t else false then x.4 == (1000 : Int) else false then true else bif v == (1 : Int) then allW [x.5, x.6, x.7, x.8, x.9, x.10, x.11, x.12] 8 == (1000 : Int) else false) else (x, false)
def rwrS (x : Thg) (t k v : Int) : Thg × Bool :=
  bif k == (1 : Int) then bif bif v == (1 : Int) then bif bif x.3 == (-1 : Int) then allW [x.5, x.6, x.7, x.8, x.9, x.10, x.11, x.12] 8 == (0 : Int) else false then true else bif x.3 == t then decide (x.4 < (1000 : Int)) else false else false then ({ kd := x.1, n := x.2, o := t, h := IntKind.wrap IntKind.i64 (x.4 + (1 : Int)), r0 := x.5, r1 := x.6, r2 := x.7, r3 := x.8, r4 := x.9, r5 := x.10, r6 := x.11, r7 := x.12, f := x.13, i := x.14 }, true) else (x, false)
  else bif k == (2 : Int) then bif bif bif v == (0 : Int) then bif x.3 == (-1 : Int) then true else x.3 == t else false then decide (allW [x.5, x.6, x.7, x.8, x.9, x.10, x.11, x.12] 8 < (1000 : Int)) else false then ({ kd := x.1, n := x.2, o := x.3, h := x.4, r0 := if Int.toNat t = 0 then IntKind.wrap IntKind.i64 (List.getD [x.5, x.6, x.7, x.8, x.9, x.10, x.11, x.12] (Int.toNat t) (0 : Int) + (1 : Int)) else x.5, r1 := if Int.toNat t = 1 then IntKind.wrap IntKind.i64 (List.getD [x.5, x.6, x.7, x.8, x.9, x.10, x.11, x.12] (Int.toNat t) (0 : Int) + (1 : Int)) else x.6, r2 := if Int.toNat t = 2 then IntKind.wrap IntKind.i64 (List.getD [x.5, x.6, x.7, x.8, x.9, x.10, x.11, x.12] (Int.toNat t) (0 : Int) + (1 : Int)) else x.7, r3 := if Int.toNat t = 3 then IntKind.wrap IntKind.i64 (List.getD [x.5, x.6, x.7, x.8, x.9, x.10, x.11, x.12] (Int.toNat t) (0 : Int) + (1 : Int)) else x.8, r4 := if Int.toNat t = 4 then IntKind.wrap IntKind.i64 (List.getD [x.5, x.6, x.7, x.8, x.9, x.10, x.11, x.12] (Int.toNat t) (0 : Int) + (1 : Int)) else x.9, r5 := if Int.toNat t = 5 then IntKind.wrap IntKind.i64 (List.getD [x.5, x.6, x.7, x.8, x.9, x.10, x.11, x.12] (Int.toNat t) (0 : Int) + (1 : Int)) else x.10, r6 := if Int.toNat t = 6 then IntKind.wrap IntKind.i64 (List.getD [x.5, x.6, x.7, x.8, x.9, x.10, x.11, x.12] (Int.toNat t) (0 : Int) + (1 : Int)) else x.11, r7 := if Int.toNat t = 7 then IntKind.wrap IntKind.i64 (List.getD [x.5, x.6, x.7, x.8, x.9, x.10, x.11, x.12] (Int.toNat t) (0 : Int) + (1 : Int)) else x.12, f := x.13, i := x.14 }, true) else (x, false) else bif k == (3 : Int) then bif bif x.3 == t then v == (0 : Int) else false then (freeS x, true) else (x, false) else bif k == (4 : Int) then bif bif v == (0 : Int) then decide (List.getD [x.5, x.6, x.7, x.8, x.9, x.10, x.11, x.12] (Int.toNat t) (0 : Int) > (0 : Int)) else false then ({ kd := x.1, n := x.2, o := x.3, h := x.4, r0 := if Int.toNat t = 0 then IntKind.wrap IntKind.i64 (List.getD [x.5, x.6, x.7, x.8, x.9, x.10, x.11, x.12] (Int.toNat t) (0 : Int) - (1 : Int)) else x.5, r1 := if Int.toNat t = 1 then IntKind.wrap IntKind.i64 (List.getD [x.5, x.6, x.7, x.8, x.9, x.10, x.11, x.12] (Int.toNat t) (0 : Int) - (1 : Int)) else x.6, r2 := if Int.toNat t = 2 then IntKind.wrap IntKind.i64 (List.getD [x.5, x.6, x.7, x.8, x.9, x.10, x.11, x.12] (Int.toNat t) (0 : Int) - (1 : Int)) else x.7, r3 := if Int.toNat t = 3 then IntKind.wrap IntKind.i64 (List.getD [x.5, x.6, x.7, x.8, x.9, x.10, x.11, x.12] (Int.toNat t) (0 : Int) - (1 : Int)) else x.8, r4 := if Int.toNat t = 4 then IntKind.wrap IntKind.i64 (List.getD [x.5, x.6, x.7, x.8, x.9, x.10, x.11, x.12] (Int.toNat t) (0 : Int) - (1 : Int)) else x.9, r5 := if Int.toNat t = 5 then IntKind.wrap IntKind.i64 (List.getD [x.5, x.6, x.7, x.8, x.9, x.10, x.11, x.12] (Int.toNat t) (0 : Int) - (1 : Int)) else x.10, r6 := if Int.toNat t = 6 then IntKind.wrap IntKind.i64 (List.getD [x.5, x.6, x.7, x.8, x.9, x.10, x.11, x.12] (Int.toNat t) (0 : Int) - (1 : Int)) else x.11, r7 := if Int.toNat t = 7 then IntKind.wrap IntKind.i64 (List.getD [x.5, x.6, x.7, x.8, x.9, x.10, x.11, x.12] (Int.toNat t) (0 : Int) - (1 : Int)) else x.12, f := x.13, i := x.14 }, true) else (x, false) else bif k == (5 : Int) then (x, bif bif bif v == (0 : Int) then !x.3 == t else false then bif x.3 != (-1 : Int) then true else decide (allW [x.5, x.6, x.7, x.8, x.9, x.10, x.11, x.12] 8 > (0 : Int)) else false then true else bif bif v == (1 : Int) then x.3 != (-1 : Int) else false then !x.3 == t else false) else bif k == (6 : Int) then (x, bif bif v == (0 : Int) then !x.3 == t else false then true else bif v == (1 : Int) then List.getD [x.5, x.6, x.7, x.8, x.9, x.10, x.11, x.12] (Int.toNat t) (0 : Int) == (0 : Int) else false) else bif k == (7 : Int) then (x, bif bif bif v == (0 : Int) then x.3 == t else false then x.4 == (1000 : Int) else false then true else bif v == (1 : Int) then allW [x.5, x.6, x.7, x.8, x.9, x.10, x.11, x.12] 8 == (1000 : Int) else false) else (x, false)
def semarS (x : Thg) (k v : Int) : Thg × Bool :=
  bif k == (1 : Int) then bif bif decide (v ≥ (1 : Int)) then decide (v ≤ x.2) else false then ({ kd := x.1, n := IntKind.wrap IntKind.i64 (x.2 - v), o := x.3, h := x.4, r0 := x.5, r1 := x.6, r2 := x.7, r3 := x.8, r4 := x.9, r5 := x.10, r6 := x.11, r7 := x.12, f := x.13, i := x.14 }, true) else (x, false)
  else bif k == (3 : Int) then bif bif decide (v ≥ (1 : Int)) then decide (v ≤ IntKind.wrap IntKind.i64 ((1000 : Int) - x.2)) else false then ({ kd := x.1, n := IntKind.wrap IntKind.i64 (x.2 + v), o := x.3, h := x.4, r0 := x.5, r1 := x.6, r2 := x.7, r3 := x.8, r4 := x.9, r5 := x.10, r6 := x.11, r7 := x.12, f := x.13, i := x.14 }, true) else (x, false) else bif k == (5 : Int) then (x, decide (v > x.2)) else bif k == (7 : Int) then (x, bif decide (v ≥ (1 : Int)) then decide (v > IntKind.wrap IntKind.i64 ((1000 : Int) - x.2)) else false) else bif k == (9 : Int) then bif v == x.2 then ({ kd := x.1, n := (0 : Int), o := x.3, h := x.4, r0 := x.5, r1 := x.6, r2 := x.7, r3 := x.8, r4 := x.9, r5 := x.10, r6 := x.11, r7 := x.12, f := x.13, i := x.14 }, true) else (x, false) else (x, false)
def swaprS (x : Thg) (t k v : Int) : Thg × Bool :=
  bif k == (15 : Int) then bif bif bif x.13 == (-1 : Int) then decide (v ≥ (0 : Int)) else false then decide (v ≤ (1000 : Int)) else false then ({ kd := x.1, n := x.2, o := x.3, h := x.4, r0 := x.5, r1 := x.6, r2 := x.7, r3 := x.8, r4 := x.9, r5 := x.10, r6 := x.11, r7 := x.12, f := t, i := v }, true) else (x, false)
  else bif k == (14 : Int) then bif bif bif x.13 != (-1 : Int) then x.13 != t else false then v == x.13 else false then ({ kd := x.1, n := x.2, o := x.3, h := x.4, r0 := x.5, r1 := x.6, r2 := x.7, r3 := x.8, r4 := x.9, r5 := x.10, r6 := x.11, r7 := x.12, f := (-1 : Int), i := (0 : Int) }, true) else (x, false) else bif k == (16 : Int) then bif bif x.13 == t then v == (0 : Int) else false then ({ kd := x.1, n := x.2, o := x.3, h := x.4, r0 := x.5, r1 := x.6, r2 := x.7, r3 := x.8, r4 := x.9, r5 := x.10, r6 := x.11, r7 := x.12, f := (-1 : Int), i := (0 : Int) }, true) else (x, false) else (x, false)
theorem reads_call : Callable Try.prog 37 := ⟨_, Try.func37, by kernel_rfl, rfl⟩
theorem Reads_call : Callable Try.prog 33 := ⟨_, Try.func33, by kernel_rfl, rfl⟩
theorem free_call : Callable Try.prog 35 := ⟨_, Try.func35, by kernel_rfl, rfl⟩
theorem freed_call : Callable Try.prog 31 := ⟨_, Try.func31, by kernel_rfl, rfl⟩
def semarC (x : Thg) (k v : Int) (ws : List Wt) (own : Bool) (cap : Nat) (ρ : List Nat) : CallSpec := rdSpec ρ [x.av 0 0 ws.length cap, .c (iv k), .c (iv v)] [Ent.ws own cap ws] (thgR (semarS x k v) ws.length cap)
theorem semar_local (x : Thg) (k v : Int) (ws : List Wt) (own : Bool) (cap : Nat) (ρ : List Nat) : (semarC x k v ws own cap ρ).Local Try.prog 22 := by
  refine local_of Try.func22 rfl (tsemar_eq x k v ws own cap) fun ν w => ?_
  repeat' first | refine ok_br' (fun h => ?_) (fun h => ?_) | (refine ok_chk' ?_ ?_; focus (first | exact fun h => h | (simp; done) | (simp; omega) | (simp_all; done) | (simp_all; omega) | (generalize ws.length = L at *; simp; omega) | (generalize ws.length = L at *; simp_all; omega))) | refine ok_leaf (fun _ => 0) [] [0] trivial ?_ ⟨⟨_, rfl, EntRel.ws⟩, trivial⟩ rfl
  all_goals (show XV.tup _ = thgR (semarS x k v) ws.length cap; simp only [semarS, *, cond_true, cond_false]; rfl)
def swaprC (x : Thg) (t k v : Int) (ws : List Wt) (own : Bool) (cap : Nat) (ρ : List Nat) : CallSpec := rdSpec ρ [x.av 0 0 ws.length cap, .c (iv t), .c (iv k), .c (iv v)] [Ent.ws own cap ws] (thgR (swaprS x t k v) ws.length cap)
theorem swapr_local (x : Thg) (t k v : Int) (ws : List Wt) (own : Bool) (cap : Nat) (ρ : List Nat) : (swaprC x t k v ws own cap ρ).Local Try.prog 24 := by
  refine local_of Try.func24 rfl (tswapr_eq x t k v ws own cap) fun ν w => ?_
  repeat' first | refine ok_br' (fun h => ?_) (fun h => ?_) | (refine ok_chk' ?_ ?_; focus (first | exact fun h => h | (simp; done) | (simp; omega) | (simp_all; done) | (simp_all; omega) | (generalize ws.length = L at *; simp; omega) | (generalize ws.length = L at *; simp_all; omega))) | refine ok_leaf (fun _ => 0) [] [0] trivial ?_ ⟨⟨_, rfl, EntRel.ws⟩, trivial⟩ rfl
  all_goals (show XV.tup _ = thgR (swaprS x t k v) ws.length cap; simp only [swaprS, *, cond_true, cond_false]; rfl)
def rwC (x : Thg) (t k v : Int) (ws : List Wt) (own : Bool) (cap : Nat) (ρ : List Nat) : CallSpec := rdSpec ρ [x.av 0 0 ws.length cap, .c (iv t), markA k v] [Ent.ws own cap ws] (thgR (rwS x t k v) ws.length cap)
set_option maxHeartbeats 2000000 in
theorem rw_local (x : Thg) (t k v : Int) (ws : List Wt) (own : Bool) (cap : Nat) (ρ : List Nat) (t0 : 0 ≤ t) (t8 : t < 8) : (rwC x t k v ws own cap ρ).Local Try.prog 28 := by
  refine local_of Try.func28 rfl (trw_eq x t k v ws own cap) fun ν w => ?_
  repeat' first | refine ok_br' (fun h => ?_) (fun h => ?_) | (refine ok_callf' reads_call (fits_of rfl rfl ⟨⟨_, rfl, EntRel.ws⟩, trivial⟩ fun c _ => ⟨⟨Nat.le_refl _, rfl⟩, ⟨rfl, rfl⟩, ⟨⟨EntRel.ws, rfl, (fun h => by cases h), .inr rfl⟩, trivial⟩⟩) (reads_local _ _ _ _ _) fun c _ => ?_) | (refine ok_callf' free_call (fits_of rfl rfl ⟨⟨_, rfl, EntRel.ws⟩, trivial⟩ fun c _ => ⟨⟨Nat.le_refl _, rfl⟩, ⟨rfl, rfl⟩, ⟨⟨EntRel.ws, rfl, (fun h => by cases h), .inr rfl⟩, trivial⟩⟩) (free_local _ _ _ _ _) fun c _ => ?_) | (refine ok_chk' ?_ ?_; focus (first | exact fun h => h | (simp; done) | (simp; omega) | (simp_all; done) | (simp_all; omega) | (generalize ws.length = L at *; simp; omega) | (generalize ws.length = L at *; simp_all; omega))) | refine ok_both' ?_ ?_ | refine ok_leaf (fun _ => 0) [] [0] trivial ?_ ⟨⟨_, rfl, EntRel.ws⟩, trivial⟩ rfl
  all_goals (show XV.tup _ = thgR (rwS x t k v) ws.length cap; simp only [rwS, *, cond_true, cond_false]; rfl)
end Go.Proofs.Ytnenbngjdekegaa.X

/- The model: rows copied, cut. -/
set_option linter.unusedVariables false
set_option linter.unusedSimpArgs false
namespace Go.Proofs.Ytnenbngjdekegaa.X
open Go Go.RowKit Go.Proofs.YtnenbngjdekegaaW.PrintWords Go.Proofs.Ytnenbngjdekegaa.Base
/-- A call that makes new rows; k: how many blocks the caller knows. -/
def rowSpec (ρ : List Nat) (k : Nat) (args0 : List AV) (H0 : Hp) (good : (Nat → Nat) → Prop) (x0 : (Nat → Nat) → XV) (H1 : (Nat → Nat) → Hp) : CallSpec :=
  ⟨[], ρ, args0, H0, good, x0, H1, fun c => (x0 c).ren (ρ ++ (List.range ((H1 c).length - ρ.length)).map (· + k)), H1, [], []⟩
def fitsC (n : Nat) (c : Nat → Nat) : Prop := n ≤ c 0 ∧ c 0 ≤ maxLen
def cloneC (ws : List Wt) (own : Bool) (cap k : Nat) (ρ : List Nat) : CallSpec := rowSpec ρ k [.c (.sl 0 0 0 2 ws.length cap)] [Ent.ws own cap ws] (fitsC ws.length) (fun c => .a (.c (.sl 1 0 0 2 ws.length (c 0)))) fun c => [Ent.ws own cap ws, Ent.ws true (c 0) ws]
theorem clone_local (ws : List Wt) (own : Bool) (cap k : Nat) (ρ : List Nat) (hl : ws.length ≤ 1000000) : (cloneC ws own cap k ρ).Local Try.prog 19 := by
  refine local_of Try.func19 rfl (tclone_eq ws own cap) fun ν w => ?_
  refine ok_chk' Nat.one_pos (ok_every' fun b => ok_br' (fun h => ok_br' (fun hb => ?_) fun hb => ?_) fun h => trivial)
  · obtain rfl : ws = [] := by
      rw [hb] at h
      cases ws with
      | nil => rfl
      | cons a r =>
        have hlt : Nat.blt 0 (a :: r).length = true := Nat.blt_eq.mpr (by simp)
        rw [hlt] at h
        cases h
    exact ok_leaf (fun _ => 0) [(WT, 2)] [0, 1] ⟨Nat.le_refl _, Nat.zero_le _⟩ rfl ⟨⟨_, rfl, EntRel.ws⟩, ⟨_, rfl, EntRel.rw rfl rfl (fun i hi => absurd hi (Nat.not_lt_zero _)) fun i hi => absurd hi (Nat.not_lt_zero _)⟩, trivial⟩ rfl
  · refine ok_chk' (by omega) (ok_chk' ⟨by omega, by omega⟩ (ok_chk' ⟨rfl, rfl⟩ (ok_all' fun c hc => ?_)))
    refine ok_leaf c [] [0, 2] ⟨by have := hc.1; omega, hc.2⟩ (by simp only [Nat.zero_add]; rfl) ⟨⟨_, rfl, EntRel.ws⟩, ⟨_, rfl, EntRel.rw (by simp) rfl (fun i hi => rfl) fun i _ => wrow_plain ws i⟩, trivial⟩ rfl
def copyC (x : Thg) (ws : List Wt) (own : Bool) (cap k : Nat) (ρ : List Nat) : CallSpec := rowSpec ρ k [x.av 0 0 ws.length cap] [Ent.ws own cap ws] (fitsC ws.length) (fun c => .a (x.av 1 0 ws.length (c 0))) fun c => [Ent.ws own cap ws, Ent.ws true (c 0) ws]
theorem copy_local (x : Thg) (ws : List Wt) (own : Bool) (cap k : Nat) (ρ : List Nat) (hl : ws.length ≤ 1000000) : (copyC x ws own cap k ρ).Local Try.prog 13 := by
  refine local_of Try.func13 rfl (tcopy_eq x ws own cap) fun ν w => ?_
  refine ok_chk' (by omega) (ok_chk' ⟨by omega, by omega⟩ (ok_chk' ⟨rfl, rfl⟩ (ok_all' fun c hc => ?_)))
  refine ok_leaf c [] [0, 4] ⟨by have := hc.1; omega, hc.2⟩ (by simp only [Nat.zero_add]; rfl) ⟨⟨_, rfl, EntRel.ws⟩, ⟨_, rfl, EntRel.rw (by simp) rfl (fun i hi => rfl) fun i _ => wrow_plain ws i⟩, trivial⟩ rfl
set_option maxHeartbeats 2000000 in
theorem rwr_local (x : Thg) (t k v : Int) (ws : List Wt) (own : Bool) (cap : Nat) (ρ : List Nat) (t0 : 0 ≤ t) (t8 : t < 8) : (rdSpec ρ [x.av 0 0 ws.length cap, .c (iv t), .c (iv k), .c (iv v)] [Ent.ws own cap ws] (thgR (rwrS x t k v) ws.length cap)).Local Try.prog 23 := by
  refine local_of Try.func23 rfl (trwr_eq x t k v ws own cap) fun ν w => ?_
  repeat' first | refine ok_br' (fun h => ?_) (fun h => ?_) | (refine ok_callf' Reads_call (fits_of rfl rfl ⟨⟨_, rfl, EntRel.ws⟩, trivial⟩ fun c _ => ⟨⟨Nat.le_refl _, rfl⟩, ⟨rfl, rfl⟩, ⟨⟨EntRel.ws, rfl, (fun h => by cases h), .inr rfl⟩, trivial⟩⟩) (Reads_local _ _ _ _ _) fun c _ => ?_) | (refine ok_callf' freed_call (fits_of rfl rfl ⟨⟨_, rfl, EntRel.ws⟩, trivial⟩ fun c _ => ⟨⟨Nat.le_refl _, rfl⟩, ⟨rfl, rfl⟩, ⟨⟨EntRel.ws, rfl, (fun h => by cases h), .inr rfl⟩, trivial⟩⟩) (freed_local _ _ _ _ _) fun c _ => ?_) | (refine ok_chk' ?_ ?_; focus (first | exact fun h => h | (simp; done) | (simp; omega) | (simp_all; done) | (simp_all; omega) | (generalize ws.length = L at *; simp; omega) | (generalize ws.length = L at *; simp_all; omega))) | refine ok_both' ?_ ?_ | refine ok_leaf (fun _ => 0) [] [0] trivial ?_ ⟨⟨_, rfl, EntRel.ws⟩, trivial⟩ rfl
  all_goals (show XV.tup _ = thgR (rwrS x t k v) ws.length cap; simp only [rwrS, *, cond_true, cond_false]; rfl)
/-! ### Without one -/
def woF (ws : List Wt) (at_ : Int) : Nat → List Wt
  | 0 => []
  | i + 1 => bif (i : Int) != at_ then woF ws at_ i ++ [ws.getD i (0, 0)] else woF ws at_ i
def woInv (ws : List Wt) (at_ : Int) (own : Bool) (cap : Nat) (tm : Tm) (H : Hp) : LoopInv :=
  ⟨{p : Nat × Nat // p.1 ≤ ws.length ∧ (woF ws at_ p.1).length ≤ p.2 ∧ p.2 ≤ maxLen}, fun p => (putAll [(5, .a (.c (.sl 1 0 0 2 (woF ws at_ p.1.1).length p.1.2))), (6, ia p.1.1)] tm, [Ent.ws own cap ws, Ent.ws true p.1.2 (woF ws at_ p.1.1)]), fun p => ws.length - p.1.1, some ⟨(0, 0), Nat.zero_le _, Nat.le_refl _, Nat.zero_le _⟩,
   [(WT, 2)], .l [0, 1], [], fun tm H => match tm.get 5 with | some (.a (.c (.sl k _ _ _ _ _))) => .l [0, k] | _ => .l [0, 1]⟩
def twithout (ws : List Wt) (t : Int) (own : Bool) (cap : Nat) : Tree :=
  Tree.both
   (Tree.chk (XV.a (AV.c (CV.v (Value.slice none 0 0))) = XV.a (AV.c (CV.v (Value.slice none 0 0))))
   (Tree.chk (XV.a (AV.c (iv (0 : Int))) = XV.a (AV.c (iv (0 : Int))))
   (Tree.chk (XV.a (AV.c (CV.v (Value.slice none 0 0))) = XV.a (AV.c (CV.v (Value.slice none 0 0))))
   (Tree.chk (XV.a (AV.c (CV.sl 0 0 0 2 (List.length ws) cap)) = XV.a (AV.c (CV.sl 0 0 0 2 (List.length ws) cap)))
   (Tree.chk (XV.a (AV.c (iv t)) = XV.a (AV.c (iv t)))
   (Tree.chk (EntRel 1 [0, 1] 2 (Ent.ws own cap ws) (Ent.ws own cap ws))
   (Tree.chk (EntRel 1 [0, 1] 2 { own := true, box := false, ty := 37, sz := 2, m := 1, n := fun x => 0, cap := fun x => 0, f := fun x x_1 => [], ov := [] } { own := true, box := false, ty := 37, sz := 2, m := 1, n := fun x => 0, cap := fun x => 0, f := fun x i => [iv (0 : Int), iv (0 : Int)], ov := [] })
   (Tree.need True))))))))
   (Tree.every { p // Prod.fst p ≤ List.length ws ∧ List.length (woF ws t (Prod.fst p)) ≤ Prod.snd p ∧ Prod.snd p ≤ maxLen } fun s => Tree.br (decide ((↑(Prod.fst (Subtype.val s)) : Int) < (↑(List.length ws) : Int)))
   (Tree.br ((↑(Prod.fst (Subtype.val s)) : Int) != t)
   (Tree.chk ((0 : Int) ≤ (↑(Prod.fst (Subtype.val s)) : Int) ∧ (↑(Prod.fst (Subtype.val s)) : Int) < (↑(List.length ws) : Int) ∧ Int.toNat (↑(Prod.fst (Subtype.val s)) : Int) < List.length ws ∧ 0 < 1)
   (Tree.chk (0 < 1 ∧ Int.toNat (↑(Prod.fst (Subtype.val s)) : Int) < List.length ws)
   (Tree.chk ((List.length (woF ws t (Prod.fst (Subtype.val s))) + 1) * 16 ≤ 140737488355328)
   (Tree.chk (0 < 1 ∧ 1 ≤ 1)
   (Tree.chk (List.length (woF ws t (Prod.fst (Subtype.val s))) = List.length (woF ws t (Prod.fst (Subtype.val s))) ∧ Prod.snd (Subtype.val s) = Prod.snd (Subtype.val s))
   (Tree.all (fun c => List.length (woF ws t (Prod.fst (Subtype.val s))) + 1 ≤ c 0 ∧ c 0 ≤ maxLen) fun c => Tree.some_ { p // Prod.fst p ≤ List.length ws ∧ List.length (woF ws t (Prod.fst p)) ≤ Prod.snd p ∧ Prod.snd p ≤ maxLen } fun s' => Tree.chk (List.length ws - Prod.fst (Subtype.val s') < List.length ws - Prod.fst (Subtype.val s))
   (Tree.chk (XV.a (AV.c (CV.sl 3 0 0 2 (List.length (woF ws t (Prod.fst (Subtype.val s))) + 1) (c 0))) = XV.a (AV.c (CV.sl 3 0 0 2 (List.length (woF ws t (Prod.fst (Subtype.val s')))) (Prod.snd (Subtype.val s')))))
   (Tree.chk (XV.a (AV.c (iv (IntKind.wrap IntKind.i64 ((↑(Prod.fst (Subtype.val s)) : Int) + (1 : Int))))) = XV.a (AV.c (iv (↑(Prod.fst (Subtype.val s')) : Int))))
   (Tree.chk (XV.a (AV.c (CV.v (Value.slice none 0 0))) = XV.a (AV.c (CV.v (Value.slice none 0 0))))
   (Tree.chk (XV.a (AV.c (CV.sl 0 0 0 2 (List.length ws) cap)) = XV.a (AV.c (CV.sl 0 0 0 2 (List.length ws) cap)))
   (Tree.chk (XV.a (AV.c (iv t)) = XV.a (AV.c (iv t)))
   (Tree.chk (EntRel 4 [0, 3] 2 (Ent.ws own cap ws) (Ent.ws own cap ws))
   (Tree.chk (EntRel 4 [0, 3] 2 { own := true, box := false, ty := 37, sz := 2, m := 1, n := fun x => List.length (woF ws t (Prod.fst (Subtype.val s))) + 1, cap := fun x => c 0, f := fun x i => if i < List.length (woF ws t (Prod.fst (Subtype.val s))) then [iv (Prod.fst (List.getD (woF ws t (Prod.fst (Subtype.val s))) i ((0 : Int), (0 : Int)))), iv (Prod.snd (List.getD (woF ws t (Prod.fst (Subtype.val s))) i ((0 : Int), (0 : Int))))] else [iv (Prod.fst (List.getD ws (Int.toNat (↑(Prod.fst (Subtype.val s)) : Int)) ((0 : Int), (0 : Int)))), iv (Prod.snd (List.getD ws (Int.toNat (↑(Prod.fst (Subtype.val s)) : Int)) ((0 : Int), (0 : Int))))], ov := [] } (Ent.ws true (Prod.snd (Subtype.val s')) (woF ws t (Prod.fst (Subtype.val s')))))
   (Tree.need True))))))))))))))
   (Tree.some_ { p // Prod.fst p ≤ List.length ws ∧ List.length (woF ws t (Prod.fst p)) ≤ Prod.snd p ∧ Prod.snd p ≤ maxLen } fun s' => Tree.chk (List.length ws - Prod.fst (Subtype.val s') < List.length ws - Prod.fst (Subtype.val s))
   (Tree.chk (XV.a (AV.c (CV.sl 1 0 0 2 (List.length (woF ws t (Prod.fst (Subtype.val s)))) (Prod.snd (Subtype.val s)))) = XV.a (AV.c (CV.sl 1 0 0 2 (List.length (woF ws t (Prod.fst (Subtype.val s')))) (Prod.snd (Subtype.val s')))))
   (Tree.chk (XV.a (AV.c (iv (IntKind.wrap IntKind.i64 ((↑(Prod.fst (Subtype.val s)) : Int) + (1 : Int))))) = XV.a (AV.c (iv (↑(Prod.fst (Subtype.val s')) : Int))))
   (Tree.chk (XV.a (AV.c (CV.v (Value.slice none 0 0))) = XV.a (AV.c (CV.v (Value.slice none 0 0))))
   (Tree.chk (XV.a (AV.c (CV.sl 0 0 0 2 (List.length ws) cap)) = XV.a (AV.c (CV.sl 0 0 0 2 (List.length ws) cap)))
   (Tree.chk (XV.a (AV.c (iv t)) = XV.a (AV.c (iv t)))
   (Tree.chk (EntRel 2 [0, 1] 2 (Ent.ws own cap ws) (Ent.ws own cap ws))
   (Tree.chk (EntRel 2 [0, 1] 2 (Ent.ws true (Prod.snd (Subtype.val s)) (woF ws t (Prod.fst (Subtype.val s)))) (Ent.ws true (Prod.snd (Subtype.val s')) (woF ws t (Prod.fst (Subtype.val s')))))
   (Tree.need True))))))))))
   (Tree.done (XV.a (AV.c (CV.sl 1 0 0 2 (List.length (woF ws t (Prod.fst (Subtype.val s)))) (Prod.snd (Subtype.val s))))) [(Ent.ws own cap ws), (Ent.ws true (Prod.snd (Subtype.val s)) (woF ws t (Prod.fst (Subtype.val s))))]))
theorem twithout_eq (ws : List Wt) (t : Int) (own : Bool) (cap : Nat) : xfunc tab noCtr (lpI fun _ tm H => (woInv ws t own cap tm H)) Go.Proofs.Try.f32 [.c (.sl 0 0 0 2 ws.length cap), .c (iv t)] [Ent.ws own cap ws] [0, 1] = twithout ws t own cap := by kernel_rfl
end Go.Proofs.Ytnenbngjdekegaa.X

/- The model: without one, proved; and who waits no more. -/
set_option linter.unusedVariables false
set_option linter.unusedSimpArgs false
namespace Go.Proofs.Ytnenbngjdekegaa.X
open Go Go.RowKit Go.Proofs.YtnenbngjdekegaaW.PrintWords Go.Proofs.Ytnenbngjdekegaa.Base
theorem woT_le (ws : List Wt) (t : Int) : ∀ i, (woF ws t i).length ≤ i
  | 0 => Nat.le_refl _
  | i + 1 => by
    have := woT_le ws t i
    unfold woF
    cases ((i : Int) != t) <;> simp <;> omega
def withoutC (ws : List Wt) (t : Int) (own : Bool) (cap k : Nat) (ρ : List Nat) : CallSpec := rowSpec ρ k [.c (.sl 0 0 0 2 ws.length cap), .c (iv t)] [Ent.ws own cap ws] (fitsC (woF ws t ws.length).length) (fun c => .a (.c (.sl 1 0 0 2 (woF ws t ws.length).length (c 0)))) fun c => [Ent.ws own cap ws, Ent.ws true (c 0) (woF ws t ws.length)]
theorem without_local (ws : List Wt) (t : Int) (own : Bool) (cap k : Nat) (ρ : List Nat) (hl : ws.length ≤ 1000000) : (withoutC ws t own cap k ρ).Local Try.prog 32 := by
  refine local_of Try.func32 rfl (twithout_eq ws t own cap) fun ν w => ?_
  refine ok_both' ?_ (ok_every' fun s => ok_br' (fun h => ok_br' (fun h2 => ?_) fun h2 => ?_) fun h => ?_)
  · repeat' first | exact rfl | exact EntRel.ws | exact EntRel.rw rfl rfl (fun i hi => absurd hi (Nat.not_lt_zero _)) (fun i hi => absurd hi (Nat.not_lt_zero _)) | exact trivial | refine ok_chk' ?_ ?_
  · have hi : s.1.1 < ws.length := by simp only [decide_eq_true_eq] at h; omega
    have hle := woT_le ws t s.1.1
    have h2 : ((s.1.1 : Int) != t) = true := h2
    have hw : woF ws t (s.1.1 + 1) = woF ws t s.1.1 ++ [ws.getD s.1.1 (0, 0)] := by simp only [woF, h2, cond_true]
    refine ok_chk' ⟨by omega, by omega, by omega, by omega⟩ (ok_chk' ⟨by omega, by omega⟩ (ok_chk' (by omega) (ok_chk' ⟨by omega, by omega⟩ (ok_chk' ⟨rfl, rfl⟩ (ok_all' fun c hc => ?_)))))
    refine ok_some' ⟨(s.1.1 + 1, c 0), hi, by rw [hw]; simpa using hc.1, hc.2⟩ (ok_chk' (Nat.sub_lt_sub_left hi (Nat.lt_succ_self _)) (ok_chk' ?_ (ok_chk' ?_ ?_)))
    · show XV.a (.c (.sl 3 0 0 2 ((woF ws t s.1.1).length + 1) (c 0))) = XV.a (.c (.sl 3 0 0 2 (woF ws t (s.1.1 + 1)).length (c 0)))
      rw [hw, List.length_append]; try rfl
    · (rw [wrap64 (by omega) (by omega)]; try rfl)
    · refine ok_chk' rfl (ok_chk' rfl (ok_chk' rfl (ok_chk' EntRel.ws (ok_chk' ?_ trivial))))
      refine EntRel.rw (by rw [hw, List.length_append]; try rfl) rfl (fun i hi2 => ?_) fun i _ => wrow_plain _ i
      show (if i < (woF ws t s.1.1).length then wrow (woF ws t s.1.1) i else wc (ws.getD (s.1.1 : Int).toNat (0, 0))) = wrow (woF ws t (s.1.1 + 1)) i
      rw [hw, Int.toNat_natCast]
      unfold wrow
      by_cases hlt : i < (woF ws t s.1.1).length
      · rw [if_pos hlt, List.getD_eq_getElem?_getD, List.getD_eq_getElem?_getD, List.getElem?_append_left hlt]
      · have : i = (woF ws t s.1.1).length := by
          have hi2 : i < (woF ws t s.1.1).length + 1 := hi2
          omega
        rw [if_neg hlt, List.getD_eq_getElem?_getD (l := _ ++ _), List.getElem?_append_right (by omega), this, Nat.sub_self]
        rfl
  · have hi : s.1.1 < ws.length := by simp only [decide_eq_true_eq] at h; omega
    have h2 : ((s.1.1 : Int) != t) = false := h2
    have hw : woF ws t (s.1.1 + 1) = woF ws t s.1.1 := by simp only [woF, h2, cond_false]
    refine ok_some' ⟨(s.1.1 + 1, s.1.2), hi, by rw [hw]; exact s.2.2.1, s.2.2.2⟩ (ok_chk' (Nat.sub_lt_sub_left hi (Nat.lt_succ_self _)) (ok_chk' ?_ (ok_chk' ?_ ?_)))
    · show XV.a (.c (.sl 1 0 0 2 (woF ws t s.1.1).length s.1.2)) = XV.a (.c (.sl 1 0 0 2 (woF ws t (s.1.1 + 1)).length s.1.2))
      rw [hw]
    · (rw [wrap64 (by omega) (by omega)]; try rfl)
    · refine ok_chk' rfl (ok_chk' rfl (ok_chk' rfl (ok_chk' EntRel.ws (ok_chk' ?_ trivial))))
      exact EntRel.rw (by rw [hw]) rfl (fun i _ => by show wrow (woF ws t s.1.1) i = wrow (woF ws t (s.1.1 + 1)) i; rw [hw]) fun i _ => wrow_plain _ i
  · have hs : s.1.1 = ws.length := by have := s.2.1; simp only [decide_eq_false_iff_not] at h; omega
    have hq : woF ws t s.1.1 = woF ws t ws.length := congrArg (woF ws t) hs
    have hf : fitsC (woF ws t s.1.1).length fun _ => s.1.2 := ⟨s.2.2.1, s.2.2.2⟩
    have hf : fitsC (woF ws t ws.length).length fun _ => s.1.2 := by rw [← congrArg List.length hq]; exact hf
    refine ok_leaf (fun _ => s.1.2) [] [0, 1] hf (congrArg (fun l : List Wt => XV.a (.c (.sl 1 0 0 2 l.length s.1.2))) hq) ⟨⟨_, rfl, EntRel.ws⟩, ⟨_, rfl, ?_⟩, trivial⟩ rfl
    exact EntRel.rw (congrArg List.length hq).symm rfl (fun i _ => congrArg (fun l => wrow l i) hq) fun i _ => wrow_plain _ i
/-! ### Who waits no more -/
def notF (ws : List Wt) (t : Int) : List Wt := ws.filter fun x => x.1 != t
def keptF (ws : List Wt) (t : Int) (j : Nat) : List Wt := notF (ws.take j) t
def midF (ws : List Wt) (t : Int) (j : Nat) : List Wt := keptF ws t j ++ ws.drop (keptF ws t j).length
def delF (ws : List Wt) (t : Int) : List Wt := notF ws t ++ List.replicate (ws.length - (notF ws t).length) (0, 0)
def delP (ws : List Wt) (t : Int) (j : Nat) : Prop := placeF ws t 0 = -1 ∨ (0 < j ∧ j ≤ ws.length ∧ (keptF ws t j).length < j)
theorem placeF_spec (t : Int) : ∀ (ws : List Wt) (i : Nat), placeF ws t i = -1 ∧ (∀ x ∈ ws, (x.1 == t) = false) ∨ ∃ k, k < ws.length ∧ placeF ws t i = ((i + k : Nat) : Int) ∧ notF (ws.take k) t = ws.take k ∧ ((ws.getD k (0, 0)).1 == t) = true
  | [], i => .inl ⟨rfl, fun x hx => by cases hx⟩
  | x :: r, i => by
    cases hx : (x.1 == t) with
    | true => exact .inr ⟨0, by simp, by simp [placeF, hx], rfl, hx⟩
    | false =>
      rcases placeF_spec t r (i + 1) with ⟨h1, h2⟩ | ⟨k, h1, h2, h3, h4⟩
      · refine .inl ⟨by simp only [placeF, hx, cond_false]; exact h1, fun y hy => ?_⟩
        rcases List.mem_cons.1 hy with rfl | hy
        · exact hx
        · exact h2 y hy
      · refine .inr ⟨k + 1, by simpa using h1, ?_, ?_, by simpa using h4⟩
        · simp only [placeF, hx, cond_false, h2]
          congr 1
          omega
        · simp only [notF, List.take_succ_cons] at h3 ⊢
          rw [List.filter_cons, show (x.1 != t) = true by simp [bne, hx], if_pos rfl, h3]
theorem take_getD (ws : List Wt) {k : Nat} (h : k < ws.length) : ws.take (k + 1) = ws.take k ++ [ws.getD k (0, 0)] := by
  rw [List.take_succ_eq_append_getElem h, List.getD_eq_getElem?_getD, List.getElem?_eq_getElem h, Option.getD_some]
theorem keptF_succ (ws : List Wt) (t : Int) {k : Nat} (h : k < ws.length) : keptF ws t (k + 1) = if ((ws.getD k (0, 0)).1 == t) = true then keptF ws t k else keptF ws t k ++ [ws.getD k (0, 0)] := by
  unfold keptF notF
  rw [take_getD ws h, List.filter_append, List.filter_cons]
  cases hx : ((ws.getD k (0, 0)).1 == t) <;> simp only [bne, hx, Bool.not_true, Bool.not_false, if_true, if_false, List.filter_nil, List.append_nil, Bool.false_eq_true] <;> rfl
theorem keptF_le (ws : List Wt) (t : Int) (k : Nat) : (keptF ws t k).length ≤ k := by
  unfold keptF notF
  exact Nat.le_trans (List.length_filter_le _ _) (by simp; omega)
theorem delP0 (ws : List Wt) (t : Int) : delP ws t ((placeF ws t 0).toNat + 1) := by
  rcases placeF_spec t ws 0 with ⟨h1, -⟩ | ⟨k, h1, h2, h3, h4⟩
  · exact .inl h1
  · refine .inr ?_
    rw [h2]
    have : (((0 + k : Nat) : Int)).toNat = k := by simp
    rw [this]
    refine ⟨Nat.succ_pos _, h1, ?_⟩
    rw [keptF_succ ws t h1, if_pos h4]
    have := keptF_le ws t k
    omega
def delInv (ws : List Wt) (t : Int) (cap : Nat) (tm : Tm) (H : Hp) : LoopInv :=
  ⟨{j : Nat // delP ws t j}, fun j => (putAll [(5, ia (keptF ws t j.1).length), (6, ia j.1)] tm, [Ent.ws true cap (midF ws t j.1), Ent.ibox t]), fun j => ws.length - j.1, some ⟨(placeF ws t 0).toNat + 1, delP0 ws t⟩, [], .l [0, 1], [], fun _ _ => .l [0, 1]⟩
def delG (ws : List Wt) (t : Int) : Ctr := fun f args H => match args with
  | [.agg [.v (.int _ a), .v (.int _ b)], .c (.ptr r)] => some (sameC a b t [r.k])
  | [.c (.sl k _ _ _ _ cap), .c (.fn fid [r])] => some (indexC ws t true cap fid [k, r.k])
  | _ => none
def tdelete (ws : List Wt) (t : Int) (cap fid : Nat) : Tree :=
  Tree.callf 42 [AV.c (CV.sl 0 0 0 2 (List.length ws) cap), AV.c (CV.fn fid [{ k := 1, j := 0, i := 0, sz := 1, c := 0, d := 0, dn := 0, cu := 0 }])] [(Ent.ws true cap ws), (Ent.mkBox 3 [iv t])] (indexC ws t true cap fid [0, 1]) fun c => Tree.br (placeF ws t 0 == (-1 : Int))
   (Tree.done (XV.a (AV.c (CV.sl 0 0 0 2 (List.length ws) cap))) [(Ent.ws true cap ws), (Ent.mkBox 3 [iv t])])
   (Tree.both
   (Tree.chk (XV.a (AV.c (iv (placeF ws t 0))) = XV.a (AV.c (iv (↑(List.length (keptF ws t (Int.toNat (placeF ws t 0) + 1))) : Int))))
   (Tree.chk (XV.a (AV.c (iv (IntKind.wrap IntKind.i64 (placeF ws t 0 + (1 : Int))))) = XV.a (AV.c (iv (↑(Int.toNat (placeF ws t 0) + 1) : Int))))
   (Tree.chk (XV.a (AV.c (iv (IntKind.wrap IntKind.i64 (placeF ws t 0 + (1 : Int))))) = XV.a (AV.c (iv (IntKind.wrap IntKind.i64 (placeF ws t 0 + (1 : Int))))))
   (Tree.chk (XV.a (AV.c (iv (placeF ws t 0))) = XV.a (AV.c (iv (placeF ws t 0))))
   (Tree.chk (XV.a (AV.c (CV.v (Value.bool (placeF ws t 0 == (-1 : Int))))) = XV.a (AV.c (CV.v (Value.bool (placeF ws t 0 == (-1 : Int))))))
   (Tree.chk (XV.a (AV.c (iv (placeF ws t 0))) = XV.a (AV.c (iv (placeF ws t 0))))
   (Tree.chk (XV.a (AV.c (iv (placeF ws t 0))) = XV.a (AV.c (iv (placeF ws t 0))))
   (Tree.chk (XV.a (AV.c (CV.fn fid [{ k := 1, j := 0, i := 0, sz := 1, c := 0, d := 0, dn := 0, cu := 0 }])) = XV.a (AV.c (CV.fn fid [{ k := 1, j := 0, i := 0, sz := 1, c := 0, d := 0, dn := 0, cu := 0 }])))
   (Tree.chk (XV.a (AV.c (CV.sl 0 0 0 2 (List.length ws) cap)) = XV.a (AV.c (CV.sl 0 0 0 2 (List.length ws) cap)))
   (Tree.chk (XV.a (AV.c (CV.v (Value.slice none 0 0))) = XV.a (AV.c (CV.v (Value.slice none 0 0))))
   (Tree.chk (XV.a (AV.c (CV.sl 0 0 0 2 (List.length ws) cap)) = XV.a (AV.c (CV.sl 0 0 0 2 (List.length ws) cap)))
   (Tree.chk (XV.a (AV.c (CV.fn fid [{ k := 1, j := 0, i := 0, sz := 1, c := 0, d := 0, dn := 0, cu := 0 }])) = XV.a (AV.c (CV.fn fid [{ k := 1, j := 0, i := 0, sz := 1, c := 0, d := 0, dn := 0, cu := 0 }])))
   (Tree.chk (EntRel 2 [0, 1] 2 (Ent.ws true cap ws) (Ent.ws true cap (midF ws t (Int.toNat (placeF ws t 0) + 1))))
   (Tree.chk (EntRel 2 [0, 1] 2 (Ent.mkBox 3 [iv t]) (Ent.mkBox 3 [iv t]))
   (Tree.need True)))))))))))))))
   (Tree.every { j // delP ws t j } fun s => Tree.br (decide ((↑(Subtype.val s) : Int) < (↑(List.length ws) : Int)))
   (Tree.chk ((0 : Int) ≤ (↑(Subtype.val s) : Int) ∧ (↑(Subtype.val s) : Int) < (↑(List.length ws) : Int) ∧ Int.toNat (↑(Subtype.val s) : Int) < List.length (midF ws t (Subtype.val s)) ∧ 0 < 1)
   (Tree.chk (0 < 1 ∧ Int.toNat (↑(Subtype.val s) : Int) < List.length (midF ws t (Subtype.val s)))
   (Tree.callf fid [AV.agg [iv (Prod.fst (List.getD (midF ws t (Subtype.val s)) (Int.toNat (↑(Subtype.val s) : Int)) ((0 : Int), (0 : Int)))), iv (Prod.snd (List.getD (midF ws t (Subtype.val s)) (Int.toNat (↑(Subtype.val s) : Int)) ((0 : Int), (0 : Int))))], AV.c (CV.ptr { k := 1, j := 0, i := 0, sz := 1, c := 0, d := 0, dn := 0, cu := 0 })] [(Ent.ws true cap (midF ws t (Subtype.val s))), (Ent.mkBox 3 [iv t]), (Ent.mkBox 37 [iv (Prod.fst (List.getD (midF ws t (Subtype.val s)) (Int.toNat (↑(Subtype.val s) : Int)) ((0 : Int), (0 : Int)))), iv (Prod.snd (List.getD (midF ws t (Subtype.val s)) (Int.toNat (↑(Subtype.val s) : Int)) ((0 : Int), (0 : Int))))])] (sameC (Prod.fst (List.getD (midF ws t (Subtype.val s)) (Int.toNat (↑(Subtype.val s) : Int)) ((0 : Int), (0 : Int)))) (Prod.snd (List.getD (midF ws t (Subtype.val s)) (Int.toNat (↑(Subtype.val s) : Int)) ((0 : Int), (0 : Int)))) t [1]) fun c_1 => Tree.br (!Prod.fst (List.getD (midF ws t (Subtype.val s)) (Int.toNat (↑(Subtype.val s) : Int)) ((0 : Int), (0 : Int))) == t)
   (Tree.chk ((0 : Int) ≤ (↑(List.length (keptF ws t (Subtype.val s))) : Int) ∧ (↑(List.length (keptF ws t (Subtype.val s))) : Int) < (↑(List.length ws) : Int) ∧ Int.toNat (↑(List.length (keptF ws t (Subtype.val s))) : Int) < List.length (midF ws t (Subtype.val s)) ∧ 0 < 1)
   (Tree.chk (0 < 1 ∧ Int.toNat (↑(List.length (keptF ws t (Subtype.val s))) : Int) < List.length (midF ws t (Subtype.val s)))
   (Tree.some_ { j // delP ws t j } fun s' => Tree.chk (List.length ws - Subtype.val s' < List.length ws - Subtype.val s)
   (Tree.chk (XV.a (AV.c (iv (IntKind.wrap IntKind.i64 ((↑(List.length (keptF ws t (Subtype.val s))) : Int) + (1 : Int))))) = XV.a (AV.c (iv (↑(List.length (keptF ws t (Subtype.val s'))) : Int))))
   (Tree.chk (XV.a (AV.c (iv (IntKind.wrap IntKind.i64 ((↑(Subtype.val s) : Int) + (1 : Int))))) = XV.a (AV.c (iv (↑(Subtype.val s') : Int))))
   (Tree.chk (XV.a (AV.c (iv (IntKind.wrap IntKind.i64 (placeF ws t 0 + (1 : Int))))) = XV.a (AV.c (iv (IntKind.wrap IntKind.i64 (placeF ws t 0 + (1 : Int))))))
   (Tree.chk (XV.a (AV.c (iv (placeF ws t 0))) = XV.a (AV.c (iv (placeF ws t 0))))
   (Tree.chk (XV.a (AV.c (CV.v (Value.bool (placeF ws t 0 == (-1 : Int))))) = XV.a (AV.c (CV.v (Value.bool (placeF ws t 0 == (-1 : Int))))))
   (Tree.chk (XV.a (AV.c (iv (placeF ws t 0))) = XV.a (AV.c (iv (placeF ws t 0))))
   (Tree.chk (XV.a (AV.c (iv (placeF ws t 0))) = XV.a (AV.c (iv (placeF ws t 0))))
   (Tree.chk (XV.a (AV.c (CV.fn fid [{ k := 1, j := 0, i := 0, sz := 1, c := 0, d := 0, dn := 0, cu := 0 }])) = XV.a (AV.c (CV.fn fid [{ k := 1, j := 0, i := 0, sz := 1, c := 0, d := 0, dn := 0, cu := 0 }])))
   (Tree.chk (XV.a (AV.c (CV.sl 0 0 0 2 (List.length ws) cap)) = XV.a (AV.c (CV.sl 0 0 0 2 (List.length ws) cap)))
   (Tree.chk (XV.a (AV.c (CV.v (Value.slice none 0 0))) = XV.a (AV.c (CV.v (Value.slice none 0 0))))
   (Tree.chk (XV.a (AV.c (CV.sl 0 0 0 2 (List.length ws) cap)) = XV.a (AV.c (CV.sl 0 0 0 2 (List.length ws) cap)))
   (Tree.chk (XV.a (AV.c (CV.fn fid [{ k := 1, j := 0, i := 0, sz := 1, c := 0, d := 0, dn := 0, cu := 0 }])) = XV.a (AV.c (CV.fn fid [{ k := 1, j := 0, i := 0, sz := 1, c := 0, d := 0, dn := 0, cu := 0 }])))
   (Tree.chk (EntRel 3 [0, 1] 2 { own := true, box := false, ty := 37, sz := 2, m := 1, n := fun a => List.length (midF ws t (Subtype.val s)), cap := fun a => cap, f := fun a a_1 => [iv (Prod.fst (List.getD (midF ws t (Subtype.val s)) a_1 ((0 : Int), (0 : Int)))), iv (Prod.snd (List.getD (midF ws t (Subtype.val s)) a_1 ((0 : Int), (0 : Int))))], ov := [(33, 0, Int.toNat (↑(List.length (keptF ws t (Subtype.val s))) : Int), [iv (Prod.fst (List.getD (midF ws t (Subtype.val s)) (Int.toNat (↑(Subtype.val s) : Int)) ((0 : Int), (0 : Int)))), iv (Prod.snd (List.getD (midF ws t (Subtype.val s)) (Int.toNat (↑(Subtype.val s) : Int)) ((0 : Int), (0 : Int))))])] } (Ent.ws true cap (midF ws t (Subtype.val s'))))
   (Tree.chk (EntRel 3 [0, 1] 2 (Ent.mkBox 3 [iv t]) (Ent.mkBox 3 [iv t]))
   (Tree.need True))))))))))))))))))
   (Tree.some_ { j // delP ws t j } fun s' => Tree.chk (List.length ws - Subtype.val s' < List.length ws - Subtype.val s)
   (Tree.chk (XV.a (AV.c (iv (↑(List.length (keptF ws t (Subtype.val s))) : Int))) = XV.a (AV.c (iv (↑(List.length (keptF ws t (Subtype.val s'))) : Int))))
   (Tree.chk (XV.a (AV.c (iv (IntKind.wrap IntKind.i64 ((↑(Subtype.val s) : Int) + (1 : Int))))) = XV.a (AV.c (iv (↑(Subtype.val s') : Int))))
   (Tree.chk (XV.a (AV.c (iv (IntKind.wrap IntKind.i64 (placeF ws t 0 + (1 : Int))))) = XV.a (AV.c (iv (IntKind.wrap IntKind.i64 (placeF ws t 0 + (1 : Int))))))
   (Tree.chk (XV.a (AV.c (iv (placeF ws t 0))) = XV.a (AV.c (iv (placeF ws t 0))))
   (Tree.chk (XV.a (AV.c (CV.v (Value.bool (placeF ws t 0 == (-1 : Int))))) = XV.a (AV.c (CV.v (Value.bool (placeF ws t 0 == (-1 : Int))))))
   (Tree.chk (XV.a (AV.c (iv (placeF ws t 0))) = XV.a (AV.c (iv (placeF ws t 0))))
   (Tree.chk (XV.a (AV.c (iv (placeF ws t 0))) = XV.a (AV.c (iv (placeF ws t 0))))
   (Tree.chk (XV.a (AV.c (CV.fn fid [{ k := 1, j := 0, i := 0, sz := 1, c := 0, d := 0, dn := 0, cu := 0 }])) = XV.a (AV.c (CV.fn fid [{ k := 1, j := 0, i := 0, sz := 1, c := 0, d := 0, dn := 0, cu := 0 }])))
   (Tree.chk (XV.a (AV.c (CV.sl 0 0 0 2 (List.length ws) cap)) = XV.a (AV.c (CV.sl 0 0 0 2 (List.length ws) cap)))
   (Tree.chk (XV.a (AV.c (CV.v (Value.slice none 0 0))) = XV.a (AV.c (CV.v (Value.slice none 0 0))))
   (Tree.chk (XV.a (AV.c (CV.sl 0 0 0 2 (List.length ws) cap)) = XV.a (AV.c (CV.sl 0 0 0 2 (List.length ws) cap)))
   (Tree.chk (XV.a (AV.c (CV.fn fid [{ k := 1, j := 0, i := 0, sz := 1, c := 0, d := 0, dn := 0, cu := 0 }])) = XV.a (AV.c (CV.fn fid [{ k := 1, j := 0, i := 0, sz := 1, c := 0, d := 0, dn := 0, cu := 0 }])))
   (Tree.chk (EntRel 3 [0, 1] 2 (Ent.ws true cap (midF ws t (Subtype.val s))) (Ent.ws true cap (midF ws t (Subtype.val s'))))
   (Tree.chk (EntRel 3 [0, 1] 2 (Ent.mkBox 3 [iv t]) (Ent.mkBox 3 [iv t]))
   (Tree.need True)))))))))))))))))))
   (Tree.chk ((0 : Int) ≤ (↑(List.length ws) : Int) ∧ (↑(List.length ws) : Int) ≤ (↑cap : Int))
   (Tree.chk ((0 : Int) ≤ (↑(List.length (keptF ws t (Subtype.val s))) : Int) ∧ (↑(List.length (keptF ws t (Subtype.val s))) : Int) ≤ (↑(List.length ws) : Int))
   (Tree.br (decide (cap = Int.toNat (↑(List.length (keptF ws t (Subtype.val s))) : Int)))
   (Tree.chk (0 < 1 ∧ 0 + (Int.toNat (↑(List.length ws) : Int) - Int.toNat (↑(List.length (keptF ws t (Subtype.val s))) : Int)) ≤ List.length (midF ws t (Subtype.val s)))
   (Tree.chk ((0 : Int) ≤ (↑(List.length (keptF ws t (Subtype.val s))) : Int) ∧ (↑(List.length (keptF ws t (Subtype.val s))) : Int) ≤ (↑cap : Int))
   (Tree.done (XV.a (AV.c (CV.sl 0 0 0 2 (Int.toNat (↑(List.length (keptF ws t (Subtype.val s))) : Int)) cap))) [{ own := true, box := false, ty := 37, sz := 2, m := 1, n := fun a => List.length (midF ws t (Subtype.val s)), cap := fun a => cap, f := fun j' i => if j' = 0 ∧ 0 ≤ i ∧ i < 0 + (Int.toNat (↑(List.length ws) : Int) - Int.toNat (↑(List.length (keptF ws t (Subtype.val s))) : Int)) then List.map CV.v [Value.int IntKind.i64 (0 : Int), Value.int IntKind.i64 (0 : Int)] else [iv (Prod.fst (List.getD (midF ws t (Subtype.val s)) i ((0 : Int), (0 : Int)))), iv (Prod.snd (List.getD (midF ws t (Subtype.val s)) i ((0 : Int), (0 : Int))))], ov := [] }, (Ent.mkBox 3 [iv t])])))
   (Tree.chk (0 < 1 ∧ Int.toNat (↑(List.length (keptF ws t (Subtype.val s))) : Int) + (Int.toNat (↑(List.length ws) : Int) - Int.toNat (↑(List.length (keptF ws t (Subtype.val s))) : Int)) ≤ List.length (midF ws t (Subtype.val s)))
   (Tree.chk ((0 : Int) ≤ (↑(List.length (keptF ws t (Subtype.val s))) : Int) ∧ (↑(List.length (keptF ws t (Subtype.val s))) : Int) ≤ (↑cap : Int))
   (Tree.done (XV.a (AV.c (CV.sl 0 0 0 2 (Int.toNat (↑(List.length (keptF ws t (Subtype.val s))) : Int)) cap))) [{ own := true, box := false, ty := 37, sz := 2, m := 1, n := fun a => List.length (midF ws t (Subtype.val s)), cap := fun a => cap, f := fun j' i => if j' = 0 ∧ Int.toNat (↑(List.length (keptF ws t (Subtype.val s))) : Int) ≤ i ∧ i < Int.toNat (↑(List.length (keptF ws t (Subtype.val s))) : Int) + (Int.toNat (↑(List.length ws) : Int) - Int.toNat (↑(List.length (keptF ws t (Subtype.val s))) : Int)) then List.map CV.v [Value.int IntKind.i64 (0 : Int), Value.int IntKind.i64 (0 : Int)] else [iv (Prod.fst (List.getD (midF ws t (Subtype.val s)) i ((0 : Int), (0 : Int)))), iv (Prod.snd (List.getD (midF ws t (Subtype.val s)) i ((0 : Int), (0 : Int))))], ov := [] }, (Ent.mkBox 3 [iv t])]))))))))
theorem tdelete_eq (ws : List Wt) (t : Int) (cap fid : Nat) : xfunc tab (delG ws t) (lpI fun _ tm H => (delInv ws t cap tm H)) Go.Proofs.Try.f40 [.c (.sl 0 0 0 2 ws.length cap), .c (.fn fid [bref 1 1])] [Ent.ws true cap ws, Ent.ibox t] [0, 1] = tdelete ws t cap fid := by kernel_rfl
end Go.Proofs.Ytnenbngjdekegaa.X

/- The model: who waits no more, proved. -/
set_option linter.unusedVariables false
set_option linter.unusedSimpArgs false
namespace Go.Proofs.Ytnenbngjdekegaa.X
open Go Go.RowKit Go.Proofs.YtnenbngjdekegaaW.PrintWords Go.Proofs.Ytnenbngjdekegaa.Base
theorem midF_length (ws : List Wt) (t : Int) {j : Nat} (hj : j ≤ ws.length) : (midF ws t j).length = ws.length := by
  have := keptF_le ws t j
  unfold midF
  simp only [List.length_append, List.length_drop]
  omega
theorem midF_get (ws : List Wt) (t : Int) {j i : Nat} (hi : (keptF ws t j).length ≤ i) : (midF ws t j).getD i (0, 0) = ws.getD i (0, 0) := by
  unfold midF
  rw [List.getD_eq_getElem?_getD, List.getElem?_append_right hi, List.getElem?_drop, List.getD_eq_getElem?_getD]
  congr 2
  omega
theorem midF_set (ws : List Wt) (t : Int) {j : Nat} (hj : j < ws.length) (hx : ((ws.getD j (0, 0)).1 == t) = false) (i : Nat) : (midF ws t (j + 1)).getD i (0, 0) = if i = (keptF ws t j).length then ws.getD j (0, 0) else (midF ws t j).getD i (0, 0) := by
  have hk : keptF ws t (j + 1) = keptF ws t j ++ [ws.getD j (0, 0)] := by rw [keptF_succ ws t hj, hx]; try rfl
  unfold midF
  rw [hk]
  simp only [List.getD_eq_getElem?_getD, List.length_append, List.length_singleton, List.append_assoc]
  by_cases h1 : i < (keptF ws t j).length
  · rw [if_neg (by omega), List.getElem?_append_left h1, List.getElem?_append_left h1]
  · by_cases h2 : i = (keptF ws t j).length
    · subst h2
      rw [if_pos rfl, List.getElem?_append_right (Nat.le_refl _), Nat.sub_self]
      rfl
    · rw [if_neg h2, List.getElem?_append_right (by omega), List.getElem?_append_right (by simp; omega), List.getElem?_append_right (by omega)]
      simp only [List.getElem?_drop, List.length_singleton]
      congr 2
      omega
theorem delF_get (ws : List Wt) (t : Int) {i : Nat} : (delF ws t).getD i (0, 0) = if i < (notF ws t).length then (notF ws t).getD i (0, 0) else (0, 0) := by
  unfold delF
  by_cases h : i < (notF ws t).length
  · rw [if_pos h, List.getD_eq_getElem?_getD, List.getElem?_append_left h, ← List.getD_eq_getElem?_getD]
  · rw [if_neg h, List.getD_eq_getElem?_getD, List.getElem?_append_right (by omega), List.getElem?_replicate]
    split <;> rfl
theorem delF_length (ws : List Wt) (t : Int) : (delF ws t).length = ws.length := by
  have : (notF ws t).length ≤ ws.length := List.length_filter_le _ _
  unfold delF
  simp
  omega
theorem keptF_all (ws : List Wt) (t : Int) : keptF ws t ws.length = notF ws t := by unfold keptF; rw [List.take_length]
def deleteC (ws : List Wt) (t : Int) (cap fid : Nat) (ρ : List Nat) : CallSpec := ⟨[], ρ, [.c (.sl 0 0 0 2 ws.length cap), .c (.fn fid [bref 1 1])], [Ent.ws true cap ws, Ent.ibox t], fun _ => True, fun _ => .a (.c (.sl 0 0 0 2 (notF ws t).length cap)), fun _ => [Ent.ws true cap (delF ws t), Ent.ibox t], fun _ => .a (.c (.sl (ρ.getD 0 0) 0 0 2 (notF ws t).length cap)), fun _ => [Ent.ws true cap (delF ws t), Ent.ibox t], [], []⟩
theorem index_call : Callable Try.prog 42 := ⟨_, Try.func42, by kernel_rfl, rfl⟩
theorem delete_local (ws : List Wt) (t : Int) (cap fid : Nat) (ρ : List Nat) (hl : ws.length ≤ 1000000) (hc : ws.length ≤ cap) (hf : Same t fid) : (deleteC ws t cap fid ρ).Local Try.prog 40 := by
  refine local_of Try.func40 rfl (tdelete_eq ws t cap fid) fun ν w => ?_
  refine ok_callf' index_call (fits_of rfl rfl ⟨⟨_, rfl, EntRel.ws⟩, ⟨_, rfl, EntRel.box' rfl rfl rfl rfl rfl⟩, trivial⟩ fun c _ => ⟨⟨Nat.le_refl _, rfl⟩, ⟨rfl, rfl⟩, ⟨⟨EntRel.ws, rfl, (fun h => by cases h), .inr rfl⟩, ⟨EntRel.box' rfl rfl rfl rfl rfl, rfl, (fun _ => ⟨rfl, rfl⟩), .inr rfl⟩, trivial⟩⟩) (index_local ws t true cap fid _ (by omega) hf) fun c _ => ok_br' (fun h => ?_) fun h => ?_
  · rcases placeF_spec t ws 0 with ⟨h1, h2⟩ | ⟨k, h1, h2, h3, h4⟩
    · have hn : notF ws t = ws := List.filter_eq_self.2 fun x hx => by simp [bne, h2 x hx]
      have hd : delF ws t = ws := by unfold delF; rw [hn]; simp
      refine ok_leaf (fun _ => 0) [] [0, 1] trivial ?_ ⟨⟨_, rfl, EntRel.rw (by rw [hd]) rfl (fun i _ => by rw [hd]; try rfl) fun i _ => wrow_plain _ i⟩, ⟨_, rfl, EntRel.box' rfl rfl rfl rfl rfl⟩, trivial⟩ rfl
      show XV.a (.c (.sl 0 0 0 2 ws.length cap)) = .a (.c (.sl 0 0 0 2 (notF ws t).length cap))
      rw [hn]
    · rw [h2] at h
      simp at h
  · have hk : ∃ k, k < ws.length ∧ placeF ws t 0 = (k : Int) ∧ keptF ws t k = ws.take k ∧ ((ws.getD k (0, 0)).1 == t) = true := by
      rcases placeF_spec t ws 0 with ⟨h1, -⟩ | ⟨k, h1, h2, h3, h4⟩
      · rw [h1] at h; cases h
      · exact ⟨k, h1, by rw [h2]; simp, h3, h4⟩
    obtain ⟨k, k1, k2, k3, k4⟩ := hk
    have hk1 : keptF ws t (k + 1) = ws.take k := by rw [keptF_succ ws t k1, if_pos k4, k3]
    have hmid : midF ws t (k + 1) = ws := by
      unfold midF
      rw [hk1, List.length_take, Nat.min_eq_left (by omega), List.take_append_drop]
    refine ok_both' ?_ (ok_every' fun s => ?_)
    · have e1 : (placeF ws t 0).toNat + 1 = k + 1 := by rw [k2]; simp
      refine ok_chk' ?_ (ok_chk' ?_ ?_)
      · rw [e1, hk1, k2, List.length_take, Nat.min_eq_left (by omega)]
      · rw [e1, k2, wrap64 (by omega) (by omega)]; try rfl
      · repeat' first | exact rfl | exact EntRel.box' rfl rfl rfl rfl rfl | exact trivial | refine ok_chk' ?_ ?_
        exact EntRel.rw (by rw [e1, hmid]) rfl (fun i _ => by rw [e1, hmid]) fun i _ => wrow_plain _ i
    · obtain ⟨s1, s2, s3⟩ : 0 < s.1 ∧ s.1 ≤ ws.length ∧ (keptF ws t s.1).length < s.1 := by
        rcases s.2 with hs | hs
        · rw [k2] at hs; omega
        · exact hs
      have hml := midF_length ws t s2
      refine ok_br' (fun h2 => ?_) fun h2 => ?_
      · have hj : s.1 < ws.length := by simp only [decide_eq_true_eq] at h2; omega
        have hkl := keptF_le ws t (s.1 + 1)
        have hg : (midF ws t s.1).getD ((s.1 : Int)).toNat (0, 0) = ws.getD s.1 (0, 0) := by rw [Int.toNat_natCast]; exact midF_get ws t (by omega)
        refine ok_chk' ⟨by omega, by omega, by omega, by omega⟩ (ok_chk' ⟨by omega, by omega⟩ ?_)
        refine ok_callf' hf.1 (fits_of rfl rfl ⟨⟨_, rfl, EntRel.box' rfl rfl rfl rfl rfl⟩, trivial⟩ fun c _ => ⟨⟨Nat.le_refl _, rfl⟩, ⟨rfl, rfl⟩, ⟨⟨EntRel.box' rfl rfl rfl rfl rfl, rfl, (fun _ => ⟨rfl, rfl⟩), .inr rfl⟩, trivial⟩⟩) (hf.2 _ _ _) fun c _ => ok_br' (fun h3 => ?_) fun h3 => ?_
        all_goals rw [hg] at h3
        · have h3 : ((ws.getD s.1 (0, 0)).1 == t) = false := by simpa using h3
          have hk2 : keptF ws t (s.1 + 1) = keptF ws t s.1 ++ [ws.getD s.1 (0, 0)] := by rw [keptF_succ ws t hj, h3]; try rfl
          refine ok_chk' ⟨by omega, by omega, by omega, by omega⟩ (ok_chk' ⟨by omega, by omega⟩ ?_)
          refine ok_some' ⟨s.1 + 1, .inr ⟨Nat.succ_pos _, hj, by rw [hk2]; simp; omega⟩⟩ (ok_chk' (Nat.sub_lt_sub_left hj (Nat.lt_succ_self _)) (ok_chk' ?_ (ok_chk' ?_ ?_)))
          · show XV.a (.c (.v (.int .i64 (IntKind.wrap .i64 (((keptF ws t s.1).length : Int) + 1))))) = ia ((keptF ws t (s.1 + 1)).length : Int)
            rw [hk2, wrap64 (by omega) (by omega), List.length_append]; try rfl
          · (rw [wrap64 (by omega) (by omega)]; try rfl)
          · repeat' first | exact rfl | exact EntRel.box' rfl rfl rfl rfl rfl | exact trivial | refine ok_chk' ?_ ?_
            refine EntRel.plain rfl rfl rfl rfl (fun h => by cases h) (fun _ _ => ⟨(midF_length ws t hj).trans hml.symm, rfl⟩) fun j' hj' i _ => ⟨?_, wrow_plain _ i⟩
            have hj0 : j' = 0 := Nat.lt_one_iff.1 hj'
            show (if j' = 0 ∧ i = ((keptF ws t s.1).length : Int).toNat then wc ((midF ws t s.1).getD ((s.1 : Int)).toNat (0, 0)) else wc ((midF ws t s.1).getD i (0, 0))) = wc ((midF ws t (s.1 + 1)).getD i (0, 0))
            rw [hg, midF_set ws t hj h3 i, Int.toNat_natCast]
            by_cases hi : i = (keptF ws t s.1).length
            · rw [if_pos ⟨hj0, hi⟩, if_pos hi]
            · rw [if_neg (fun hh => hi hh.2), if_neg hi]
        · have h3 : ((ws.getD s.1 (0, 0)).1 == t) = true := by simpa using h3
          have hk2 : keptF ws t (s.1 + 1) = keptF ws t s.1 := by rw [keptF_succ ws t hj, if_pos h3]
          have hm2 : midF ws t (s.1 + 1) = midF ws t s.1 := by unfold midF; rw [hk2]
          refine ok_some' ⟨s.1 + 1, .inr ⟨Nat.succ_pos _, hj, by rw [hk2]; omega⟩⟩ (ok_chk' (Nat.sub_lt_sub_left hj (Nat.lt_succ_self _)) (ok_chk' ?_ (ok_chk' ?_ ?_)))
          · show ia ((keptF ws t s.1).length : Int) = ia ((keptF ws t (s.1 + 1)).length : Int)
            rw [hk2]
          · (rw [wrap64 (by omega) (by omega)]; try rfl)
          · repeat' first | exact rfl | exact EntRel.box' rfl rfl rfl rfl rfl | exact trivial | refine ok_chk' ?_ ?_
            exact EntRel.rw (congrArg List.length hm2) rfl (fun i _ => by show wrow (midF ws t s.1) i = wrow (midF ws t (s.1 + 1)) i; rw [hm2]) fun i _ => wrow_plain _ i
      · have hj : s.1 = ws.length := by simp only [decide_eq_false_iff_not] at h2; omega
        have hkn : keptF ws t s.1 = notF ws t := by rw [hj]; exact keptF_all ws t
        have hle : (notF ws t).length ≤ ws.length := List.length_filter_le _ _
        have hx : XV.a (.c (.sl 0 0 0 2 ((keptF ws t s.1).length : Int).toNat cap)) = .a (.c (.sl 0 0 0 2 (notF ws t).length cap)) := by rw [hkn, Int.toNat_natCast]
        have hrow : ∀ i lo, i < ws.length → lo = (notF ws t).length ∨ (lo = 0 ∧ cap = (notF ws t).length) → (if (0 : Nat) = 0 ∧ lo ≤ i ∧ i < lo + (((ws.length : Int)).toNat - ((keptF ws t s.1).length : Int).toNat) then wc (0, 0) else wc ((midF ws t s.1).getD i (0, 0))) = wc ((delF ws t).getD i (0, 0)) := fun i lo hi hlo => by
          rw [hkn, Int.toNat_natCast, Int.toNat_natCast, delF_get]
          by_cases h5 : i < (notF ws t).length
          · rw [if_neg (by omega), if_pos h5]
            unfold midF
            rw [hkn, List.getD_eq_getElem?_getD, List.getElem?_append_left h5, ← List.getD_eq_getElem?_getD]
          · rw [if_pos (by omega), if_neg h5]
        refine ok_chk' ⟨by omega, by omega⟩ (ok_chk' ⟨by omega, by rw [hkn]; omega⟩ (ok_br' (fun h5 => ?_) fun h5 => ?_))
        · have h5 : cap = (notF ws t).length := by simp only [decide_eq_true_eq, hkn, Int.toNat_natCast] at h5; exact h5
          refine ok_chk' ⟨by omega, by rw [hml]; omega⟩ (ok_chk' ⟨by omega, by rw [hkn]; omega⟩ ?_)
          exact ok_leaf (fun _ => 0) [] [0, 1] trivial hx ⟨⟨_, rfl, EntRel.plain rfl rfl rfl rfl (fun h => by cases h) (fun _ _ => ⟨(delF_length ws t).trans hml.symm, rfl⟩) fun j' hj' i hi => ⟨(Nat.lt_one_iff.1 hj') ▸ hrow i 0 (hml ▸ hi) (.inr ⟨rfl, h5⟩), wrow_plain _ i⟩⟩, ⟨_, rfl, EntRel.box' rfl rfl rfl rfl rfl⟩, trivial⟩ rfl
        · refine ok_chk' ⟨by omega, by rw [hml, hkn]; omega⟩ (ok_chk' ⟨by omega, by rw [hkn]; omega⟩ ?_)
          exact ok_leaf (fun _ => 0) [] [0, 1] trivial hx ⟨⟨_, rfl, EntRel.plain rfl rfl rfl rfl (fun h => by cases h) (fun _ _ => ⟨(delF_length ws t).trans hml.symm, rfl⟩) fun j' hj' i hi => ⟨(Nat.lt_one_iff.1 hj') ▸ hrow i _ (hml ▸ hi) (.inl (by rw [hkn, Int.toNat_natCast])), wrow_plain _ i⟩⟩, ⟨_, rfl, EntRel.box' rfl rfl rfl rfl rfl⟩, trivial⟩ rfl
end Go.Proofs.Ytnenbngjdekegaa.X

/- The model: signals, locks: trees. -/
set_option linter.unusedVariables false
set_option linter.unusedSimpArgs false
namespace Go.Proofs.Ytnenbngjdekegaa.X
open Go Go.RowKit Go.Proofs.YtnenbngjdekegaaW.PrintWords Go.Proofs.Ytnenbngjdekegaa.Base
def slLN : List CV → Nat × Nat
  | [_, _, _, _, _, _, _, _, _, _, _, _, .sl _ _ lo _ n _, _, _] => (lo, n)
  | _ => (0, 0)
abbrev SigT : Type := Thg × (Nat × Nat) × Bool
def thgL : XV → SigT
  | .tup [.agg l, .c (.v (.bool b))] => (thgOf l, slLN l, b)
  | _ => (thgOf [], (0, 0), false)
def signalG (ws : List Wt) (t : Int) : Ctr := fun f args H => match args with
  | [.agg l, .c (.v (.int _ t))] => some (waitsC (thgOf l) ws t true (slCap l) [slK l])
  | [.c (.sl k _ _ _ _ cap), .c (.fn fid [r])] => some (deleteC ws t cap fid [k, r.k])
  | _ => none
def tsignal (x : Thg) (t k v : Int) (ws : List Wt) (cap : Nat) : Tree :=
  Tree.br (k == (11 : Int))
   (Tree.chk ((!!x.3 == t) = true → (!!x.3 == t) = true)
   (Tree.chk ((!!x.3 == t) = true → (!!x.3 == t) = true)
   (Tree.chk ((!!x.3 == t) = true → (!!x.3 == t) = true)
   (Tree.chk ((!x.3 == t) = false → (!!x.3 == t) = true)
   (Tree.chk ((!bif !x.3 == t then true else (↑(List.length ws) : Int) == (0 : Int)) = true → (!bif !x.3 == t then true else (↑(List.length ws) : Int) == (0 : Int)) = true)
   (Tree.chk ((!bif !x.3 == t then true else (↑(List.length ws) : Int) == (0 : Int)) = true → (!bif !x.3 == t then true else (↑(List.length ws) : Int) == (0 : Int)) = true)
   (Tree.chk ((!bif !x.3 == t then true else (↑(List.length ws) : Int) == (0 : Int)) = true → (0 : Int) ≤ (0 : Int) ∧ (0 : Int) < (↑(List.length ws) : Int) ∧ Int.toNat (0 : Int) < List.length ws ∧ 0 < 1)
   (Tree.chk ((!bif !x.3 == t then true else (↑(List.length ws) : Int) == (0 : Int)) = true → (!bif !x.3 == t then true else (↑(List.length ws) : Int) == (0 : Int)) = true)
   (Tree.chk ((!bif !x.3 == t then true else (↑(List.length ws) : Int) == (0 : Int)) = true → (!bif !x.3 == t then true else (↑(List.length ws) : Int) == (0 : Int)) = true)
   (Tree.chk ((!bif !x.3 == t then true else (↑(List.length ws) : Int) == (0 : Int)) = true → 0 < 1 ∧ Int.toNat (0 : Int) < List.length ws)
   (Tree.chk ((!bif !x.3 == t then true else (↑(List.length ws) : Int) == (0 : Int)) = true → (!bif !x.3 == t then true else (↑(List.length ws) : Int) == (0 : Int)) = true)
   (Tree.chk ((!bif !x.3 == t then true else (↑(List.length ws) : Int) == (0 : Int)) = true → (!bif !x.3 == t then true else (↑(List.length ws) : Int) == (0 : Int)) = true)
   (Tree.chk ((!bif !x.3 == t then true else (↑(List.length ws) : Int) == (0 : Int)) = true → (!bif !x.3 == t then true else (↑(List.length ws) : Int) == (0 : Int)) = true)
   (Tree.chk ((bif !x.3 == t then true else (↑(List.length ws) : Int) == (0 : Int)) = false → (!bif !x.3 == t then true else (↑(List.length ws) : Int) == (0 : Int)) = true)
   (Tree.br (bif bif !x.3 == t then true else (↑(List.length ws) : Int) == (0 : Int) then true else Prod.fst (List.getD ws (Int.toNat (0 : Int)) ((0 : Int), (0 : Int))) != v)
   (Tree.done (XV.tup [AV.agg [iv x.1, iv x.2, iv x.3, iv x.4, iv x.5, iv x.6, iv x.7, iv x.8, iv x.9, iv x.10, iv x.11, iv x.12, CV.sl 0 0 0 2 (List.length ws) cap, iv x.13, iv x.14], AV.c (CV.v (Value.bool false))]) [(Ent.ws true cap ws), Ent.dead, Ent.dead, Ent.dead, Ent.dead])
   (Tree.chk ((0 : Int) ≤ (↑(List.length ws) : Int) ∧ (↑(List.length ws) : Int) ≤ (↑cap : Int))
   (Tree.chk ((0 : Int) ≤ (1 : Int) ∧ (1 : Int) ≤ (↑(List.length ws) : Int))
   (Tree.br (decide (cap = Int.toNat (1 : Int)))
   (Tree.done (XV.tup [AV.agg [iv x.1, iv x.2, iv x.3, iv x.4, iv x.5, iv x.6, iv x.7, iv x.8, iv x.9, iv x.10, iv x.11, iv x.12, CV.sl 0 0 0 2 (Int.toNat (↑(List.length ws) : Int) - Int.toNat (1 : Int)) (cap - Int.toNat (1 : Int)), iv x.13, iv x.14], AV.c (CV.v (Value.bool true))]) [(Ent.ws true cap ws), Ent.dead, Ent.dead, Ent.dead, Ent.dead])
   (Tree.done (XV.tup [AV.agg [iv x.1, iv x.2, iv x.3, iv x.4, iv x.5, iv x.6, iv x.7, iv x.8, iv x.9, iv x.10, iv x.11, iv x.12, CV.sl 0 0 1 2 (Int.toNat (↑(List.length ws) : Int) - Int.toNat (1 : Int)) (cap - Int.toNat (1 : Int)), iv x.13, iv x.14], AV.c (CV.v (Value.bool true))]) [(Ent.ws true cap ws), Ent.dead, Ent.dead, Ent.dead, Ent.dead])))))))))))))))))))
   (Tree.br (k == (12 : Int))
   (Tree.chk ((x.3 == t) = true → (x.3 == t) = true)
   (Tree.chk ((x.3 == t) = true → (x.3 == t) = true)
   (Tree.chk ((x.3 == t) = true → (x.3 == t) = true)
   (Tree.chk ((x.3 == t) = true → (x.3 == t) = true)
   (Tree.chk ((bif x.3 == t then (↑(List.length ws) : Int) == (0 : Int) else false) = true → (bif x.3 == t then (↑(List.length ws) : Int) == (0 : Int) else false) = true)
   (Tree.chk ((bif x.3 == t then (↑(List.length ws) : Int) == (0 : Int) else false) = true → (bif x.3 == t then (↑(List.length ws) : Int) == (0 : Int) else false) = true)
   (Tree.chk ((bif x.3 == t then (↑(List.length ws) : Int) == (0 : Int) else false) = true → (bif x.3 == t then (↑(List.length ws) : Int) == (0 : Int) else false) = true)
   (Tree.chk ((bif x.3 == t then (↑(List.length ws) : Int) == (0 : Int) else false) = true → (bif x.3 == t then (↑(List.length ws) : Int) == (0 : Int) else false) = true)
   (Tree.chk (AV.c (CV.v (Value.bool (bif bif x.3 == t then (↑(List.length ws) : Int) == (0 : Int) else false then v == (0 : Int) else false))) = AV.c (CV.v (Value.bool (bif bif x.3 == t then (↑(List.length ws) : Int) == (0 : Int) else false then v == (0 : Int) else false))))
   (Tree.chk ((bif x.3 == t then (↑(List.length ws) : Int) == (0 : Int) else false) = true → (bif x.3 == t then (↑(List.length ws) : Int) == (0 : Int) else false) = true)
   (Tree.chk ((bif x.3 == t then (↑(List.length ws) : Int) == (0 : Int) else false) = true → AV.c (CV.v (Value.bool (v == (0 : Int)))) = AV.c (CV.v (Value.bool (v == (0 : Int)))))
   (Tree.chk ((bif x.3 == t then (↑(List.length ws) : Int) == (0 : Int) else false) = true → (bif x.3 == t then (↑(List.length ws) : Int) == (0 : Int) else false) = true)
   (Tree.chk ((bif x.3 == t then (↑(List.length ws) : Int) == (0 : Int) else false) = true → AV.c (iv v) = AV.c (iv v))
   (Tree.chk ((bif x.3 == t then (↑(List.length ws) : Int) == (0 : Int) else false) = true → AV.c (CV.ptr { k := 3, j := 0, i := 0, sz := 2, c := 1, d := 0, dn := 0, cu := 0 }) = AV.c (CV.ptr { k := 3, j := 0, i := 0, sz := 2, c := 1, d := 0, dn := 0, cu := 0 }))
   (Tree.done (XV.tup [AV.agg [iv x.1, iv x.2, iv x.3, iv x.4, iv x.5, iv x.6, iv x.7, iv x.8, iv x.9, iv x.10, iv x.11, iv x.12, CV.sl 0 0 0 2 (List.length ws) cap, iv x.13, iv x.14], AV.c (CV.v (Value.bool (bif bif x.3 == t then (↑(List.length ws) : Int) == (0 : Int) else false then v == (0 : Int) else false)))]) [(Ent.ws true cap ws), Ent.dead, Ent.dead, Ent.dead, Ent.dead])))))))))))))))
   (Tree.br (k == (13 : Int))
   (Tree.callf 34 [AV.agg [iv x.1, iv x.2, iv x.3, iv x.4, iv x.5, iv x.6, iv x.7, iv x.8, iv x.9, iv x.10, iv x.11, iv x.12, CV.sl 0 0 0 2 (List.length ws) cap, iv x.13, iv x.14], AV.c (iv t)] [(Ent.ws true cap ws), (Ent.mkBox 25 [iv x.1, iv x.2, iv x.3, iv x.4, iv x.5, iv x.6, iv x.7, iv x.8, iv x.9, iv x.10, iv x.11, iv x.12, CV.sl 0 0 0 2 (List.length ws) cap, iv x.13, iv x.14]), (Ent.mkBox 3 [iv t]), (Ent.mkBox 29 [iv k, iv v]), (Ent.mkBox 25 [iv (0 : Int), iv (0 : Int), iv (0 : Int), iv (0 : Int), iv (0 : Int), iv (0 : Int), iv (0 : Int), iv (0 : Int), iv (0 : Int), iv (0 : Int), iv (0 : Int), iv (0 : Int), CV.v (Value.slice none 0 0), iv (0 : Int), iv (0 : Int)])] (waitsC x ws t true cap [0]) fun c => Tree.chk (decide (placeF ws t 0 ≥ (0 : Int)) = true → decide (placeF ws t 0 ≥ (0 : Int)) = true)
   (Tree.chk (decide (placeF ws t 0 ≥ (0 : Int)) = true → decide (placeF ws t 0 ≥ (0 : Int)) = true)
   (Tree.chk (decide (placeF ws t 0 ≥ (0 : Int)) = true → decide (placeF ws t 0 ≥ (0 : Int)) = true)
   (Tree.callf 40 [AV.c (CV.sl 0 0 0 2 (List.length ws) cap), AV.c (CV.fn 41 [{ k := 2, j := 0, i := 0, sz := 1, c := 0, d := 0, dn := 0, cu := 0 }])] [(Ent.ws true cap ws), (Ent.mkBox 25 [iv x.1, iv x.2, iv x.3, iv x.4, iv x.5, iv x.6, iv x.7, iv x.8, iv x.9, iv x.10, iv x.11, iv x.12, CV.sl 0 0 0 2 (List.length ws) cap, iv x.13, iv x.14]), (Ent.mkBox 3 [iv t]), (Ent.mkBox 29 [iv k, iv v]), (Ent.mkBox 25 [iv (0 : Int), iv (0 : Int), iv (0 : Int), iv (0 : Int), iv (0 : Int), iv (0 : Int), iv (0 : Int), iv (0 : Int), iv (0 : Int), iv (0 : Int), iv (0 : Int), iv (0 : Int), CV.v (Value.slice none 0 0), iv (0 : Int), iv (0 : Int)])] (deleteC ws t cap 41 [0, 2]) fun c => Tree.done (XV.tup [AV.agg [iv x.1, iv x.2, iv x.3, iv x.4, iv x.5, iv x.6, iv x.7, iv x.8, iv x.9, iv x.10, iv x.11, iv x.12, CV.sl 0 0 0 2 (List.length (notF ws t)) cap, iv x.13, iv x.14], AV.c (CV.v (Value.bool (bif decide (placeF ws t 0 ≥ (0 : Int)) then v == (0 : Int) else false)))]) [(Ent.ws true cap (delF ws t)), Ent.dead, Ent.dead, Ent.dead, Ent.dead]))))
   (Tree.done (XV.tup [AV.agg [iv x.1, iv x.2, iv x.3, iv x.4, iv x.5, iv x.6, iv x.7, iv x.8, iv x.9, iv x.10, iv x.11, iv x.12, CV.sl 0 0 0 2 (List.length ws) cap, iv x.13, iv x.14], AV.c (CV.v (Value.bool false))]) [(Ent.ws true cap ws), Ent.dead, Ent.dead, Ent.dead, Ent.dead])))
theorem tsignal_eq (x : Thg) (t k v : Int) (ws : List Wt) (cap : Nat) : xfunc tab (signalG ws t) noInv Go.Proofs.Try.f36 [x.av 0 0 ws.length cap, .c (iv t), markA k v] [Ent.ws true cap ws] [0] = tsignal x t k v ws cap := by kernel_rfl
end Go.Proofs.Ytnenbngjdekegaa.X

/- The model: signals, proved. -/
set_option linter.unusedVariables false
set_option linter.unusedSimpArgs false
namespace Go.Proofs.Ytnenbngjdekegaa.X
open Go Go.RowKit Go.Proofs.YtnenbngjdekegaaW.PrintWords Go.Proofs.Ytnenbngjdekegaa.Base
def signalS (x : Thg) (t k v : Int) (ws : List Wt) (cap : Nat) : SigT :=
  bif k == (11 : Int) then bif bif bif !x.3 == t then true else (↑(List.length ws) : Int) == (0 : Int) then true else Prod.fst (List.getD ws (Int.toNat (0 : Int)) ((0 : Int), (0 : Int))) != v then (x, (0, List.length ws), false) else bif decide (cap = Int.toNat (1 : Int)) then (x, (0, Int.toNat (↑(List.length ws) : Int) - Int.toNat (1 : Int)), true) else (x, (1, Int.toNat (↑(List.length ws) : Int) - Int.toNat (1 : Int)), true)
  else bif k == (12 : Int) then (x, (0, List.length ws), bif bif x.3 == t then (↑(List.length ws) : Int) == (0 : Int) else false then v == (0 : Int) else false) else bif k == (13 : Int) then (x, (0, List.length (notF ws t)), bif decide (placeF ws t 0 ≥ (0 : Int)) then v == (0 : Int) else false) else (x, (0, List.length ws), false)
def sigRowF (ws : List Wt) (t k : Int) : List Wt := bif k == 11 then ws else bif k == 12 then ws else bif k == 13 then delF ws t else ws
def signalC (x : Thg) (t k v : Int) (ws : List Wt) (cap n : Nat) (ρ : List Nat) : CallSpec := rowSpec ρ n [x.av 0 0 ws.length cap, .c (iv t), markA k v] [Ent.ws true cap ws] (fun _ => True)
  (fun c => .tup [(signalS x t k v ws cap).1.av 1 (signalS x t k v ws cap).2.1.1 (signalS x t k v ws cap).2.1.2 (c 0), .c (.v (.bool (signalS x t k v ws cap).2.2))]) fun _ => [Ent.dead, Ent.ws true cap (sigRowF ws t k)]
theorem waits_call : Callable Try.prog 34 := ⟨_, Try.func34, by kernel_rfl, rfl⟩
theorem delete_call : Callable Try.prog 40 := ⟨_, Try.func40, by kernel_rfl, rfl⟩
theorem row_of {n0 : Nat} {ρ : List Nat} {N cap : Nat} {ws ws2 : List Wt} (h : ws2 = ws) : EntRel n0 ρ N (Ent.ws true cap ws) (Ent.ws true cap ws2) := by subst h; exact EntRel.ws
set_option maxHeartbeats 2000000 in
theorem signal_local (x : Thg) (t k v : Int) (ws : List Wt) (cap n : Nat) (ρ : List Nat) (hl : ws.length ≤ 1000000) (hc : ws.length ≤ cap) : (signalC x t k v ws cap n ρ).Local Try.prog 36 := by
  refine local_of Try.func36 rfl (tsignal_eq x t k v ws cap) fun ν w => ?_
  repeat' first
    | refine ok_br' (fun h => ?_) (fun h => ?_)
    | (refine ok_callf' waits_call (fits_of rfl rfl ⟨⟨_, rfl, EntRel.ws⟩, trivial⟩ fun c _ => ⟨⟨Nat.le_refl _, rfl⟩, ⟨rfl, rfl⟩, ⟨⟨EntRel.ws, rfl, (fun h => by cases h), .inr rfl⟩, trivial⟩⟩) (waits_local _ _ _ _ _ _ (by omega)) fun c _ => ?_)
    | (refine ok_callf' delete_call (fits_of rfl rfl ⟨⟨_, rfl, EntRel.ws⟩, ⟨_, rfl, EntRel.box' rfl rfl rfl rfl rfl⟩, trivial⟩ fun c _ => ⟨⟨Nat.le_refl _, rfl⟩, ⟨rfl, rfl⟩, ⟨⟨EntRel.ws, rfl, (fun h => by cases h), .inl rfl⟩, ⟨EntRel.box' rfl rfl rfl rfl rfl, rfl, (fun _ => ⟨rfl, rfl⟩), .inr rfl⟩, trivial⟩⟩) (delete_local _ _ _ _ _ hl hc (same2 t)) fun c _ => ?_)
    | (refine ok_chk' ?_ ?_; focus (first | exact fun h => h | (simp; done) | (simp; omega) | (simp_all; done) | (simp_all; omega) | (generalize ws.length = L at *; simp; omega) | (generalize ws.length = L at *; simp_all; omega)))
    | (refine ok_leaf2 (fun _ => cap) [] [0, 0] trivial ?_ ⟨.inl rfl, .inr ⟨_, rfl, row_of ?_⟩, trivial⟩ rfl <;> first | (simp only [sigRowF, *, cond_true, cond_false]; done) | (show XV.tup _ = XV.nilz _ (XV.ren _ (XV.tup [(signalS x t k v ws cap).1.av 1 (signalS x t k v ws cap).2.1.1 (signalS x t k v ws cap).2.1.2 (cap), .c (.v (.bool (signalS x t k v ws cap).2.2))])); simp only [signalS, *, cond_true, cond_false]; first | done | rfl))
    | (refine ok_leaf2 (fun _ => cap - Int.toNat 1) [] [0, 0] trivial ?_ ⟨.inl rfl, .inr ⟨_, rfl, row_of ?_⟩, trivial⟩ rfl <;> first | (simp only [sigRowF, *, cond_true, cond_false]; done) | (show XV.tup _ = XV.nilz _ (XV.ren _ (XV.tup [(signalS x t k v ws cap).1.av 1 (signalS x t k v ws cap).2.1.1 (signalS x t k v ws cap).2.1.2 (cap - Int.toNat 1), .c (.v (.bool (signalS x t k v ws cap).2.2))])); simp only [signalS, *, cond_true, cond_false]; first | done | rfl))
end Go.Proofs.Ytnenbngjdekegaa.X

/- The model: locks: trees. -/
set_option linter.unusedVariables false
set_option linter.unusedSimpArgs false
namespace Go.Proofs.Ytnenbngjdekegaa.X
open Go Go.RowKit Go.Proofs.YtnenbngjdekegaaW.PrintWords Go.Proofs.Ytnenbngjdekegaa.Base
def lockG (ws : List Wt) : Ctr := fun f args H => match args with
  | [.agg l] => some (freeC (thgOf l) ws true (slCap l) [slK l])
  | [.agg l, .c (.v (.int _ t))] => some (waitsC (thgOf l) ws t true (slCap l) [slK l])
  | [.agg l, .c (.v (.int _ t)), .agg [.v (.int _ k), .v (.int _ v)]] => some (signalC (thgOf l) t k v ws (slCap l) H.length [slK l])
  | _ => none
def tlock (x : Thg) (t k v : Int) (ws : List Wt) (cap : Nat) : Tree :=
  Tree.br (k == (1 : Int))
   (Tree.chk ((x.3 == (-1 : Int)) = true → (x.3 == (-1 : Int)) = true)
   (Tree.chk ((x.3 == (-1 : Int)) = true → (x.3 == (-1 : Int)) = true)
   (Tree.chk ((bif x.3 == (-1 : Int) then decide (v ≥ (1 : Int)) else false) = true → (bif x.3 == (-1 : Int) then decide (v ≥ (1 : Int)) else false) = true)
   (Tree.chk ((bif x.3 == (-1 : Int) then decide (v ≥ (1 : Int)) else false) = true → (bif x.3 == (-1 : Int) then decide (v ≥ (1 : Int)) else false) = true)
   (Tree.br (bif bif x.3 == (-1 : Int) then decide (v ≥ (1 : Int)) else false then decide (v ≤ (1000 : Int)) else false)
   (Tree.chk ((bif bif x.3 == (-1 : Int) then decide (v ≥ (1 : Int)) else false then decide (v ≤ (1000 : Int)) else false) = true)
   (Tree.chk ((bif bif x.3 == (-1 : Int) then decide (v ≥ (1 : Int)) else false then decide (v ≤ (1000 : Int)) else false) = true)
   (Tree.callf 34 [AV.agg [iv x.1, iv x.2, iv x.3, iv x.4, iv x.5, iv x.6, iv x.7, iv x.8, iv x.9, iv x.10, iv x.11, iv x.12, CV.sl 0 0 0 2 (List.length ws) cap, iv x.13, iv x.14], AV.c (iv t)] [(Ent.ws true cap ws), (Ent.mkBox 25 [iv x.1, iv x.2, iv x.3, iv x.4, iv x.5, iv x.6, iv x.7, iv x.8, iv x.9, iv x.10, iv x.11, iv x.12, CV.sl 0 0 0 2 (List.length ws) cap, iv x.13, iv x.14]), (Ent.mkBox 29 [iv k, iv v]), (Ent.mkBox 25 [iv (0 : Int), iv (0 : Int), iv (0 : Int), iv (0 : Int), iv (0 : Int), iv (0 : Int), iv (0 : Int), iv (0 : Int), iv (0 : Int), iv (0 : Int), iv (0 : Int), iv (0 : Int), CV.v (Value.slice none 0 0), iv (0 : Int), iv (0 : Int)])] (waitsC x ws t true cap [0]) fun c => Tree.chk ((bif bif x.3 == (-1 : Int) then decide (v ≥ (1 : Int)) else false then decide (v ≤ (1000 : Int)) else false) = true → (bif bif x.3 == (-1 : Int) then decide (v ≥ (1 : Int)) else false then decide (v ≤ (1000 : Int)) else false) = true)
   (Tree.br (bif bif bif x.3 == (-1 : Int) then decide (v ≥ (1 : Int)) else false then decide (v ≤ (1000 : Int)) else false then !decide (placeF ws t 0 ≥ (0 : Int)) else false)
   (Tree.done (XV.tup [AV.agg [iv x.1, iv x.2, iv t, iv v, iv x.5, iv x.6, iv x.7, iv x.8, iv x.9, iv x.10, iv x.11, iv x.12, CV.sl 0 0 0 2 (List.length ws) cap, iv x.13, iv x.14], AV.c (CV.v (Value.bool true))]) [(Ent.ws true cap ws), (Ent.mkBox 25 [iv x.1, iv x.2, iv t, iv v, iv x.5, iv x.6, iv x.7, iv x.8, iv x.9, iv x.10, iv x.11, iv x.12, CV.sl 0 0 0 2 (List.length ws) cap, iv x.13, iv x.14]), (Ent.mkBox 29 [iv k, iv v]), (Ent.mkBox 25 [iv x.1, iv x.2, iv t, iv v, iv x.5, iv x.6, iv x.7, iv x.8, iv x.9, iv x.10, iv x.11, iv x.12, CV.sl 0 0 0 2 (List.length ws) cap, iv x.13, iv x.14])])
   (Tree.chk ((x.3 == t) = true → (x.3 == t) = true)
   (Tree.chk ((x.3 == t) = true → (x.3 == t) = true)
   (Tree.chk ((bif x.3 == t then v == (1 : Int) else false) = true → (bif x.3 == t then v == (1 : Int) else false) = true)
   (Tree.chk ((bif x.3 == t then v == (1 : Int) else false) = true → (bif x.3 == t then v == (1 : Int) else false) = true)
   (Tree.chk ((bif x.3 == t then v == (1 : Int) else false) = true → (bif x.3 == t then v == (1 : Int) else false) = true)
   (Tree.chk ((bif x.3 == t then v == (1 : Int) else false) = true → (bif x.3 == t then v == (1 : Int) else false) = true)
   (Tree.chk (AV.c (CV.v (Value.bool (bif bif x.3 == t then v == (1 : Int) else false then decide (IntKind.wrap IntKind.i64 (x.4 + (1 : Int)) ≤ (1000 : Int)) else false))) = AV.c (CV.v (Value.bool (bif bif x.3 == t then v == (1 : Int) else false then decide (IntKind.wrap IntKind.i64 (x.4 + (1 : Int)) ≤ (1000 : Int)) else false))))
   (Tree.chk ((bif x.3 == t then v == (1 : Int) else false) = true → (bif x.3 == t then v == (1 : Int) else false) = true)
   (Tree.chk ((bif x.3 == t then v == (1 : Int) else false) = true → AV.c (CV.v (Value.bool (decide (IntKind.wrap IntKind.i64 (x.4 + (1 : Int)) ≤ (1000 : Int))))) = AV.c (CV.v (Value.bool (decide (IntKind.wrap IntKind.i64 (x.4 + (1 : Int)) ≤ (1000 : Int))))))
   (Tree.chk ((bif x.3 == t then v == (1 : Int) else false) = true → (bif x.3 == t then v == (1 : Int) else false) = true)
   (Tree.chk ((bif x.3 == t then v == (1 : Int) else false) = true → AV.c (iv (IntKind.wrap IntKind.i64 (x.4 + (1 : Int)))) = AV.c (iv (IntKind.wrap IntKind.i64 (x.4 + (1 : Int)))))
   (Tree.chk ((bif x.3 == t then v == (1 : Int) else false) = true → AV.c (CV.ptr { k := 1, j := 0, i := 0, sz := 15, c := 3, d := 0, dn := 0, cu := 0 }) = AV.c (CV.ptr { k := 1, j := 0, i := 0, sz := 15, c := 3, d := 0, dn := 0, cu := 0 }))
   (Tree.done (XV.tup [AV.agg [iv x.1, iv x.2, iv x.3, iv (IntKind.wrap IntKind.i64 (x.4 + (1 : Int))), iv x.5, iv x.6, iv x.7, iv x.8, iv x.9, iv x.10, iv x.11, iv x.12, CV.sl 0 0 0 2 (List.length ws) cap, iv x.13, iv x.14], AV.c (CV.v (Value.bool (bif bif x.3 == t then v == (1 : Int) else false then decide (IntKind.wrap IntKind.i64 (x.4 + (1 : Int)) ≤ (1000 : Int)) else false)))]) [(Ent.ws true cap ws), (Ent.mkBox 25 [iv x.1, iv x.2, iv x.3, iv (IntKind.wrap IntKind.i64 (x.4 + (1 : Int))), iv x.5, iv x.6, iv x.7, iv x.8, iv x.9, iv x.10, iv x.11, iv x.12, CV.sl 0 0 0 2 (List.length ws) cap, iv x.13, iv x.14]), (Ent.mkBox 29 [iv k, iv v]), (Ent.mkBox 25 [iv x.1, iv x.2, iv x.3, iv (IntKind.wrap IntKind.i64 (x.4 + (1 : Int))), iv x.5, iv x.6, iv x.7, iv x.8, iv x.9, iv x.10, iv x.11, iv x.12, CV.sl 0 0 0 2 (List.length ws) cap, iv x.13, iv x.14])])))))))))))))))))
   (Tree.chk ((bif bif x.3 == (-1 : Int) then decide (v ≥ (1 : Int)) else false then decide (v ≤ (1000 : Int)) else false) = true → False)
   (Tree.chk ((bif bif x.3 == (-1 : Int) then decide (v ≥ (1 : Int)) else false then decide (v ≤ (1000 : Int)) else false) = false)
   (Tree.br false
   (Tree.done (XV.tup [AV.agg [iv x.1, iv x.2, iv t, iv v, iv x.5, iv x.6, iv x.7, iv x.8, iv x.9, iv x.10, iv x.11, iv x.12, CV.sl 0 0 0 2 (List.length ws) cap, iv x.13, iv x.14], AV.c (CV.v (Value.bool true))]) [(Ent.ws true cap ws), (Ent.mkBox 25 [iv x.1, iv x.2, iv t, iv v, iv x.5, iv x.6, iv x.7, iv x.8, iv x.9, iv x.10, iv x.11, iv x.12, CV.sl 0 0 0 2 (List.length ws) cap, iv x.13, iv x.14]), (Ent.mkBox 29 [iv k, iv v]), (Ent.mkBox 25 [iv x.1, iv x.2, iv t, iv v, iv x.5, iv x.6, iv x.7, iv x.8, iv x.9, iv x.10, iv x.11, iv x.12, CV.sl 0 0 0 2 (List.length ws) cap, iv x.13, iv x.14])])
   (Tree.chk ((x.3 == t) = true → (x.3 == t) = true)
   (Tree.chk ((x.3 == t) = true → (x.3 == t) = true)
   (Tree.chk ((bif x.3 == t then v == (1 : Int) else false) = true → (bif x.3 == t then v == (1 : Int) else false) = true)
   (Tree.chk ((bif x.3 == t then v == (1 : Int) else false) = true → (bif x.3 == t then v == (1 : Int) else false) = true)
   (Tree.chk ((bif x.3 == t then v == (1 : Int) else false) = true → (bif x.3 == t then v == (1 : Int) else false) = true)
   (Tree.chk ((bif x.3 == t then v == (1 : Int) else false) = true → (bif x.3 == t then v == (1 : Int) else false) = true)
   (Tree.chk (AV.c (CV.v (Value.bool (bif bif x.3 == t then v == (1 : Int) else false then decide (IntKind.wrap IntKind.i64 (x.4 + (1 : Int)) ≤ (1000 : Int)) else false))) = AV.c (CV.v (Value.bool (bif bif x.3 == t then v == (1 : Int) else false then decide (IntKind.wrap IntKind.i64 (x.4 + (1 : Int)) ≤ (1000 : Int)) else false))))
   (Tree.chk ((bif x.3 == t then v == (1 : Int) else false) = true → (bif x.3 == t then v == (1 : Int) else false) = true)
   (Tree.chk ((bif x.3 == t then v == (1 : Int) else false) = true → AV.c (CV.v (Value.bool (decide (IntKind.wrap IntKind.i64 (x.4 + (1 : Int)) ≤ (1000 : Int))))) = AV.c (CV.v (Value.bool (decide (IntKind.wrap IntKind.i64 (x.4 + (1 : Int)) ≤ (1000 : Int))))))
   (Tree.chk ((bif x.3 == t then v == (1 : Int) else false) = true → (bif x.3 == t then v == (1 : Int) else false) = true)
   (Tree.chk ((bif x.3 == t then v == (1 : Int) else false) = true → AV.c (iv (IntKind.wrap IntKind.i64 (x.4 + (1 : Int)))) = AV.c (iv (IntKind.wrap IntKind.i64 (x.4 + (1 : Int)))))
   (Tree.chk ((bif x.3 == t then v == (1 : Int) else false) = true → AV.c (CV.ptr { k := 1, j := 0, i := 0, sz := 15, c := 3, d := 0, dn := 0, cu := 0 }) = AV.c (CV.ptr { k := 1, j := 0, i := 0, sz := 15, c := 3, d := 0, dn := 0, cu := 0 }))
   (Tree.done (XV.tup [AV.agg [iv x.1, iv x.2, iv x.3, iv (IntKind.wrap IntKind.i64 (x.4 + (1 : Int))), iv x.5, iv x.6, iv x.7, iv x.8, iv x.9, iv x.10, iv x.11, iv x.12, CV.sl 0 0 0 2 (List.length ws) cap, iv x.13, iv x.14], AV.c (CV.v (Value.bool (bif bif x.3 == t then v == (1 : Int) else false then decide (IntKind.wrap IntKind.i64 (x.4 + (1 : Int)) ≤ (1000 : Int)) else false)))]) [(Ent.ws true cap ws), (Ent.mkBox 25 [iv x.1, iv x.2, iv x.3, iv (IntKind.wrap IntKind.i64 (x.4 + (1 : Int))), iv x.5, iv x.6, iv x.7, iv x.8, iv x.9, iv x.10, iv x.11, iv x.12, CV.sl 0 0 0 2 (List.length ws) cap, iv x.13, iv x.14]), (Ent.mkBox 29 [iv k, iv v]), (Ent.mkBox 25 [iv x.1, iv x.2, iv x.3, iv (IntKind.wrap IntKind.i64 (x.4 + (1 : Int))), iv x.5, iv x.6, iv x.7, iv x.8, iv x.9, iv x.10, iv x.11, iv x.12, CV.sl 0 0 0 2 (List.length ws) cap, iv x.13, iv x.14])])))))))))))))))))))))
   (Tree.br (k == (3 : Int))
   (Tree.callf 35 [AV.agg [iv x.1, iv x.2, iv x.3, iv x.4, iv x.5, iv x.6, iv x.7, iv x.8, iv x.9, iv x.10, iv x.11, iv x.12, CV.sl 0 0 0 2 (List.length ws) cap, iv x.13, iv x.14]] [(Ent.ws true cap ws), (Ent.mkBox 25 [iv x.1, iv x.2, iv x.3, iv x.4, iv x.5, iv x.6, iv x.7, iv x.8, iv x.9, iv x.10, iv x.11, iv x.12, CV.sl 0 0 0 2 (List.length ws) cap, iv x.13, iv x.14]), (Ent.mkBox 29 [iv k, iv v]), (Ent.mkBox 25 [iv (0 : Int), iv (0 : Int), iv (0 : Int), iv (0 : Int), iv (0 : Int), iv (0 : Int), iv (0 : Int), iv (0 : Int), iv (0 : Int), iv (0 : Int), iv (0 : Int), iv (0 : Int), CV.v (Value.slice none 0 0), iv (0 : Int), iv (0 : Int)])] (freeC x ws true cap [0]) fun c => Tree.chk ((x.3 == t) = true → (x.3 == t) = true)
   (Tree.chk ((x.3 == t) = true → (x.3 == t) = true)
   (Tree.done (XV.tup [AV.agg [iv (freeS x).1, iv (freeS x).2, iv (freeS x).3, iv (freeS x).4, iv (freeS x).5, iv (freeS x).6, iv (freeS x).7, iv (freeS x).8, iv (freeS x).9, iv (freeS x).10, iv (freeS x).11, iv (freeS x).12, CV.sl 0 0 0 2 (List.length ws) cap, iv (freeS x).13, iv (freeS x).14], AV.c (CV.v (Value.bool (bif x.3 == t then v == (0 : Int) else false)))]) [(Ent.ws true cap ws), (Ent.mkBox 25 [iv x.1, iv x.2, iv x.3, iv x.4, iv x.5, iv x.6, iv x.7, iv x.8, iv x.9, iv x.10, iv x.11, iv x.12, CV.sl 0 0 0 2 (List.length ws) cap, iv x.13, iv x.14]), (Ent.mkBox 29 [iv k, iv v]), (Ent.mkBox 25 [iv (freeS x).1, iv (freeS x).2, iv (freeS x).3, iv (freeS x).4, iv (freeS x).5, iv (freeS x).6, iv (freeS x).7, iv (freeS x).8, iv (freeS x).9, iv (freeS x).10, iv (freeS x).11, iv (freeS x).12, CV.sl 0 0 0 2 (List.length ws) cap, iv (freeS x).13, iv (freeS x).14])])))
   (Tree.br (k == (5 : Int))
   (Tree.chk ((x.3 != (-1 : Int)) = true → (x.3 != (-1 : Int)) = true)
   (Tree.chk ((x.3 != (-1 : Int)) = true → (x.3 != (-1 : Int)) = true)
   (Tree.chk ((bif x.3 != (-1 : Int) then !x.3 == t else false) = true → (bif x.3 != (-1 : Int) then !x.3 == t else false) = true)
   (Tree.chk ((bif x.3 != (-1 : Int) then !x.3 == t else false) = true → (bif x.3 != (-1 : Int) then !x.3 == t else false) = true)
   (Tree.done (XV.tup [AV.agg [iv x.1, iv x.2, iv x.3, iv x.4, iv x.5, iv x.6, iv x.7, iv x.8, iv x.9, iv x.10, iv x.11, iv x.12, CV.sl 0 0 0 2 (List.length ws) cap, iv x.13, iv x.14], AV.c (CV.v (Value.bool (bif bif x.3 != (-1 : Int) then !x.3 == t else false then v == (0 : Int) else false)))]) [(Ent.ws true cap ws), (Ent.mkBox 25 [iv x.1, iv x.2, iv x.3, iv x.4, iv x.5, iv x.6, iv x.7, iv x.8, iv x.9, iv x.10, iv x.11, iv x.12, CV.sl 0 0 0 2 (List.length ws) cap, iv x.13, iv x.14]), (Ent.mkBox 29 [iv k, iv v]), (Ent.mkBox 25 [iv x.1, iv x.2, iv x.3, iv x.4, iv x.5, iv x.6, iv x.7, iv x.8, iv x.9, iv x.10, iv x.11, iv x.12, CV.sl 0 0 0 2 (List.length ws) cap, iv x.13, iv x.14])])))))
   (Tree.br (k == (6 : Int))
   (Tree.chk ((!x.3 == t) = true → (!x.3 == t) = true)
   (Tree.chk ((!x.3 == t) = true → (!x.3 == t) = true)
   (Tree.done (XV.tup [AV.agg [iv x.1, iv x.2, iv x.3, iv x.4, iv x.5, iv x.6, iv x.7, iv x.8, iv x.9, iv x.10, iv x.11, iv x.12, CV.sl 0 0 0 2 (List.length ws) cap, iv x.13, iv x.14], AV.c (CV.v (Value.bool (bif !x.3 == t then v == (0 : Int) else false)))]) [(Ent.ws true cap ws), (Ent.mkBox 25 [iv x.1, iv x.2, iv x.3, iv x.4, iv x.5, iv x.6, iv x.7, iv x.8, iv x.9, iv x.10, iv x.11, iv x.12, CV.sl 0 0 0 2 (List.length ws) cap, iv x.13, iv x.14]), (Ent.mkBox 29 [iv k, iv v]), (Ent.mkBox 25 [iv x.1, iv x.2, iv x.3, iv x.4, iv x.5, iv x.6, iv x.7, iv x.8, iv x.9, iv x.10, iv x.11, iv x.12, CV.sl 0 0 0 2 (List.length ws) cap, iv x.13, iv x.14])])))
   (Tree.br (k == (7 : Int))
   (Tree.chk ((x.3 == t) = true → (x.3 == t) = true)
   (Tree.chk ((x.3 == t) = true → (x.3 == t) = true)
   (Tree.chk ((x.3 == t) = true → (x.3 == t) = true)
   (Tree.chk ((bif x.3 == t then x.4 == (1000 : Int) else false) = true → (bif x.3 == t then x.4 == (1000 : Int) else false) = true)
   (Tree.chk ((bif x.3 == t then x.4 == (1000 : Int) else false) = true → (bif x.3 == t then x.4 == (1000 : Int) else false) = true)
   (Tree.done (XV.tup [AV.agg [iv x.1, iv x.2, iv x.3, iv x.4, iv x.5, iv x.6, iv x.7, iv x.8, iv x.9, iv x.10, iv x.11, iv x.12, CV.sl 0 0 0 2 (List.length ws) cap, iv x.13, iv x.14], AV.c (CV.v (Value.bool (bif bif x.3 == t then x.4 == (1000 : Int) else false then v == (0 : Int) else false)))]) [(Ent.ws true cap ws), (Ent.mkBox 25 [iv x.1, iv x.2, iv x.3, iv x.4, iv x.5, iv x.6, iv x.7, iv x.8, iv x.9, iv x.10, iv x.11, iv x.12, CV.sl 0 0 0 2 (List.length ws) cap, iv x.13, iv x.14]), (Ent.mkBox 29 [iv k, iv v]), (Ent.mkBox 25 [iv x.1, iv x.2, iv x.3, iv x.4, iv x.5, iv x.6, iv x.7, iv x.8, iv x.9, iv x.10, iv x.11, iv x.12, CV.sl 0 0 0 2 (List.length ws) cap, iv x.13, iv x.14])]))))))
   (Tree.br (k == (10 : Int))
   (Tree.chk ((x.3 == t) = true → (x.3 == t) = true)
   (Tree.chk ((x.3 == t) = true → (x.3 == t) = true)
   (Tree.chk ((x.3 == t) = true → (x.3 == t) = true)
   (Tree.chk ((x.3 == t) = true → (x.3 == t) = true)
   (Tree.chk ((List.length ws + 1) * 16 ≤ 140737488355328)
   (Tree.chk (0 < 1 ∧ 1 ≤ 1)
   (Tree.chk (List.length ws = List.length ws ∧ cap = cap)
   (Tree.all (fun c => List.length ws + 1 ≤ c 0 ∧ c 0 ≤ maxLen) fun c => Tree.done (XV.tup [AV.agg [iv x.1, iv x.2, iv (-1 : Int), iv (0 : Int), iv x.5, iv x.6, iv x.7, iv x.8, iv x.9, iv x.10, iv x.11, iv x.12, CV.sl 5 0 0 2 (List.length ws + 1) (c 0), iv x.13, iv x.14], AV.c (CV.v (Value.bool (bif x.3 == t then x.4 == v else false)))]) [Ent.dead, (Ent.mkBox 25 [iv x.1, iv x.2, iv (-1 : Int), iv (0 : Int), iv x.5, iv x.6, iv x.7, iv x.8, iv x.9, iv x.10, iv x.11, iv x.12, CV.sl 5 0 0 2 (List.length ws + 1) (c 0), iv x.13, iv x.14]), (Ent.mkBox 29 [iv k, iv v]), (Ent.mkBox 25 [iv x.1, iv x.2, iv (-1 : Int), iv (0 : Int), iv x.5, iv x.6, iv x.7, iv x.8, iv x.9, iv x.10, iv x.11, iv x.12, CV.sl 5 0 0 2 (List.length ws + 1) (c 0), iv x.13, iv x.14]), { own := true, box := false, ty := 37, sz := 2, m := 1, n := fun x => 1, cap := fun x => 1, f := fun x_1 i => [iv t, iv x.4], ov := [] }, { own := true, box := false, ty := 37, sz := 2, m := 1, n := fun x => List.length ws + 1, cap := fun x => c 0, f := fun x_1 i => if i < List.length ws then [iv (Prod.fst (List.getD ws i ((0 : Int), (0 : Int)))), iv (Prod.snd (List.getD ws i ((0 : Int), (0 : Int))))] else [iv t, iv x.4], ov := [] }]))))))))
   (Tree.callf 36 [AV.agg [iv x.1, iv x.2, iv x.3, iv x.4, iv x.5, iv x.6, iv x.7, iv x.8, iv x.9, iv x.10, iv x.11, iv x.12, CV.sl 0 0 0 2 (List.length ws) cap, iv x.13, iv x.14], AV.c (iv t), AV.agg [iv k, iv v]] [(Ent.ws true cap ws), (Ent.mkBox 25 [iv x.1, iv x.2, iv x.3, iv x.4, iv x.5, iv x.6, iv x.7, iv x.8, iv x.9, iv x.10, iv x.11, iv x.12, CV.sl 0 0 0 2 (List.length ws) cap, iv x.13, iv x.14]), (Ent.mkBox 29 [iv k, iv v]), (Ent.mkBox 25 [iv (0 : Int), iv (0 : Int), iv (0 : Int), iv (0 : Int), iv (0 : Int), iv (0 : Int), iv (0 : Int), iv (0 : Int), iv (0 : Int), iv (0 : Int), iv (0 : Int), iv (0 : Int), CV.v (Value.slice none 0 0), iv (0 : Int), iv (0 : Int)])] (signalC x t k v ws cap 4 [0]) fun c => Tree.done (XV.tup [AV.agg [iv (Prod.fst (signalS x t k v ws cap)).1, iv (Prod.fst (signalS x t k v ws cap)).2, iv (Prod.fst (signalS x t k v ws cap)).3, iv (Prod.fst (signalS x t k v ws cap)).4, iv (Prod.fst (signalS x t k v ws cap)).5, iv (Prod.fst (signalS x t k v ws cap)).6, iv (Prod.fst (signalS x t k v ws cap)).7, iv (Prod.fst (signalS x t k v ws cap)).8, iv (Prod.fst (signalS x t k v ws cap)).9, iv (Prod.fst (signalS x t k v ws cap)).10, iv (Prod.fst (signalS x t k v ws cap)).11, iv (Prod.fst (signalS x t k v ws cap)).12, CV.sl 4 0 (Prod.fst (Prod.fst (Prod.snd (signalS x t k v ws cap)))) 2 (Prod.snd (Prod.fst (Prod.snd (signalS x t k v ws cap)))) (c 0), iv (Prod.fst (signalS x t k v ws cap)).13, iv (Prod.fst (signalS x t k v ws cap)).14], AV.c (CV.v (Value.bool (Prod.snd (Prod.snd (signalS x t k v ws cap)))))]) [Ent.dead, (Ent.mkBox 25 [iv x.1, iv x.2, iv x.3, iv x.4, iv x.5, iv x.6, iv x.7, iv x.8, iv x.9, iv x.10, iv x.11, iv x.12, CV.sl 0 0 0 2 (List.length ws) cap, iv x.13, iv x.14]), (Ent.mkBox 29 [iv k, iv v]), (Ent.mkBox 25 [iv (Prod.fst (signalS x t k v ws cap)).1, iv (Prod.fst (signalS x t k v ws cap)).2, iv (Prod.fst (signalS x t k v ws cap)).3, iv (Prod.fst (signalS x t k v ws cap)).4, iv (Prod.fst (signalS x t k v ws cap)).5, iv (Prod.fst (signalS x t k v ws cap)).6, iv (Prod.fst (signalS x t k v ws cap)).7, iv (Prod.fst (signalS x t k v ws cap)).8, iv (Prod.fst (signalS x t k v ws cap)).9, iv (Prod.fst (signalS x t k v ws cap)).10, iv (Prod.fst (signalS x t k v ws cap)).11, iv (Prod.fst (signalS x t k v ws cap)).12, CV.sl 4 0 (Prod.fst (Prod.fst (Prod.snd (signalS x t k v ws cap)))) 2 (Prod.snd (Prod.fst (Prod.snd (signalS x t k v ws cap)))) (c 0), iv (Prod.fst (signalS x t k v ws cap)).13, iv (Prod.fst (signalS x t k v ws cap)).14]), (Ent.ws true cap (sigRowF ws t k))]))))))
theorem tlock_eq (x : Thg) (t k v : Int) (ws : List Wt) (cap : Nat) : xfunc tab (lockG ws) noInv Go.Proofs.Try.f25 [x.av 0 0 ws.length cap, .c (iv t), markA k v] [Ent.ws true cap ws] [0, 1, 2, 3, 4, 5, 6, 7] = tlock x t k v ws cap := by kernel_rfl
end Go.Proofs.Ytnenbngjdekegaa.X

/- The model: locks, proved. -/
set_option linter.unusedVariables false
set_option linter.unusedSimpArgs false
namespace Go.Proofs.Ytnenbngjdekegaa.X
open Go Go.RowKit Go.Proofs.YtnenbngjdekegaaW.PrintWords Go.Proofs.Ytnenbngjdekegaa.Base
def lockS (x : Thg) (t k v : Int) (ws : List Wt) (cap : Nat) : SigT :=
  bif k == (1 : Int) then bif bif bif x.3 == (-1 : Int) then decide (v ≥ (1 : Int)) else false then decide (v ≤ (1000 : Int)) else false then bif bif bif bif x.3 == (-1 : Int) then decide (v ≥ (1 : Int)) else false then decide (v ≤ (1000 : Int)) else false then !decide (placeF ws t 0 ≥ (0 : Int)) else false then ({ kd := x.1, n := x.2, o := t, h := v, r0 := x.5, r1 := x.6, r2 := x.7, r3 := x.8, r4 := x.9, r5 := x.10, r6 := x.11, r7 := x.12, f := x.13, i := x.14 }, (0, List.length ws), true) else ({ kd := x.1, n := x.2, o := x.3, h := IntKind.wrap IntKind.i64 (x.4 + (1 : Int)), r0 := x.5, r1 := x.6, r2 := x.7, r3 := x.8, r4 := x.9, r5 := x.10, r6 := x.11, r7 := x.12, f := x.13, i := x.14 }, (0, List.length ws), bif bif x.3 == t then v == (1 : Int) else false then decide (IntKind.wrap IntKind.i64 (x.4 + (1 : Int)) ≤ (1000 : Int)) else false) else bif false then ({ kd := x.1, n := x.2, o := t, h := v, r0 := x.5, r1 := x.6, r2 := x.7, r3 := x.8, r4 := x.9, r5 := x.10, r6 := x.11, r7 := x.12, f := x.13, i := x.14 }, (0, List.length ws), true) else ({ kd := x.1, n := x.2, o := x.3, h := IntKind.wrap IntKind.i64 (x.4 + (1 : Int)), r0 := x.5, r1 := x.6, r2 := x.7, r3 := x.8, r4 := x.9, r5 := x.10, r6 := x.11, r7 := x.12, f := x.13, i := x.14 }, (0, List.length ws), bif bif x.3 == t then v == (1 : Int) else false then decide (IntKind.wrap IntKind.i64 (x.4 + (1 : Int)) ≤ (1000 : Int)) else false)
  else bif k == (3 : Int) then (freeS x, (0, List.length ws), bif x.3 == t then v == (0 : Int) else false) else bif k == (5 : Int) then (x, (0, List.length ws), bif bif x.3 != (-1 : Int) then !x.3 == t else false then v == (0 : Int) else false) else bif k == (6 : Int) then (x, (0, List.length ws), bif !x.3 == t then v == (0 : Int) else false) else bif k == (7 : Int) then (x, (0, List.length ws), bif bif x.3 == t then x.4 == (1000 : Int) else false then v == (0 : Int) else false) else bif k == (10 : Int) then ({ kd := x.1, n := x.2, o := (-1 : Int), h := (0 : Int), r0 := x.5, r1 := x.6, r2 := x.7, r3 := x.8, r4 := x.9, r5 := x.10, r6 := x.11, r7 := x.12, f := x.13, i := x.14 }, (0, List.length ws + 1), bif x.3 == t then x.4 == v else false) else signalS x t k v ws cap
def lockRowF (x : Thg) (ws : List Wt) (t k : Int) : List Wt := bif k == 1 then ws else bif k == 3 then ws else bif k == 5 then ws else bif k == 6 then ws else bif k == 7 then ws else bif k == 10 then ws ++ [(t, x.h)] else sigRowF ws t k
end Go.Proofs.Ytnenbngjdekegaa.X

/- The model: locks, proved. -/
set_option linter.unusedVariables false
set_option linter.unusedSimpArgs false
namespace Go.Proofs.Ytnenbngjdekegaa.X
open Go Go.RowKit Go.Proofs.YtnenbngjdekegaaW.PrintWords Go.Proofs.Ytnenbngjdekegaa.Base
def sigR (S : SigT) (c : Nat) : XV := .tup [S.1.av 1 S.2.1.1 S.2.1.2 c, .c (.v (.bool S.2.2))]
def lockC (x : Thg) (t k v : Int) (ws : List Wt) (cap n : Nat) (ρ : List Nat) : CallSpec := rowSpec ρ n [x.av 0 0 ws.length cap, .c (iv t), markA k v] [Ent.ws true cap ws] (fun _ => True)
  (fun c => sigR (lockS x t k v ws cap) (c 0)) fun c => [Ent.dead, Ent.ws true (c 1) (lockRowF x ws t k)]
theorem signal_call : Callable Try.prog 36 := ⟨_, Try.func36, by kernel_rfl, rfl⟩
theorem EntRel.app {n0 : Nat} {ρ : List Nat} {N c : Nat} {ws : List Wt} {x : Wt} : EntRel n0 ρ N (Ent.mkRow WT 2 (ws.length + 1) c fun i => if i < ws.length then wrow ws i else wc x) (Ent.ws true c (ws ++ [x])) :=
  EntRel.rw (own := true) (by simp) rfl (fun i hi => by
    have hi : i < ws.length + 1 := hi
    unfold wrow
    by_cases h : i < ws.length
    · rw [if_pos h, List.getD_eq_getElem?_getD, List.getD_eq_getElem?_getD, List.getElem?_append_left h]
    · obtain rfl : i = ws.length := by omega
      rw [if_neg h, List.getD_eq_getElem?_getD (l := _ ++ _), List.getElem?_append_right (Nat.le_refl _), Nat.sub_self]
      rfl) fun i _ => wrow_plain _ i
set_option maxHeartbeats 4000000 in
theorem lock_local (x : Thg) (t k v : Int) (ws : List Wt) (cap n : Nat) (ρ : List Nat) (hl : ws.length ≤ 1000000) (hc : ws.length ≤ cap) : (lockC x t k v ws cap n ρ).Local Try.prog 25 := by
  refine local_of Try.func25 rfl (tlock_eq x t k v ws cap) fun ν w => ?_
  repeat' first
    | refine ok_br' (fun h => ?_) (fun h => ?_)
    | (refine ok_callf' waits_call (fits_of rfl rfl ⟨⟨_, rfl, EntRel.ws⟩, trivial⟩ fun c _ => ⟨⟨Nat.le_refl _, rfl⟩, ⟨rfl, rfl⟩, ⟨⟨EntRel.ws, rfl, (fun h => by cases h), .inr rfl⟩, trivial⟩⟩) (waits_local _ _ _ _ _ _ (by omega)) fun c _ => ?_)
    | (refine ok_callf' free_call (fits_of rfl rfl ⟨⟨_, rfl, EntRel.ws⟩, trivial⟩ fun c _ => ⟨⟨Nat.le_refl _, rfl⟩, ⟨rfl, rfl⟩, ⟨⟨EntRel.ws, rfl, (fun h => by cases h), .inr rfl⟩, trivial⟩⟩) (free_local _ _ _ _ _) fun c _ => ?_)
    | (refine ok_chk' ?_ ?_; focus (first | exact fun h => h | (simp; done) | (simp; omega) | (simp_all; done) | (simp_all; omega) | (generalize ws.length = L at *; simp; omega) | (generalize ws.length = L at *; simp_all; omega)))
    | refine ok_both' ?_ ?_
    | refine ok_all' fun c hc => ?_
    | (refine ok_leaf2 (fun _ => cap) [] [0, 0] trivial ?_ ⟨.inl rfl, .inr ⟨_, rfl, row_of ?_⟩, trivial⟩ rfl <;> first | (simp only [lockRowF, *, cond_true, cond_false]; done) | (show XV.tup _ = XV.nilz _ (XV.ren _ (sigR (lockS x t k v ws cap) cap)); simp only [lockS, *, cond_true, cond_false]; first | done | rfl) | (simp_all [lockRowF]; done) | (show XV.tup _ = XV.nilz _ (XV.ren _ (sigR (lockS x t k v ws cap) cap)); unfold lockS; simp_all only [cond_true, cond_false]; first | done | rfl))
  · refine ok_leaf2 (fun _ => c 0) [] [0, 5] trivial ?_ ⟨.inl rfl, .inr ⟨_, rfl, ?_⟩, trivial⟩ rfl
    · show XV.tup _ = XV.nilz _ (XV.ren _ (sigR (lockS x t k v ws cap) (c 0)))
      simp only [lockS, *, cond_true, cond_false]
      rfl
    · rw [show lockRowF x ws t k = ws ++ [(t, x.h)] by simp only [lockRowF, *, cond_true, cond_false]]
      exact EntRel.app (ws := ws) (x := (t, x.h)) (c := c 0)
  · refine ok_callf' signal_call (fits_of rfl rfl ⟨⟨_, rfl, EntRel.ws⟩, trivial⟩ fun c _ => ⟨⟨Nat.le_succ 1, rfl⟩, ⟨rfl, rfl⟩, ⟨⟨EntRel.dead, rfl, (fun h => by cases h), .inl rfl⟩, ⟨EntRel.ws, rfl, (fun h => by cases h), .inl rfl⟩, trivial⟩⟩) (signal_local _ _ _ _ _ _ _ _ hl hc) fun c _ => ?_
    refine ok_leaf2 (fun i => if i = 0 then c 0 else cap) [] [0, 4] trivial ?_ ⟨.inl rfl, .inr ⟨_, rfl, row_of ?_⟩, trivial⟩ rfl
    · show XV.tup _ = XV.nilz _ (XV.ren _ (sigR (lockS x t k v ws cap) (c 0)))
      simp only [lockS, *, cond_true, cond_false]
      rfl
    · simp only [lockRowF, *, cond_true, cond_false]
end Go.Proofs.Ytnenbngjdekegaa.X

/- The model: the document's locks: trees. -/
set_option linter.unusedVariables false
set_option linter.unusedSimpArgs false
namespace Go.Proofs.Ytnenbngjdekegaa.X
open Go Go.RowKit Go.Proofs.YtnenbngjdekegaaW.PrintWords Go.Proofs.Ytnenbngjdekegaa.Base
def ptrK : Option XV → Nat
  | some (.a (.c (.ptr r))) => r.k
  | _ => 0
def boxC : Option Ent → List CV
  | some e => e.f 0 0
  | none => []
def refσ (ws0 : List Wt) (t : Int) : Type := {p : List Wt × Nat // notF p.1 t = notF ws0 t ∧ p.1.length ≤ ws0.length}
abbrev TT : Nat := 25
def Thg.zero : Thg := ⟨0, 0, 0, 0, 0, 0, 0, 0, 0, 0, 0, 0, 0, 0⟩
def refInv (x : Thg) (ws0 : List Wt) (cap0 : Nat) (t : Int) : LoopInv :=
  ⟨refσ ws0 t, fun p => ([(11, ia (placeF p.1.1 t 0)), (1, ia t), (4, .a (.c (.ptr (bref 1 15)))), (8, .a (.c (.ptr (bref 2 15))))], [Ent.ws false cap0 ws0, Ent.mkBox TT (x.cv (.sl 3 0 0 2 p.1.1.length p.1.2)), Ent.mkBox TT (Thg.zero.cv (.v (.slice none 0 0))), Ent.ws false p.1.2 p.1.1]),
   fun p => p.1.1.length, some ⟨(ws0, cap0), rfl, Nat.le_refl _⟩, [], Rm.of [0, 1, 2, 0] 3, [], fun tm' H' => Rm.of [0, 1, 2, slK (boxC (H'.get 1))] H'.length⟩
def lockrG : Ctr := fun f args H => match args with
  | [.agg l] => some (.ex (List Wt) fun ws => freeC (thgOf l) ws false (slCap l) [slK l])
  | [.agg l, .c (.v (.int _ t))] => some (.ex (List Wt × Bool) fun p => placeC (thgOf l) t p.1 p.2 (slCap l) [slK l])
  | [.c (.sl k _ _ _ _ cap), .c (.v (.int _ a))] => some (.ex (List Wt) fun ws => withoutC ws a false cap H.length [k])
  | _ => none
def tlockr (x : Thg) (t k v : Int) (ws : List Wt) (cap : Nat) : Tree :=
  Tree.br (k == (1 : Int))
   (Tree.chk ((x.3 == (-1 : Int)) = true → (x.3 == (-1 : Int)) = true)
   (Tree.chk ((x.3 == (-1 : Int)) = true → (x.3 == (-1 : Int)) = true)
   (Tree.chk ((bif x.3 == (-1 : Int) then decide (v ≥ (1 : Int)) else false) = true → (bif x.3 == (-1 : Int) then decide (v ≥ (1 : Int)) else false) = true)
   (Tree.chk ((bif x.3 == (-1 : Int) then decide (v ≥ (1 : Int)) else false) = true → (bif x.3 == (-1 : Int) then decide (v ≥ (1 : Int)) else false) = true)
   (Tree.br (bif bif x.3 == (-1 : Int) then decide (v ≥ (1 : Int)) else false then decide (v ≤ (1000 : Int)) else false)
   (Tree.chk ((bif bif x.3 == (-1 : Int) then decide (v ≥ (1 : Int)) else false then decide (v ≤ (1000 : Int)) else false) = true)
   (Tree.chk ((bif bif x.3 == (-1 : Int) then decide (v ≥ (1 : Int)) else false then decide (v ≤ (1000 : Int)) else false) = true)
   (Tree.some_ (List (Int × Int) × Bool) fun s => Tree.callf 30 [AV.agg [iv x.1, iv x.2, iv x.3, iv x.4, iv x.5, iv x.6, iv x.7, iv x.8, iv x.9, iv x.10, iv x.11, iv x.12, CV.sl 0 0 0 2 (List.length ws) cap, iv x.13, iv x.14], AV.c (iv t)] [(Ent.ws false cap ws), (Ent.mkBox 25 [iv x.1, iv x.2, iv x.3, iv x.4, iv x.5, iv x.6, iv x.7, iv x.8, iv x.9, iv x.10, iv x.11, iv x.12, CV.sl 0 0 0 2 (List.length ws) cap, iv x.13, iv x.14]), (Ent.mkBox 25 [iv (0 : Int), iv (0 : Int), iv (0 : Int), iv (0 : Int), iv (0 : Int), iv (0 : Int), iv (0 : Int), iv (0 : Int), iv (0 : Int), iv (0 : Int), iv (0 : Int), iv (0 : Int), CV.v (Value.slice none 0 0), iv (0 : Int), iv (0 : Int)])] (placeC x t (Prod.fst s) (Prod.snd s) cap [0]) fun c => Tree.chk ((bif bif x.3 == (-1 : Int) then decide (v ≥ (1 : Int)) else false then decide (v ≤ (1000 : Int)) else false) = true → (bif bif x.3 == (-1 : Int) then decide (v ≥ (1 : Int)) else false then decide (v ≤ (1000 : Int)) else false) = true)
   (Tree.br (bif bif bif x.3 == (-1 : Int) then decide (v ≥ (1 : Int)) else false then decide (v ≤ (1000 : Int)) else false then decide (placeF (Prod.fst s) t 0 < (0 : Int)) else false)
   (Tree.done (XV.tup [AV.agg [iv x.1, iv x.2, iv t, iv v, iv x.5, iv x.6, iv x.7, iv x.8, iv x.9, iv x.10, iv x.11, iv x.12, CV.sl 0 0 0 2 (List.length ws) cap, iv x.13, iv x.14], AV.c (CV.v (Value.bool true))]) [(Ent.ws (Prod.snd s) cap (Prod.fst s)), (Ent.mkBox 25 [iv x.1, iv x.2, iv t, iv v, iv x.5, iv x.6, iv x.7, iv x.8, iv x.9, iv x.10, iv x.11, iv x.12, CV.sl 0 0 0 2 (List.length ws) cap, iv x.13, iv x.14]), (Ent.mkBox 25 [iv x.1, iv x.2, iv t, iv v, iv x.5, iv x.6, iv x.7, iv x.8, iv x.9, iv x.10, iv x.11, iv x.12, CV.sl 0 0 0 2 (List.length ws) cap, iv x.13, iv x.14])])
   (Tree.chk ((x.3 == t) = true → (x.3 == t) = true)
   (Tree.chk ((x.3 == t) = true → (x.3 == t) = true)
   (Tree.chk ((bif x.3 == t then v == (1 : Int) else false) = true → (bif x.3 == t then v == (1 : Int) else false) = true)
   (Tree.chk ((bif x.3 == t then v == (1 : Int) else false) = true → (bif x.3 == t then v == (1 : Int) else false) = true)
   (Tree.chk ((bif x.3 == t then v == (1 : Int) else false) = true → (bif x.3 == t then v == (1 : Int) else false) = true)
   (Tree.br (bif bif x.3 == t then v == (1 : Int) else false then decide (x.4 < (1000 : Int)) else false)
   (Tree.done (XV.tup [AV.agg [iv x.1, iv x.2, iv x.3, iv (IntKind.wrap IntKind.i64 (x.4 + (1 : Int))), iv x.5, iv x.6, iv x.7, iv x.8, iv x.9, iv x.10, iv x.11, iv x.12, CV.sl 0 0 0 2 (List.length ws) cap, iv x.13, iv x.14], AV.c (CV.v (Value.bool true))]) [(Ent.ws (Prod.snd s) cap (Prod.fst s)), (Ent.mkBox 25 [iv x.1, iv x.2, iv x.3, iv (IntKind.wrap IntKind.i64 (x.4 + (1 : Int))), iv x.5, iv x.6, iv x.7, iv x.8, iv x.9, iv x.10, iv x.11, iv x.12, CV.sl 0 0 0 2 (List.length ws) cap, iv x.13, iv x.14]), (Ent.mkBox 25 [iv x.1, iv x.2, iv x.3, iv (IntKind.wrap IntKind.i64 (x.4 + (1 : Int))), iv x.5, iv x.6, iv x.7, iv x.8, iv x.9, iv x.10, iv x.11, iv x.12, CV.sl 0 0 0 2 (List.length ws) cap, iv x.13, iv x.14])])
   (Tree.done (XV.tup [AV.agg [iv x.1, iv x.2, iv x.3, iv x.4, iv x.5, iv x.6, iv x.7, iv x.8, iv x.9, iv x.10, iv x.11, iv x.12, CV.sl 0 0 0 2 (List.length ws) cap, iv x.13, iv x.14], AV.c (CV.v (Value.bool false))]) [(Ent.ws (Prod.snd s) cap (Prod.fst s)), (Ent.mkBox 25 [iv x.1, iv x.2, iv x.3, iv x.4, iv x.5, iv x.6, iv x.7, iv x.8, iv x.9, iv x.10, iv x.11, iv x.12, CV.sl 0 0 0 2 (List.length ws) cap, iv x.13, iv x.14]), (Ent.mkBox 25 [iv x.1, iv x.2, iv x.3, iv x.4, iv x.5, iv x.6, iv x.7, iv x.8, iv x.9, iv x.10, iv x.11, iv x.12, CV.sl 0 0 0 2 (List.length ws) cap, iv x.13, iv x.14])])))))))))))
   (Tree.chk ((bif bif x.3 == (-1 : Int) then decide (v ≥ (1 : Int)) else false then decide (v ≤ (1000 : Int)) else false) = true → False)
   (Tree.chk ((bif bif x.3 == (-1 : Int) then decide (v ≥ (1 : Int)) else false then decide (v ≤ (1000 : Int)) else false) = false)
   (Tree.br false
   (Tree.done (XV.tup [AV.agg [iv x.1, iv x.2, iv t, iv v, iv x.5, iv x.6, iv x.7, iv x.8, iv x.9, iv x.10, iv x.11, iv x.12, CV.sl 0 0 0 2 (List.length ws) cap, iv x.13, iv x.14], AV.c (CV.v (Value.bool true))]) [(Ent.ws false cap ws), (Ent.mkBox 25 [iv x.1, iv x.2, iv t, iv v, iv x.5, iv x.6, iv x.7, iv x.8, iv x.9, iv x.10, iv x.11, iv x.12, CV.sl 0 0 0 2 (List.length ws) cap, iv x.13, iv x.14]), (Ent.mkBox 25 [iv x.1, iv x.2, iv t, iv v, iv x.5, iv x.6, iv x.7, iv x.8, iv x.9, iv x.10, iv x.11, iv x.12, CV.sl 0 0 0 2 (List.length ws) cap, iv x.13, iv x.14])])
   (Tree.chk ((x.3 == t) = true → (x.3 == t) = true)
   (Tree.chk ((x.3 == t) = true → (x.3 == t) = true)
   (Tree.chk ((bif x.3 == t then v == (1 : Int) else false) = true → (bif x.3 == t then v == (1 : Int) else false) = true)
   (Tree.chk ((bif x.3 == t then v == (1 : Int) else false) = true → (bif x.3 == t then v == (1 : Int) else false) = true)
   (Tree.chk ((bif x.3 == t then v == (1 : Int) else false) = true → (bif x.3 == t then v == (1 : Int) else false) = true)
   (Tree.br (bif bif x.3 == t then v == (1 : Int) else false then decide (x.4 < (1000 : Int)) else false)
   (Tree.done (XV.tup [AV.agg [iv x.1, iv x.2, iv x.3, iv (IntKind.wrap IntKind.i64 (x.4 + (1 : Int))), iv x.5, iv x.6, iv x.7, iv x.8, iv x.9, iv x.10, iv x.11, iv x.12, CV.sl 0 0 0 2 (List.length ws) cap, iv x.13, iv x.14], AV.c (CV.v (Value.bool true))]) [(Ent.ws false cap ws), (Ent.mkBox 25 [iv x.1, iv x.2, iv x.3, iv (IntKind.wrap IntKind.i64 (x.4 + (1 : Int))), iv x.5, iv x.6, iv x.7, iv x.8, iv x.9, iv x.10, iv x.11, iv x.12, CV.sl 0 0 0 2 (List.length ws) cap, iv x.13, iv x.14]), (Ent.mkBox 25 [iv x.1, iv x.2, iv x.3, iv (IntKind.wrap IntKind.i64 (x.4 + (1 : Int))), iv x.5, iv x.6, iv x.7, iv x.8, iv x.9, iv x.10, iv x.11, iv x.12, CV.sl 0 0 0 2 (List.length ws) cap, iv x.13, iv x.14])])
   (Tree.done (XV.tup [AV.agg [iv x.1, iv x.2, iv x.3, iv x.4, iv x.5, iv x.6, iv x.7, iv x.8, iv x.9, iv x.10, iv x.11, iv x.12, CV.sl 0 0 0 2 (List.length ws) cap, iv x.13, iv x.14], AV.c (CV.v (Value.bool false))]) [(Ent.ws false cap ws), (Ent.mkBox 25 [iv x.1, iv x.2, iv x.3, iv x.4, iv x.5, iv x.6, iv x.7, iv x.8, iv x.9, iv x.10, iv x.11, iv x.12, CV.sl 0 0 0 2 (List.length ws) cap, iv x.13, iv x.14]), (Ent.mkBox 25 [iv x.1, iv x.2, iv x.3, iv x.4, iv x.5, iv x.6, iv x.7, iv x.8, iv x.9, iv x.10, iv x.11, iv x.12, CV.sl 0 0 0 2 (List.length ws) cap, iv x.13, iv x.14])])))))))))))))))
   (Tree.br (k == (3 : Int))
   (Tree.chk ((x.3 == t) = true → (x.3 == t) = true)
   (Tree.chk ((x.3 == t) = true → (x.3 == t) = true)
   (Tree.br (bif x.3 == t then v == (0 : Int) else false)
   (Tree.some_ (List (Int × Int)) fun s => Tree.callf 31 [AV.agg [iv x.1, iv x.2, iv x.3, iv x.4, iv x.5, iv x.6, iv x.7, iv x.8, iv x.9, iv x.10, iv x.11, iv x.12, CV.sl 0 0 0 2 (List.length ws) cap, iv x.13, iv x.14]] [(Ent.ws false cap ws), (Ent.mkBox 25 [iv x.1, iv x.2, iv x.3, iv x.4, iv x.5, iv x.6, iv x.7, iv x.8, iv x.9, iv x.10, iv x.11, iv x.12, CV.sl 0 0 0 2 (List.length ws) cap, iv x.13, iv x.14]), (Ent.mkBox 25 [iv (0 : Int), iv (0 : Int), iv (0 : Int), iv (0 : Int), iv (0 : Int), iv (0 : Int), iv (0 : Int), iv (0 : Int), iv (0 : Int), iv (0 : Int), iv (0 : Int), iv (0 : Int), CV.v (Value.slice none 0 0), iv (0 : Int), iv (0 : Int)])] (freeC x s false cap [0]) fun c => Tree.done (XV.tup [AV.agg [iv (freeS x).1, iv (freeS x).2, iv (freeS x).3, iv (freeS x).4, iv (freeS x).5, iv (freeS x).6, iv (freeS x).7, iv (freeS x).8, iv (freeS x).9, iv (freeS x).10, iv (freeS x).11, iv (freeS x).12, CV.sl 0 0 0 2 (List.length s) cap, iv (freeS x).13, iv (freeS x).14], AV.c (CV.v (Value.bool true))]) [(Ent.ws false cap s), (Ent.mkBox 25 [iv x.1, iv x.2, iv x.3, iv x.4, iv x.5, iv x.6, iv x.7, iv x.8, iv x.9, iv x.10, iv x.11, iv x.12, CV.sl 0 0 0 2 (List.length ws) cap, iv x.13, iv x.14]), (Ent.mkBox 25 [iv (freeS x).1, iv (freeS x).2, iv (freeS x).3, iv (freeS x).4, iv (freeS x).5, iv (freeS x).6, iv (freeS x).7, iv (freeS x).8, iv (freeS x).9, iv (freeS x).10, iv (freeS x).11, iv (freeS x).12, CV.sl 0 0 0 2 (List.length s) cap, iv (freeS x).13, iv (freeS x).14])])
   (Tree.done (XV.tup [AV.agg [iv x.1, iv x.2, iv x.3, iv x.4, iv x.5, iv x.6, iv x.7, iv x.8, iv x.9, iv x.10, iv x.11, iv x.12, CV.sl 0 0 0 2 (List.length ws) cap, iv x.13, iv x.14], AV.c (CV.v (Value.bool false))]) [(Ent.ws false cap ws), (Ent.mkBox 25 [iv x.1, iv x.2, iv x.3, iv x.4, iv x.5, iv x.6, iv x.7, iv x.8, iv x.9, iv x.10, iv x.11, iv x.12, CV.sl 0 0 0 2 (List.length ws) cap, iv x.13, iv x.14]), (Ent.mkBox 25 [iv x.1, iv x.2, iv x.3, iv x.4, iv x.5, iv x.6, iv x.7, iv x.8, iv x.9, iv x.10, iv x.11, iv x.12, CV.sl 0 0 0 2 (List.length ws) cap, iv x.13, iv x.14])]))))
   (Tree.br (k == (5 : Int))
   (Tree.chk ((x.3 != (-1 : Int)) = true → (x.3 != (-1 : Int)) = true)
   (Tree.chk ((x.3 != (-1 : Int)) = true → (x.3 != (-1 : Int)) = true)
   (Tree.chk ((bif x.3 != (-1 : Int) then !x.3 == t else false) = true → (bif x.3 != (-1 : Int) then !x.3 == t else false) = true)
   (Tree.chk ((bif x.3 != (-1 : Int) then !x.3 == t else false) = true → (bif x.3 != (-1 : Int) then !x.3 == t else false) = true)
   (Tree.done (XV.tup [AV.agg [iv x.1, iv x.2, iv x.3, iv x.4, iv x.5, iv x.6, iv x.7, iv x.8, iv x.9, iv x.10, iv x.11, iv x.12, CV.sl 0 0 0 2 (List.length ws) cap, iv x.13, iv x.14], AV.c (CV.v (Value.bool (bif bif x.3 != (-1 : Int) then !x.3 == t else false then v == (0 : Int) else false)))]) [(Ent.ws false cap ws), (Ent.mkBox 25 [iv x.1, iv x.2, iv x.3, iv x.4, iv x.5, iv x.6, iv x.7, iv x.8, iv x.9, iv x.10, iv x.11, iv x.12, CV.sl 0 0 0 2 (List.length ws) cap, iv x.13, iv x.14]), (Ent.mkBox 25 [iv x.1, iv x.2, iv x.3, iv x.4, iv x.5, iv x.6, iv x.7, iv x.8, iv x.9, iv x.10, iv x.11, iv x.12, CV.sl 0 0 0 2 (List.length ws) cap, iv x.13, iv x.14])])))))
   (Tree.br (k == (6 : Int))
   (Tree.chk ((!x.3 == t) = true → (!x.3 == t) = true)
   (Tree.chk ((!x.3 == t) = true → (!x.3 == t) = true)
   (Tree.done (XV.tup [AV.agg [iv x.1, iv x.2, iv x.3, iv x.4, iv x.5, iv x.6, iv x.7, iv x.8, iv x.9, iv x.10, iv x.11, iv x.12, CV.sl 0 0 0 2 (List.length ws) cap, iv x.13, iv x.14], AV.c (CV.v (Value.bool (bif !x.3 == t then v == (0 : Int) else false)))]) [(Ent.ws false cap ws), (Ent.mkBox 25 [iv x.1, iv x.2, iv x.3, iv x.4, iv x.5, iv x.6, iv x.7, iv x.8, iv x.9, iv x.10, iv x.11, iv x.12, CV.sl 0 0 0 2 (List.length ws) cap, iv x.13, iv x.14]), (Ent.mkBox 25 [iv x.1, iv x.2, iv x.3, iv x.4, iv x.5, iv x.6, iv x.7, iv x.8, iv x.9, iv x.10, iv x.11, iv x.12, CV.sl 0 0 0 2 (List.length ws) cap, iv x.13, iv x.14])])))
   (Tree.br (k == (7 : Int))
   (Tree.chk ((x.3 == t) = true → (x.3 == t) = true)
   (Tree.chk ((x.3 == t) = true → (x.3 == t) = true)
   (Tree.chk ((x.3 == t) = true → (x.3 == t) = true)
   (Tree.chk ((bif x.3 == t then x.4 == (1000 : Int) else false) = true → (bif x.3 == t then x.4 == (1000 : Int) else false) = true)
   (Tree.chk ((bif x.3 == t then x.4 == (1000 : Int) else false) = true → (bif x.3 == t then x.4 == (1000 : Int) else false) = true)
   (Tree.done (XV.tup [AV.agg [iv x.1, iv x.2, iv x.3, iv x.4, iv x.5, iv x.6, iv x.7, iv x.8, iv x.9, iv x.10, iv x.11, iv x.12, CV.sl 0 0 0 2 (List.length ws) cap, iv x.13, iv x.14], AV.c (CV.v (Value.bool (bif bif x.3 == t then x.4 == (1000 : Int) else false then v == (0 : Int) else false)))]) [(Ent.ws false cap ws), (Ent.mkBox 25 [iv x.1, iv x.2, iv x.3, iv x.4, iv x.5, iv x.6, iv x.7, iv x.8, iv x.9, iv x.10, iv x.11, iv x.12, CV.sl 0 0 0 2 (List.length ws) cap, iv x.13, iv x.14]), (Ent.mkBox 25 [iv x.1, iv x.2, iv x.3, iv x.4, iv x.5, iv x.6, iv x.7, iv x.8, iv x.9, iv x.10, iv x.11, iv x.12, CV.sl 0 0 0 2 (List.length ws) cap, iv x.13, iv x.14])]))))))
   (Tree.br (k == (10 : Int))
   (Tree.chk ((x.3 == t) = true → (x.3 == t) = true)
   (Tree.chk ((x.3 == t) = true → (x.3 == t) = true)
   (Tree.chk ((x.3 == t) = true → (x.3 == t) = true)
   (Tree.chk ((x.3 == t) = true → (x.3 == t) = true)
   (Tree.br (bif x.3 == t then v == x.4 else false)
   (Tree.both
   (Tree.chk (AV.agg [iv t, iv x.4] = AV.agg [iv t, iv x.4])
   (Tree.chk (AV.c (iv x.4) = AV.c (iv x.4))
   (Tree.chk (AV.c (CV.ptr { k := 1, j := 0, i := 0, sz := 15, c := 3, d := 0, dn := 0, cu := 0 }) = AV.c (CV.ptr { k := 1, j := 0, i := 0, sz := 15, c := 3, d := 0, dn := 0, cu := 0 }))
   (Tree.chk (AV.c (iv t) = AV.c (iv t))
   (Tree.chk (AV.c (CV.sl 0 0 0 2 (List.length ws) cap) = AV.c (CV.sl 0 0 0 2 (List.length ws) cap))
   (Tree.chk (AV.c (CV.ptr { k := 1, j := 0, i := 0, sz := 15, c := 12, d := 0, dn := 0, cu := 0 }) = AV.c (CV.ptr { k := 1, j := 0, i := 0, sz := 15, c := 12, d := 0, dn := 0, cu := 0 }))
   (Tree.both
   (Tree.chk ((0 + List.length ws) * 16 ≤ 140737488355328)
   (Tree.chk (0 < 1 ∧ 0 + List.length ws ≤ List.length ws)
   (Tree.chk (0 = 0 ∧ 0 = 0)
   (Tree.all (fun c => 0 + List.length ws ≤ c 0 ∧ c 0 ≤ maxLen) fun c => Tree.chk (AV.agg [iv t, iv x.4] = AV.agg [iv t, iv x.4])
   (Tree.chk (AV.c (iv x.4) = AV.c (iv x.4))
   (Tree.chk (AV.c (CV.ptr { k := 1, j := 0, i := 0, sz := 15, c := 3, d := 0, dn := 0, cu := 0 }) = AV.c (CV.ptr { k := 1, j := 0, i := 0, sz := 15, c := 3, d := 0, dn := 0, cu := 0 }))
   (Tree.chk (AV.c (iv t) = AV.c (iv t))
   (Tree.chk ((0 + List.length ws + 1) * 16 ≤ 140737488355328)
   (Tree.chk (0 < 1 ∧ 1 ≤ 1)
   (Tree.chk (0 + List.length ws = 0 + List.length ws ∧ c 0 = c 0)
   (Tree.all (fun c => 0 + List.length ws + 1 ≤ c 0 ∧ c 0 ≤ maxLen) fun c => Tree.done (XV.tup [AV.agg [iv x.1, iv x.2, iv (-1 : Int), iv (0 : Int), iv x.5, iv x.6, iv x.7, iv x.8, iv x.9, iv x.10, iv x.11, iv x.12, CV.sl 6 0 0 2 (0 + List.length ws + 1) (c 0), iv x.13, iv x.14], AV.c (CV.v (Value.bool true))]) [(Ent.ws false cap ws), (Ent.mkBox 25 [iv x.1, iv x.2, iv (-1 : Int), iv (0 : Int), iv x.5, iv x.6, iv x.7, iv x.8, iv x.9, iv x.10, iv x.11, iv x.12, CV.sl 6 0 0 2 (0 + List.length ws + 1) (c 0), iv x.13, iv x.14]), (Ent.mkBox 25 [iv x.1, iv x.2, iv (-1 : Int), iv (0 : Int), iv x.5, iv x.6, iv x.7, iv x.8, iv x.9, iv x.10, iv x.11, iv x.12, CV.sl 6 0 0 2 (0 + List.length ws + 1) (c 0), iv x.13, iv x.14]), Ent.dead, Ent.dead, { own := true, box := false, ty := 37, sz := 2, m := 1, n := fun x => 1, cap := fun x => 1, f := fun x_1 i => [iv t, iv x.4], ov := [] }, { own := true, box := false, ty := 37, sz := 2, m := 1, n := fun x => 0 + List.length ws + 1, cap := fun x => c 0, f := fun x_1 i => if i < 0 + List.length ws then if i < 0 then List.getD (List.replicate 0 (List.map CV.v [Value.int IntKind.i64 (0 : Int), Value.int IntKind.i64 (0 : Int)])) i [] else [iv (Prod.fst (List.getD ws (i - 0) ((0 : Int), (0 : Int)))), iv (Prod.snd (List.getD ws (i - 0) ((0 : Int), (0 : Int))))] else [iv t, iv x.4], ov := [] }])))))))))))
   (Tree.chk (AV.c (CV.sl 0 0 0 2 (List.length ws) cap) = AV.c (CV.sl 0 0 0 2 (List.length ws) cap))
   (Tree.chk (AV.c (CV.ptr { k := 1, j := 0, i := 0, sz := 15, c := 12, d := 0, dn := 0, cu := 0 }) = AV.c (CV.ptr { k := 1, j := 0, i := 0, sz := 15, c := 12, d := 0, dn := 0, cu := 0 }))
   (Tree.chk ((0 + List.length ws) * 16 ≤ 140737488355328)
   (Tree.chk (0 < 1 ∧ 0 + List.length ws ≤ List.length ws)
   (Tree.chk (0 = 0 ∧ 0 = 0)
   (Tree.all (fun c => 0 + List.length ws ≤ c 0 ∧ c 0 ≤ maxLen) fun c => Tree.chk ((0 + List.length ws + 1) * 16 ≤ 140737488355328)
   (Tree.chk (0 < 1 ∧ 1 ≤ 1)
   (Tree.chk (0 + List.length ws = 0 + List.length ws ∧ c 0 = c 0)
   (Tree.all (fun c => 0 + List.length ws + 1 ≤ c 0 ∧ c 0 ≤ maxLen) fun c => Tree.done (XV.tup [AV.agg [iv x.1, iv x.2, iv (-1 : Int), iv (0 : Int), iv x.5, iv x.6, iv x.7, iv x.8, iv x.9, iv x.10, iv x.11, iv x.12, CV.sl 6 0 0 2 (0 + List.length ws + 1) (c 0), iv x.13, iv x.14], AV.c (CV.v (Value.bool true))]) [(Ent.ws false cap ws), (Ent.mkBox 25 [iv x.1, iv x.2, iv (-1 : Int), iv (0 : Int), iv x.5, iv x.6, iv x.7, iv x.8, iv x.9, iv x.10, iv x.11, iv x.12, CV.sl 6 0 0 2 (0 + List.length ws + 1) (c 0), iv x.13, iv x.14]), (Ent.mkBox 25 [iv x.1, iv x.2, iv (-1 : Int), iv (0 : Int), iv x.5, iv x.6, iv x.7, iv x.8, iv x.9, iv x.10, iv x.11, iv x.12, CV.sl 6 0 0 2 (0 + List.length ws + 1) (c 0), iv x.13, iv x.14]), Ent.dead, { own := true, box := false, ty := 37, sz := 2, m := 1, n := fun x => 1, cap := fun x => 1, f := fun x_1 i => [iv t, iv x.4], ov := [] }, Ent.dead, { own := true, box := false, ty := 37, sz := 2, m := 1, n := fun x => 0 + List.length ws + 1, cap := fun x => c 0, f := fun x_1 i => if i < 0 + List.length ws then if i < 0 then List.getD (List.replicate 0 (List.map CV.v [Value.int IntKind.i64 (0 : Int), Value.int IntKind.i64 (0 : Int)])) i [] else [iv (Prod.fst (List.getD ws (i - 0) ((0 : Int), (0 : Int)))), iv (Prod.snd (List.getD ws (i - 0) ((0 : Int), (0 : Int))))] else [iv t, iv x.4], ov := [] }]))))))))))))))))
   (Tree.chk (AV.c (CV.sl 0 0 0 2 (List.length ws) cap) = AV.c (CV.sl 0 0 0 2 (List.length ws) cap))
   (Tree.chk (AV.c (CV.ptr { k := 1, j := 0, i := 0, sz := 15, c := 12, d := 0, dn := 0, cu := 0 }) = AV.c (CV.ptr { k := 1, j := 0, i := 0, sz := 15, c := 12, d := 0, dn := 0, cu := 0 }))
   (Tree.chk (AV.c (CV.sl 0 0 0 2 (List.length ws) cap) = AV.c (CV.sl 0 0 0 2 (List.length ws) cap))
   (Tree.chk (AV.c (CV.ptr { k := 1, j := 0, i := 0, sz := 15, c := 12, d := 0, dn := 0, cu := 0 }) = AV.c (CV.ptr { k := 1, j := 0, i := 0, sz := 15, c := 12, d := 0, dn := 0, cu := 0 }))
   (Tree.chk ((0 + List.length ws) * 16 ≤ 140737488355328)
   (Tree.chk (0 < 1 ∧ 0 + List.length ws ≤ List.length ws)
   (Tree.chk (0 = 0 ∧ 0 = 0)
   (Tree.all (fun c => 0 + List.length ws ≤ c 0 ∧ c 0 ≤ maxLen) fun c => Tree.chk ((0 + List.length ws + 1) * 16 ≤ 140737488355328)
   (Tree.chk (0 < 1 ∧ 1 ≤ 1)
   (Tree.chk (0 + List.length ws = 0 + List.length ws ∧ c 0 = c 0)
   (Tree.all (fun c => 0 + List.length ws + 1 ≤ c 0 ∧ c 0 ≤ maxLen) fun c => Tree.done (XV.tup [AV.agg [iv x.1, iv x.2, iv (-1 : Int), iv (0 : Int), iv x.5, iv x.6, iv x.7, iv x.8, iv x.9, iv x.10, iv x.11, iv x.12, CV.sl 6 0 0 2 (0 + List.length ws + 1) (c 0), iv x.13, iv x.14], AV.c (CV.v (Value.bool true))]) [(Ent.ws false cap ws), (Ent.mkBox 25 [iv x.1, iv x.2, iv (-1 : Int), iv (0 : Int), iv x.5, iv x.6, iv x.7, iv x.8, iv x.9, iv x.10, iv x.11, iv x.12, CV.sl 6 0 0 2 (0 + List.length ws + 1) (c 0), iv x.13, iv x.14]), (Ent.mkBox 25 [iv x.1, iv x.2, iv (-1 : Int), iv (0 : Int), iv x.5, iv x.6, iv x.7, iv x.8, iv x.9, iv x.10, iv x.11, iv x.12, CV.sl 6 0 0 2 (0 + List.length ws + 1) (c 0), iv x.13, iv x.14]), { own := true, box := false, ty := 37, sz := 2, m := 1, n := fun x => 1, cap := fun x => 1, f := fun x_1 i => [iv t, iv x.4], ov := [] }, Ent.dead, Ent.dead, { own := true, box := false, ty := 37, sz := 2, m := 1, n := fun x => 0 + List.length ws + 1, cap := fun x => c 0, f := fun x_1 i => if i < 0 + List.length ws then if i < 0 then List.getD (List.replicate 0 (List.map CV.v [Value.int IntKind.i64 (0 : Int), Value.int IntKind.i64 (0 : Int)])) i [] else [iv (Prod.fst (List.getD ws (i - 0) ((0 : Int), (0 : Int)))), iv (Prod.snd (List.getD ws (i - 0) ((0 : Int), (0 : Int))))] else [iv t, iv x.4], ov := [] }]))))))))))))
   (Tree.done (XV.tup [AV.agg [iv x.1, iv x.2, iv x.3, iv x.4, iv x.5, iv x.6, iv x.7, iv x.8, iv x.9, iv x.10, iv x.11, iv x.12, CV.sl 0 0 0 2 (List.length ws) cap, iv x.13, iv x.14], AV.c (CV.v (Value.bool false))]) [(Ent.ws false cap ws), (Ent.mkBox 25 [iv x.1, iv x.2, iv x.3, iv x.4, iv x.5, iv x.6, iv x.7, iv x.8, iv x.9, iv x.10, iv x.11, iv x.12, CV.sl 0 0 0 2 (List.length ws) cap, iv x.13, iv x.14]), (Ent.mkBox 25 [iv x.1, iv x.2, iv x.3, iv x.4, iv x.5, iv x.6, iv x.7, iv x.8, iv x.9, iv x.10, iv x.11, iv x.12, CV.sl 0 0 0 2 (List.length ws) cap, iv x.13, iv x.14])]))))))
   (Tree.br (k == (11 : Int))
   (Tree.chk ((x.3 == t) = true → (x.3 == t) = true)
   (Tree.chk ((x.3 == t) = true → (x.3 == t) = true)
   (Tree.chk ((x.3 == t) = true → (x.3 == t) = true)
   (Tree.chk ((x.3 == t) = true → (x.3 == t) = true)
   (Tree.chk ((bif x.3 == t then decide ((↑(List.length ws) : Int) > (0 : Int)) else false) = true → (bif x.3 == t then decide ((↑(List.length ws) : Int) > (0 : Int)) else false) = true)
   (Tree.chk ((bif x.3 == t then decide ((↑(List.length ws) : Int) > (0 : Int)) else false) = true → (bif x.3 == t then decide ((↑(List.length ws) : Int) > (0 : Int)) else false) = true)
   (Tree.chk ((bif x.3 == t then decide ((↑(List.length ws) : Int) > (0 : Int)) else false) = true → (0 : Int) ≤ (0 : Int) ∧ (0 : Int) < (↑(List.length ws) : Int) ∧ Int.toNat (0 : Int) < List.length ws ∧ 0 < 1)
   (Tree.chk ((bif x.3 == t then decide ((↑(List.length ws) : Int) > (0 : Int)) else false) = true → (bif x.3 == t then decide ((↑(List.length ws) : Int) > (0 : Int)) else false) = true)
   (Tree.chk ((bif x.3 == t then decide ((↑(List.length ws) : Int) > (0 : Int)) else false) = true → (bif x.3 == t then decide ((↑(List.length ws) : Int) > (0 : Int)) else false) = true)
   (Tree.chk ((bif x.3 == t then decide ((↑(List.length ws) : Int) > (0 : Int)) else false) = true → 0 < 1 ∧ Int.toNat (0 : Int) < List.length ws)
   (Tree.chk ((bif x.3 == t then decide ((↑(List.length ws) : Int) > (0 : Int)) else false) = true → (bif x.3 == t then decide ((↑(List.length ws) : Int) > (0 : Int)) else false) = true)
   (Tree.chk ((bif x.3 == t then decide ((↑(List.length ws) : Int) > (0 : Int)) else false) = true → (bif x.3 == t then decide ((↑(List.length ws) : Int) > (0 : Int)) else false) = true)
   (Tree.chk ((bif x.3 == t then decide ((↑(List.length ws) : Int) > (0 : Int)) else false) = true → (bif x.3 == t then decide ((↑(List.length ws) : Int) > (0 : Int)) else false) = true)
   (Tree.br (bif bif x.3 == t then decide ((↑(List.length ws) : Int) > (0 : Int)) else false then v == Prod.fst (List.getD ws (Int.toNat (0 : Int)) ((0 : Int), (0 : Int))) else false)
   (Tree.some_ (List (Int × Int)) fun s => Tree.callf 32 [AV.c (CV.sl 0 0 0 2 (List.length ws) cap), AV.c (iv (0 : Int))] [(Ent.ws false cap ws), (Ent.mkBox 25 [iv x.1, iv x.2, iv x.3, iv x.4, iv x.5, iv x.6, iv x.7, iv x.8, iv x.9, iv x.10, iv x.11, iv x.12, CV.sl 0 0 0 2 (List.length ws) cap, iv x.13, iv x.14]), (Ent.mkBox 25 [iv (0 : Int), iv (0 : Int), iv (0 : Int), iv (0 : Int), iv (0 : Int), iv (0 : Int), iv (0 : Int), iv (0 : Int), iv (0 : Int), iv (0 : Int), iv (0 : Int), iv (0 : Int), CV.v (Value.slice none 0 0), iv (0 : Int), iv (0 : Int)])] (withoutC s (0 : Int) false cap 3 [0]) fun c => Tree.done (XV.tup [AV.agg [iv x.1, iv x.2, iv x.3, iv x.4, iv x.5, iv x.6, iv x.7, iv x.8, iv x.9, iv x.10, iv x.11, iv x.12, CV.sl 3 0 0 2 (List.length (woF s (0 : Int) (List.length s))) (c 0), iv x.13, iv x.14], AV.c (CV.v (Value.bool true))]) [(Ent.ws false cap s), (Ent.mkBox 25 [iv x.1, iv x.2, iv x.3, iv x.4, iv x.5, iv x.6, iv x.7, iv x.8, iv x.9, iv x.10, iv x.11, iv x.12, CV.sl 3 0 0 2 (List.length (woF s (0 : Int) (List.length s))) (c 0), iv x.13, iv x.14]), (Ent.mkBox 25 [iv x.1, iv x.2, iv x.3, iv x.4, iv x.5, iv x.6, iv x.7, iv x.8, iv x.9, iv x.10, iv x.11, iv x.12, CV.sl 3 0 0 2 (List.length (woF s (0 : Int) (List.length s))) (c 0), iv x.13, iv x.14]), (Ent.ws true (c 0) (woF s (0 : Int) (List.length s)))])
   (Tree.done (XV.tup [AV.agg [iv x.1, iv x.2, iv x.3, iv x.4, iv x.5, iv x.6, iv x.7, iv x.8, iv x.9, iv x.10, iv x.11, iv x.12, CV.sl 0 0 0 2 (List.length ws) cap, iv x.13, iv x.14], AV.c (CV.v (Value.bool false))]) [(Ent.ws false cap ws), (Ent.mkBox 25 [iv x.1, iv x.2, iv x.3, iv x.4, iv x.5, iv x.6, iv x.7, iv x.8, iv x.9, iv x.10, iv x.11, iv x.12, CV.sl 0 0 0 2 (List.length ws) cap, iv x.13, iv x.14]), (Ent.mkBox 25 [iv x.1, iv x.2, iv x.3, iv x.4, iv x.5, iv x.6, iv x.7, iv x.8, iv x.9, iv x.10, iv x.11, iv x.12, CV.sl 0 0 0 2 (List.length ws) cap, iv x.13, iv x.14])])))))))))))))))
   (Tree.br (k == (12 : Int))
   (Tree.chk ((x.3 == t) = true → (x.3 == t) = true)
   (Tree.chk ((x.3 == t) = true → (x.3 == t) = true)
   (Tree.chk ((x.3 == t) = true → (x.3 == t) = true)
   (Tree.chk ((x.3 == t) = true → (x.3 == t) = true)
   (Tree.chk ((bif x.3 == t then (↑(List.length ws) : Int) == (0 : Int) else false) = true → (bif x.3 == t then (↑(List.length ws) : Int) == (0 : Int) else false) = true)
   (Tree.chk ((bif x.3 == t then (↑(List.length ws) : Int) == (0 : Int) else false) = true → (bif x.3 == t then (↑(List.length ws) : Int) == (0 : Int) else false) = true)
   (Tree.done (XV.tup [AV.agg [iv x.1, iv x.2, iv x.3, iv x.4, iv x.5, iv x.6, iv x.7, iv x.8, iv x.9, iv x.10, iv x.11, iv x.12, CV.sl 0 0 0 2 (List.length ws) cap, iv x.13, iv x.14], AV.c (CV.v (Value.bool (bif bif x.3 == t then (↑(List.length ws) : Int) == (0 : Int) else false then v == (0 : Int) else false)))]) [(Ent.ws false cap ws), (Ent.mkBox 25 [iv x.1, iv x.2, iv x.3, iv x.4, iv x.5, iv x.6, iv x.7, iv x.8, iv x.9, iv x.10, iv x.11, iv x.12, CV.sl 0 0 0 2 (List.length ws) cap, iv x.13, iv x.14]), (Ent.mkBox 25 [iv x.1, iv x.2, iv x.3, iv x.4, iv x.5, iv x.6, iv x.7, iv x.8, iv x.9, iv x.10, iv x.11, iv x.12, CV.sl 0 0 0 2 (List.length ws) cap, iv x.13, iv x.14])])))))))
   (Tree.br (k == (13 : Int))
   (Tree.some_ (List (Int × Int) × Bool) fun s => Tree.callf 30 [AV.agg [iv x.1, iv x.2, iv x.3, iv x.4, iv x.5, iv x.6, iv x.7, iv x.8, iv x.9, iv x.10, iv x.11, iv x.12, CV.sl 0 0 0 2 (List.length ws) cap, iv x.13, iv x.14], AV.c (iv t)] [(Ent.ws false cap ws), (Ent.mkBox 25 [iv x.1, iv x.2, iv x.3, iv x.4, iv x.5, iv x.6, iv x.7, iv x.8, iv x.9, iv x.10, iv x.11, iv x.12, CV.sl 0 0 0 2 (List.length ws) cap, iv x.13, iv x.14]), (Ent.mkBox 25 [iv (0 : Int), iv (0 : Int), iv (0 : Int), iv (0 : Int), iv (0 : Int), iv (0 : Int), iv (0 : Int), iv (0 : Int), iv (0 : Int), iv (0 : Int), iv (0 : Int), iv (0 : Int), CV.v (Value.slice none 0 0), iv (0 : Int), iv (0 : Int)])] (placeC x t (Prod.fst s) (Prod.snd s) cap [0]) fun c => Tree.chk (decide (placeF (Prod.fst s) t 0 ≥ (0 : Int)) = true → decide (placeF (Prod.fst s) t 0 ≥ (0 : Int)) = true)
   (Tree.chk (decide (placeF (Prod.fst s) t 0 ≥ (0 : Int)) = true → decide (placeF (Prod.fst s) t 0 ≥ (0 : Int)) = true)
   (Tree.br (bif decide (placeF (Prod.fst s) t 0 ≥ (0 : Int)) then v == (0 : Int) else false)
   (Tree.both
   (Tree.chk (XV.a (AV.c (iv (placeF (Prod.fst s) t 0))) = XV.a (AV.c (iv (placeF ws t 0))))
   (Tree.chk (XV.a (AV.c (iv t)) = XV.a (AV.c (iv t)))
   (Tree.chk (XV.a (AV.c (CV.ptr { k := 1, j := 0, i := 0, sz := 15, c := 0, d := 0, dn := 0, cu := 0 })) = XV.a (AV.c (CV.ptr { k := 1, j := 0, i := 0, sz := 15, c := 0, d := 0, dn := 0, cu := 0 })))
   (Tree.chk (XV.a (AV.c (CV.ptr { k := 2, j := 0, i := 0, sz := 15, c := 0, d := 0, dn := 0, cu := 0 })) = XV.a (AV.c (CV.ptr { k := 2, j := 0, i := 0, sz := 15, c := 0, d := 0, dn := 0, cu := 0 })))
   (Tree.chk (RnOk 1 4 3 fun a a_1 => (List.getD [0, 1, 2, 0] a 0, a_1))
   (Tree.chk (RgAll 3 (fun a a_1 => (List.getD [0, 1, 2, 0] a 0, a_1)) (fun a a_1 => (List.getD [3, 1, 2] a 0, a_1)) [(Ent.ws (Prod.snd s) cap (Prod.fst s)), (Ent.mkBox 25 [iv x.1, iv x.2, iv x.3, iv x.4, iv x.5, iv x.6, iv x.7, iv x.8, iv x.9, iv x.10, iv x.11, iv x.12, CV.sl 0 0 0 2 (List.length ws) cap, iv x.13, iv x.14]), (Ent.mkBox 25 [iv (0 : Int), iv (0 : Int), iv (0 : Int), iv (0 : Int), iv (0 : Int), iv (0 : Int), iv (0 : Int), iv (0 : Int), iv (0 : Int), iv (0 : Int), iv (0 : Int), iv (0 : Int), CV.v (Value.slice none 0 0), iv (0 : Int), iv (0 : Int)])] 4 0 [(Ent.ws false cap ws), (Ent.mkBox 25 [iv x.1, iv x.2, iv x.3, iv x.4, iv x.5, iv x.6, iv x.7, iv x.8, iv x.9, iv x.10, iv x.11, iv x.12, CV.sl 3 0 0 2 (List.length ws) cap, iv x.13, iv x.14]), (Ent.mkBox 25 [iv (0 : Int), iv (0 : Int), iv (0 : Int), iv (0 : Int), iv (0 : Int), iv (0 : Int), iv (0 : Int), iv (0 : Int), iv (0 : Int), iv (0 : Int), iv (0 : Int), iv (0 : Int), CV.v (Value.slice none 0 0), iv (0 : Int), iv (0 : Int)]), (Ent.ws false cap ws)])
   (Tree.need True)))))))
   (Tree.every { p // notF (Prod.fst p) t = notF ws t ∧ List.length (Prod.fst p) ≤ List.length ws } fun s_1 => Tree.br (decide (placeF (Prod.fst (Subtype.val s_1)) t 0 ≥ (0 : Int)))
   (Tree.some_ (List (Int × Int)) fun s_2 => Tree.callf 32 [AV.c (CV.sl 3 0 0 2 (List.length (Prod.fst (Subtype.val s_1))) (Prod.snd (Subtype.val s_1))), AV.c (iv (placeF (Prod.fst (Subtype.val s_1)) t 0))] [(Ent.ws false cap ws), (Ent.mkBox 25 [iv x.1, iv x.2, iv x.3, iv x.4, iv x.5, iv x.6, iv x.7, iv x.8, iv x.9, iv x.10, iv x.11, iv x.12, CV.sl 3 0 0 2 (List.length (Prod.fst (Subtype.val s_1))) (Prod.snd (Subtype.val s_1)), iv x.13, iv x.14]), (Ent.mkBox 25 [iv (0 : Int), iv (0 : Int), iv (0 : Int), iv (0 : Int), iv (0 : Int), iv (0 : Int), iv (0 : Int), iv (0 : Int), iv (0 : Int), iv (0 : Int), iv (0 : Int), iv (0 : Int), CV.v (Value.slice none 0 0), iv (0 : Int), iv (0 : Int)]), (Ent.ws false (Prod.snd (Subtype.val s_1)) (Prod.fst (Subtype.val s_1)))] (withoutC s_2 (placeF (Prod.fst (Subtype.val s_1)) t 0) false (Prod.snd (Subtype.val s_1)) 4 [3]) fun c_1 => Tree.some_ (List (Int × Int) × Bool) fun s_3 => Tree.callf 30 [AV.agg [iv x.1, iv x.2, iv x.3, iv x.4, iv x.5, iv x.6, iv x.7, iv x.8, iv x.9, iv x.10, iv x.11, iv x.12, CV.sl 4 0 0 2 (List.length (woF s_2 (placeF (Prod.fst (Subtype.val s_1)) t 0) (List.length s_2))) (c_1 0), iv x.13, iv x.14], AV.c (iv t)] [(Ent.ws false cap ws), (Ent.mkBox 25 [iv x.1, iv x.2, iv x.3, iv x.4, iv x.5, iv x.6, iv x.7, iv x.8, iv x.9, iv x.10, iv x.11, iv x.12, CV.sl 4 0 0 2 (List.length (woF s_2 (placeF (Prod.fst (Subtype.val s_1)) t 0) (List.length s_2))) (c_1 0), iv x.13, iv x.14]), (Ent.mkBox 25 [iv (0 : Int), iv (0 : Int), iv (0 : Int), iv (0 : Int), iv (0 : Int), iv (0 : Int), iv (0 : Int), iv (0 : Int), iv (0 : Int), iv (0 : Int), iv (0 : Int), iv (0 : Int), CV.v (Value.slice none 0 0), iv (0 : Int), iv (0 : Int)]), (Ent.ws false (Prod.snd (Subtype.val s_1)) s_2), (Ent.ws true (c_1 0) (woF s_2 (placeF (Prod.fst (Subtype.val s_1)) t 0) (List.length s_2)))] (placeC x t (Prod.fst s_3) (Prod.snd s_3) (c_1 0) [4]) fun c_2 => Tree.some_ { p // notF (Prod.fst p) t = notF ws t ∧ List.length (Prod.fst p) ≤ List.length ws } fun s' => Tree.chk (List.length (Prod.fst (Subtype.val s')) < List.length (Prod.fst (Subtype.val s_1)))
   (Tree.chk (XV.a (AV.c (iv (placeF (Prod.fst s_3) t 0))) = XV.a (AV.c (iv (placeF (Prod.fst (Subtype.val s')) t 0))))
   (Tree.chk (XV.a (AV.c (iv t)) = XV.a (AV.c (iv t)))
   (Tree.chk (XV.a (AV.c (CV.ptr { k := 1, j := 0, i := 0, sz := 15, c := 0, d := 0, dn := 0, cu := 0 })) = XV.a (AV.c (CV.ptr { k := 1, j := 0, i := 0, sz := 15, c := 0, d := 0, dn := 0, cu := 0 })))
   (Tree.chk (XV.a (AV.c (CV.ptr { k := 2, j := 0, i := 0, sz := 15, c := 0, d := 0, dn := 0, cu := 0 })) = XV.a (AV.c (CV.ptr { k := 2, j := 0, i := 0, sz := 15, c := 0, d := 0, dn := 0, cu := 0 })))
   (Tree.chk (RnOk 1 4 5 fun a a_1 => (List.getD [0, 1, 2, 4] a 0, a_1))
   (Tree.chk (RgAll 5 (fun a a_1 => (List.getD [0, 1, 2, 4] a 0, a_1)) (fun a a_1 => (List.getD [0, 1, 2, 0, 3] a 0, a_1)) [(Ent.ws false cap ws), (Ent.mkBox 25 [iv x.1, iv x.2, iv x.3, iv x.4, iv x.5, iv x.6, iv x.7, iv x.8, iv x.9, iv x.10, iv x.11, iv x.12, CV.sl 4 0 0 2 (List.length (woF s_2 (placeF (Prod.fst (Subtype.val s_1)) t 0) (List.length s_2))) (c_1 0), iv x.13, iv x.14]), (Ent.mkBox 25 [iv (0 : Int), iv (0 : Int), iv (0 : Int), iv (0 : Int), iv (0 : Int), iv (0 : Int), iv (0 : Int), iv (0 : Int), iv (0 : Int), iv (0 : Int), iv (0 : Int), iv (0 : Int), CV.v (Value.slice none 0 0), iv (0 : Int), iv (0 : Int)]), (Ent.ws false (Prod.snd (Subtype.val s_1)) s_2), (Ent.ws (Prod.snd s_3) (c_1 0) (Prod.fst s_3))] 4 0 [(Ent.ws false cap ws), (Ent.mkBox 25 [iv x.1, iv x.2, iv x.3, iv x.4, iv x.5, iv x.6, iv x.7, iv x.8, iv x.9, iv x.10, iv x.11, iv x.12, CV.sl 3 0 0 2 (List.length (Prod.fst (Subtype.val s'))) (Prod.snd (Subtype.val s')), iv x.13, iv x.14]), (Ent.mkBox 25 [iv (0 : Int), iv (0 : Int), iv (0 : Int), iv (0 : Int), iv (0 : Int), iv (0 : Int), iv (0 : Int), iv (0 : Int), iv (0 : Int), iv (0 : Int), iv (0 : Int), iv (0 : Int), CV.v (Value.slice none 0 0), iv (0 : Int), iv (0 : Int)]), (Ent.ws false (Prod.snd (Subtype.val s')) (Prod.fst (Subtype.val s')))])
   (Tree.need True))))))))
   (Tree.done (XV.tup [AV.agg [iv x.1, iv x.2, iv x.3, iv x.4, iv x.5, iv x.6, iv x.7, iv x.8, iv x.9, iv x.10, iv x.11, iv x.12, CV.sl 3 0 0 2 (List.length (Prod.fst (Subtype.val s_1))) (Prod.snd (Subtype.val s_1)), iv x.13, iv x.14], AV.c (CV.v (Value.bool true))]) [(Ent.ws false cap ws), (Ent.mkBox 25 [iv x.1, iv x.2, iv x.3, iv x.4, iv x.5, iv x.6, iv x.7, iv x.8, iv x.9, iv x.10, iv x.11, iv x.12, CV.sl 3 0 0 2 (List.length (Prod.fst (Subtype.val s_1))) (Prod.snd (Subtype.val s_1)), iv x.13, iv x.14]), (Ent.mkBox 25 [iv x.1, iv x.2, iv x.3, iv x.4, iv x.5, iv x.6, iv x.7, iv x.8, iv x.9, iv x.10, iv x.11, iv x.12, CV.sl 3 0 0 2 (List.length (Prod.fst (Subtype.val s_1))) (Prod.snd (Subtype.val s_1)), iv x.13, iv x.14]), (Ent.ws false (Prod.snd (Subtype.val s_1)) (Prod.fst (Subtype.val s_1)))])))
   (Tree.done (XV.tup [AV.agg [iv x.1, iv x.2, iv x.3, iv x.4, iv x.5, iv x.6, iv x.7, iv x.8, iv x.9, iv x.10, iv x.11, iv x.12, CV.sl 0 0 0 2 (List.length ws) cap, iv x.13, iv x.14], AV.c (CV.v (Value.bool false))]) [(Ent.ws (Prod.snd s) cap (Prod.fst s)), (Ent.mkBox 25 [iv x.1, iv x.2, iv x.3, iv x.4, iv x.5, iv x.6, iv x.7, iv x.8, iv x.9, iv x.10, iv x.11, iv x.12, CV.sl 0 0 0 2 (List.length ws) cap, iv x.13, iv x.14]), (Ent.mkBox 25 [iv x.1, iv x.2, iv x.3, iv x.4, iv x.5, iv x.6, iv x.7, iv x.8, iv x.9, iv x.10, iv x.11, iv x.12, CV.sl 0 0 0 2 (List.length ws) cap, iv x.13, iv x.14])]))))
   (Tree.done (XV.tup [AV.agg [iv x.1, iv x.2, iv x.3, iv x.4, iv x.5, iv x.6, iv x.7, iv x.8, iv x.9, iv x.10, iv x.11, iv x.12, CV.sl 0 0 0 2 (List.length ws) cap, iv x.13, iv x.14], AV.c (CV.v (Value.bool false))]) [(Ent.ws false cap ws), (Ent.mkBox 25 [iv x.1, iv x.2, iv x.3, iv x.4, iv x.5, iv x.6, iv x.7, iv x.8, iv x.9, iv x.10, iv x.11, iv x.12, CV.sl 0 0 0 2 (List.length ws) cap, iv x.13, iv x.14]), (Ent.mkBox 25 [iv x.1, iv x.2, iv x.3, iv x.4, iv x.5, iv x.6, iv x.7, iv x.8, iv x.9, iv x.10, iv x.11, iv x.12, CV.sl 0 0 0 2 (List.length ws) cap, iv x.13, iv x.14])])))))))))
theorem tlockr_eq (x : Thg) (t k v : Int) (ws : List Wt) (cap : Nat) : xfunc tab lockrG (lpI fun _ tm H => (refInv x ws cap t)) Go.Proofs.Try.f21 [x.av 0 0 ws.length cap, .c (iv t), .c (iv k), .c (iv v)] [Ent.ws false cap ws] [0, 1, 2, 3, 4, 5, 6, 7, 8, 9] = tlockr x t k v ws cap := by kernel_rfl
end Go.Proofs.Ytnenbngjdekegaa.X

/- The model: the document's locks, proved. -/
set_option linter.unusedVariables false
set_option linter.unusedSimpArgs false
namespace Go.Proofs.Ytnenbngjdekegaa.X
open Go Go.RowKit Go.Proofs.YtnenbngjdekegaaW.PrintWords Go.Proofs.Ytnenbngjdekegaa.Base
def lockrF (x : Thg) (t k v : Int) (ws : List Wt) : Thg × List Wt × Bool :=
  bif k == 1 then
    (bif (bif (bif (bif x.o == -1 then decide (v ≥ 1) else false) then decide (v ≤ 1000) else false) then decide (placeF ws t 0 < 0) else false) then ({ x with o := t, h := v }, ws, true)
     else bif (bif (bif x.o == t then v == 1 else false) then decide (x.h < 1000) else false) then ({ x with h := IntKind.wrap .i64 (x.h + 1) }, ws, true) else (x, ws, false))
  else bif k == 3 then (bif (bif x.o == t then v == 0 else false) then (freeS x, ws, true) else (x, ws, false))
  else bif k == 5 then (x, ws, bif (bif x.o != -1 then !(x.o == t) else false) then v == 0 else false)
  else bif k == 6 then (x, ws, bif !(x.o == t) then v == 0 else false)
  else bif k == 7 then (x, ws, bif (bif x.o == t then x.h == 1000 else false) then v == 0 else false)
  else bif k == 10 then (bif (bif x.o == t then v == x.h else false) then ({ x with o := -1, h := 0 }, ws ++ [(t, x.h)], true) else (x, ws, false))
  else bif k == 11 then (bif (bif (bif x.o == t then decide ((ws.length : Int) > 0) else false) then v == (ws.getD (Int.toNat 0) (0, 0)).1 else false) then (x, woF ws 0 ws.length, true) else (x, ws, false))
  else bif k == 12 then (x, ws, bif (bif x.o == t then (ws.length : Int) == 0 else false) then v == 0 else false)
  else bif k == 13 then (bif (bif decide (placeF ws t 0 ≥ 0) then v == 0 else false) then (x, notF ws t, true) else (x, ws, false))
  else (x, ws, false)
def rowR (S : Thg × List Wt × Bool) (c : Nat) : XV := .tup [S.1.av 1 0 S.2.1.length c, .c (.v (.bool S.2.2))]
def lockrC (x : Thg) (t k v : Int) (ws : List Wt) (cap n : Nat) (ρ : List Nat) : CallSpec := rowSpec ρ n [x.av 0 0 ws.length cap, .c (iv t), .c (iv k), .c (iv v)] [Ent.ws false cap ws] (fun _ => True)
  (fun c => rowR (lockrF x t k v ws) (c 0)) fun c => [Ent.ws false cap ws, Ent.ws false (c 0) (lockrF x t k v ws).2.1]
theorem place_call : Callable Try.prog 30 := ⟨_, Try.func30, by kernel_rfl, rfl⟩
theorem without_call : Callable Try.prog 32 := ⟨_, Try.func32, by kernel_rfl, rfl⟩
theorem RnOk.of {N0 N L : Nat} (l : List Nat) (h : (Nat.ble N0 N && headId l 0 N0 && (List.range N).all (fun k => Nat.blt (l.getD k 0) L)) = true) : RnOk N0 N L (lr l) := by
  simp only [Bool.and_eq_true] at h
  obtain ⟨⟨h1, h2⟩, h3⟩ := h
  exact ⟨Nat.le_of_ble_eq_true h1, fun k hk j => by show (l.getD k 0, j) = (k, j); rw [take_id h2 k hk], fun k hk j => Nat.blt_eq.mp (List.all_eq_true.1 h3 k (List.mem_range.2 hk))⟩
theorem EntRg.ws {n0 : Nat} {ρ σ : Rn} {U : Hp} {N k cap : Nat} {own : Bool} {ws : List Wt} (hu : U.get (ρ k 0).1 = some (Ent.ws own cap ws)) (h0 : (ρ k 0).2 = 0) (hσ : σ (ρ k 0).1 (ρ k 0).2 = (k, 0) ∨ own = false) : EntRg n0 ρ σ U N k (Ent.ws false cap ws) :=
  EntRg.rw hu (by rw [h0]; exact Nat.one_pos) (fun h => by cases h) (.inr (by decide)) rfl rfl rfl rfl (fun _ _ => rfl) (fun i _ => wrow_plain ws i) (hσ.imp id fun h => ⟨rfl, .inl h⟩)
theorem EntRg.app {n0 : Nat} {ρ σ : Rn} {U : Hp} {N k c n : Nat} {own : Bool} {ws : List Wt} {x : Wt} {f : Nat → List CV} (hu : U.get (ρ k 0).1 = some (Ent.mkRow WT 2 n c f)) (h0 : (ρ k 0).2 = 0) (hσ : σ (ρ k 0).1 (ρ k 0).2 = (k, 0)) (hn : n = ws.length + 1) (hf : ∀ i, i < ws.length → f i = wrow ws i) (hx : f ws.length = wc x) : EntRg n0 ρ σ U N k (Ent.ws own c (ws ++ [x])) :=
  EntRg.rw hu (by rw [h0]; exact Nat.one_pos) (fun _ => rfl) (.inr (by decide)) rfl rfl (by rw [h0]; simp [hn, Ent.mkRow]) (by rw [h0]; try rfl) (fun i hi => by
    have hi : i < ws.length + 1 := by simpa using hi
    show f i = _
    unfold wrow
    by_cases h : i < ws.length
    · rw [hf i h, wrow, List.getD_eq_getElem?_getD, List.getD_eq_getElem?_getD, List.getElem?_append_left h]
    · obtain rfl : i = ws.length := by omega
      rw [hx, List.getD_eq_getElem?_getD (l := _ ++ _), List.getElem?_append_right (Nat.le_refl _), Nat.sub_self]
      rfl) (fun i _ => wrow_plain _ i) (.inl hσ)
theorem EntRg.wsE {n0 : Nat} {ρ σ : Rn} {U : Hp} {N k cap : Nat} {own : Bool} {ws ws2 : List Wt} (he : ws2 = ws) (hu : U.get (ρ k 0).1 = some (Ent.ws own cap ws)) (h0 : (ρ k 0).2 = 0) (hσ : σ (ρ k 0).1 (ρ k 0).2 = (k, 0) ∨ own = false) : EntRg n0 ρ σ U N k (Ent.ws false cap ws2) := by subst he; exact EntRg.ws hu h0 hσ
theorem woF_erase (ws : List Wt) (k : Nat) : ∀ i, i ≤ ws.length → woF ws k i = (ws.take i).eraseIdx k
  | 0, _ => by simp [woF]
  | i + 1, h => by
    have ih := woF_erase ws k i (by omega)
    have hl : (ws.take i).length = i := by simp; omega
    rw [take_getD ws (by omega), woF, ih]
    by_cases hk : i = k
    · subst hk
      rw [show ((i : Int) != (i : Int)) = false by simp, cond_false, List.eraseIdx_of_length_le (by omega), List.eraseIdx_append_of_length_le (by omega), hl, Nat.sub_self]
      simp
    · rw [show ((i : Int) != (k : Int)) = true by simp; omega, cond_true]
      rcases Nat.lt_or_gt_of_ne hk with h1 | h1
      · rw [List.eraseIdx_of_length_le (by omega), List.eraseIdx_of_length_le (by simp; omega)]
      · rw [List.eraseIdx_append_of_lt_length (by omega)]
theorem woF_not (ws : List Wt) (t : Int) {k : Nat} (hk : k < ws.length) (hx : ((ws.getD k (0, 0)).1 == t) = true) : (woF ws k ws.length).length < ws.length ∧ notF (woF ws k ws.length) t = notF ws t := by
  rw [woF_erase ws k _ (Nat.le_refl _), List.take_length]
  refine ⟨by rw [List.length_eraseIdx_of_lt hk]; omega, ?_⟩
  rw [List.eraseIdx_eq_take_drop_succ]
  conv => rhs; rw [← List.take_append_drop k ws, List.drop_eq_getElem_cons hk]
  unfold notF
  rw [List.filter_append, List.filter_append, List.filter_cons]
  have : (ws[k].1 != t) = false := by
    rw [List.getD_eq_getElem?_getD, List.getElem?_eq_getElem hk, Option.getD_some] at hx
    simp [bne, hx]
  rw [this]
  rfl
set_option maxHeartbeats 4000000 in
theorem lockr_local (x : Thg) (t k v : Int) (ws : List Wt) (cap n : Nat) (ρ : List Nat) (hl : ws.length ≤ 1000000) : (lockrC x t k v ws cap n ρ).Local Try.prog 21 := by
  refine local_of Try.func21 rfl (tlockr_eq x t k v ws cap) fun ν w => ?_
  have hl' : ws.length ≤ 9223372036854775806 := by omega
  refine ok_br' (fun h => ?_) fun h => ok_br' (fun h => ?_) fun h => ok_br' (fun h => ?_) fun h => ok_br' (fun h => ?_) fun h => ok_br' (fun h => ?_) fun h => ok_br' (fun h => ?_) fun h => ok_br' (fun h => ?_) fun h => ok_br' (fun h => ?_) fun h => ok_br' (fun h => ?_) fun h => ?_
  · repeat' first | refine ok_br' (fun h => ?_) (fun h => ?_) | (refine ok_some' (ws, false) (ok_callf' place_call (fits_of rfl rfl ⟨⟨_, rfl, EntRel.ws⟩, trivial⟩ fun c _ => ⟨⟨Nat.le_refl _, rfl⟩, ⟨rfl, rfl⟩, ⟨⟨EntRel.ws, rfl, (fun h => by cases h), .inr rfl⟩, trivial⟩⟩) (place_local _ _ _ _ _ _ (by omega)) fun c _ => ?_)) | (refine ok_chk' ?_ ?_; focus (first | exact fun h => h | (simp; done) | (simp; omega) | (simp_all; done) | (simp_all; omega) | (generalize ws.length = L at *; simp; omega) | (generalize ws.length = L at *; simp_all; omega))) | (refine ok_leafG (fun _ => cap) [] (lr [0, 0]) (lr []) trivial ?_ rfl (RnOk.of [0, 0] rfl) ⟨EntRg.ws rfl rfl (.inr rfl), EntRg.wsE ?_ rfl rfl (.inr rfl), trivial⟩ <;> first | (simp only [lockrF, *, cond_true, cond_false]; done) | (show XV.tup _ = XV.nilz _ (XV.rg _ (rowR (lockrF x t k v ws) cap)); simp only [lockrF, *, cond_true, cond_false]; first | done | rfl) | (simp_all only [lockrF, cond_true, cond_false]; done) | (show XV.tup _ = XV.nilz _ (XV.rg _ (rowR (lockrF x t k v ws) cap)); unfold lockrF; simp_all only [cond_true, cond_false]; first | done | rfl)) | (exact absurd ‹false = true› Bool.false_ne_true)
  · repeat (refine ok_chk' (fun h => h) ?_)
    refine ok_br' (fun h => ?_) (fun h => ?_)
    · refine ok_some' ws (ok_callf' freed_call (fits_of rfl rfl ⟨⟨_, rfl, EntRel.ws⟩, trivial⟩ fun c _ => ⟨⟨Nat.le_refl _, rfl⟩, ⟨rfl, rfl⟩, ⟨⟨EntRel.ws, rfl, (fun h => by cases h), .inr rfl⟩, trivial⟩⟩) (freed_local _ _ _ _ _) fun c _ => ?_)
      (refine ok_leafG (fun _ => cap) [] (lr [0, 0]) (lr []) trivial ?_ rfl (RnOk.of [0, 0] rfl) ⟨EntRg.ws rfl rfl (.inr rfl), EntRg.wsE ?_ rfl rfl (.inr rfl), trivial⟩ <;> first | (simp only [lockrF, *, cond_true, cond_false]; done) | (show XV.tup _ = XV.nilz _ (XV.rg _ (rowR (lockrF x t k v ws) cap)); simp only [lockrF, *, cond_true, cond_false]; first | done | rfl) | (simp_all only [lockrF, cond_true, cond_false]; done) | (show XV.tup _ = XV.nilz _ (XV.rg _ (rowR (lockrF x t k v ws) cap)); unfold lockrF; simp_all only [cond_true, cond_false]; first | done | rfl))
    · (refine ok_leafG (fun _ => cap) [] (lr [0, 0]) (lr []) trivial ?_ rfl (RnOk.of [0, 0] rfl) ⟨EntRg.ws rfl rfl (.inr rfl), EntRg.wsE ?_ rfl rfl (.inr rfl), trivial⟩ <;> first | (simp only [lockrF, *, cond_true, cond_false]; done) | (show XV.tup _ = XV.nilz _ (XV.rg _ (rowR (lockrF x t k v ws) cap)); simp only [lockrF, *, cond_true, cond_false]; first | done | rfl) | (simp_all only [lockrF, cond_true, cond_false]; done) | (show XV.tup _ = XV.nilz _ (XV.rg _ (rowR (lockrF x t k v ws) cap)); unfold lockrF; simp_all only [cond_true, cond_false]; first | done | rfl))
  · repeat' first | (refine ok_chk' ?_ ?_; focus (first | exact fun h => h | (simp; done) | (simp; omega) | (simp_all; done) | (simp_all; omega) | (generalize ws.length = L at *; simp; omega) | (generalize ws.length = L at *; simp_all; omega))) | (refine ok_leafG (fun _ => cap) [] (lr [0, 0]) (lr []) trivial ?_ rfl (RnOk.of [0, 0] rfl) ⟨EntRg.ws rfl rfl (.inr rfl), EntRg.wsE ?_ rfl rfl (.inr rfl), trivial⟩ <;> first | (simp only [lockrF, *, cond_true, cond_false]; done) | (show XV.tup _ = XV.nilz _ (XV.rg _ (rowR (lockrF x t k v ws) cap)); simp only [lockrF, *, cond_true, cond_false]; first | done | rfl) | (simp_all only [lockrF, cond_true, cond_false]; done) | (show XV.tup _ = XV.nilz _ (XV.rg _ (rowR (lockrF x t k v ws) cap)); unfold lockrF; simp_all only [cond_true, cond_false]; first | done | rfl))
  · repeat' first | (refine ok_chk' ?_ ?_; focus (first | exact fun h => h | (simp; done) | (simp; omega) | (simp_all; done) | (simp_all; omega) | (generalize ws.length = L at *; simp; omega) | (generalize ws.length = L at *; simp_all; omega))) | (refine ok_leafG (fun _ => cap) [] (lr [0, 0]) (lr []) trivial ?_ rfl (RnOk.of [0, 0] rfl) ⟨EntRg.ws rfl rfl (.inr rfl), EntRg.wsE ?_ rfl rfl (.inr rfl), trivial⟩ <;> first | (simp only [lockrF, *, cond_true, cond_false]; done) | (show XV.tup _ = XV.nilz _ (XV.rg _ (rowR (lockrF x t k v ws) cap)); simp only [lockrF, *, cond_true, cond_false]; first | done | rfl) | (simp_all only [lockrF, cond_true, cond_false]; done) | (show XV.tup _ = XV.nilz _ (XV.rg _ (rowR (lockrF x t k v ws) cap)); unfold lockrF; simp_all only [cond_true, cond_false]; first | done | rfl))
  · repeat' first | (refine ok_chk' ?_ ?_; focus (first | exact fun h => h | (simp; done) | (simp; omega) | (simp_all; done) | (simp_all; omega) | (generalize ws.length = L at *; simp; omega) | (generalize ws.length = L at *; simp_all; omega))) | (refine ok_leafG (fun _ => cap) [] (lr [0, 0]) (lr []) trivial ?_ rfl (RnOk.of [0, 0] rfl) ⟨EntRg.ws rfl rfl (.inr rfl), EntRg.wsE ?_ rfl rfl (.inr rfl), trivial⟩ <;> first | (simp only [lockrF, *, cond_true, cond_false]; done) | (show XV.tup _ = XV.nilz _ (XV.rg _ (rowR (lockrF x t k v ws) cap)); simp only [lockrF, *, cond_true, cond_false]; first | done | rfl) | (simp_all only [lockrF, cond_true, cond_false]; done) | (show XV.tup _ = XV.nilz _ (XV.rg _ (rowR (lockrF x t k v ws) cap)); unfold lockrF; simp_all only [cond_true, cond_false]; first | done | rfl))
  · repeat (refine ok_chk' (fun h => h) ?_)
    refine ok_br' (fun h => ?_) (fun h => ?_)
    · have hrow : lockrF x t k v ws = ({ x with o := -1, h := 0 }, ws ++ [(t, x.h)], true) := by simp only [lockrF, *, cond_true, cond_false]
      repeat' first | refine ok_both' ?_ ?_ | refine ok_chk' rfl ?_ | refine ok_chk' (by omega) ?_ | refine ok_chk' ⟨by omega, by omega⟩ ?_ | refine ok_all' fun c hc => ?_
      all_goals
        refine ok_leafG c [] (lr [0, 6]) (lr [0, 0, 0, 0, 0, 0, 1]) trivial ?_ rfl (RnOk.of [0, 6] rfl) ⟨EntRg.ws rfl rfl (.inr rfl), ?_, trivial⟩
        · show XV.tup _ = XV.nilz _ (XV.rg _ (rowR (lockrF x t k v ws) (c 0)))
          rw [hrow, rowR, List.length_append, Nat.zero_add]
          rfl
        · show EntRg _ _ _ _ _ _ (Ent.ws false (c 0) (lockrF x t k v ws).2.1)
          rw [hrow]
          refine EntRg.app (x := (t, x.h)) (c := c 0) rfl rfl rfl (by omega) (fun i hi => ?_) ?_
          · show (if i < 0 + ws.length then _ else _) = _
            rw [if_pos (by omega)]
            rfl
          · show (if ws.length < 0 + ws.length then _ else _) = _
            rw [if_neg (by omega)]
            rfl
    · (refine ok_leafG (fun _ => cap) [] (lr [0, 0]) (lr []) trivial ?_ rfl (RnOk.of [0, 0] rfl) ⟨EntRg.ws rfl rfl (.inr rfl), EntRg.wsE ?_ rfl rfl (.inr rfl), trivial⟩ <;> first | (simp only [lockrF, *, cond_true, cond_false]; done) | (show XV.tup _ = XV.nilz _ (XV.rg _ (rowR (lockrF x t k v ws) cap)); simp only [lockrF, *, cond_true, cond_false]; first | done | rfl) | (simp_all only [lockrF, cond_true, cond_false]; done) | (show XV.tup _ = XV.nilz _ (XV.rg _ (rowR (lockrF x t k v ws) cap)); unfold lockrF; simp_all only [cond_true, cond_false]; first | done | rfl))
  · repeat (refine ok_chk' (fun h => h) ?_)
    refine ok_chk' (fun h => ?_) ?_
    · cases hx : x.o == t <;> simp [hx] at h <;> simp <;> omega
    repeat (refine ok_chk' (fun h => h) ?_)
    refine ok_chk' (fun h => ?_) ?_
    · cases hx : x.o == t <;> simp [hx] at h <;> simp <;> omega
    repeat (refine ok_chk' (fun h => h) ?_)
    refine ok_br' (fun h => ?_) fun h => ?_
    · refine ok_some' ws (ok_callf' without_call (fits_of rfl rfl ⟨⟨_, rfl, EntRel.ws⟩, trivial⟩ fun c _ => ⟨⟨Nat.le_succ 1, rfl⟩, ⟨rfl, rfl⟩, ⟨⟨EntRel.ws, rfl, (fun h => by cases h), .inr rfl⟩, ⟨EntRel.ws, rfl, (fun h => by cases h), .inl rfl⟩, trivial⟩⟩) (without_local _ _ _ _ _ _ hl) fun c hc => ?_)
      have hrow : lockrF x t k v ws = (x, woF ws 0 ws.length, true) := by simp only [lockrF, *, cond_true, cond_false]
      refine ok_leafG c [] (lr [0, 3]) (lr [0, 0, 0, 1]) trivial ?_ rfl (RnOk.of [0, 3] rfl) ⟨EntRg.ws rfl rfl (.inr rfl), EntRg.wsE ?_ rfl rfl (.inl rfl), trivial⟩
      · show XV.tup _ = XV.nilz _ (XV.rg _ (rowR (lockrF x t k v ws) (c 0)))
        rw [hrow]; try rfl
      · rw [hrow]
    · (refine ok_leafG (fun _ => cap) [] (lr [0, 0]) (lr []) trivial ?_ rfl (RnOk.of [0, 0] rfl) ⟨EntRg.ws rfl rfl (.inr rfl), EntRg.wsE ?_ rfl rfl (.inr rfl), trivial⟩ <;> first | (simp only [lockrF, *, cond_true, cond_false]; done) | (show XV.tup _ = XV.nilz _ (XV.rg _ (rowR (lockrF x t k v ws) cap)); simp only [lockrF, *, cond_true, cond_false]; first | done | rfl) | (simp_all only [lockrF, cond_true, cond_false]; done) | (show XV.tup _ = XV.nilz _ (XV.rg _ (rowR (lockrF x t k v ws) cap)); unfold lockrF; simp_all only [cond_true, cond_false]; first | done | rfl))
  · repeat' first | (refine ok_chk' ?_ ?_; focus (first | exact fun h => h | (simp; done) | (simp; omega) | (simp_all; done) | (simp_all; omega) | (generalize ws.length = L at *; simp; omega) | (generalize ws.length = L at *; simp_all; omega))) | (refine ok_leafG (fun _ => cap) [] (lr [0, 0]) (lr []) trivial ?_ rfl (RnOk.of [0, 0] rfl) ⟨EntRg.ws rfl rfl (.inr rfl), EntRg.wsE ?_ rfl rfl (.inr rfl), trivial⟩ <;> first | (simp only [lockrF, *, cond_true, cond_false]; done) | (show XV.tup _ = XV.nilz _ (XV.rg _ (rowR (lockrF x t k v ws) cap)); simp only [lockrF, *, cond_true, cond_false]; first | done | rfl) | (simp_all only [lockrF, cond_true, cond_false]; done) | (show XV.tup _ = XV.nilz _ (XV.rg _ (rowR (lockrF x t k v ws) cap)); unfold lockrF; simp_all only [cond_true, cond_false]; first | done | rfl))
  · (refine ok_some' (ws, false) (ok_callf' place_call (fits_of rfl rfl ⟨⟨_, rfl, EntRel.ws⟩, trivial⟩ fun c _ => ⟨⟨Nat.le_refl _, rfl⟩, ⟨rfl, rfl⟩, ⟨⟨EntRel.ws, rfl, (fun h => by cases h), .inr rfl⟩, trivial⟩⟩) (place_local _ _ _ _ _ _ (by omega)) fun c _ => ?_))
    repeat (refine ok_chk' (fun h => h) ?_)
    refine ok_br' (fun h => ?_) fun h => ?_
    · have hrow : lockrF x t k v ws = (x, notF ws t, true) := by simp only [lockrF, *, cond_true, cond_false]
      refine ok_both' ?_ (ok_every' fun s => ok_br' (fun h => ?_) fun h => ?_)
      · repeat' first | exact trivial | refine ok_chk' rfl ?_ | refine ok_chk' (RnOk.of [0, 1, 2, 0] rfl) ?_
        exact ok_chk' ⟨EntRg.ws rfl rfl (.inr rfl), EntRg.box rfl rfl rfl rfl rfl rfl rfl rfl, EntRg.box rfl rfl rfl rfl rfl rfl rfl rfl, EntRg.ws rfl rfl (.inr rfl), trivial⟩ trivial
      · obtain ⟨⟨ws', cap'⟩, s1, s2⟩ := s
        have h : decide (placeF ws' t 0 ≥ 0) = true := h
        have hk : ∃ k, k < ws'.length ∧ placeF ws' t 0 = (k : Int) ∧ ((ws'.getD k (0, 0)).1 == t) = true := by
          rcases placeF_spec t ws' 0 with ⟨h1, -⟩ | ⟨k, h1, h2, h3, h4⟩
          · rw [h1] at h; cases h
          · exact ⟨k, h1, by rw [h2]; simp, h4⟩
        obtain ⟨k, k1, k2, k3⟩ := hk
        obtain ⟨w1, w2⟩ := woF_not ws' t k1 k3
        have s2 : ws'.length ≤ ws.length := s2
        have s1 : notF ws' t = notF ws t := s1
        refine ok_some' ws' (ok_callf' without_call (fits_of rfl rfl ⟨⟨_, rfl, EntRel.ws⟩, trivial⟩ fun c _ => ⟨⟨Nat.le_succ 1, rfl⟩, ⟨rfl, rfl⟩, ⟨⟨EntRel.ws, rfl, (fun h => by cases h), .inr rfl⟩, ⟨EntRel.ws, rfl, (fun h => by cases h), .inl rfl⟩, trivial⟩⟩) (without_local _ _ _ _ _ _ (by omega)) fun c hc => ?_)
        refine ok_some' (woF ws' (placeF ws' t 0) ws'.length, true) (ok_callf' place_call (fits_of rfl rfl ⟨⟨_, rfl, EntRel.ws⟩, trivial⟩ fun c _ => ⟨⟨Nat.le_refl _, rfl⟩, ⟨rfl, rfl⟩, ⟨⟨EntRel.ws, rfl, (fun h => by cases h), .inr rfl⟩, trivial⟩⟩) (place_local _ _ _ _ _ _ (by show (woF ws' (placeF ws' t 0) ws'.length).length ≤ _; rw [k2]; omega)) fun c2 _ => ?_)
        refine ok_some' ⟨(woF ws' (placeF ws' t 0) ws'.length, c 0), by rw [k2]; exact w2.trans s1, by rw [k2]; show (woF ws' k ws'.length).length ≤ _; omega⟩ (ok_chk' (by show (woF ws' (placeF ws' t 0) ws'.length).length < ws'.length; rw [k2]; exact w1) ?_)
        repeat' first | exact trivial | refine ok_chk' rfl ?_ | refine ok_chk' (RnOk.of [0, 1, 2, 4] rfl) ?_
        exact ok_chk' ⟨EntRg.ws rfl rfl (.inr rfl), EntRg.box rfl rfl rfl rfl rfl rfl rfl rfl, EntRg.box rfl rfl rfl rfl rfl rfl rfl rfl, EntRg.ws rfl rfl (.inl rfl), trivial⟩ trivial
      · obtain ⟨⟨ws', cap'⟩, s1, s2⟩ := s
        have h : decide (placeF ws' t 0 ≥ 0) = false := h
        have s1 : notF ws' t = notF ws t := s1
        have hn : ws' = notF ws t := by
          rcases placeF_spec t ws' 0 with ⟨h1, h2⟩ | ⟨k, h1, h2, h3, h4⟩
          · rw [← s1]
            exact (List.filter_eq_self.2 fun x hx => by simp [bne, h2 x hx]).symm
          · rw [h2] at h
            simp at h
        subst hn
        refine ok_leafG (fun _ => cap') [] (lr [0, 3]) (lr [0, 0, 0, 1]) trivial ?_ rfl (RnOk.of [0, 3] rfl) ⟨EntRg.ws rfl rfl (.inr rfl), EntRg.wsE ?_ rfl rfl (.inr rfl), trivial⟩
        · show XV.tup _ = XV.nilz _ (XV.rg _ (rowR (lockrF x t k v ws) cap'))
          rw [hrow]; try rfl
        · rw [hrow]
    · (refine ok_leafG (fun _ => cap) [] (lr [0, 0]) (lr []) trivial ?_ rfl (RnOk.of [0, 0] rfl) ⟨EntRg.ws rfl rfl (.inr rfl), EntRg.wsE ?_ rfl rfl (.inr rfl), trivial⟩ <;> first | (simp only [lockrF, *, cond_true, cond_false]; done) | (show XV.tup _ = XV.nilz _ (XV.rg _ (rowR (lockrF x t k v ws) cap)); simp only [lockrF, *, cond_true, cond_false]; first | done | rfl) | (simp_all only [lockrF, cond_true, cond_false]; done) | (show XV.tup _ = XV.nilz _ (XV.rg _ (rowR (lockrF x t k v ws) cap)); unfold lockrF; simp_all only [cond_true, cond_false]; first | done | rfl))
  · (refine ok_leafG (fun _ => cap) [] (lr [0, 0]) (lr []) trivial ?_ rfl (RnOk.of [0, 0] rfl) ⟨EntRg.ws rfl rfl (.inr rfl), EntRg.wsE ?_ rfl rfl (.inr rfl), trivial⟩ <;> first | (simp only [lockrF, *, cond_true, cond_false]; done) | (show XV.tup _ = XV.nilz _ (XV.rg _ (rowR (lockrF x t k v ws) cap)); simp only [lockrF, *, cond_true, cond_false]; first | done | rfl) | (simp_all only [lockrF, cond_true, cond_false]; done) | (show XV.tup _ = XV.nilz _ (XV.rg _ (rowR (lockrF x t k v ws) cap)); unfold lockrF; simp_all only [cond_true, cond_false]; first | done | rfl))
end Go.Proofs.Ytnenbngjdekegaa.X

/- The model: rows copied, from any place on; things at first: trees. -/
set_option linter.unusedVariables false
set_option linter.unusedSimpArgs false
namespace Go.Proofs.Ytnenbngjdekegaa.X
open Go Go.RowKit Go.Proofs.YtnenbngjdekegaaW.PrintWords Go.Proofs.Ytnenbngjdekegaa.Base
def wsub (ws : List Wt) (lo n : Nat) : List Wt := (ws.drop lo).take n
def tclone2 (ws : List Wt) (own : Bool) (lo n cap rc : Nat) : Tree :=
  Tree.chk (0 < 1)
   (Tree.every Bool fun b => Tree.br (!(b && Nat.blt 0 (List.length ws)))
   (Tree.br b
   (Tree.done (XV.a (AV.c (CV.v (Value.slice none 0 0)))) [(Ent.ws own rc ws)])
   (Tree.chk ((0 + n) * 16 ≤ 140737488355328)
   (Tree.chk (0 < 1 ∧ lo + n ≤ List.length ws)
   (Tree.chk (0 = 0 ∧ 0 = 0)
   (Tree.all (fun c => 0 + n ≤ c 0 ∧ c 0 ≤ maxLen) fun c => Tree.done (XV.a (AV.c (CV.sl 2 0 0 2 (0 + n) (c 0)))) [(Ent.ws own rc ws), Ent.dead, { own := true, box := false, ty := 37, sz := 2, m := 1, n := fun x => 0 + n, cap := fun x => c 0, f := fun x i => [iv (Prod.fst (List.getD ws (Nat.rec (i - 0) (fun n n_ih => n + 1 + (i - 0)) lo) ((0 : Int), (0 : Int)))), iv (Prod.snd (List.getD ws (Nat.rec (i - 0) (fun n n_ih => n + 1 + (i - 0)) lo) ((0 : Int), (0 : Int))))], ov := [] }])))))
   (Tree.need True))
theorem tclone2_eq (ws : List Wt) (own : Bool) (lo n cap rc : Nat) : xfunc tab noCtr noInv Go.Proofs.Try.f19 [.c (.sl 0 0 lo 2 n cap)] [Ent.ws own rc ws] [0, 1, 2, 3] = tclone2 ws own lo n cap rc := by kernel_rfl
def tcopy2 (x : Thg) (ws : List Wt) (own : Bool) (lo n cap rc : Nat) : Tree :=
  Tree.chk ((0 + n) * 16 ≤ 140737488355328)
   (Tree.chk (0 < 1 ∧ lo + n ≤ List.length ws)
   (Tree.chk (0 = 0 ∧ 0 = 0)
   (Tree.all (fun c => 0 + n ≤ c 0 ∧ c 0 ≤ maxLen) fun c => Tree.done (XV.a (AV.agg [iv x.1, iv x.2, iv x.3, iv x.4, iv x.5, iv x.6, iv x.7, iv x.8, iv x.9, iv x.10, iv x.11, iv x.12, CV.sl 4 0 0 2 (0 + n) (c 0), iv x.13, iv x.14])) [(Ent.ws own rc ws), (Ent.mkBox 25 [iv x.1, iv x.2, iv x.3, iv x.4, iv x.5, iv x.6, iv x.7, iv x.8, iv x.9, iv x.10, iv x.11, iv x.12, CV.sl 4 0 0 2 (0 + n) (c 0), iv x.13, iv x.14]), (Ent.mkBox 25 [iv x.1, iv x.2, iv x.3, iv x.4, iv x.5, iv x.6, iv x.7, iv x.8, iv x.9, iv x.10, iv x.11, iv x.12, CV.sl 4 0 0 2 (0 + n) (c 0), iv x.13, iv x.14]), Ent.dead, { own := true, box := false, ty := 37, sz := 2, m := 1, n := fun x => 0 + n, cap := fun x => c 0, f := fun x i => [iv (Prod.fst (List.getD ws (Nat.rec (i - 0) (fun n n_ih => n + 1 + (i - 0)) lo) ((0 : Int), (0 : Int)))), iv (Prod.snd (List.getD ws (Nat.rec (i - 0) (fun n n_ih => n + 1 + (i - 0)) lo) ((0 : Int), (0 : Int))))], ov := [] }])))
theorem tcopy2_eq (x : Thg) (ws : List Wt) (own : Bool) (lo n cap rc : Nat) : xfunc tab noCtr noInv Go.Proofs.Try.f13 [x.av 0 lo n cap] [Ent.ws own rc ws] [0, 1, 2, 3, 4] = tcopy2 x ws own lo n cap rc := by kernel_rfl
def tnew (k n : Int) (b : Bool) : Tree :=
  Tree.done (XV.a (AV.agg [iv k, iv n, iv (-1 : Int), iv (0 : Int), iv (0 : Int), iv (0 : Int), iv (0 : Int), iv (0 : Int), iv (0 : Int), iv (0 : Int), iv (0 : Int), iv (0 : Int), CV.v (Value.slice none 0 0), iv (-1 : Int), iv (0 : Int)])) [Ent.dead, Ent.dead]
theorem tnew_eq (k n : Int) (b : Bool) : xfunc tab noCtr noInv Go.Proofs.Try.f14 [.agg [iv k, .v (.bool b), iv n]] [] [] = tnew k n b := by kernel_rfl
def tnewr (k n : Int) (b : Bool) : Tree :=
  Tree.done (XV.a (AV.agg [iv k, iv n, iv (-1 : Int), iv (0 : Int), iv (0 : Int), iv (0 : Int), iv (0 : Int), iv (0 : Int), iv (0 : Int), iv (0 : Int), iv (0 : Int), iv (0 : Int), CV.v (Value.slice none 0 0), iv (-1 : Int), iv (0 : Int)])) [Ent.dead, Ent.dead]
theorem tnewr_eq (k n : Int) (b : Bool) : xfunc tab noCtr noInv Go.Proofs.Try.f15 [.agg [iv k, .v (.bool b), iv n]] [] [] = tnewr k n b := by kernel_rfl
end Go.Proofs.Ytnenbngjdekegaa.X

/- The model: rows copied, from any place on; things at first: proved. -/
set_option linter.unusedVariables false
set_option linter.unusedSimpArgs false
namespace Go.Proofs.Ytnenbngjdekegaa.X
open Go Go.RowKit Go.Proofs.YtnenbngjdekegaaW.PrintWords Go.Proofs.Ytnenbngjdekegaa.Base
theorem wsub_length (ws : List Wt) {lo n : Nat} (h : lo + n ≤ ws.length) : (wsub ws lo n).length = n := by unfold wsub; simp; omega
theorem wsub_get (ws : List Wt) {lo n i : Nat} (hi : i < n) : (wsub ws lo n).getD i (0, 0) = ws.getD (lo + i) (0, 0) := by
  unfold wsub
  simp only [List.getD_eq_getElem?_getD]
  rw [List.getElem?_take_of_lt hi, List.getElem?_drop]
theorem wsub_all (ws : List Wt) : wsub ws 0 ws.length = ws := by unfold wsub; simp
theorem rec_plus (b a : Nat) : (Nat.rec (motive := fun _ => Nat) b (fun n _ => n + 1 + b) a : Nat) = a + b := by
  cases a with
  | zero => exact (Nat.zero_add b).symm
  | succ a => rfl
theorem row_plus (ws : List Wt) {lo n i : Nat} (hi : i < n) : [CV.v (.int .i64 (ws.getD (Nat.rec (motive := fun _ => Nat) (i - 0) (fun n _ => n + 1 + (i - 0)) lo) (0, 0)).fst), CV.v (.int .i64 (ws.getD (Nat.rec (motive := fun _ => Nat) (i - 0) (fun n _ => n + 1 + (i - 0)) lo) (0, 0)).snd)] = wrow (wsub ws lo n) i := by
  rw [rec_plus, wrow, wsub_get ws hi]
  rfl
def clone2C (ws : List Wt) (own : Bool) (lo n cap rc k : Nat) (ρ : List Nat) : CallSpec := rowSpec ρ k [.c (.sl 0 0 lo 2 n cap)] [Ent.ws own rc ws] (fitsC n) (fun c => .a (.c (.sl 1 0 0 2 (wsub ws lo n).length (c 0)))) fun c => [Ent.ws own rc ws, Ent.ws true (c 0) (wsub ws lo n)]
theorem clone2_local (ws : List Wt) (own : Bool) (lo n cap rc k : Nat) (ρ : List Nat) (hn : lo + n ≤ ws.length) (hl : n ≤ 1000000) (hz : ws.length = 0 → n = 0) : (clone2C ws own lo n cap rc k ρ).Local Try.prog 19 := by
  refine local_of Try.func19 rfl (tclone2_eq ws own lo n cap rc) fun ν w => ?_
  have hw := wsub_length ws hn
  refine ok_chk' Nat.one_pos (ok_every' fun b => ok_br' (fun h => ok_br' (fun hb => ?_) fun hb => ?_) fun h => trivial)
  · have h0 : ws.length = 0 := by
      rw [hb] at h
      rcases Nat.eq_zero_or_pos ws.length with h0 | h0
      · exact h0
      · rw [Nat.blt_eq.mpr h0] at h; cases h
    have hn0 := hz h0
    have he : wsub ws lo n = [] := List.eq_nil_of_length_eq_zero (hw.trans hn0)
    refine ok_leaf (fun _ => 0) [(WT, 2)] [0, 1] ⟨by omega, Nat.zero_le _⟩ ?_ ⟨⟨_, rfl, EntRel.ws⟩, ⟨_, rfl, EntRel.rw (by rw [he]; try rfl) rfl (fun i hi => absurd hi (Nat.not_lt_zero _)) fun i hi => absurd hi (Nat.not_lt_zero _)⟩, trivial⟩ rfl
    show _ = XV.nilz _ (XV.ren _ (.a (.c (.sl 1 0 0 2 (wsub ws lo n).length 0))))
    rw [he]; try rfl
  · refine ok_chk' (by omega) (ok_chk' ⟨by omega, hn⟩ (ok_chk' ⟨rfl, rfl⟩ (ok_all' fun c hc => ?_)))
    refine ok_leaf c [] [0, 2] ⟨by have := hc.1; omega, hc.2⟩ (by show XV.a (.c (.sl 2 0 0 2 (0 + n) (c 0))) = XV.a (.c (.sl 2 0 0 2 (wsub ws lo n).length (c 0))); rw [hw, Nat.zero_add]) ⟨⟨_, rfl, EntRel.ws⟩, ⟨_, rfl, EntRel.rw (by rw [hw, Nat.zero_add]) rfl (fun i hi => ?_) fun i _ => wrow_plain _ i⟩, trivial⟩ rfl
    exact row_plus ws (by omega)
/-- A copy, that is but read. -/
def copy2C (x : Thg) (ws : List Wt) (own : Bool) (lo n cap rc k : Nat) (ρ : List Nat) : CallSpec := rowSpec ρ k [x.av 0 lo n cap] [Ent.ws own rc ws] (fun _ => True) (fun c => .a (x.av 1 0 (wsub ws lo n).length (c 0))) fun c => [Ent.ws own rc ws, Ent.ws false (c 0) (wsub ws lo n)]
theorem EntRg.same {n0 : Nat} {ρ σ : Rn} {U : Hp} {N k cap : Nat} {own : Bool} {ws : List Wt} (hu : U.get (ρ k 0).1 = some (Ent.ws own cap ws)) (h0 : (ρ k 0).2 = 0) (hσ : σ (ρ k 0).1 (ρ k 0).2 = (k, 0)) : EntRg n0 ρ σ U N k (Ent.ws own cap ws) :=
  EntRg.rw hu (by rw [h0]; exact Nat.one_pos) (fun h => h) (.inr (by decide)) rfl rfl rfl rfl (fun _ _ => rfl) (fun i _ => wrow_plain ws i) (.inl hσ)
theorem copy2_local (x : Thg) (ws : List Wt) (own : Bool) (lo n cap rc k : Nat) (ρ : List Nat) (hn : lo + n ≤ ws.length) (hl : n ≤ 1000000) : (copy2C x ws own lo n cap rc k ρ).Local Try.prog 13 := by
  refine local_of Try.func13 rfl (tcopy2_eq x ws own lo n cap rc) fun ν w => ?_
  have hw := wsub_length ws hn
  refine ok_chk' (by omega) (ok_chk' ⟨by omega, hn⟩ (ok_chk' ⟨rfl, rfl⟩ (ok_all' fun c hc => ?_)))
  refine ok_leafG c [] (lr [0, 4]) (lr [0, 0, 0, 0, 1]) trivial ?_ rfl (RnOk.of [0, 4] rfl) ⟨EntRg.same rfl rfl rfl, ?_, trivial⟩
  · show _ = XV.nilz _ (XV.rg _ (.a (x.av 1 0 (wsub ws lo n).length (c 0))))
    rw [hw, Nat.zero_add]; try rfl
  · refine EntRg.rw rfl Nat.one_pos (fun h => by cases h) (.inr (by decide)) rfl rfl (by rw [hw]; exact (Nat.zero_add n).symm) rfl (fun i hi => ?_) (fun i _ => wrow_plain _ i) (.inl rfl)
    exact row_plus ws (by omega)
/-- A thing at first: nobody waits. -/
def newF (k n : Int) : Thg := ⟨k, n, -1, 0, 0, 0, 0, 0, 0, 0, 0, 0, -1, 0⟩
def objA (k n : Int) (b : Bool) : AV := .agg [iv k, .v (.bool b), iv n]
def newC (k n : Int) (b : Bool) (kk : Nat) : CallSpec := rowSpec [] kk [objA k n b] [] (fun _ => True) (fun c => .a ((newF k n).av 0 0 0 0)) fun c => [Ent.ws false 0 []]
theorem new_local (k n : Int) (b : Bool) (kk : Nat) : (newC k n b kk).Local Try.prog 14 := by
  refine local_of Try.func14 rfl (tnew_eq k n b) fun ν w => ?_
  refine ok_leafG (fun _ => 0) [(WT, 2)] (lr [2]) (lr [0, 0, 0]) trivial rfl rfl (RnOk.of [2] rfl) ⟨EntRg.rw (e := ⟨true, false, WT, 2, 1, fun _ => 0, fun _ => 0, fun _ _ => [], []⟩) rfl Nat.one_pos (fun h => by cases h) (.inr (by decide)) rfl rfl rfl rfl (fun i hi => absurd hi (Nat.not_lt_zero _)) (fun i hi => absurd hi (Nat.not_lt_zero _)) (.inl rfl), trivial⟩
theorem newr_local (k n : Int) (b : Bool) (kk : Nat) : (newC k n b kk).Local Try.prog 15 := by
  refine local_of Try.func15 rfl (tnewr_eq k n b) fun ν w => ?_
  refine ok_leafG (fun _ => 0) [(WT, 2)] (lr [2]) (lr [0, 0, 0]) trivial rfl rfl (RnOk.of [2] rfl) ⟨EntRg.rw (e := ⟨true, false, WT, 2, 1, fun _ => 0, fun _ => 0, fun _ _ => [], []⟩) rfl Nat.one_pos (fun h => by cases h) (.inr (by decide)) rfl rfl rfl rfl (fun i hi => absurd hi (Nat.not_lt_zero _)) (fun i hi => absurd hi (Nat.not_lt_zero _)) (.inl rfl), trivial⟩
end Go.Proofs.Ytnenbngjdekegaa.X

/- The model: done: trees. -/
set_option linter.unusedVariables false
set_option linter.unusedSimpArgs false
namespace Go.Proofs.Ytnenbngjdekegaa.X
open Go Go.RowKit Go.Proofs.YtnenbngjdekegaaW.PrintWords Go.Proofs.Ytnenbngjdekegaa.Base
def doneG (ws : List Wt) : Ctr := fun f args H => match args with
  | [.agg l, .c (.v (.int _ t)), .agg [.v (.int _ k), .v (.int _ v)]] =>
    if f = 25 then some (lockC (thgOf l) t k v ws (slCap l) H.length [slK l])
    else if f = 28 then some (rwC (thgOf l) t k v ws true (slCap l) [slK l])
    else some (swapC (thgOf l) t k v ws true (slCap l) [slK l])
  | [.agg l, .agg [.v (.int _ k), .v (.int _ v)]] => if f = 26 then some (semaC (thgOf l) k v ws true (slCap l) [slK l]) else some (latchC (thgOf l) k v ws true (slCap l) [slK l])
  | _ => none
def tdone (x : Thg) (t k v : Int) (ws : List Wt) (cap : Nat) : Tree :=
  Tree.br (x.1 == (1 : Int))
   (Tree.callf 25 [AV.agg [iv x.1, iv x.2, iv x.3, iv x.4, iv x.5, iv x.6, iv x.7, iv x.8, iv x.9, iv x.10, iv x.11, iv x.12, CV.sl 0 0 0 2 (List.length ws) cap, iv x.13, iv x.14], AV.c (iv t), AV.agg [iv k, iv v]] [(Ent.ws true cap ws), (Ent.mkBox 25 [iv x.1, iv x.2, iv x.3, iv x.4, iv x.5, iv x.6, iv x.7, iv x.8, iv x.9, iv x.10, iv x.11, iv x.12, CV.sl 0 0 0 2 (List.length ws) cap, iv x.13, iv x.14]), (Ent.mkBox 29 [iv k, iv v]), (Ent.mkBox 25 [iv (0 : Int), iv (0 : Int), iv (0 : Int), iv (0 : Int), iv (0 : Int), iv (0 : Int), iv (0 : Int), iv (0 : Int), iv (0 : Int), iv (0 : Int), iv (0 : Int), iv (0 : Int), CV.v (Value.slice none 0 0), iv (0 : Int), iv (0 : Int)])] (lockC x t k v ws cap 4 [0]) fun c => Tree.done (XV.tup [AV.agg [iv (Prod.fst (lockS x t k v ws cap)).1, iv (Prod.fst (lockS x t k v ws cap)).2, iv (Prod.fst (lockS x t k v ws cap)).3, iv (Prod.fst (lockS x t k v ws cap)).4, iv (Prod.fst (lockS x t k v ws cap)).5, iv (Prod.fst (lockS x t k v ws cap)).6, iv (Prod.fst (lockS x t k v ws cap)).7, iv (Prod.fst (lockS x t k v ws cap)).8, iv (Prod.fst (lockS x t k v ws cap)).9, iv (Prod.fst (lockS x t k v ws cap)).10, iv (Prod.fst (lockS x t k v ws cap)).11, iv (Prod.fst (lockS x t k v ws cap)).12, CV.sl 4 0 (Prod.fst (Prod.fst (Prod.snd (lockS x t k v ws cap)))) 2 (Prod.snd (Prod.fst (Prod.snd (lockS x t k v ws cap)))) (c 0), iv (Prod.fst (lockS x t k v ws cap)).13, iv (Prod.fst (lockS x t k v ws cap)).14], AV.c (CV.v (Value.bool (Prod.snd (Prod.snd (lockS x t k v ws cap)))))]) [Ent.dead, (Ent.mkBox 25 [iv x.1, iv x.2, iv x.3, iv x.4, iv x.5, iv x.6, iv x.7, iv x.8, iv x.9, iv x.10, iv x.11, iv x.12, CV.sl 0 0 0 2 (List.length ws) cap, iv x.13, iv x.14]), (Ent.mkBox 29 [iv k, iv v]), (Ent.mkBox 25 [iv (Prod.fst (lockS x t k v ws cap)).1, iv (Prod.fst (lockS x t k v ws cap)).2, iv (Prod.fst (lockS x t k v ws cap)).3, iv (Prod.fst (lockS x t k v ws cap)).4, iv (Prod.fst (lockS x t k v ws cap)).5, iv (Prod.fst (lockS x t k v ws cap)).6, iv (Prod.fst (lockS x t k v ws cap)).7, iv (Prod.fst (lockS x t k v ws cap)).8, iv (Prod.fst (lockS x t k v ws cap)).9, iv (Prod.fst (lockS x t k v ws cap)).10, iv (Prod.fst (lockS x t k v ws cap)).11, iv (Prod.fst (lockS x t k v ws cap)).12, CV.sl 4 0 (Prod.fst (Prod.fst (Prod.snd (lockS x t k v ws cap)))) 2 (Prod.snd (Prod.fst (Prod.snd (lockS x t k v ws cap)))) (c 0), iv (Prod.fst (lockS x t k v ws cap)).13, iv (Prod.fst (lockS x t k v ws cap)).14]), (Ent.ws true (c 1) (lockRowF x ws t k))])
   (Tree.br (x.1 == (2 : Int))
   (Tree.callf 26 [AV.agg [iv x.1, iv x.2, iv x.3, iv x.4, iv x.5, iv x.6, iv x.7, iv x.8, iv x.9, iv x.10, iv x.11, iv x.12, CV.sl 0 0 0 2 (List.length ws) cap, iv x.13, iv x.14], AV.agg [iv k, iv v]] [(Ent.ws true cap ws), (Ent.mkBox 25 [iv x.1, iv x.2, iv x.3, iv x.4, iv x.5, iv x.6, iv x.7, iv x.8, iv x.9, iv x.10, iv x.11, iv x.12, CV.sl 0 0 0 2 (List.length ws) cap, iv x.13, iv x.14]), (Ent.mkBox 29 [iv k, iv v]), (Ent.mkBox 25 [iv (0 : Int), iv (0 : Int), iv (0 : Int), iv (0 : Int), iv (0 : Int), iv (0 : Int), iv (0 : Int), iv (0 : Int), iv (0 : Int), iv (0 : Int), iv (0 : Int), iv (0 : Int), CV.v (Value.slice none 0 0), iv (0 : Int), iv (0 : Int)])] (semaC x k v ws true cap [0]) fun c => Tree.done (XV.tup [AV.agg [iv (Prod.fst (semaS x k v)).1, iv (Prod.fst (semaS x k v)).2, iv (Prod.fst (semaS x k v)).3, iv (Prod.fst (semaS x k v)).4, iv (Prod.fst (semaS x k v)).5, iv (Prod.fst (semaS x k v)).6, iv (Prod.fst (semaS x k v)).7, iv (Prod.fst (semaS x k v)).8, iv (Prod.fst (semaS x k v)).9, iv (Prod.fst (semaS x k v)).10, iv (Prod.fst (semaS x k v)).11, iv (Prod.fst (semaS x k v)).12, CV.sl 0 0 0 2 (List.length ws) cap, iv (Prod.fst (semaS x k v)).13, iv (Prod.fst (semaS x k v)).14], AV.c (CV.v (Value.bool (Prod.snd (semaS x k v))))]) [(Ent.ws true cap ws), (Ent.mkBox 25 [iv x.1, iv x.2, iv x.3, iv x.4, iv x.5, iv x.6, iv x.7, iv x.8, iv x.9, iv x.10, iv x.11, iv x.12, CV.sl 0 0 0 2 (List.length ws) cap, iv x.13, iv x.14]), (Ent.mkBox 29 [iv k, iv v]), (Ent.mkBox 25 [iv (Prod.fst (semaS x k v)).1, iv (Prod.fst (semaS x k v)).2, iv (Prod.fst (semaS x k v)).3, iv (Prod.fst (semaS x k v)).4, iv (Prod.fst (semaS x k v)).5, iv (Prod.fst (semaS x k v)).6, iv (Prod.fst (semaS x k v)).7, iv (Prod.fst (semaS x k v)).8, iv (Prod.fst (semaS x k v)).9, iv (Prod.fst (semaS x k v)).10, iv (Prod.fst (semaS x k v)).11, iv (Prod.fst (semaS x k v)).12, CV.sl 0 0 0 2 (List.length ws) cap, iv (Prod.fst (semaS x k v)).13, iv (Prod.fst (semaS x k v)).14])])
   (Tree.br (x.1 == (3 : Int))
   (Tree.callf 27 [AV.agg [iv x.1, iv x.2, iv x.3, iv x.4, iv x.5, iv x.6, iv x.7, iv x.8, iv x.9, iv x.10, iv x.11, iv x.12, CV.sl 0 0 0 2 (List.length ws) cap, iv x.13, iv x.14], AV.agg [iv k, iv v]] [(Ent.ws true cap ws), (Ent.mkBox 25 [iv x.1, iv x.2, iv x.3, iv x.4, iv x.5, iv x.6, iv x.7, iv x.8, iv x.9, iv x.10, iv x.11, iv x.12, CV.sl 0 0 0 2 (List.length ws) cap, iv x.13, iv x.14]), (Ent.mkBox 29 [iv k, iv v]), (Ent.mkBox 25 [iv (0 : Int), iv (0 : Int), iv (0 : Int), iv (0 : Int), iv (0 : Int), iv (0 : Int), iv (0 : Int), iv (0 : Int), iv (0 : Int), iv (0 : Int), iv (0 : Int), iv (0 : Int), CV.v (Value.slice none 0 0), iv (0 : Int), iv (0 : Int)])] (latchC x k v ws true cap [0]) fun c => Tree.done (XV.tup [AV.agg [iv (Prod.fst (latchS x k v)).1, iv (Prod.fst (latchS x k v)).2, iv (Prod.fst (latchS x k v)).3, iv (Prod.fst (latchS x k v)).4, iv (Prod.fst (latchS x k v)).5, iv (Prod.fst (latchS x k v)).6, iv (Prod.fst (latchS x k v)).7, iv (Prod.fst (latchS x k v)).8, iv (Prod.fst (latchS x k v)).9, iv (Prod.fst (latchS x k v)).10, iv (Prod.fst (latchS x k v)).11, iv (Prod.fst (latchS x k v)).12, CV.sl 0 0 0 2 (List.length ws) cap, iv (Prod.fst (latchS x k v)).13, iv (Prod.fst (latchS x k v)).14], AV.c (CV.v (Value.bool (Prod.snd (latchS x k v))))]) [(Ent.ws true cap ws), (Ent.mkBox 25 [iv x.1, iv x.2, iv x.3, iv x.4, iv x.5, iv x.6, iv x.7, iv x.8, iv x.9, iv x.10, iv x.11, iv x.12, CV.sl 0 0 0 2 (List.length ws) cap, iv x.13, iv x.14]), (Ent.mkBox 29 [iv k, iv v]), (Ent.mkBox 25 [iv (Prod.fst (latchS x k v)).1, iv (Prod.fst (latchS x k v)).2, iv (Prod.fst (latchS x k v)).3, iv (Prod.fst (latchS x k v)).4, iv (Prod.fst (latchS x k v)).5, iv (Prod.fst (latchS x k v)).6, iv (Prod.fst (latchS x k v)).7, iv (Prod.fst (latchS x k v)).8, iv (Prod.fst (latchS x k v)).9, iv (Prod.fst (latchS x k v)).10, iv (Prod.fst (latchS x k v)).11, iv (Prod.fst (latchS x k v)).12, CV.sl 0 0 0 2 (List.length ws) cap, iv (Prod.fst (latchS x k v)).13, iv (Prod.fst (latchS x k v)).14])])
   (Tree.br (x.1 == (4 : Int))
   (Tree.callf 28 [AV.agg [iv x.1, iv x.2, iv x.3, iv x.4, iv x.5, iv x.6, iv x.7, iv x.8, iv x.9, iv x.10, iv x.11, iv x.12, CV.sl 0 0 0 2 (List.length ws) cap, iv x.13, iv x.14], AV.c (iv t), AV.agg [iv k, iv v]] [(Ent.ws true cap ws), (Ent.mkBox 25 [iv x.1, iv x.2, iv x.3, iv x.4, iv x.5, iv x.6, iv x.7, iv x.8, iv x.9, iv x.10, iv x.11, iv x.12, CV.sl 0 0 0 2 (List.length ws) cap, iv x.13, iv x.14]), (Ent.mkBox 29 [iv k, iv v]), (Ent.mkBox 25 [iv (0 : Int), iv (0 : Int), iv (0 : Int), iv (0 : Int), iv (0 : Int), iv (0 : Int), iv (0 : Int), iv (0 : Int), iv (0 : Int), iv (0 : Int), iv (0 : Int), iv (0 : Int), CV.v (Value.slice none 0 0), iv (0 : Int), iv (0 : Int)])] (rwC x t k v ws true cap [0]) fun c => Tree.done (XV.tup [AV.agg [iv (Prod.fst (rwS x t k v)).1, iv (Prod.fst (rwS x t k v)).2, iv (Prod.fst (rwS x t k v)).3, iv (Prod.fst (rwS x t k v)).4, iv (Prod.fst (rwS x t k v)).5, iv (Prod.fst (rwS x t k v)).6, iv (Prod.fst (rwS x t k v)).7, iv (Prod.fst (rwS x t k v)).8, iv (Prod.fst (rwS x t k v)).9, iv (Prod.fst (rwS x t k v)).10, iv (Prod.fst (rwS x t k v)).11, iv (Prod.fst (rwS x t k v)).12, CV.sl 0 0 0 2 (List.length ws) cap, iv (Prod.fst (rwS x t k v)).13, iv (Prod.fst (rwS x t k v)).14], AV.c (CV.v (Value.bool (Prod.snd (rwS x t k v))))]) [(Ent.ws true cap ws), (Ent.mkBox 25 [iv x.1, iv x.2, iv x.3, iv x.4, iv x.5, iv x.6, iv x.7, iv x.8, iv x.9, iv x.10, iv x.11, iv x.12, CV.sl 0 0 0 2 (List.length ws) cap, iv x.13, iv x.14]), (Ent.mkBox 29 [iv k, iv v]), (Ent.mkBox 25 [iv (Prod.fst (rwS x t k v)).1, iv (Prod.fst (rwS x t k v)).2, iv (Prod.fst (rwS x t k v)).3, iv (Prod.fst (rwS x t k v)).4, iv (Prod.fst (rwS x t k v)).5, iv (Prod.fst (rwS x t k v)).6, iv (Prod.fst (rwS x t k v)).7, iv (Prod.fst (rwS x t k v)).8, iv (Prod.fst (rwS x t k v)).9, iv (Prod.fst (rwS x t k v)).10, iv (Prod.fst (rwS x t k v)).11, iv (Prod.fst (rwS x t k v)).12, CV.sl 0 0 0 2 (List.length ws) cap, iv (Prod.fst (rwS x t k v)).13, iv (Prod.fst (rwS x t k v)).14])])
   (Tree.br (x.1 == (5 : Int))
   (Tree.callf 29 [AV.agg [iv x.1, iv x.2, iv x.3, iv x.4, iv x.5, iv x.6, iv x.7, iv x.8, iv x.9, iv x.10, iv x.11, iv x.12, CV.sl 0 0 0 2 (List.length ws) cap, iv x.13, iv x.14], AV.c (iv t), AV.agg [iv k, iv v]] [(Ent.ws true cap ws), (Ent.mkBox 25 [iv x.1, iv x.2, iv x.3, iv x.4, iv x.5, iv x.6, iv x.7, iv x.8, iv x.9, iv x.10, iv x.11, iv x.12, CV.sl 0 0 0 2 (List.length ws) cap, iv x.13, iv x.14]), (Ent.mkBox 29 [iv k, iv v]), (Ent.mkBox 25 [iv (0 : Int), iv (0 : Int), iv (0 : Int), iv (0 : Int), iv (0 : Int), iv (0 : Int), iv (0 : Int), iv (0 : Int), iv (0 : Int), iv (0 : Int), iv (0 : Int), iv (0 : Int), CV.v (Value.slice none 0 0), iv (0 : Int), iv (0 : Int)])] (swapC x t k v ws true cap [0]) fun c => Tree.done (XV.tup [AV.agg [iv (Prod.fst (swapS x t k v)).1, iv (Prod.fst (swapS x t k v)).2, iv (Prod.fst (swapS x t k v)).3, iv (Prod.fst (swapS x t k v)).4, iv (Prod.fst (swapS x t k v)).5, iv (Prod.fst (swapS x t k v)).6, iv (Prod.fst (swapS x t k v)).7, iv (Prod.fst (swapS x t k v)).8, iv (Prod.fst (swapS x t k v)).9, iv (Prod.fst (swapS x t k v)).10, iv (Prod.fst (swapS x t k v)).11, iv (Prod.fst (swapS x t k v)).12, CV.sl 0 0 0 2 (List.length ws) cap, iv (Prod.fst (swapS x t k v)).13, iv (Prod.fst (swapS x t k v)).14], AV.c (CV.v (Value.bool (Prod.snd (swapS x t k v))))]) [(Ent.ws true cap ws), (Ent.mkBox 25 [iv x.1, iv x.2, iv x.3, iv x.4, iv x.5, iv x.6, iv x.7, iv x.8, iv x.9, iv x.10, iv x.11, iv x.12, CV.sl 0 0 0 2 (List.length ws) cap, iv x.13, iv x.14]), (Ent.mkBox 29 [iv k, iv v]), (Ent.mkBox 25 [iv (Prod.fst (swapS x t k v)).1, iv (Prod.fst (swapS x t k v)).2, iv (Prod.fst (swapS x t k v)).3, iv (Prod.fst (swapS x t k v)).4, iv (Prod.fst (swapS x t k v)).5, iv (Prod.fst (swapS x t k v)).6, iv (Prod.fst (swapS x t k v)).7, iv (Prod.fst (swapS x t k v)).8, iv (Prod.fst (swapS x t k v)).9, iv (Prod.fst (swapS x t k v)).10, iv (Prod.fst (swapS x t k v)).11, iv (Prod.fst (swapS x t k v)).12, CV.sl 0 0 0 2 (List.length ws) cap, iv (Prod.fst (swapS x t k v)).13, iv (Prod.fst (swapS x t k v)).14])])
   (Tree.done (XV.tup [AV.agg [iv x.1, iv x.2, iv x.3, iv x.4, iv x.5, iv x.6, iv x.7, iv x.8, iv x.9, iv x.10, iv x.11, iv x.12, CV.sl 0 0 0 2 (List.length ws) cap, iv x.13, iv x.14], AV.c (CV.v (Value.bool false))]) [(Ent.ws true cap ws), (Ent.mkBox 25 [iv x.1, iv x.2, iv x.3, iv x.4, iv x.5, iv x.6, iv x.7, iv x.8, iv x.9, iv x.10, iv x.11, iv x.12, CV.sl 0 0 0 2 (List.length ws) cap, iv x.13, iv x.14]), (Ent.mkBox 29 [iv k, iv v]), (Ent.mkBox 25 [iv x.1, iv x.2, iv x.3, iv x.4, iv x.5, iv x.6, iv x.7, iv x.8, iv x.9, iv x.10, iv x.11, iv x.12, CV.sl 0 0 0 2 (List.length ws) cap, iv x.13, iv x.14])])))))
theorem tdone_eq (x : Thg) (t k v : Int) (ws : List Wt) (cap : Nat) : xfunc tab (doneG ws) noInv Go.Proofs.Try.f20 [x.av 0 0 ws.length cap, .c (iv t), markA k v] [Ent.ws true cap ws] [0, 1, 2, 3, 4, 5] = tdone x t k v ws cap := by kernel_rfl
end Go.Proofs.Ytnenbngjdekegaa.X

/- The model: done, proved. -/
set_option linter.unusedVariables false
set_option linter.unusedSimpArgs false
namespace Go.Proofs.Ytnenbngjdekegaa.X
open Go Go.RowKit Go.Proofs.YtnenbngjdekegaaW.PrintWords Go.Proofs.Ytnenbngjdekegaa.Base
def doneS (x : Thg) (t k v : Int) (ws : List Wt) (cap : Nat) : SigT :=
  bif x.kd == 1 then lockS x t k v ws cap
  else bif x.kd == 2 then ((semaS x k v).1, (0, ws.length), (semaS x k v).2)
  else bif x.kd == 3 then ((latchS x k v).1, (0, ws.length), (latchS x k v).2)
  else bif x.kd == 4 then ((rwS x t k v).1, (0, ws.length), (rwS x t k v).2)
  else bif x.kd == 5 then ((swapS x t k v).1, (0, ws.length), (swapS x t k v).2) else (x, (0, ws.length), false)
def doneRowF (x : Thg) (ws : List Wt) (t k : Int) : List Wt := bif x.kd == 1 then lockRowF x ws t k else ws
def doneC (x : Thg) (t k v : Int) (ws : List Wt) (cap n : Nat) (ρ : List Nat) : CallSpec := rowSpec ρ n [x.av 0 0 ws.length cap, .c (iv t), markA k v] [Ent.ws true cap ws] (fun _ => True)
  (fun c => sigR (doneS x t k v ws cap) (c 0)) fun c => [Ent.dead, Ent.ws true (c 1) (doneRowF x ws t k)]
theorem lock_call : Callable Try.prog 25 := ⟨_, Try.func25, by kernel_rfl, rfl⟩
theorem sema_call : Callable Try.prog 26 := ⟨_, Try.func26, by kernel_rfl, rfl⟩
theorem latch_call : Callable Try.prog 27 := ⟨_, Try.func27, by kernel_rfl, rfl⟩
theorem rw_call : Callable Try.prog 28 := ⟨_, Try.func28, by kernel_rfl, rfl⟩
theorem swap_call : Callable Try.prog 29 := ⟨_, Try.func29, by kernel_rfl, rfl⟩
theorem done_local (x : Thg) (t k v : Int) (ws : List Wt) (cap n : Nat) (ρ : List Nat) (hl : ws.length ≤ 1000000) (hc : ws.length ≤ cap) (t0 : 0 ≤ t) (t8 : t < 8) : (doneC x t k v ws cap n ρ).Local Try.prog 20 := by
  refine local_of Try.func20 rfl (tdone_eq x t k v ws cap) fun ν w => ?_
  refine ok_br' (fun h => ?_) fun h => ok_br' (fun h => ?_) fun h => ok_br' (fun h => ?_) fun h => ok_br' (fun h => ?_) fun h => ok_br' (fun h => ?_) fun h => ?_
  · refine ok_callf' lock_call (fits_of rfl rfl ⟨⟨_, rfl, EntRel.ws⟩, trivial⟩ fun c _ => ⟨⟨Nat.le_succ 1, rfl⟩, ⟨rfl, rfl⟩, ⟨⟨EntRel.dead, rfl, (fun h => by cases h), .inl rfl⟩, ⟨EntRel.ws, rfl, (fun h => by cases h), .inl rfl⟩, trivial⟩⟩) (lock_local _ _ _ _ _ _ _ _ hl hc) fun c _ => ?_
    refine ok_leaf2 c [] [0, 4] trivial ?_ ⟨.inl rfl, .inr ⟨_, rfl, row_of ?_⟩, trivial⟩ rfl
    · show XV.tup _ = XV.nilz _ (XV.ren _ (sigR (doneS x t k v ws cap) (c 0)))
      simp only [doneS, *, cond_true, cond_false]
      rfl
    · simp only [doneRowF, *, cond_true, cond_false]
  · refine ok_callf' sema_call (fits_of rfl rfl ⟨⟨_, rfl, EntRel.ws⟩, trivial⟩ fun c _ => ⟨⟨Nat.le_refl _, rfl⟩, ⟨rfl, rfl⟩, ⟨⟨EntRel.ws, rfl, (fun h => by cases h), .inr rfl⟩, trivial⟩⟩) (sema_local _ _ _ _ _ _ _) fun c _ => ?_
    (refine ok_leaf2 (fun _ => cap) [] [0, 0] trivial ?_ ⟨.inl rfl, .inr ⟨_, rfl, row_of ?_⟩, trivial⟩ rfl <;> first | (simp only [doneRowF, *, cond_true, cond_false]; done) | (show XV.tup _ = XV.nilz _ (XV.ren _ (sigR (doneS x t k v ws cap) cap)); simp only [doneS, *, cond_true, cond_false]; first | done | rfl))
  · refine ok_callf' latch_call (fits_of rfl rfl ⟨⟨_, rfl, EntRel.ws⟩, trivial⟩ fun c _ => ⟨⟨Nat.le_refl _, rfl⟩, ⟨rfl, rfl⟩, ⟨⟨EntRel.ws, rfl, (fun h => by cases h), .inr rfl⟩, trivial⟩⟩) (latch_local _ _ _ _ _ _ _) fun c _ => ?_
    (refine ok_leaf2 (fun _ => cap) [] [0, 0] trivial ?_ ⟨.inl rfl, .inr ⟨_, rfl, row_of ?_⟩, trivial⟩ rfl <;> first | (simp only [doneRowF, *, cond_true, cond_false]; done) | (show XV.tup _ = XV.nilz _ (XV.ren _ (sigR (doneS x t k v ws cap) cap)); simp only [doneS, *, cond_true, cond_false]; first | done | rfl))
  · refine ok_callf' rw_call (fits_of rfl rfl ⟨⟨_, rfl, EntRel.ws⟩, trivial⟩ fun c _ => ⟨⟨Nat.le_refl _, rfl⟩, ⟨rfl, rfl⟩, ⟨⟨EntRel.ws, rfl, (fun h => by cases h), .inr rfl⟩, trivial⟩⟩) (rw_local _ _ _ _ _ _ _ _ t0 t8) fun c _ => ?_
    (refine ok_leaf2 (fun _ => cap) [] [0, 0] trivial ?_ ⟨.inl rfl, .inr ⟨_, rfl, row_of ?_⟩, trivial⟩ rfl <;> first | (simp only [doneRowF, *, cond_true, cond_false]; done) | (show XV.tup _ = XV.nilz _ (XV.ren _ (sigR (doneS x t k v ws cap) cap)); simp only [doneS, *, cond_true, cond_false]; first | done | rfl))
  · refine ok_callf' swap_call (fits_of rfl rfl ⟨⟨_, rfl, EntRel.ws⟩, trivial⟩ fun c _ => ⟨⟨Nat.le_refl _, rfl⟩, ⟨rfl, rfl⟩, ⟨⟨EntRel.ws, rfl, (fun h => by cases h), .inr rfl⟩, trivial⟩⟩) (swap_local _ _ _ _ _ _ _ _) fun c _ => ?_
    (refine ok_leaf2 (fun _ => cap) [] [0, 0] trivial ?_ ⟨.inl rfl, .inr ⟨_, rfl, row_of ?_⟩, trivial⟩ rfl <;> first | (simp only [doneRowF, *, cond_true, cond_false]; done) | (show XV.tup _ = XV.nilz _ (XV.ren _ (sigR (doneS x t k v ws cap) cap)); simp only [doneS, *, cond_true, cond_false]; first | done | rfl))
  · (refine ok_leaf2 (fun _ => cap) [] [0, 0] trivial ?_ ⟨.inl rfl, .inr ⟨_, rfl, row_of ?_⟩, trivial⟩ rfl <;> first | (simp only [doneRowF, *, cond_true, cond_false]; done) | (show XV.tup _ = XV.nilz _ (XV.ren _ (sigR (doneS x t k v ws cap) cap)); simp only [doneS, *, cond_true, cond_false]; first | done | rfl))
end Go.Proofs.Ytnenbngjdekegaa.X

