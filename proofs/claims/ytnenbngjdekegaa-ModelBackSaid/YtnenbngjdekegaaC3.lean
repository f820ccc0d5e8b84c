/- A symbolic run of functions' texts, proved, and what it tells of the program's functions; no conditions. -/
import Derived.Test.YtnenbngjdekegaaC2
import Derived.Test.YtnenbngjdekegaaOpen
import Derived.Test.YtnenbngjdekegaaWArr
/- The model: Do: tree. -/
set_option linter.unusedVariables false
set_option linter.unusedSimpArgs false
namespace Go.Proofs.Ytnenbngjdekegaa.X
open Go Go.RowKit Go.Proofs.YtnenbngjdekegaaW.PrintWords Go.Proofs.Ytnenbngjdekegaa.Base
def doG (ws : List Wt) (own : Bool) (lo n rc : Nat) : Ctr := fun f args H => match args with
  | [.c (.sl k _ _ _ _ cap)] => some (clone2C ws own lo n cap rc H.length [k])
  | [.agg l, .c (.v (.int _ t)), .agg [.v (.int _ k), .v (.int _ v)]] => some (doneC (thgOf l) t k v (wsub ws lo n) (slCap l) H.length [slK l])
  | _ => none
def tdo (x : Thg) (t k v : Int) (ws : List Wt) (own : Bool) (lo n cap rc : Nat) : Tree :=
  Tree.callf 19 [AV.c (CV.sl 0 0 lo 2 n cap)] [(Ent.ws own rc ws), (Ent.mkBox 25 [iv x.1, iv x.2, iv x.3, iv x.4, iv x.5, iv x.6, iv x.7, iv x.8, iv x.9, iv x.10, iv x.11, iv x.12, CV.sl 0 0 lo 2 n cap, iv x.13, iv x.14]), (Ent.mkBox 29 [iv k, iv v]), (Ent.mkBox 25 [iv (0 : Int), iv (0 : Int), iv (0 : Int), iv (0 : Int), iv (0 : Int), iv (0 : Int), iv (0 : Int), iv (0 : Int), iv (0 : Int), iv (0 : Int), iv (0 : Int), iv (0 : Int), CV.v (Value.slice none 0 0), iv (0 : Int), iv (0 : Int)]), (Ent.mkBox 25 [iv x.1, iv x.2, iv x.3, iv x.4, iv x.5, iv x.6, iv x.7, iv x.8, iv x.9, iv x.10, iv x.11, iv x.12, CV.sl 0 0 lo 2 n cap, iv x.13, iv x.14])] (clone2C ws own lo n cap rc 5 [0]) fun c => Tree.chk (AV.c (CV.sl 0 0 lo 2 n cap) = AV.c (CV.sl 0 0 lo 2 n cap))
   (Tree.chk (AV.c (CV.ptr { k := 1, j := 0, i := 0, sz := 15, c := 12, d := 0, dn := 0, cu := 0 }) = AV.c (CV.ptr { k := 1, j := 0, i := 0, sz := 15, c := 12, d := 0, dn := 0, cu := 0 }))
   (Tree.callf 19 [AV.c (CV.sl 0 0 lo 2 n cap)] [(Ent.ws own rc ws), (Ent.mkBox 25 [iv x.1, iv x.2, iv x.3, iv x.4, iv x.5, iv x.6, iv x.7, iv x.8, iv x.9, iv x.10, iv x.11, iv x.12, CV.sl 0 0 lo 2 n cap, iv x.13, iv x.14]), (Ent.mkBox 29 [iv k, iv v]), (Ent.mkBox 25 [iv (0 : Int), iv (0 : Int), iv (0 : Int), iv (0 : Int), iv (0 : Int), iv (0 : Int), iv (0 : Int), iv (0 : Int), iv (0 : Int), iv (0 : Int), iv (0 : Int), iv (0 : Int), CV.v (Value.slice none 0 0), iv (0 : Int), iv (0 : Int)]), (Ent.mkBox 25 [iv x.1, iv x.2, iv x.3, iv x.4, iv x.5, iv x.6, iv x.7, iv x.8, iv x.9, iv x.10, iv x.11, iv x.12, CV.sl 0 0 lo 2 n cap, iv x.13, iv x.14]), (Ent.ws true (c 0) (List.take n (List.drop lo ws)))] (clone2C ws own lo n cap rc 6 [0]) fun c_1 => Tree.chk (AV.c (CV.ptr { k := 4, j := 0, i := 0, sz := 15, c := 12, d := 0, dn := 0, cu := 0 }) = AV.c (CV.ptr { k := 4, j := 0, i := 0, sz := 15, c := 12, d := 0, dn := 0, cu := 0 }))
   (Tree.chk ((!decide (t < (0 : Int))) = true → (!decide (t < (0 : Int))) = true)
   (Tree.chk (decide (t < (0 : Int)) = false → (!decide (t < (0 : Int))) = true)
   (Tree.br (bif decide (t < (0 : Int)) then true else decide (t ≥ (8 : Int)))
   (Tree.done (XV.tup [AV.agg [iv x.1, iv x.2, iv x.3, iv x.4, iv x.5, iv x.6, iv x.7, iv x.8, iv x.9, iv x.10, iv x.11, iv x.12, CV.sl 5 0 0 2 (List.length (List.take n (List.drop lo ws))) (c 0), iv x.13, iv x.14], AV.c (CV.v (Value.bool false))]) [(Ent.ws own rc ws), (Ent.mkBox 25 [iv x.1, iv x.2, iv x.3, iv x.4, iv x.5, iv x.6, iv x.7, iv x.8, iv x.9, iv x.10, iv x.11, iv x.12, CV.sl 6 0 0 2 (List.length (List.take n (List.drop lo ws))) (c_1 0), iv x.13, iv x.14]), (Ent.mkBox 29 [iv k, iv v]), (Ent.mkBox 25 [iv x.1, iv x.2, iv x.3, iv x.4, iv x.5, iv x.6, iv x.7, iv x.8, iv x.9, iv x.10, iv x.11, iv x.12, CV.sl 5 0 0 2 (List.length (List.take n (List.drop lo ws))) (c 0), iv x.13, iv x.14]), (Ent.mkBox 25 [iv x.1, iv x.2, iv x.3, iv x.4, iv x.5, iv x.6, iv x.7, iv x.8, iv x.9, iv x.10, iv x.11, iv x.12, CV.sl 5 0 0 2 (List.length (List.take n (List.drop lo ws))) (c 0), iv x.13, iv x.14]), (Ent.ws true (c 0) (List.take n (List.drop lo ws))), (Ent.ws true (c_1 0) (List.take n (List.drop lo ws)))])
   (Tree.br (k == (17 : Int))
   (Tree.chk ((v == (0 : Int)) = true → (v == (0 : Int)) = true)
   (Tree.chk ((v == (0 : Int)) = true → (v == (0 : Int)) = true)
   (Tree.chk ((v == (0 : Int)) = true → (v == (0 : Int)) = true)
   (Tree.chk ((bif v == (0 : Int) then decide (x.1 ≥ (1 : Int)) else false) = true → (bif v == (0 : Int) then decide (x.1 ≥ (1 : Int)) else false) = true)
   (Tree.chk ((bif v == (0 : Int) then decide (x.1 ≥ (1 : Int)) else false) = true → (bif v == (0 : Int) then decide (x.1 ≥ (1 : Int)) else false) = true)
   (Tree.chk ((bif v == (0 : Int) then decide (x.1 ≥ (1 : Int)) else false) = true → (bif v == (0 : Int) then decide (x.1 ≥ (1 : Int)) else false) = true)
   (Tree.chk ((bif v == (0 : Int) then decide (x.1 ≥ (1 : Int)) else false) = true → (bif v == (0 : Int) then decide (x.1 ≥ (1 : Int)) else false) = true)
   (Tree.chk (AV.c (CV.v (Value.bool (bif bif v == (0 : Int) then decide (x.1 ≥ (1 : Int)) else false then decide (x.1 ≤ (5 : Int)) else false))) = AV.c (CV.v (Value.bool (bif bif v == (0 : Int) then decide (x.1 ≥ (1 : Int)) else false then decide (x.1 ≤ (5 : Int)) else false))))
   (Tree.chk ((bif v == (0 : Int) then decide (x.1 ≥ (1 : Int)) else false) = true → (bif v == (0 : Int) then decide (x.1 ≥ (1 : Int)) else false) = true)
   (Tree.chk ((bif v == (0 : Int) then decide (x.1 ≥ (1 : Int)) else false) = true → AV.c (CV.v (Value.bool (decide (x.1 ≤ (5 : Int))))) = AV.c (CV.v (Value.bool (decide (x.1 ≤ (5 : Int))))))
   (Tree.chk ((bif v == (0 : Int) then decide (x.1 ≥ (1 : Int)) else false) = true → (bif v == (0 : Int) then decide (x.1 ≥ (1 : Int)) else false) = true)
   (Tree.chk ((bif v == (0 : Int) then decide (x.1 ≥ (1 : Int)) else false) = true → AV.c (iv x.1) = AV.c (iv x.1))
   (Tree.chk ((bif v == (0 : Int) then decide (x.1 ≥ (1 : Int)) else false) = true → AV.c (CV.ptr { k := 1, j := 0, i := 0, sz := 15, c := 0, d := 0, dn := 0, cu := 0 }) = AV.c (CV.ptr { k := 1, j := 0, i := 0, sz := 15, c := 0, d := 0, dn := 0, cu := 0 }))
   (Tree.done (XV.tup [AV.agg [iv x.1, iv x.2, iv x.3, iv x.4, iv x.5, iv x.6, iv x.7, iv x.8, iv x.9, iv x.10, iv x.11, iv x.12, CV.sl 5 0 0 2 (List.length (List.take n (List.drop lo ws))) (c 0), iv x.13, iv x.14], AV.c (CV.v (Value.bool (bif bif v == (0 : Int) then decide (x.1 ≥ (1 : Int)) else false then decide (x.1 ≤ (5 : Int)) else false)))]) [(Ent.ws own rc ws), (Ent.mkBox 25 [iv x.1, iv x.2, iv x.3, iv x.4, iv x.5, iv x.6, iv x.7, iv x.8, iv x.9, iv x.10, iv x.11, iv x.12, CV.sl 6 0 0 2 (List.length (List.take n (List.drop lo ws))) (c_1 0), iv x.13, iv x.14]), (Ent.mkBox 29 [iv k, iv v]), (Ent.mkBox 25 [iv x.1, iv x.2, iv x.3, iv x.4, iv x.5, iv x.6, iv x.7, iv x.8, iv x.9, iv x.10, iv x.11, iv x.12, CV.sl 5 0 0 2 (List.length (List.take n (List.drop lo ws))) (c 0), iv x.13, iv x.14]), (Ent.mkBox 25 [iv x.1, iv x.2, iv x.3, iv x.4, iv x.5, iv x.6, iv x.7, iv x.8, iv x.9, iv x.10, iv x.11, iv x.12, CV.sl 5 0 0 2 (List.length (List.take n (List.drop lo ws))) (c 0), iv x.13, iv x.14]), (Ent.ws true (c 0) (List.take n (List.drop lo ws))), (Ent.ws true (c_1 0) (List.take n (List.drop lo ws)))]))))))))))))))
   (Tree.callf 20 [AV.agg [iv x.1, iv x.2, iv x.3, iv x.4, iv x.5, iv x.6, iv x.7, iv x.8, iv x.9, iv x.10, iv x.11, iv x.12, CV.sl 6 0 0 2 (List.length (List.take n (List.drop lo ws))) (c_1 0), iv x.13, iv x.14], AV.c (iv t), AV.agg [iv k, iv v]] [(Ent.ws own rc ws), (Ent.mkBox 25 [iv x.1, iv x.2, iv x.3, iv x.4, iv x.5, iv x.6, iv x.7, iv x.8, iv x.9, iv x.10, iv x.11, iv x.12, CV.sl 6 0 0 2 (List.length (List.take n (List.drop lo ws))) (c_1 0), iv x.13, iv x.14]), (Ent.mkBox 29 [iv k, iv v]), (Ent.mkBox 25 [iv (0 : Int), iv (0 : Int), iv (0 : Int), iv (0 : Int), iv (0 : Int), iv (0 : Int), iv (0 : Int), iv (0 : Int), iv (0 : Int), iv (0 : Int), iv (0 : Int), iv (0 : Int), CV.v (Value.slice none 0 0), iv (0 : Int), iv (0 : Int)]), (Ent.mkBox 25 [iv x.1, iv x.2, iv x.3, iv x.4, iv x.5, iv x.6, iv x.7, iv x.8, iv x.9, iv x.10, iv x.11, iv x.12, CV.sl 5 0 0 2 (List.length (List.take n (List.drop lo ws))) (c 0), iv x.13, iv x.14]), (Ent.ws true (c 0) (List.take n (List.drop lo ws))), (Ent.ws true (c_1 0) (List.take n (List.drop lo ws)))] (doneC x t k v (List.take n (List.drop lo ws)) (c_1 0) 7 [6]) fun c_2 => Tree.br (Prod.snd (Prod.snd (doneS x t k v (List.take n (List.drop lo ws)) (c_1 0))))
   (Tree.done (XV.tup [AV.agg [iv (Prod.fst (doneS x t k v (List.take n (List.drop lo ws)) (c_1 0))).1, iv (Prod.fst (doneS x t k v (List.take n (List.drop lo ws)) (c_1 0))).2, iv (Prod.fst (doneS x t k v (List.take n (List.drop lo ws)) (c_1 0))).3, iv (Prod.fst (doneS x t k v (List.take n (List.drop lo ws)) (c_1 0))).4, iv (Prod.fst (doneS x t k v (List.take n (List.drop lo ws)) (c_1 0))).5, iv (Prod.fst (doneS x t k v (List.take n (List.drop lo ws)) (c_1 0))).6, iv (Prod.fst (doneS x t k v (List.take n (List.drop lo ws)) (c_1 0))).7, iv (Prod.fst (doneS x t k v (List.take n (List.drop lo ws)) (c_1 0))).8, iv (Prod.fst (doneS x t k v (List.take n (List.drop lo ws)) (c_1 0))).9, iv (Prod.fst (doneS x t k v (List.take n (List.drop lo ws)) (c_1 0))).10, iv (Prod.fst (doneS x t k v (List.take n (List.drop lo ws)) (c_1 0))).11, iv (Prod.fst (doneS x t k v (List.take n (List.drop lo ws)) (c_1 0))).12, CV.sl 7 0 (Prod.fst (Prod.fst (Prod.snd (doneS x t k v (List.take n (List.drop lo ws)) (c_1 0))))) 2 (Prod.snd (Prod.fst (Prod.snd (doneS x t k v (List.take n (List.drop lo ws)) (c_1 0))))) (c_2 0), iv (Prod.fst (doneS x t k v (List.take n (List.drop lo ws)) (c_1 0))).13, iv (Prod.fst (doneS x t k v (List.take n (List.drop lo ws)) (c_1 0))).14], AV.c (CV.v (Value.bool true))]) [(Ent.ws own rc ws), (Ent.mkBox 25 [iv x.1, iv x.2, iv x.3, iv x.4, iv x.5, iv x.6, iv x.7, iv x.8, iv x.9, iv x.10, iv x.11, iv x.12, CV.sl 6 0 0 2 (List.length (List.take n (List.drop lo ws))) (c_1 0), iv x.13, iv x.14]), (Ent.mkBox 29 [iv k, iv v]), (Ent.mkBox 25 [iv (Prod.fst (doneS x t k v (List.take n (List.drop lo ws)) (c_1 0))).1, iv (Prod.fst (doneS x t k v (List.take n (List.drop lo ws)) (c_1 0))).2, iv (Prod.fst (doneS x t k v (List.take n (List.drop lo ws)) (c_1 0))).3, iv (Prod.fst (doneS x t k v (List.take n (List.drop lo ws)) (c_1 0))).4, iv (Prod.fst (doneS x t k v (List.take n (List.drop lo ws)) (c_1 0))).5, iv (Prod.fst (doneS x t k v (List.take n (List.drop lo ws)) (c_1 0))).6, iv (Prod.fst (doneS x t k v (List.take n (List.drop lo ws)) (c_1 0))).7, iv (Prod.fst (doneS x t k v (List.take n (List.drop lo ws)) (c_1 0))).8, iv (Prod.fst (doneS x t k v (List.take n (List.drop lo ws)) (c_1 0))).9, iv (Prod.fst (doneS x t k v (List.take n (List.drop lo ws)) (c_1 0))).10, iv (Prod.fst (doneS x t k v (List.take n (List.drop lo ws)) (c_1 0))).11, iv (Prod.fst (doneS x t k v (List.take n (List.drop lo ws)) (c_1 0))).12, CV.sl 7 0 (Prod.fst (Prod.fst (Prod.snd (doneS x t k v (List.take n (List.drop lo ws)) (c_1 0))))) 2 (Prod.snd (Prod.fst (Prod.snd (doneS x t k v (List.take n (List.drop lo ws)) (c_1 0))))) (c_2 0), iv (Prod.fst (doneS x t k v (List.take n (List.drop lo ws)) (c_1 0))).13, iv (Prod.fst (doneS x t k v (List.take n (List.drop lo ws)) (c_1 0))).14]), (Ent.mkBox 25 [iv x.1, iv x.2, iv x.3, iv x.4, iv x.5, iv x.6, iv x.7, iv x.8, iv x.9, iv x.10, iv x.11, iv x.12, CV.sl 5 0 0 2 (List.length (List.take n (List.drop lo ws))) (c 0), iv x.13, iv x.14]), (Ent.ws true (c 0) (List.take n (List.drop lo ws))), Ent.dead, (Ent.ws true (c_2 1) (doneRowF x (List.take n (List.drop lo ws)) t k)), (Ent.mkBox 25 [iv (Prod.fst (doneS x t k v (List.take n (List.drop lo ws)) (c_1 0))).1, iv (Prod.fst (doneS x t k v (List.take n (List.drop lo ws)) (c_1 0))).2, iv (Prod.fst (doneS x t k v (List.take n (List.drop lo ws)) (c_1 0))).3, iv (Prod.fst (doneS x t k v (List.take n (List.drop lo ws)) (c_1 0))).4, iv (Prod.fst (doneS x t k v (List.take n (List.drop lo ws)) (c_1 0))).5, iv (Prod.fst (doneS x t k v (List.take n (List.drop lo ws)) (c_1 0))).6, iv (Prod.fst (doneS x t k v (List.take n (List.drop lo ws)) (c_1 0))).7, iv (Prod.fst (doneS x t k v (List.take n (List.drop lo ws)) (c_1 0))).8, iv (Prod.fst (doneS x t k v (List.take n (List.drop lo ws)) (c_1 0))).9, iv (Prod.fst (doneS x t k v (List.take n (List.drop lo ws)) (c_1 0))).10, iv (Prod.fst (doneS x t k v (List.take n (List.drop lo ws)) (c_1 0))).11, iv (Prod.fst (doneS x t k v (List.take n (List.drop lo ws)) (c_1 0))).12, CV.sl 7 0 (Prod.fst (Prod.fst (Prod.snd (doneS x t k v (List.take n (List.drop lo ws)) (c_1 0))))) 2 (Prod.snd (Prod.fst (Prod.snd (doneS x t k v (List.take n (List.drop lo ws)) (c_1 0))))) (c_2 0), iv (Prod.fst (doneS x t k v (List.take n (List.drop lo ws)) (c_1 0))).13, iv (Prod.fst (doneS x t k v (List.take n (List.drop lo ws)) (c_1 0))).14])])
   (Tree.done (XV.tup [AV.agg [iv x.1, iv x.2, iv x.3, iv x.4, iv x.5, iv x.6, iv x.7, iv x.8, iv x.9, iv x.10, iv x.11, iv x.12, CV.sl 5 0 0 2 (List.length (List.take n (List.drop lo ws))) (c 0), iv x.13, iv x.14], AV.c (CV.v (Value.bool false))]) [(Ent.ws own rc ws), (Ent.mkBox 25 [iv x.1, iv x.2, iv x.3, iv x.4, iv x.5, iv x.6, iv x.7, iv x.8, iv x.9, iv x.10, iv x.11, iv x.12, CV.sl 6 0 0 2 (List.length (List.take n (List.drop lo ws))) (c_1 0), iv x.13, iv x.14]), (Ent.mkBox 29 [iv k, iv v]), (Ent.mkBox 25 [iv x.1, iv x.2, iv x.3, iv x.4, iv x.5, iv x.6, iv x.7, iv x.8, iv x.9, iv x.10, iv x.11, iv x.12, CV.sl 5 0 0 2 (List.length (List.take n (List.drop lo ws))) (c 0), iv x.13, iv x.14]), (Ent.mkBox 25 [iv x.1, iv x.2, iv x.3, iv x.4, iv x.5, iv x.6, iv x.7, iv x.8, iv x.9, iv x.10, iv x.11, iv x.12, CV.sl 5 0 0 2 (List.length (List.take n (List.drop lo ws))) (c 0), iv x.13, iv x.14]), (Ent.ws true (c 0) (List.take n (List.drop lo ws))), Ent.dead, (Ent.ws true (c_2 1) (doneRowF x (List.take n (List.drop lo ws)) t k)), (Ent.mkBox 25 [iv (Prod.fst (doneS x t k v (List.take n (List.drop lo ws)) (c_1 0))).1, iv (Prod.fst (doneS x t k v (List.take n (List.drop lo ws)) (c_1 0))).2, iv (Prod.fst (doneS x t k v (List.take n (List.drop lo ws)) (c_1 0))).3, iv (Prod.fst (doneS x t k v (List.take n (List.drop lo ws)) (c_1 0))).4, iv (Prod.fst (doneS x t k v (List.take n (List.drop lo ws)) (c_1 0))).5, iv (Prod.fst (doneS x t k v (List.take n (List.drop lo ws)) (c_1 0))).6, iv (Prod.fst (doneS x t k v (List.take n (List.drop lo ws)) (c_1 0))).7, iv (Prod.fst (doneS x t k v (List.take n (List.drop lo ws)) (c_1 0))).8, iv (Prod.fst (doneS x t k v (List.take n (List.drop lo ws)) (c_1 0))).9, iv (Prod.fst (doneS x t k v (List.take n (List.drop lo ws)) (c_1 0))).10, iv (Prod.fst (doneS x t k v (List.take n (List.drop lo ws)) (c_1 0))).11, iv (Prod.fst (doneS x t k v (List.take n (List.drop lo ws)) (c_1 0))).12, CV.sl 7 0 (Prod.fst (Prod.fst (Prod.snd (doneS x t k v (List.take n (List.drop lo ws)) (c_1 0))))) 2 (Prod.snd (Prod.fst (Prod.snd (doneS x t k v (List.take n (List.drop lo ws)) (c_1 0))))) (c_2 0), iv (Prod.fst (doneS x t k v (List.take n (List.drop lo ws)) (c_1 0))).13, iv (Prod.fst (doneS x t k v (List.take n (List.drop lo ws)) (c_1 0))).14])]))))))))
theorem tdo_eq (x : Thg) (t k v : Int) (ws : List Wt) (own : Bool) (lo n cap rc : Nat) : xfunc tab (doG ws own lo n rc) noInv Go.Proofs.Try.f11 [x.av 0 lo n cap, .c (iv t), markA k v] [Ent.ws own rc ws] [0, 1, 2, 3, 4, 5, 6, 7, 8] = tdo x t k v ws own lo n cap rc := by kernel_rfl
end Go.Proofs.Ytnenbngjdekegaa.X

/- The model: the document's Do: trees. -/
set_option linter.unusedVariables false
set_option linter.unusedSimpArgs false
namespace Go.Proofs.Ytnenbngjdekegaa.X
open Go Go.RowKit Go.Proofs.YtnenbngjdekegaaW.PrintWords Go.Proofs.Ytnenbngjdekegaa.Base
def doneRG (ws : List Wt) : Ctr := fun f args H => match args with
  | [.agg l, .c (.v (.int _ t)), .c (.v (.int _ k)), .c (.v (.int _ v))] =>
    if f = 21 then some (lockrC (thgOf l) t k v ws (slCap l) H.length [slK l])
    else if f = 23 then some (rdSpec [slK l] [(thgOf l).av 0 0 ws.length (slCap l), .c (iv t), .c (iv k), .c (iv v)] [Ent.ws false (slCap l) ws] (thgR (rwrS (thgOf l) t k v) ws.length (slCap l)))
    else some (swaprC (thgOf l) t k v ws false (slCap l) [slK l])
  | [.agg l, .c (.v (.int _ k)), .c (.v (.int _ v))] => some (semarC (thgOf l) k v ws false (slCap l) [slK l])
  | _ => none
def tdor (x : Thg) (t k v : Int) (ws : List Wt) (cap : Nat) : Tree :=
  Tree.chk ((!decide (t < (0 : Int))) = true → (!decide (t < (0 : Int))) = true)
   (Tree.chk (decide (t < (0 : Int)) = false → (!decide (t < (0 : Int))) = true)
   (Tree.chk ((!bif decide (t < (0 : Int)) then true else decide (t > (7 : Int))) = true → (!bif decide (t < (0 : Int)) then true else decide (t > (7 : Int))) = true)
   (Tree.chk ((!bif decide (t < (0 : Int)) then true else decide (t > (7 : Int))) = true → (!bif decide (t < (0 : Int)) then true else decide (t > (7 : Int))) = true)
   (Tree.chk ((bif decide (t < (0 : Int)) then true else decide (t > (7 : Int))) = false → (!bif decide (t < (0 : Int)) then true else decide (t > (7 : Int))) = true)
   (Tree.chk ((!bif bif decide (t < (0 : Int)) then true else decide (t > (7 : Int)) then true else decide (x.1 < (1 : Int))) = true → (!bif bif decide (t < (0 : Int)) then true else decide (t > (7 : Int)) then true else decide (x.1 < (1 : Int))) = true)
   (Tree.chk ((!bif bif decide (t < (0 : Int)) then true else decide (t > (7 : Int)) then true else decide (x.1 < (1 : Int))) = true → (!bif bif decide (t < (0 : Int)) then true else decide (t > (7 : Int)) then true else decide (x.1 < (1 : Int))) = true)
   (Tree.chk ((bif bif decide (t < (0 : Int)) then true else decide (t > (7 : Int)) then true else decide (x.1 < (1 : Int))) = false → (!bif bif decide (t < (0 : Int)) then true else decide (t > (7 : Int)) then true else decide (x.1 < (1 : Int))) = true)
   (Tree.br (bif bif bif decide (t < (0 : Int)) then true else decide (t > (7 : Int)) then true else decide (x.1 < (1 : Int)) then true else decide (x.1 > (5 : Int)))
   (Tree.done (XV.tup [AV.agg [iv x.1, iv x.2, iv x.3, iv x.4, iv x.5, iv x.6, iv x.7, iv x.8, iv x.9, iv x.10, iv x.11, iv x.12, CV.sl 0 0 0 2 (List.length ws) cap, iv x.13, iv x.14], AV.c (CV.v (Value.bool false))]) [(Ent.ws false cap ws), (Ent.mkBox 25 [iv x.1, iv x.2, iv x.3, iv x.4, iv x.5, iv x.6, iv x.7, iv x.8, iv x.9, iv x.10, iv x.11, iv x.12, CV.sl 0 0 0 2 (List.length ws) cap, iv x.13, iv x.14]), (Ent.mkBox 29 [iv k, iv v]), (Ent.mkBox 25 [iv x.1, iv x.2, iv x.3, iv x.4, iv x.5, iv x.6, iv x.7, iv x.8, iv x.9, iv x.10, iv x.11, iv x.12, CV.sl 0 0 0 2 (List.length ws) cap, iv x.13, iv x.14])])
   (Tree.br (k == (17 : Int))
   (Tree.chk (AV.c (CV.v (Value.bool (v == (0 : Int)))) = AV.c (CV.v (Value.bool (v == (0 : Int)))))
   (Tree.chk (AV.c (iv v) = AV.c (iv v))
   (Tree.chk (AV.c (CV.ptr { k := 2, j := 0, i := 0, sz := 2, c := 1, d := 0, dn := 0, cu := 0 }) = AV.c (CV.ptr { k := 2, j := 0, i := 0, sz := 2, c := 1, d := 0, dn := 0, cu := 0 }))
   (Tree.done (XV.tup [AV.agg [iv x.1, iv x.2, iv x.3, iv x.4, iv x.5, iv x.6, iv x.7, iv x.8, iv x.9, iv x.10, iv x.11, iv x.12, CV.sl 0 0 0 2 (List.length ws) cap, iv x.13, iv x.14], AV.c (CV.v (Value.bool (v == (0 : Int))))]) [(Ent.ws false cap ws), (Ent.mkBox 25 [iv x.1, iv x.2, iv x.3, iv x.4, iv x.5, iv x.6, iv x.7, iv x.8, iv x.9, iv x.10, iv x.11, iv x.12, CV.sl 0 0 0 2 (List.length ws) cap, iv x.13, iv x.14]), (Ent.mkBox 29 [iv k, iv v]), (Ent.mkBox 25 [iv x.1, iv x.2, iv x.3, iv x.4, iv x.5, iv x.6, iv x.7, iv x.8, iv x.9, iv x.10, iv x.11, iv x.12, CV.sl 0 0 0 2 (List.length ws) cap, iv x.13, iv x.14])]))))
   (Tree.br (x.1 == (1 : Int))
   (Tree.callf 21 [AV.agg [iv x.1, iv x.2, iv x.3, iv x.4, iv x.5, iv x.6, iv x.7, iv x.8, iv x.9, iv x.10, iv x.11, iv x.12, CV.sl 0 0 0 2 (List.length ws) cap, iv x.13, iv x.14], AV.c (iv t), AV.c (iv k), AV.c (iv v)] [(Ent.ws false cap ws), (Ent.mkBox 25 [iv x.1, iv x.2, iv x.3, iv x.4, iv x.5, iv x.6, iv x.7, iv x.8, iv x.9, iv x.10, iv x.11, iv x.12, CV.sl 0 0 0 2 (List.length ws) cap, iv x.13, iv x.14]), (Ent.mkBox 29 [iv k, iv v]), (Ent.mkBox 25 [iv (0 : Int), iv (0 : Int), iv (0 : Int), iv (0 : Int), iv (0 : Int), iv (0 : Int), iv (0 : Int), iv (0 : Int), iv (0 : Int), iv (0 : Int), iv (0 : Int), iv (0 : Int), CV.v (Value.slice none 0 0), iv (0 : Int), iv (0 : Int)])] (lockrC x t k v ws cap 4 [0]) fun c => Tree.done (XV.tup [AV.agg [iv (Prod.fst (lockrF x t k v ws)).1, iv (Prod.fst (lockrF x t k v ws)).2, iv (Prod.fst (lockrF x t k v ws)).3, iv (Prod.fst (lockrF x t k v ws)).4, iv (Prod.fst (lockrF x t k v ws)).5, iv (Prod.fst (lockrF x t k v ws)).6, iv (Prod.fst (lockrF x t k v ws)).7, iv (Prod.fst (lockrF x t k v ws)).8, iv (Prod.fst (lockrF x t k v ws)).9, iv (Prod.fst (lockrF x t k v ws)).10, iv (Prod.fst (lockrF x t k v ws)).11, iv (Prod.fst (lockrF x t k v ws)).12, CV.sl 4 0 0 2 (List.length (Prod.fst (Prod.snd (lockrF x t k v ws)))) (c 0), iv (Prod.fst (lockrF x t k v ws)).13, iv (Prod.fst (lockrF x t k v ws)).14], AV.c (CV.v (Value.bool (Prod.snd (Prod.snd (lockrF x t k v ws)))))]) [(Ent.ws false cap ws), (Ent.mkBox 25 [iv x.1, iv x.2, iv x.3, iv x.4, iv x.5, iv x.6, iv x.7, iv x.8, iv x.9, iv x.10, iv x.11, iv x.12, CV.sl 0 0 0 2 (List.length ws) cap, iv x.13, iv x.14]), (Ent.mkBox 29 [iv k, iv v]), (Ent.mkBox 25 [iv (Prod.fst (lockrF x t k v ws)).1, iv (Prod.fst (lockrF x t k v ws)).2, iv (Prod.fst (lockrF x t k v ws)).3, iv (Prod.fst (lockrF x t k v ws)).4, iv (Prod.fst (lockrF x t k v ws)).5, iv (Prod.fst (lockrF x t k v ws)).6, iv (Prod.fst (lockrF x t k v ws)).7, iv (Prod.fst (lockrF x t k v ws)).8, iv (Prod.fst (lockrF x t k v ws)).9, iv (Prod.fst (lockrF x t k v ws)).10, iv (Prod.fst (lockrF x t k v ws)).11, iv (Prod.fst (lockrF x t k v ws)).12, CV.sl 4 0 0 2 (List.length (Prod.fst (Prod.snd (lockrF x t k v ws)))) (c 0), iv (Prod.fst (lockrF x t k v ws)).13, iv (Prod.fst (lockrF x t k v ws)).14]), (Ent.ws false (c 0) (Prod.fst (Prod.snd (lockrF x t k v ws))))])
   (Tree.br (x.1 == (2 : Int))
   (Tree.callf 22 [AV.agg [iv x.1, iv x.2, iv x.3, iv x.4, iv x.5, iv x.6, iv x.7, iv x.8, iv x.9, iv x.10, iv x.11, iv x.12, CV.sl 0 0 0 2 (List.length ws) cap, iv x.13, iv x.14], AV.c (iv k), AV.c (iv v)] [(Ent.ws false cap ws), (Ent.mkBox 25 [iv x.1, iv x.2, iv x.3, iv x.4, iv x.5, iv x.6, iv x.7, iv x.8, iv x.9, iv x.10, iv x.11, iv x.12, CV.sl 0 0 0 2 (List.length ws) cap, iv x.13, iv x.14]), (Ent.mkBox 29 [iv k, iv v]), (Ent.mkBox 25 [iv (0 : Int), iv (0 : Int), iv (0 : Int), iv (0 : Int), iv (0 : Int), iv (0 : Int), iv (0 : Int), iv (0 : Int), iv (0 : Int), iv (0 : Int), iv (0 : Int), iv (0 : Int), CV.v (Value.slice none 0 0), iv (0 : Int), iv (0 : Int)])] (semarC x k v ws false cap [0]) fun c => Tree.done (XV.tup [AV.agg [iv (Prod.fst (semarS x k v)).1, iv (Prod.fst (semarS x k v)).2, iv (Prod.fst (semarS x k v)).3, iv (Prod.fst (semarS x k v)).4, iv (Prod.fst (semarS x k v)).5, iv (Prod.fst (semarS x k v)).6, iv (Prod.fst (semarS x k v)).7, iv (Prod.fst (semarS x k v)).8, iv (Prod.fst (semarS x k v)).9, iv (Prod.fst (semarS x k v)).10, iv (Prod.fst (semarS x k v)).11, iv (Prod.fst (semarS x k v)).12, CV.sl 0 0 0 2 (List.length ws) cap, iv (Prod.fst (semarS x k v)).13, iv (Prod.fst (semarS x k v)).14], AV.c (CV.v (Value.bool (Prod.snd (semarS x k v))))]) [(Ent.ws false cap ws), (Ent.mkBox 25 [iv x.1, iv x.2, iv x.3, iv x.4, iv x.5, iv x.6, iv x.7, iv x.8, iv x.9, iv x.10, iv x.11, iv x.12, CV.sl 0 0 0 2 (List.length ws) cap, iv x.13, iv x.14]), (Ent.mkBox 29 [iv k, iv v]), (Ent.mkBox 25 [iv (Prod.fst (semarS x k v)).1, iv (Prod.fst (semarS x k v)).2, iv (Prod.fst (semarS x k v)).3, iv (Prod.fst (semarS x k v)).4, iv (Prod.fst (semarS x k v)).5, iv (Prod.fst (semarS x k v)).6, iv (Prod.fst (semarS x k v)).7, iv (Prod.fst (semarS x k v)).8, iv (Prod.fst (semarS x k v)).9, iv (Prod.fst (semarS x k v)).10, iv (Prod.fst (semarS x k v)).11, iv (Prod.fst (semarS x k v)).12, CV.sl 0 0 0 2 (List.length ws) cap, iv (Prod.fst (semarS x k v)).13, iv (Prod.fst (semarS x k v)).14])])
   (Tree.br (x.1 == (3 : Int))
   (Tree.br (k == (1 : Int))
   (Tree.chk ((x.2 == (0 : Int)) = true → (x.2 == (0 : Int)) = true)
   (Tree.chk ((x.2 == (0 : Int)) = true → (x.2 == (0 : Int)) = true)
   (Tree.chk ((x.2 == (0 : Int)) = true → (x.2 == (0 : Int)) = true)
   (Tree.chk ((x.2 == (0 : Int)) = true → (x.2 == (0 : Int)) = true)
   (Tree.chk (AV.c (CV.v (Value.bool (bif x.2 == (0 : Int) then v == (0 : Int) else false))) = AV.c (CV.v (Value.bool (bif x.2 == (0 : Int) then v == (0 : Int) else false))))
   (Tree.chk ((x.2 == (0 : Int)) = true → (x.2 == (0 : Int)) = true)
   (Tree.chk ((x.2 == (0 : Int)) = true → AV.c (CV.v (Value.bool (v == (0 : Int)))) = AV.c (CV.v (Value.bool (v == (0 : Int)))))
   (Tree.chk ((x.2 == (0 : Int)) = true → (x.2 == (0 : Int)) = true)
   (Tree.chk ((x.2 == (0 : Int)) = true → AV.c (iv v) = AV.c (iv v))
   (Tree.chk ((x.2 == (0 : Int)) = true → AV.c (CV.ptr { k := 2, j := 0, i := 0, sz := 2, c := 1, d := 0, dn := 0, cu := 0 }) = AV.c (CV.ptr { k := 2, j := 0, i := 0, sz := 2, c := 1, d := 0, dn := 0, cu := 0 }))
   (Tree.done (XV.tup [AV.agg [iv x.1, iv x.2, iv x.3, iv x.4, iv x.5, iv x.6, iv x.7, iv x.8, iv x.9, iv x.10, iv x.11, iv x.12, CV.sl 0 0 0 2 (List.length ws) cap, iv x.13, iv x.14], AV.c (CV.v (Value.bool (bif x.2 == (0 : Int) then v == (0 : Int) else false)))]) [(Ent.ws false cap ws), (Ent.mkBox 25 [iv x.1, iv x.2, iv x.3, iv x.4, iv x.5, iv x.6, iv x.7, iv x.8, iv x.9, iv x.10, iv x.11, iv x.12, CV.sl 0 0 0 2 (List.length ws) cap, iv x.13, iv x.14]), (Ent.mkBox 29 [iv k, iv v]), (Ent.mkBox 25 [iv x.1, iv x.2, iv x.3, iv x.4, iv x.5, iv x.6, iv x.7, iv x.8, iv x.9, iv x.10, iv x.11, iv x.12, CV.sl 0 0 0 2 (List.length ws) cap, iv x.13, iv x.14])])))))))))))
   (Tree.chk ((k == (8 : Int)) = true → (k == (8 : Int)) = true)
   (Tree.chk ((k == (8 : Int)) = true → (k == (8 : Int)) = true)
   (Tree.chk ((k == (8 : Int)) = true → (k == (8 : Int)) = true)
   (Tree.chk ((k == (8 : Int) && v == (1 : Int)) = true → (k == (8 : Int) && v == (1 : Int)) = true)
   (Tree.chk ((k == (8 : Int) && v == (1 : Int)) = true → (k == (8 : Int) && v == (1 : Int)) = true)
   (Tree.chk ((k == (8 : Int)) = true → (k == (8 : Int)) = true)
   (Tree.chk ((k == (8 : Int)) = true → (v == (1 : Int)) = true → (k == (8 : Int) && v == (1 : Int)) = true)
   (Tree.chk ((k == (8 : Int)) = true → (k == (8 : Int)) = true)
   (Tree.chk ((k == (8 : Int) && !bif v == (1 : Int) then decide (x.2 > (0 : Int)) else false) = true → (k == (8 : Int) && !bif v == (1 : Int) then decide (x.2 > (0 : Int)) else false) = true)
   (Tree.chk ((k == (8 : Int) && !bif v == (1 : Int) then decide (x.2 > (0 : Int)) else false) = true → (k == (8 : Int) && !bif v == (1 : Int) then decide (x.2 > (0 : Int)) else false) = true)
   (Tree.chk ((k == (8 : Int) && !bif v == (1 : Int) then decide (x.2 > (0 : Int)) else false) = true → (k == (8 : Int) && !bif v == (1 : Int) then decide (x.2 > (0 : Int)) else false) = true)
   (Tree.chk (((k == (8 : Int) && !bif v == (1 : Int) then decide (x.2 > (0 : Int)) else false) && v == (0 : Int)) = true → ((k == (8 : Int) && !bif v == (1 : Int) then decide (x.2 > (0 : Int)) else false) && v == (0 : Int)) = true)
   (Tree.chk (((k == (8 : Int) && !bif v == (1 : Int) then decide (x.2 > (0 : Int)) else false) && v == (0 : Int)) = true → ((k == (8 : Int) && !bif v == (1 : Int) then decide (x.2 > (0 : Int)) else false) && v == (0 : Int)) = true)
   (Tree.chk ((k == (8 : Int) && !bif v == (1 : Int) then decide (x.2 > (0 : Int)) else false) = true → (k == (8 : Int) && !bif v == (1 : Int) then decide (x.2 > (0 : Int)) else false) = true)
   (Tree.chk ((k == (8 : Int) && !bif v == (1 : Int) then decide (x.2 > (0 : Int)) else false) = true → (v == (0 : Int)) = true → ((k == (8 : Int) && !bif v == (1 : Int) then decide (x.2 > (0 : Int)) else false) && v == (0 : Int)) = true)
   (Tree.chk ((k == (8 : Int)) = true → (k == (8 : Int)) = true)
   (Tree.chk ((k == (8 : Int)) = true → (bif v == (1 : Int) then decide (x.2 > (0 : Int)) else false) = false → (k == (8 : Int) && !bif v == (1 : Int) then decide (x.2 > (0 : Int)) else false) = true)
   (Tree.chk ((k == (8 : Int)) = true → (k == (8 : Int)) = true)
   (Tree.br (bif k == (8 : Int) then bif bif v == (1 : Int) then decide (x.2 > (0 : Int)) else false then true else bif v == (0 : Int) then x.2 == (0 : Int) else false else false)
   (Tree.done (XV.tup [AV.agg [iv x.1, iv (IntKind.wrap IntKind.i64 (x.2 - v)), iv x.3, iv x.4, iv x.5, iv x.6, iv x.7, iv x.8, iv x.9, iv x.10, iv x.11, iv x.12, CV.sl 0 0 0 2 (List.length ws) cap, iv x.13, iv x.14], AV.c (CV.v (Value.bool true))]) [(Ent.ws false cap ws), (Ent.mkBox 25 [iv x.1, iv (IntKind.wrap IntKind.i64 (x.2 - v)), iv x.3, iv x.4, iv x.5, iv x.6, iv x.7, iv x.8, iv x.9, iv x.10, iv x.11, iv x.12, CV.sl 0 0 0 2 (List.length ws) cap, iv x.13, iv x.14]), (Ent.mkBox 29 [iv k, iv v]), (Ent.mkBox 25 [iv x.1, iv (IntKind.wrap IntKind.i64 (x.2 - v)), iv x.3, iv x.4, iv x.5, iv x.6, iv x.7, iv x.8, iv x.9, iv x.10, iv x.11, iv x.12, CV.sl 0 0 0 2 (List.length ws) cap, iv x.13, iv x.14])])
   (Tree.done (XV.tup [AV.agg [iv x.1, iv x.2, iv x.3, iv x.4, iv x.5, iv x.6, iv x.7, iv x.8, iv x.9, iv x.10, iv x.11, iv x.12, CV.sl 0 0 0 2 (List.length ws) cap, iv x.13, iv x.14], AV.c (CV.v (Value.bool false))]) [(Ent.ws false cap ws), (Ent.mkBox 25 [iv x.1, iv x.2, iv x.3, iv x.4, iv x.5, iv x.6, iv x.7, iv x.8, iv x.9, iv x.10, iv x.11, iv x.12, CV.sl 0 0 0 2 (List.length ws) cap, iv x.13, iv x.14]), (Ent.mkBox 29 [iv k, iv v]), (Ent.mkBox 25 [iv x.1, iv x.2, iv x.3, iv x.4, iv x.5, iv x.6, iv x.7, iv x.8, iv x.9, iv x.10, iv x.11, iv x.12, CV.sl 0 0 0 2 (List.length ws) cap, iv x.13, iv x.14])])))))))))))))))))))))
   (Tree.br (x.1 == (4 : Int))
   (Tree.callf 23 [AV.agg [iv x.1, iv x.2, iv x.3, iv x.4, iv x.5, iv x.6, iv x.7, iv x.8, iv x.9, iv x.10, iv x.11, iv x.12, CV.sl 0 0 0 2 (List.length ws) cap, iv x.13, iv x.14], AV.c (iv t), AV.c (iv k), AV.c (iv v)] [(Ent.ws false cap ws), (Ent.mkBox 25 [iv x.1, iv x.2, iv x.3, iv x.4, iv x.5, iv x.6, iv x.7, iv x.8, iv x.9, iv x.10, iv x.11, iv x.12, CV.sl 0 0 0 2 (List.length ws) cap, iv x.13, iv x.14]), (Ent.mkBox 29 [iv k, iv v]), (Ent.mkBox 25 [iv (0 : Int), iv (0 : Int), iv (0 : Int), iv (0 : Int), iv (0 : Int), iv (0 : Int), iv (0 : Int), iv (0 : Int), iv (0 : Int), iv (0 : Int), iv (0 : Int), iv (0 : Int), CV.v (Value.slice none 0 0), iv (0 : Int), iv (0 : Int)])] (rdSpec [0] [AV.agg [iv x.1, iv x.2, iv x.3, iv x.4, iv x.5, iv x.6, iv x.7, iv x.8, iv x.9, iv x.10, iv x.11, iv x.12, CV.sl 0 0 0 2 (List.length ws) cap, iv x.13, iv x.14], AV.c (iv t), AV.c (iv k), AV.c (iv v)] [(Ent.ws false cap ws)] (XV.tup [AV.agg [iv (Prod.fst (rwrS x t k v)).1, iv (Prod.fst (rwrS x t k v)).2, iv (Prod.fst (rwrS x t k v)).3, iv (Prod.fst (rwrS x t k v)).4, iv (Prod.fst (rwrS x t k v)).5, iv (Prod.fst (rwrS x t k v)).6, iv (Prod.fst (rwrS x t k v)).7, iv (Prod.fst (rwrS x t k v)).8, iv (Prod.fst (rwrS x t k v)).9, iv (Prod.fst (rwrS x t k v)).10, iv (Prod.fst (rwrS x t k v)).11, iv (Prod.fst (rwrS x t k v)).12, CV.sl 0 0 0 2 (List.length ws) cap, iv (Prod.fst (rwrS x t k v)).13, iv (Prod.fst (rwrS x t k v)).14], AV.c (CV.v (Value.bool (Prod.snd (rwrS x t k v))))])) fun c => Tree.done (XV.tup [AV.agg [iv (Prod.fst (rwrS x t k v)).1, iv (Prod.fst (rwrS x t k v)).2, iv (Prod.fst (rwrS x t k v)).3, iv (Prod.fst (rwrS x t k v)).4, iv (Prod.fst (rwrS x t k v)).5, iv (Prod.fst (rwrS x t k v)).6, iv (Prod.fst (rwrS x t k v)).7, iv (Prod.fst (rwrS x t k v)).8, iv (Prod.fst (rwrS x t k v)).9, iv (Prod.fst (rwrS x t k v)).10, iv (Prod.fst (rwrS x t k v)).11, iv (Prod.fst (rwrS x t k v)).12, CV.sl 0 0 0 2 (List.length ws) cap, iv (Prod.fst (rwrS x t k v)).13, iv (Prod.fst (rwrS x t k v)).14], AV.c (CV.v (Value.bool (Prod.snd (rwrS x t k v))))]) [(Ent.ws false cap ws), (Ent.mkBox 25 [iv x.1, iv x.2, iv x.3, iv x.4, iv x.5, iv x.6, iv x.7, iv x.8, iv x.9, iv x.10, iv x.11, iv x.12, CV.sl 0 0 0 2 (List.length ws) cap, iv x.13, iv x.14]), (Ent.mkBox 29 [iv k, iv v]), (Ent.mkBox 25 [iv (Prod.fst (rwrS x t k v)).1, iv (Prod.fst (rwrS x t k v)).2, iv (Prod.fst (rwrS x t k v)).3, iv (Prod.fst (rwrS x t k v)).4, iv (Prod.fst (rwrS x t k v)).5, iv (Prod.fst (rwrS x t k v)).6, iv (Prod.fst (rwrS x t k v)).7, iv (Prod.fst (rwrS x t k v)).8, iv (Prod.fst (rwrS x t k v)).9, iv (Prod.fst (rwrS x t k v)).10, iv (Prod.fst (rwrS x t k v)).11, iv (Prod.fst (rwrS x t k v)).12, CV.sl 0 0 0 2 (List.length ws) cap, iv (Prod.fst (rwrS x t k v)).13, iv (Prod.fst (rwrS x t k v)).14])])
   (Tree.callf 24 [AV.agg [iv x.1, iv x.2, iv x.3, iv x.4, iv x.5, iv x.6, iv x.7, iv x.8, iv x.9, iv x.10, iv x.11, iv x.12, CV.sl 0 0 0 2 (List.length ws) cap, iv x.13, iv x.14], AV.c (iv t), AV.c (iv k), AV.c (iv v)] [(Ent.ws false cap ws), (Ent.mkBox 25 [iv x.1, iv x.2, iv x.3, iv x.4, iv x.5, iv x.6, iv x.7, iv x.8, iv x.9, iv x.10, iv x.11, iv x.12, CV.sl 0 0 0 2 (List.length ws) cap, iv x.13, iv x.14]), (Ent.mkBox 29 [iv k, iv v]), (Ent.mkBox 25 [iv (0 : Int), iv (0 : Int), iv (0 : Int), iv (0 : Int), iv (0 : Int), iv (0 : Int), iv (0 : Int), iv (0 : Int), iv (0 : Int), iv (0 : Int), iv (0 : Int), iv (0 : Int), CV.v (Value.slice none 0 0), iv (0 : Int), iv (0 : Int)])] (swaprC x t k v ws false cap [0]) fun c => Tree.done (XV.tup [AV.agg [iv (Prod.fst (swaprS x t k v)).1, iv (Prod.fst (swaprS x t k v)).2, iv (Prod.fst (swaprS x t k v)).3, iv (Prod.fst (swaprS x t k v)).4, iv (Prod.fst (swaprS x t k v)).5, iv (Prod.fst (swaprS x t k v)).6, iv (Prod.fst (swaprS x t k v)).7, iv (Prod.fst (swaprS x t k v)).8, iv (Prod.fst (swaprS x t k v)).9, iv (Prod.fst (swaprS x t k v)).10, iv (Prod.fst (swaprS x t k v)).11, iv (Prod.fst (swaprS x t k v)).12, CV.sl 0 0 0 2 (List.length ws) cap, iv (Prod.fst (swaprS x t k v)).13, iv (Prod.fst (swaprS x t k v)).14], AV.c (CV.v (Value.bool (Prod.snd (swaprS x t k v))))]) [(Ent.ws false cap ws), (Ent.mkBox 25 [iv x.1, iv x.2, iv x.3, iv x.4, iv x.5, iv x.6, iv x.7, iv x.8, iv x.9, iv x.10, iv x.11, iv x.12, CV.sl 0 0 0 2 (List.length ws) cap, iv x.13, iv x.14]), (Ent.mkBox 29 [iv k, iv v]), (Ent.mkBox 25 [iv (Prod.fst (swaprS x t k v)).1, iv (Prod.fst (swaprS x t k v)).2, iv (Prod.fst (swaprS x t k v)).3, iv (Prod.fst (swaprS x t k v)).4, iv (Prod.fst (swaprS x t k v)).5, iv (Prod.fst (swaprS x t k v)).6, iv (Prod.fst (swaprS x t k v)).7, iv (Prod.fst (swaprS x t k v)).8, iv (Prod.fst (swaprS x t k v)).9, iv (Prod.fst (swaprS x t k v)).10, iv (Prod.fst (swaprS x t k v)).11, iv (Prod.fst (swaprS x t k v)).12, CV.sl 0 0 0 2 (List.length ws) cap, iv (Prod.fst (swaprS x t k v)).13, iv (Prod.fst (swaprS x t k v)).14])]))))))))))))))
theorem tdor_eq (x : Thg) (t k v : Int) (ws : List Wt) (cap : Nat) : xfunc tab (doneRG ws) noInv Go.Proofs.Try.f16 [x.av 0 0 ws.length cap, .c (iv t), markA k v] [Ent.ws false cap ws] [0, 1, 2, 3, 4, 5, 6] = tdor x t k v ws cap := by kernel_rfl
end Go.Proofs.Ytnenbngjdekegaa.X

/- The model: the document's Do, proved. -/
set_option linter.unusedVariables false
set_option linter.unusedSimpArgs false
namespace Go.Proofs.Ytnenbngjdekegaa.X
open Go Go.RowKit Go.Proofs.YtnenbngjdekegaaW.PrintWords Go.Proofs.Ytnenbngjdekegaa.Base
def doRF (x : Thg) (t k v : Int) (ws : List Wt) : Thg × List Wt × Bool :=
  bif (bif (bif (bif decide (t < 0) then true else decide (t > 7)) then true else decide (x.kd < 1)) then true else decide (x.kd > 5)) then (x, ws, false)
  else bif k == 17 then (x, ws, v == 0)
  else bif x.kd == 1 then lockrF x t k v ws
  else bif x.kd == 2 then ((semarS x k v).1, ws, (semarS x k v).2)
  else bif x.kd == 3 then (bif k == 1 then (x, ws, bif x.n == 0 then v == 0 else false)
    else bif (bif k == 8 then (bif (bif v == 1 then decide (x.n > 0) else false) then true else (bif v == 0 then x.n == 0 else false)) else false) then ({ x with n := IntKind.wrap .i64 (x.n - v) }, ws, true) else (x, ws, false))
  else bif x.kd == 4 then ((rwrS x t k v).1, ws, (rwrS x t k v).2)
  else ((swaprS x t k v).1, ws, (swaprS x t k v).2)
def doRC (x : Thg) (t k v : Int) (ws : List Wt) (cap n : Nat) (ρ : List Nat) : CallSpec := rowSpec ρ n [x.av 0 0 ws.length cap, .c (iv t), markA k v] [Ent.ws false cap ws] (fun _ => True)
  (fun c => rowR (doRF x t k v ws) (c 0)) fun c => [Ent.ws false cap ws, Ent.ws false (c 0) (doRF x t k v ws).2.1]
theorem lockr_call : Callable Try.prog 21 := ⟨_, Try.func21, by kernel_rfl, rfl⟩
theorem semar_call : Callable Try.prog 22 := ⟨_, Try.func22, by kernel_rfl, rfl⟩
theorem rwr_call : Callable Try.prog 23 := ⟨_, Try.func23, by kernel_rfl, rfl⟩
theorem swapr_call : Callable Try.prog 24 := ⟨_, Try.func24, by kernel_rfl, rfl⟩
theorem guard8 {t k : Int} (h : (bif (bif (bif decide (t < 0) then true else decide (t > 7)) then true else decide (k < 1)) then true else decide (k > 5)) = false) : 0 ≤ t ∧ t < 8 := by
  by_cases h1 : t < 0 <;> by_cases h2 : t > 7 <;> simp [h1, h2] at h <;> omega
set_option maxHeartbeats 4000000 in
theorem doR_local (x : Thg) (t k v : Int) (ws : List Wt) (cap n : Nat) (ρ : List Nat) (hl : ws.length ≤ 1000000) : (doRC x t k v ws cap n ρ).Local Try.prog 16 := by
  refine local_of Try.func16 rfl (tdor_eq x t k v ws cap) fun ν w => ?_
  repeat' first
    | refine ok_chk' (fun h => h) ?_
    | (refine ok_chk' ?_ ?_; focus (first | exact fun h => h | (simp; done) | (simp; omega) | (simp_all; done) | (simp_all; omega) | (generalize ws.length = L at *; simp; omega) | (generalize ws.length = L at *; simp_all; omega)))
    | refine ok_br' (fun h => ?_) (fun h => ?_)
    | (refine ok_leafG (fun _ => cap) [] (lr [0, 0]) (lr []) trivial ?_ rfl (RnOk.of [0, 0] rfl) ⟨EntRg.ws rfl rfl (.inr rfl), EntRg.wsE ?_ rfl rfl (.inr rfl), trivial⟩ <;> first | (simp only [doRF, *, cond_true, cond_false]; done) | (show XV.tup _ = XV.nilz _ (XV.rg _ (rowR (doRF x t k v ws) cap)); simp only [doRF, *, cond_true, cond_false]; first | done | rfl) | (simp_all only [doRF, cond_true, cond_false]; done) | (show XV.tup _ = XV.nilz _ (XV.rg _ (rowR (doRF x t k v ws) cap)); unfold doRF; simp_all only [cond_true, cond_false]; first | done | rfl))
    | (refine ok_callf' semar_call (fits_of rfl rfl ⟨⟨_, rfl, EntRel.ws⟩, trivial⟩ fun c _ => ⟨⟨Nat.le_refl _, rfl⟩, ⟨rfl, rfl⟩, ⟨⟨EntRel.ws, rfl, (fun h => by cases h), .inr rfl⟩, trivial⟩⟩) (semar_local _ _ _ _ _ _ _) fun c _ => ?_)
    | (refine ok_callf' swapr_call (fits_of rfl rfl ⟨⟨_, rfl, EntRel.ws⟩, trivial⟩ fun c _ => ⟨⟨Nat.le_refl _, rfl⟩, ⟨rfl, rfl⟩, ⟨⟨EntRel.ws, rfl, (fun h => by cases h), .inr rfl⟩, trivial⟩⟩) (swapr_local _ _ _ _ _ _ _ _) fun c _ => ?_)
    | (refine ok_callf' rwr_call (fits_of rfl rfl ⟨⟨_, rfl, EntRel.ws⟩, trivial⟩ fun c _ => ⟨⟨Nat.le_refl _, rfl⟩, ⟨rfl, rfl⟩, ⟨⟨EntRel.ws, rfl, (fun h => by cases h), .inr rfl⟩, trivial⟩⟩) (rwr_local _ _ _ _ _ _ _ _ (guard8 (by assumption)).1 (guard8 (by assumption)).2) fun c _ => ?_)
    | (refine ok_callf' lockr_call (fits_of rfl rfl ⟨⟨_, rfl, EntRel.ws⟩, trivial⟩ fun c _ => ⟨⟨Nat.le_succ 1, rfl⟩, ⟨rfl, rfl⟩, ⟨⟨EntRel.ws, rfl, (fun h => by cases h), .inr rfl⟩, ⟨EntRel.ws, rfl, (fun h => by cases h), .inr rfl⟩, trivial⟩⟩) (lockr_local _ _ _ _ _ _ _ _ hl) fun c _ => ?_)
    | (refine ok_leafG c [] (lr [0, 4]) (lr [0, 0, 0, 0, 1]) trivial ?_ rfl (RnOk.of [0, 4] rfl) ⟨EntRg.ws rfl rfl (.inr rfl), EntRg.wsE ?_ rfl rfl (.inr rfl), trivial⟩ <;> first | (show XV.tup _ = XV.nilz _ (XV.rg _ (rowR (doRF x t k v ws) (c 0))); simp only [doRF, *, cond_true, cond_false]; rfl) | (simp only [doRF, *, cond_true, cond_false]; done))
end Go.Proofs.Ytnenbngjdekegaa.X

/- The model: what is done, and what the document says: they agree. -/
set_option linter.unusedVariables false
set_option linter.unusedSimpArgs false
namespace Go.Proofs.Ytnenbngjdekegaa.X
open Go Go.RowKit Go.Proofs.YtnenbngjdekegaaW.PrintWords Go.Proofs.Ytnenbngjdekegaa.Base
/-- Counts that don't go round. -/
def lightP (x : Thg) : Prop := (-1000000 ≤ x.n ∧ x.n ≤ 1000000) ∧ (-1000000 ≤ x.h ∧ x.h ≤ 1000000) ∧ ∀ r ∈ x.rs, -1000000 ≤ r ∧ r ≤ 1000000
/-- Of a row, those from lo on, n of them: what a call came to. -/
def Agree (S : SigT) (row : List Wt) (T : Thg × List Wt × Bool) : Prop := S.2.2 = T.2.2 ∧ (T.2.2 = true → S.1 = T.1 ∧ S.2.1.1 + S.2.1.2 ≤ row.length ∧ wsub row S.2.1.1 S.2.1.2 = T.2.1)
theorem wsub_app (a b : List Wt) : wsub (a ++ b) 0 a.length = a := by simp [wsub]
theorem beqF {a b : Int} (h : a ≠ b) : (a == b) = false := by simpa using h
theorem signal_agree (x : Thg) (t k v : Int) (ws : List Wt) (cap : Nat) (hc : ws.length ≤ cap) (h1 : (k == 1) = false) (h3 : (k == 3) = false) (h5 : (k == 5) = false) (h6 : (k == 6) = false) (h7 : (k == 7) = false) (h10 : (k == 10) = false) : Agree (signalS x t k v ws cap) (sigRowF ws t k) (lockrF x t k v ws) := by
  unfold Agree signalS sigRowF lockrF
  simp only [h1, h3, h5, h6, h7, h10, cond_false]
  cases h11 : (k == 11) with
  | true =>
    simp only [cond_true]
    cases ws with
    | nil => cases ho : (x.o == t) <;> simp
    | cons a r =>
      cases ho : (x.o == t) with
      | false => simp
      | true =>
        have hl : ((((a :: r).length : Nat) : Int) == 0) = false := beqF (by simp only [List.length_cons]; omega)
        have hl2 : decide ((((a :: r).length : Nat) : Int) > 0) = true := by simp only [List.length_cons, decide_eq_true_eq]; omega
        have hg : ((a :: r).getD (Int.toNat 0) (0, 0)) = a := rfl
        simp only [hl, hl2, hg, cond_true, cond_false, Bool.not_true]
        cases hv : (v == a.1) with
        | false =>
          have hv2 : (a.1 != v) = true := by
            have : v ≠ a.1 := by simpa using hv
            simp [Ne.symm this]
          simp only [hv2, cond_true, cond_false]
          simp
        | true =>
          have hv2 : (a.1 != v) = false := by
            have : v = a.1 := by simpa using hv
            simp [this]
          have hw : woF (a :: r) 0 (a :: r).length = r := by
            have := woF_erase (a :: r) 0 _ (Nat.le_refl _)
            simpa using this
          simp only [hv2, cond_true, cond_false]
          by_cases hcap : cap = Int.toNat 1
          · have : r = [] := List.eq_nil_of_length_eq_zero (by rw [hcap] at hc; simp only [List.length_cons, show Int.toNat 1 = 1 from rfl] at hc; omega)
            subst this
            simp only [hcap, decide_true, cond_true]
            refine ⟨by simp, fun _ => ⟨by simp, by simp, ?_⟩⟩
            rw [hw]; rfl
          · simp only [hcap, decide_false, cond_false]
            refine ⟨by simp, fun _ => ⟨by simp, by show 1 + (Int.toNat ((r.length + 1 : Nat) : Int) - 1) ≤ r.length + 1; rw [Int.toNat_natCast]; omega, ?_⟩⟩
            rw [hw]
            simp [wsub]
  | false =>
    simp only [cond_false]
    cases h12 : (k == 12) with
    | true => simp [wsub]
    | false =>
      simp only [cond_false]
      cases h13 : (k == 13) with
      | true =>
        simp only [cond_true]
        have hle : (notF ws t).length ≤ ws.length := List.length_filter_le _ _
        cases hb : (bif decide (placeF ws t 0 ≥ 0) then v == 0 else false) with
        | false => simp
        | true =>
          simp only [cond_true]
          refine ⟨by simp, fun _ => ⟨by simp, by rw [delF_length]; simpa using hle, ?_⟩⟩
          simp [wsub, delF]
      | false => simp [wsub]
theorem wrapL {x : Int} (h1 : -9000000000000000000 ≤ x) (h2 : x ≤ 9000000000000000000) : IntKind.wrap .i64 x = x := wrap64 (by omega) (by omega)
theorem lock_agree (x : Thg) (t k v : Int) (ws : List Wt) (cap : Nat) (hc : ws.length ≤ cap) (hx : lightP x) : Agree (lockS x t k v ws cap) (lockRowF x ws t k) (lockrF x t k v ws) := by
  obtain ⟨-, ⟨a1, a2⟩, -⟩ := hx
  have hw : IntKind.wrap .i64 (x.h + 1) = x.h + 1 := wrapL (by omega) (by omega)
  have hd : decide (x.h + 1 ≤ 1000) = decide (x.h < 1000) := by
    by_cases h : x.h < 1000
    · simp [h]; omega
    · simp [h]; omega
  have hp : (!decide (placeF ws t 0 ≥ 0)) = decide (placeF ws t 0 < 0) := by
    by_cases h : placeF ws t 0 < 0
    · simp [h]
    · simp [h]; omega
  cases h1 : (k == 1) with
  | true =>
    unfold Agree lockS lockRowF lockrF
    simp only [h1, cond_true, hw, hd, hp]
    cases hA : (bif (bif x.o == -1 then decide (v ≥ 1) else false) then decide (v ≤ 1000) else false) <;> simp only [cond_true, cond_false]
    · cases hB : (bif (bif x.o == t then v == 1 else false) then decide (x.h < 1000) else false) <;> simp [wsub]
    · cases hP : decide (placeF ws t 0 < 0) <;> simp only [cond_true, cond_false]
      · cases hB : (bif (bif x.o == t then v == 1 else false) then decide (x.h < 1000) else false) <;> simp [wsub]
      · simp [wsub]
  | false =>
    cases h3 : (k == 3) with
    | true =>
      unfold Agree lockS lockRowF lockrF
      simp only [h1, h3, cond_true, cond_false]
      cases hB : (bif x.o == t then v == 0 else false) <;> simp [wsub]
    | false =>
      cases h5 : (k == 5) with
      | true => unfold Agree lockS lockRowF lockrF; simp only [h1, h3, h5, cond_true, cond_false]; simp [wsub]
      | false =>
        cases h6 : (k == 6) with
        | true => unfold Agree lockS lockRowF lockrF; simp only [h1, h3, h5, h6, cond_true, cond_false]; simp [wsub]
        | false =>
          cases h7 : (k == 7) with
          | true => unfold Agree lockS lockRowF lockrF; simp only [h1, h3, h5, h6, h7, cond_true, cond_false]; simp [wsub]
          | false =>
            cases h10 : (k == 10) with
            | true =>
              unfold Agree lockS lockRowF lockrF
              simp only [h1, h3, h5, h6, h7, h10, cond_true, cond_false]
              have hcomm : (x.h == v) = (v == x.h) := BEq.comm
              rw [hcomm]
              cases hB : (bif x.o == t then v == x.h else false) <;> simp [wsub, List.take_of_length_le]
            | false =>
              have := signal_agree x t k v ws cap hc h1 h3 h5 h6 h7 h10
              unfold lockS lockRowF
              simp only [h1, h3, h5, h6, h7, h10, cond_false]
              exact this
theorem decLe (a b : Int) : decide (a ≤ b) = !decide (a > b) := by by_cases h : a ≤ b <;> simp [h] <;> omega
theorem decGe (a b : Int) : decide (a ≥ b) = !decide (a < b) := by by_cases h : a ≥ b <;> simp [h] <;> omega
/-- What has no row of its own. -/
def Agree2 (S T : Thg × Bool) : Prop := S.2 = T.2 ∧ (T.2 = true → S.1 = T.1)
theorem sema_agree (x : Thg) (k v : Int) (hx : lightP x) : Agree2 (semaS x k v) (semarS x k v) := by
  unfold Agree2 semaS semarS
  cases h1 : (k == 1) <;> simp only [cond_true, cond_false]
  · cases h3 : (k == 3) <;> simp only [cond_true, cond_false]
    · cases h7 : (k == 7) <;> simp only [cond_true, cond_false]
      · cases h5 : (k == 5) <;> simp only [cond_true, cond_false]
        · cases h9 : (k == 9) <;> simp only [cond_true, cond_false]
          · simp
          · cases hv : (v == x.n) <;> simp
        · simp
      · cases h5 : (k == 5) <;> simp only [cond_true, cond_false]
        · simp
        · have e7 : k = 7 := by simpa using h7
          rw [e7] at h5
          cases h5
    · rw [decLe v (IntKind.wrap .i64 (1000 - x.n))]
      cases decide (v ≥ 1) <;> cases decide (v > IntKind.wrap .i64 (1000 - x.n)) <;> simp
  · rw [decLe v x.n]
    cases decide (v ≥ 1) <;> cases decide (v > x.n) <;> simp
theorem swap_agree (x : Thg) (t k v : Int) : Agree2 (swapS x t k v) (swaprS x t k v) := by
  unfold Agree2 swapS swaprS
  cases h15 : (k == 15) <;> simp only [cond_true, cond_false]
  · cases h14 : (k == 14) <;> simp only [cond_true, cond_false]
    · cases h16 : (k == 16) <;> simp only [cond_true, cond_false]
      · simp
      · cases hB : (bif x.f == t then v == 0 else false) <;> simp
    · cases hB : (bif (bif x.f != -1 then x.f != t else false) then v == x.f else false) <;> simp
  · rw [decLe v 1000, decGe v 0, show (x.f != -1) = !(x.f == -1) from rfl]
    cases (x.f == -1) <;> cases decide (v < 0) <;> cases decide (v > 1000) <;> simp
theorem rw_agree (x : Thg) (t k v : Int) (hx : lightP x) (t0 : 0 ≤ t) (t8 : t < 8) : Agree2 (rwS x t k v) (rwrS x t k v) := by
  obtain ⟨-, -, hr⟩ := hx
  unfold Agree2
  by_cases h1 : k = 1
  · subst h1
    simp only [rwS, rwrS, show ((1 : Int) == 1) = true from rfl, cond_true]
    cases hB : (bif v == 1 then (bif (bif x.o == -1 then allW [x.r0, x.r1, x.r2, x.r3, x.r4, x.r5, x.r6, x.r7] 8 == 0 else false) then true else (bif x.o == t then decide (x.h < 1000) else false)) else false) <;> simp
  · have b1 : (k == 1) = false := beqF h1
    by_cases h3 : k = 3
    · subst h3
      simp only [rwS, rwrS, b1, show ((3 : Int) == 3) = true from rfl, show ((3 : Int) == 2) = false from rfl, cond_true, cond_false]
      cases hB : (bif x.o == t then v == 0 else false) <;> simp
    · have b3 : (k == 3) = false := beqF h3
      by_cases h2 : k = 2
      · subst h2
        simp only [rwS, rwrS, b1, b3, show ((2 : Int) == 2) = true from rfl, cond_true, cond_false]
        cases hB : (bif (bif v == 0 then (bif x.o == -1 then true else x.o == t) else false) then decide (allW [x.r0, x.r1, x.r2, x.r3, x.r4, x.r5, x.r6, x.r7] 8 < 1000) else false) <;> simp
      · have b2 : (k == 2) = false := beqF h2
        by_cases h4 : k = 4
        · subst h4
          have key : ∀ r ∈ x.rs, decide (IntKind.wrap .i64 (r - 1) ≥ 0) = decide (r > 0) := fun r hm => by
            obtain ⟨q1, q2⟩ := hr r hm
            rw [wrapL (by omega) (by omega)]
            by_cases h : r > 0 <;> simp [h] <;> omega
          have k0 := key x.r0 (by simp [Thg.rs])
          have k1 := key x.r1 (by simp [Thg.rs])
          have k2 := key x.r2 (by simp [Thg.rs])
          have k3 := key x.r3 (by simp [Thg.rs])
          have k4 := key x.r4 (by simp [Thg.rs])
          have k5 := key x.r5 (by simp [Thg.rs])
          have k6 := key x.r6 (by simp [Thg.rs])
          have k7 := key x.r7 (by simp [Thg.rs])
          have ht : t = 0 ∨ t = 1 ∨ t = 2 ∨ t = 3 ∨ t = 4 ∨ t = 5 ∨ t = 6 ∨ t = 7 := by omega
          simp only [rwS, rwrS, b1, b2, b3, show ((4 : Int) == 4) = true from rfl, cond_true, cond_false]
          rcases ht with rfl | rfl | rfl | rfl | rfl | rfl | rfl | rfl
          · simp only [show Int.toNat 0 = 0 from rfl, List.getD_cons_zero, List.getD_cons_succ, if_pos, k0]
            cases hB : (bif v == 0 then decide (x.r0 > 0) else false) <;> simp
          · simp only [show Int.toNat 1 = 1 from rfl, List.getD_cons_zero, List.getD_cons_succ, if_pos, k1]
            cases hB : (bif v == 0 then decide (x.r1 > 0) else false) <;> simp
          · simp only [show Int.toNat 2 = 2 from rfl, List.getD_cons_zero, List.getD_cons_succ, if_pos, k2]
            cases hB : (bif v == 0 then decide (x.r2 > 0) else false) <;> simp
          · simp only [show Int.toNat 3 = 3 from rfl, List.getD_cons_zero, List.getD_cons_succ, if_pos, k3]
            cases hB : (bif v == 0 then decide (x.r3 > 0) else false) <;> simp
          · simp only [show Int.toNat 4 = 4 from rfl, List.getD_cons_zero, List.getD_cons_succ, if_pos, k4]
            cases hB : (bif v == 0 then decide (x.r4 > 0) else false) <;> simp
          · simp only [show Int.toNat 5 = 5 from rfl, List.getD_cons_zero, List.getD_cons_succ, if_pos, k5]
            cases hB : (bif v == 0 then decide (x.r5 > 0) else false) <;> simp
          · simp only [show Int.toNat 6 = 6 from rfl, List.getD_cons_zero, List.getD_cons_succ, if_pos, k6]
            cases hB : (bif v == 0 then decide (x.r6 > 0) else false) <;> simp
          · simp only [show Int.toNat 7 = 7 from rfl, List.getD_cons_zero, List.getD_cons_succ, if_pos, k7]
            cases hB : (bif v == 0 then decide (x.r7 > 0) else false) <;> simp
        · have b4 : (k == 4) = false := beqF h4
          simp only [rwS, rwrS, b1, b2, b3, b4, cond_false]
          exact ⟨by first | rfl | trivial, fun _ => by cases (k == 5) <;> cases (k == 6) <;> cases (k == 7) <;> first | rfl | trivial⟩
theorem latch_agree (x : Thg) (k v : Int) (ws : List Wt) : Agree ((latchS x k v).1, (0, ws.length), (latchS x k v).2) ws (bif k == 1 then (x, ws, bif x.n == 0 then v == 0 else false)
    else bif (bif k == 8 then (bif (bif v == 1 then decide (x.n > 0) else false) then true else (bif v == 0 then x.n == 0 else false)) else false) then ({ x with n := IntKind.wrap .i64 (x.n - v) }, ws, true) else (x, ws, false)) := by
  unfold Agree latchS
  by_cases h1 : k = 1
  · subst h1
    simp only [show ((1 : Int) == 1) = true from rfl, cond_true]
    exact ⟨by first | rfl | trivial, fun _ => ⟨by first | rfl | trivial, by simp, by simp [wsub]⟩⟩
  · have b1 : (k == 1) = false := beqF h1
    by_cases h8 : k = 8
    · subst h8
      simp only [b1, show ((8 : Int) == 8) = true from rfl, cond_true, cond_false]
      cases hB : (bif (bif v == 1 then decide (x.n > 0) else false) then true else (bif v == 0 then x.n == 0 else false)) with
      | false => simp
      | true =>
        have hv : bitsI .and .i64 v 1 = v := by
          cases hv1 : (v == 1) with
          | true => have : v = 1 := by simpa using hv1
                    subst this; rfl
          | false =>
            cases hv0 : (v == 0) with
            | true => have : v = 0 := by simpa using hv0
                      subst this; rfl
            | false => rw [hv1, hv0] at hB; cases hB
        simp only [cond_true, hv]
        exact ⟨by first | rfl | trivial, fun _ => ⟨by first | rfl | trivial, by simp, by simp [wsub]⟩⟩
    · simp [b1, beqF h8]
/-- All of it. -/
theorem done_agree (x : Thg) (t k v : Int) (ws : List Wt) (cap : Nat) (hc : ws.length ≤ cap) (hx : lightP x) (t0 : 0 ≤ t) (t8 : t < 8) (hk : k ≠ 17) : Agree (doneS x t k v ws cap) (doneRowF x ws t k) (doRF x t k v ws) := by
  have of2 : ∀ {S T : Thg × Bool}, Agree2 S T → Agree (S.1, (0, ws.length), S.2) ws (T.1, ws, T.2) := fun h => ⟨h.1, fun hb => ⟨h.2 hb, by simp, by simp [wsub]⟩⟩
  unfold doRF doneS doneRowF
  have hk : (k == 17) = false := beqF hk
  have ht : (bif decide (t < 0) then true else decide (t > 7)) = false := by simp; omega
  simp only [ht, hk, cond_false]
  have hg : 1 ≤ x.kd → x.kd ≤ 5 → (bif (bif decide (x.kd < 1) then true else decide (x.kd > 5)) then true else false) = false := fun h1 h2 => by simp; omega
  have hg2 : ∀ h1 : 1 ≤ x.kd, ∀ h2 : x.kd ≤ 5, decide (x.kd < 1) = false ∧ decide (x.kd > 5) = false := fun h1 h2 => by simp; omega
  by_cases h1 : x.kd = 1
  · obtain ⟨g1, g2⟩ := hg2 (by omega) (by omega)
    have b1 : (x.kd == 1) = true := by simp [h1]
    simp only [b1, g1, g2, cond_true, cond_false]
    exact lock_agree x t k v ws cap hc hx
  · by_cases h2 : x.kd = 2
    · obtain ⟨g1, g2⟩ := hg2 (by omega) (by omega)
      have b2 : (x.kd == 2) = true := by simp [h2]
      simp only [beqF h1, b2, g1, g2, cond_true, cond_false]
      exact of2 (sema_agree x k v hx)
    · by_cases h3 : x.kd = 3
      · obtain ⟨g1, g2⟩ := hg2 (by omega) (by omega)
        have b3 : (x.kd == 3) = true := by simp [h3]
        simp only [beqF h1, beqF h2, b3, g1, g2, cond_true, cond_false]
        exact latch_agree x k v ws
      · by_cases h4 : x.kd = 4
        · obtain ⟨g1, g2⟩ := hg2 (by omega) (by omega)
          have b4 : (x.kd == 4) = true := by simp [h4]
          simp only [beqF h1, beqF h2, beqF h3, b4, g1, g2, cond_true, cond_false]
          exact of2 (rw_agree x t k v hx t0 t8)
        · by_cases h5 : x.kd = 5
          · obtain ⟨g1, g2⟩ := hg2 (by omega) (by omega)
            have b5 : (x.kd == 5) = true := by simp [h5]
            simp only [beqF h1, beqF h2, beqF h3, beqF h4, b5, g1, g2, cond_true, cond_false]
            exact of2 (swap_agree x t k v)
          · simp only [beqF h1, beqF h2, beqF h3, beqF h4, beqF h5, cond_false]
            have : (bif decide (x.kd < 1) then true else decide (x.kd > 5)) = true := by simp; omega
            simp only [this, cond_true]
            exact ⟨by first | rfl | trivial, fun h => by simp at h⟩
end Go.Proofs.Ytnenbngjdekegaa.X

/- The model: Do, proved. -/
set_option linter.unusedVariables false
set_option linter.unusedSimpArgs false
namespace Go.Proofs.Ytnenbngjdekegaa.X
open Go Go.RowKit Go.Proofs.YtnenbngjdekegaaW.PrintWords Go.Proofs.Ytnenbngjdekegaa.Base
theorem semar_false (x : Thg) (k v : Int) : (semarS x k v).2 = false → (semarS x k v).1 = x := by
  unfold semarS
  simp only [cond_eq_ite]
  (repeat' split) <;> simp
theorem swapr_false (x : Thg) (t k v : Int) : (swaprS x t k v).2 = false → (swaprS x t k v).1 = x := by
  unfold swaprS
  simp only [cond_eq_ite]
  (repeat' split) <;> simp
theorem rwr_false (x : Thg) (t k v : Int) : (rwrS x t k v).2 = false → (rwrS x t k v).1 = x := by
  unfold rwrS
  cases (k == 1) <;> simp only [cond_true, cond_false]
  · cases (k == 2) <;> simp only [cond_true, cond_false]
    · cases (k == 3) <;> simp only [cond_true, cond_false]
      · cases (k == 4) <;> simp only [cond_true, cond_false]
        · cases (k == 5) <;> cases (k == 6) <;> cases (k == 7) <;> simp
        · cases (bif v == 0 then decide (List.getD [x.r0, x.r1, x.r2, x.r3, x.r4, x.r5, x.r6, x.r7] (Int.toNat t) 0 > 0) else false) <;> simp
      · cases (bif x.o == t then v == 0 else false) <;> simp
    · cases (bif (bif v == 0 then (bif x.o == -1 then true else x.o == t) else false) then decide (allW [x.r0, x.r1, x.r2, x.r3, x.r4, x.r5, x.r6, x.r7] 8 < 1000) else false) <;> simp
  · cases (bif v == 1 then (bif (bif x.o == -1 then allW [x.r0, x.r1, x.r2, x.r3, x.r4, x.r5, x.r6, x.r7] 8 == 0 else false) then true else (bif x.o == t then decide (x.h < 1000) else false)) else false) <;> simp
theorem lockr_false (x : Thg) (t k v : Int) (ws : List Wt) : (lockrF x t k v ws).2.2 = false → (lockrF x t k v ws).1 = x ∧ (lockrF x t k v ws).2.1 = ws := by
  unfold lockrF
  cases (k == 1) <;> simp only [cond_true, cond_false]
  · cases (k == 3) <;> simp only [cond_true, cond_false]
    · cases (k == 5) <;> simp only [cond_true, cond_false]
      · cases (k == 6) <;> simp only [cond_true, cond_false]
        · cases (k == 7) <;> simp only [cond_true, cond_false]
          · cases (k == 10) <;> simp only [cond_true, cond_false]
            · cases (k == 11) <;> simp only [cond_true, cond_false]
              · cases (k == 12) <;> simp only [cond_true, cond_false]
                · cases (k == 13) <;> simp only [cond_true, cond_false]
                  · simp
                  · cases (bif decide (placeF ws t 0 ≥ 0) then v == 0 else false) <;> simp
                · simp
              · cases (bif (bif x.o == t then decide ((ws.length : Int) > 0) else false) then v == (ws.getD (Int.toNat 0) (0, 0)).1 else false) <;> simp
            · cases (bif x.o == t then v == x.h else false) <;> simp
          · simp
        · simp
      · simp
    · cases (bif x.o == t then v == 0 else false) <;> simp
  · cases (bif (bif (bif (bif x.o == -1 then decide (v ≥ 1) else false) then decide (v ≤ 1000) else false) then decide (placeF ws t 0 < 0) else false) then true else false) <;> cases (bif (bif (bif x.o == -1 then decide (v ≥ 1) else false) then decide (v ≤ 1000) else false) then decide (placeF ws t 0 < 0) else false) <;> cases (bif (bif x.o == t then v == 1 else false) then decide (x.h < 1000) else false) <;> simp
theorem doR_false (x : Thg) (t k v : Int) (ws : List Wt) (h : (doRF x t k v ws).2.2 = false) : (doRF x t k v ws).1 = x ∧ (doRF x t k v ws).2.1 = ws := by
  revert h
  unfold doRF
  cases (bif (bif (bif decide (t < 0) then true else decide (t > 7)) then true else decide (x.kd < 1)) then true else decide (x.kd > 5)) <;> simp only [cond_true, cond_false]
  · cases (k == 17) <;> simp only [cond_true, cond_false]
    · cases (x.kd == 1) <;> simp only [cond_true, cond_false]
      · cases (x.kd == 2) <;> simp only [cond_true, cond_false]
        · cases (x.kd == 3) <;> simp only [cond_true, cond_false]
          · cases (x.kd == 4) <;> simp only [cond_true, cond_false]
            · exact fun h => ⟨swapr_false x t k v h, by first | rfl | trivial⟩
            · exact fun h => ⟨rwr_false x t k v h, by first | rfl | trivial⟩
          · cases (k == 1) <;> simp only [cond_true, cond_false]
            · cases (bif k == 8 then (bif (bif v == 1 then decide (x.n > 0) else false) then true else (bif v == 0 then x.n == 0 else false)) else false) <;> simp
            · simp
        · exact fun h => ⟨semar_false x k v h, by first | rfl | trivial⟩
      · exact lockr_false x t k v ws
    · simp
  · simp
/-- The row that the thing comes to lie with. -/
def doRowF (x : Thg) (t k v : Int) (ws : List Wt) : List Wt := bif (doRF x t k v ws).2.2 && !(k == 17) then doneRowF x ws t k else ws
def doGood (x : Thg) (t k v : Int) (ws : List Wt) (c : Nat → Nat) : Prop := c 2 + (doRF x t k v ws).2.1.length ≤ (doRowF x t k v ws).length ∧ wsub (doRowF x t k v ws) (c 2) (doRF x t k v ws).2.1.length = (doRF x t k v ws).2.1
def doR (T : Thg × List Wt × Bool) (lo cap : Nat) : XV := .tup [T.1.av 1 lo T.2.1.length cap, .c (.v (.bool T.2.2))]
def doC (x : Thg) (t k v : Int) (ws : List Wt) (own : Bool) (lo n cap rc kk : Nat) (ρ : List Nat) : CallSpec := rowSpec ρ kk [x.av 0 lo n cap, .c (iv t), markA k v] [Ent.ws own rc ws] (doGood x t k v (wsub ws lo n))
  (fun c => doR (doRF x t k v (wsub ws lo n)) (c 2) (c 0)) fun c => [Ent.ws own rc ws, Ent.ws true (c 1) (doRowF x t k v (wsub ws lo n))]
theorem clone_call : Callable Try.prog 19 := ⟨_, Try.func19, by kernel_rfl, rfl⟩
theorem done_call : Callable Try.prog 20 := ⟨_, Try.func20, by kernel_rfl, rfl⟩
set_option maxHeartbeats 4000000 in
theorem do_local (x : Thg) (t k v : Int) (ws : List Wt) (own : Bool) (lo n cap rc kk : Nat) (ρ : List Nat) (hx : lightP x) (hn : lo + n ≤ ws.length) (hl : n ≤ 1000000) : (doC x t k v ws own lo n cap rc kk ρ).Local Try.prog 11 := by
  refine local_of Try.func11 rfl (tdo_eq x t k v ws own lo n cap rc) fun ν w => ?_
  have hz : ws.length = 0 → n = 0 := fun h => by omega
  have hw := wsub_length ws hn
  have all : ∀ l : List Wt, wsub l 0 l.length = l := wsub_all
  refine ok_callf' clone_call (fits_of rfl rfl ⟨⟨_, rfl, EntRel.ws⟩, trivial⟩ fun c _ => ⟨⟨Nat.le_succ 1, rfl⟩, ⟨rfl, rfl⟩, ⟨⟨EntRel.ws, rfl, (fun h => by cases h), .inr rfl⟩, ⟨EntRel.ws, rfl, (fun h => by cases h), .inr rfl⟩, trivial⟩⟩) (clone2_local _ _ _ _ _ _ _ _ hn hl hz) fun c1 hc1 => ?_
  refine ok_chk' rfl (ok_chk' rfl ?_)
  refine ok_callf' clone_call (fits_of rfl rfl ⟨⟨_, rfl, EntRel.ws⟩, trivial⟩ fun c _ => ⟨⟨Nat.le_succ 1, rfl⟩, ⟨rfl, rfl⟩, ⟨⟨EntRel.ws, rfl, (fun h => by cases h), .inr rfl⟩, ⟨EntRel.ws, rfl, (fun h => by cases h), .inr rfl⟩, trivial⟩⟩) (clone2_local _ _ _ _ _ _ _ _ hn hl hz) fun c2 hc2 => ?_
  have was : ∀ b : Bool, doRF x t k v (wsub ws lo n) = (x, wsub ws lo n, b) → doRowF x t k v (wsub ws lo n) = wsub ws lo n →
      doGood x t k v (wsub ws lo n) (fun i => if i = 2 then 0 else c1 0) := fun b e1 e2 => by
    unfold doGood
    rw [e1, e2]
    exact ⟨by simp, all _⟩
  repeat (first | refine ok_chk' (fun h => h) ?_ | refine ok_chk' rfl ?_ | refine ok_chk' (fun h => by rw [h]; try rfl) ?_)
  refine ok_br' (fun h => ?_) fun h => ?_
  · have e1 : doRF x t k v (wsub ws lo n) = (x, wsub ws lo n, false) := by
      have : (bif decide (t < 0) then true else decide (t > 7)) = true := by
        rw [← h]
        congr 1
      unfold doRF
      rw [this]
      rfl
    have e2 : doRowF x t k v (wsub ws lo n) = wsub ws lo n := by unfold doRowF; rw [e1]; try rfl
    refine ok_leaf (fun i => if i = 2 then 0 else c1 0) [] [0, 5] (was false e1 e2) ?_ ⟨⟨_, rfl, EntRel.ws⟩, ⟨_, rfl, row_of e2⟩, trivial⟩ rfl
    show XV.tup _ = XV.nilz _ (XV.ren _ (doR (doRF x t k v (wsub ws lo n)) 0 (c1 0)))
    rw [e1]; try rfl
  have t0 : 0 ≤ t ∧ t < 8 := by
    simp at h
    omega
  refine ok_br' (fun h => ?_) fun h17 => ?_
  · have h17 : k = 17 := by simpa using h
    repeat (first | refine ok_chk' (fun h => h) ?_ | refine ok_chk' rfl ?_ | refine ok_chk' (fun h => rfl) ?_)
    have e1 : doRF x t k v (wsub ws lo n) = (x, wsub ws lo n, bif (bif v == 0 then decide (x.kd ≥ 1) else false) then decide (x.kd ≤ 5) else false) := by
      unfold doRF
      by_cases g1 : x.kd < 1
      · have : ¬ x.kd ≥ 1 := by omega
        simp [g1, this]
      · by_cases g2 : x.kd > 5
        · have : ¬ x.kd ≤ 5 := by omega
          simp [g1, g2, this]
        · have q1 : x.kd ≥ 1 := by omega
          have q2 : x.kd ≤ 5 := by omega
          have q3 : ¬ t < 0 := by omega
          have q4 : ¬ t > 7 := by omega
          subst h17
          simp [g1, g2, q1, q2, q3, q4]
    have e2 : doRowF x t k v (wsub ws lo n) = wsub ws lo n := by unfold doRowF; rw [h]; simp
    refine ok_leaf (fun i => if i = 2 then 0 else c1 0) [] [0, 5] (was _ e1 e2) ?_ ⟨⟨_, rfl, EntRel.ws⟩, ⟨_, rfl, row_of e2⟩, trivial⟩ rfl
    show XV.tup _ = XV.nilz _ (XV.ren _ (doR (doRF x t k v (wsub ws lo n)) 0 (c1 0)))
    rw [e1]; try rfl
  · have hk : k ≠ 17 := by simpa using h17
    have hlen : (wsub ws lo n).length ≤ c2 0 := by rw [hw]; exact hc2.1
    have A := done_agree x t k v (wsub ws lo n) (c2 0) hlen hx t0.1 t0.2 hk
    refine ok_callf' done_call (fits_of rfl rfl ⟨⟨_, rfl, EntRel.ws⟩, trivial⟩ fun c _ => ⟨⟨Nat.le_succ 1, rfl⟩, ⟨rfl, rfl⟩, ⟨⟨EntRel.dead, rfl, (fun h => by cases h), .inl rfl⟩, ⟨EntRel.ws, rfl, (fun h => by cases h), .inl rfl⟩, trivial⟩⟩) (done_local _ _ _ _ _ _ _ _ (by show (wsub ws lo n).length ≤ _; rw [hw]; exact hl) hlen t0.1 t0.2) fun c3 _ => ?_
    refine ok_br' (fun h => ?_) fun h => ?_
    · have hT : (doRF x t k v (wsub ws lo n)).2.2 = true := A.1 ▸ h
      obtain ⟨a1, a2, a3⟩ := A.2 hT
      have hwl := wsub_length _ a2
      have e1 : doRF x t k v (wsub ws lo n) = ((doneS x t k v (wsub ws lo n) (c2 0)).1, wsub (doneRowF x (wsub ws lo n) t k) (doneS x t k v (wsub ws lo n) (c2 0)).2.1.1 (doneS x t k v (wsub ws lo n) (c2 0)).2.1.2, true) := Prod.ext a1.symm (Prod.ext a3.symm hT)
      have e2 : doRowF x t k v (wsub ws lo n) = doneRowF x (wsub ws lo n) t k := by unfold doRowF; rw [hT, h17]; try rfl
      refine ok_leaf (fun i => if i = 2 then (doneS x t k v (wsub ws lo n) (c2 0)).2.1.1 else c3 i) [] [0, 7] ?_ ?_ ⟨⟨_, rfl, EntRel.ws⟩, ⟨_, rfl, row_of e2⟩, trivial⟩ rfl
      · show doGood x t k v (wsub ws lo n) (fun i => if i = 2 then (doneS x t k v (wsub ws lo n) (c2 0)).2.1.1 else c3 i)
        unfold doGood
        rw [e2, e1]
        simp only [hwl]
        exact ⟨a2, rfl⟩
      · show XV.tup _ = XV.nilz _ (XV.ren _ (doR (doRF x t k v (wsub ws lo n)) (doneS x t k v (wsub ws lo n) (c2 0)).2.1.1 (c3 0)))
        rw [e1, doR, hwl]
        rfl
    · have hT : (doRF x t k v (wsub ws lo n)).2.2 = false := A.1 ▸ h
      obtain ⟨a1, a2⟩ := doR_false _ _ _ _ _ hT
      have e1 : doRF x t k v (wsub ws lo n) = (x, wsub ws lo n, false) := Prod.ext a1 (Prod.ext a2 hT)
      have e2 : doRowF x t k v (wsub ws lo n) = wsub ws lo n := by unfold doRowF; rw [hT]; try rfl
      refine ok_leaf (fun i => if i = 2 then 0 else c1 0) [] [0, 5] (was false e1 e2) ?_ ⟨⟨_, rfl, EntRel.ws⟩, ⟨_, rfl, row_of e2⟩, trivial⟩ rfl
      show XV.tup _ = XV.nilz _ (XV.ren _ (doR (doRF x t k v (wsub ws lo n)) 0 (c1 0)))
      rw [e1]; try rfl
end Go.Proofs.Ytnenbngjdekegaa.X

/- The model: can it go on: trees. -/
set_option linter.unusedVariables false
set_option linter.unusedSimpArgs false
namespace Go.Proofs.Ytnenbngjdekegaa.X
open Go Go.RowKit Go.Proofs.YtnenbngjdekegaaW.PrintWords Go.Proofs.Ytnenbngjdekegaa.Base
def callA (k o n w : Int) (b : Bool) : AV := .agg [iv k, iv o, iv n, iv w, .v (.bool b)]
def canG (ws : List Wt) (own : Bool) (lo n rc : Nat) : Ctr := fun f args H => match args with
  | [.agg l, .c (.v (.int _ t)), .agg [.v (.int _ k), .v (.int _ v)]] => some (doC (thgOf l) t k v ws own lo n (slCap l) rc H.length [slK l])
  | _ => none
def canRG (ws : List Wt) : Ctr := fun f args H => match args with
  | [.agg l, .c (.v (.int _ t)), .agg [.v (.int _ k), .v (.int _ v)]] => some (doRC (thgOf l) t k v ws (slCap l) H.length [slK l])
  | _ => none
def tcan (x : Thg) (t k o q wt : Int) (b : Bool) (ws : List Wt) (own : Bool) (lo n cap rc : Nat) : Tree :=
  Tree.br (k == (1 : Int))
   (Tree.callf 11 [AV.agg [iv x.1, iv x.2, iv x.3, iv x.4, iv x.5, iv x.6, iv x.7, iv x.8, iv x.9, iv x.10, iv x.11, iv x.12, CV.sl 0 0 lo 2 n cap, iv x.13, iv x.14], AV.c (iv t), AV.agg [iv (1 : Int), iv (1 : Int)]] [(Ent.ws own rc ws), (Ent.mkBox 25 [iv x.1, iv x.2, iv x.3, iv x.4, iv x.5, iv x.6, iv x.7, iv x.8, iv x.9, iv x.10, iv x.11, iv x.12, CV.sl 0 0 lo 2 n cap, iv x.13, iv x.14]), (Ent.mkBox 42 [iv k, iv o, iv q, iv wt, CV.v (Value.bool b)]), (Ent.mkBox 29 [iv (1 : Int), iv (1 : Int)])] (doC x t (1 : Int) (1 : Int) ws own lo n cap rc 4 [0]) fun c => Tree.chk (Prod.snd (Prod.snd (doRF x t (1 : Int) (1 : Int) (List.take n (List.drop lo ws)))) = true → Prod.snd (Prod.snd (doRF x t (1 : Int) (1 : Int) (List.take n (List.drop lo ws)))) = true)
   (Tree.chk (Prod.snd (Prod.snd (doRF x t (1 : Int) (1 : Int) (List.take n (List.drop lo ws)))) = true → Prod.snd (Prod.snd (doRF x t (1 : Int) (1 : Int) (List.take n (List.drop lo ws)))) = true)
   (Tree.chk (Prod.snd (Prod.snd (doRF x t (1 : Int) (1 : Int) (List.take n (List.drop lo ws)))) = true → Prod.snd (Prod.snd (doRF x t (1 : Int) (1 : Int) (List.take n (List.drop lo ws)))) = true)
   (Tree.chk (Prod.snd (Prod.snd (doRF x t (1 : Int) (1 : Int) (List.take n (List.drop lo ws)))) = true → Prod.snd (Prod.snd (doRF x t (1 : Int) (1 : Int) (List.take n (List.drop lo ws)))) = true)
   (Tree.done (XV.a (AV.c (CV.v (Value.bool (bif Prod.snd (Prod.snd (doRF x t (1 : Int) (1 : Int) (List.take n (List.drop lo ws)))) then x.1 == (1 : Int) else false))))) [(Ent.ws own rc ws), Ent.dead, Ent.dead, Ent.dead, Ent.dead, Ent.dead])))))
   (Tree.br (k == (4 : Int))
   (Tree.callf 11 [AV.agg [iv x.1, iv x.2, iv x.3, iv x.4, iv x.5, iv x.6, iv x.7, iv x.8, iv x.9, iv x.10, iv x.11, iv x.12, CV.sl 0 0 lo 2 n cap, iv x.13, iv x.14], AV.c (iv t), AV.agg [iv (1 : Int), iv q]] [(Ent.ws own rc ws), (Ent.mkBox 25 [iv x.1, iv x.2, iv x.3, iv x.4, iv x.5, iv x.6, iv x.7, iv x.8, iv x.9, iv x.10, iv x.11, iv x.12, CV.sl 0 0 lo 2 n cap, iv x.13, iv x.14]), (Ent.mkBox 42 [iv k, iv o, iv q, iv wt, CV.v (Value.bool b)]), (Ent.mkBox 29 [iv (1 : Int), iv q])] (doC x t (1 : Int) q ws own lo n cap rc 4 [0]) fun c => Tree.chk (Prod.snd (Prod.snd (doRF x t (1 : Int) q (List.take n (List.drop lo ws)))) = true → Prod.snd (Prod.snd (doRF x t (1 : Int) q (List.take n (List.drop lo ws)))) = true)
   (Tree.chk (Prod.snd (Prod.snd (doRF x t (1 : Int) q (List.take n (List.drop lo ws)))) = true → Prod.snd (Prod.snd (doRF x t (1 : Int) q (List.take n (List.drop lo ws)))) = true)
   (Tree.chk (Prod.snd (Prod.snd (doRF x t (1 : Int) q (List.take n (List.drop lo ws)))) = true → Prod.snd (Prod.snd (doRF x t (1 : Int) q (List.take n (List.drop lo ws)))) = true)
   (Tree.chk (Prod.snd (Prod.snd (doRF x t (1 : Int) q (List.take n (List.drop lo ws)))) = true → Prod.snd (Prod.snd (doRF x t (1 : Int) q (List.take n (List.drop lo ws)))) = true)
   (Tree.done (XV.a (AV.c (CV.v (Value.bool (bif Prod.snd (Prod.snd (doRF x t (1 : Int) q (List.take n (List.drop lo ws)))) then x.1 == (2 : Int) else false))))) [(Ent.ws own rc ws), Ent.dead, Ent.dead, Ent.dead, Ent.dead, Ent.dead])))))
   (Tree.br (k == (8 : Int))
   (Tree.callf 11 [AV.agg [iv x.1, iv x.2, iv x.3, iv x.4, iv x.5, iv x.6, iv x.7, iv x.8, iv x.9, iv x.10, iv x.11, iv x.12, CV.sl 0 0 lo 2 n cap, iv x.13, iv x.14], AV.c (iv t), AV.agg [iv (1 : Int), iv (0 : Int)]] [(Ent.ws own rc ws), (Ent.mkBox 25 [iv x.1, iv x.2, iv x.3, iv x.4, iv x.5, iv x.6, iv x.7, iv x.8, iv x.9, iv x.10, iv x.11, iv x.12, CV.sl 0 0 lo 2 n cap, iv x.13, iv x.14]), (Ent.mkBox 42 [iv k, iv o, iv q, iv wt, CV.v (Value.bool b)]), (Ent.mkBox 29 [iv (1 : Int), iv (0 : Int)])] (doC x t (1 : Int) (0 : Int) ws own lo n cap rc 4 [0]) fun c => Tree.chk (Prod.snd (Prod.snd (doRF x t (1 : Int) (0 : Int) (List.take n (List.drop lo ws)))) = true → Prod.snd (Prod.snd (doRF x t (1 : Int) (0 : Int) (List.take n (List.drop lo ws)))) = true)
   (Tree.chk (Prod.snd (Prod.snd (doRF x t (1 : Int) (0 : Int) (List.take n (List.drop lo ws)))) = true → Prod.snd (Prod.snd (doRF x t (1 : Int) (0 : Int) (List.take n (List.drop lo ws)))) = true)
   (Tree.chk (Prod.snd (Prod.snd (doRF x t (1 : Int) (0 : Int) (List.take n (List.drop lo ws)))) = true → Prod.snd (Prod.snd (doRF x t (1 : Int) (0 : Int) (List.take n (List.drop lo ws)))) = true)
   (Tree.chk (Prod.snd (Prod.snd (doRF x t (1 : Int) (0 : Int) (List.take n (List.drop lo ws)))) = true → Prod.snd (Prod.snd (doRF x t (1 : Int) (0 : Int) (List.take n (List.drop lo ws)))) = true)
   (Tree.done (XV.a (AV.c (CV.v (Value.bool (bif Prod.snd (Prod.snd (doRF x t (1 : Int) (0 : Int) (List.take n (List.drop lo ws)))) then x.1 == (3 : Int) else false))))) [(Ent.ws own rc ws), Ent.dead, Ent.dead, Ent.dead, Ent.dead, Ent.dead])))))
   (Tree.br (k == (13 : Int))
   (Tree.callf 11 [AV.agg [iv x.1, iv x.2, iv x.3, iv x.4, iv x.5, iv x.6, iv x.7, iv x.8, iv x.9, iv x.10, iv x.11, iv x.12, CV.sl 0 0 lo 2 n cap, iv x.13, iv x.14], AV.c (iv t), AV.agg [iv (1 : Int), iv (1 : Int)]] [(Ent.ws own rc ws), (Ent.mkBox 25 [iv x.1, iv x.2, iv x.3, iv x.4, iv x.5, iv x.6, iv x.7, iv x.8, iv x.9, iv x.10, iv x.11, iv x.12, CV.sl 0 0 lo 2 n cap, iv x.13, iv x.14]), (Ent.mkBox 42 [iv k, iv o, iv q, iv wt, CV.v (Value.bool b)]), (Ent.mkBox 29 [iv (1 : Int), iv (1 : Int)])] (doC x t (1 : Int) (1 : Int) ws own lo n cap rc 4 [0]) fun c => Tree.chk (Prod.snd (Prod.snd (doRF x t (1 : Int) (1 : Int) (List.take n (List.drop lo ws)))) = true → Prod.snd (Prod.snd (doRF x t (1 : Int) (1 : Int) (List.take n (List.drop lo ws)))) = true)
   (Tree.chk (Prod.snd (Prod.snd (doRF x t (1 : Int) (1 : Int) (List.take n (List.drop lo ws)))) = true → Prod.snd (Prod.snd (doRF x t (1 : Int) (1 : Int) (List.take n (List.drop lo ws)))) = true)
   (Tree.chk (Prod.snd (Prod.snd (doRF x t (1 : Int) (1 : Int) (List.take n (List.drop lo ws)))) = true → Prod.snd (Prod.snd (doRF x t (1 : Int) (1 : Int) (List.take n (List.drop lo ws)))) = true)
   (Tree.chk (Prod.snd (Prod.snd (doRF x t (1 : Int) (1 : Int) (List.take n (List.drop lo ws)))) = true → Prod.snd (Prod.snd (doRF x t (1 : Int) (1 : Int) (List.take n (List.drop lo ws)))) = true)
   (Tree.done (XV.a (AV.c (CV.v (Value.bool (bif Prod.snd (Prod.snd (doRF x t (1 : Int) (1 : Int) (List.take n (List.drop lo ws)))) then x.1 == (4 : Int) else false))))) [(Ent.ws own rc ws), Ent.dead, Ent.dead, Ent.dead, Ent.dead, Ent.dead])))))
   (Tree.br (k == (10 : Int))
   (Tree.callf 11 [AV.agg [iv x.1, iv x.2, iv x.3, iv x.4, iv x.5, iv x.6, iv x.7, iv x.8, iv x.9, iv x.10, iv x.11, iv x.12, CV.sl 0 0 lo 2 n cap, iv x.13, iv x.14], AV.c (iv t), AV.agg [iv (2 : Int), iv (0 : Int)]] [(Ent.ws own rc ws), (Ent.mkBox 25 [iv x.1, iv x.2, iv x.3, iv x.4, iv x.5, iv x.6, iv x.7, iv x.8, iv x.9, iv x.10, iv x.11, iv x.12, CV.sl 0 0 lo 2 n cap, iv x.13, iv x.14]), (Ent.mkBox 42 [iv k, iv o, iv q, iv wt, CV.v (Value.bool b)]), (Ent.mkBox 29 [iv (2 : Int), iv (0 : Int)])] (doC x t (2 : Int) (0 : Int) ws own lo n cap rc 4 [0]) fun c => Tree.chk (Prod.snd (Prod.snd (doRF x t (2 : Int) (0 : Int) (List.take n (List.drop lo ws)))) = true → Prod.snd (Prod.snd (doRF x t (2 : Int) (0 : Int) (List.take n (List.drop lo ws)))) = true)
   (Tree.chk (Prod.snd (Prod.snd (doRF x t (2 : Int) (0 : Int) (List.take n (List.drop lo ws)))) = true → Prod.snd (Prod.snd (doRF x t (2 : Int) (0 : Int) (List.take n (List.drop lo ws)))) = true)
   (Tree.chk (Prod.snd (Prod.snd (doRF x t (2 : Int) (0 : Int) (List.take n (List.drop lo ws)))) = true → Prod.snd (Prod.snd (doRF x t (2 : Int) (0 : Int) (List.take n (List.drop lo ws)))) = true)
   (Tree.chk (Prod.snd (Prod.snd (doRF x t (2 : Int) (0 : Int) (List.take n (List.drop lo ws)))) = true → Prod.snd (Prod.snd (doRF x t (2 : Int) (0 : Int) (List.take n (List.drop lo ws)))) = true)
   (Tree.done (XV.a (AV.c (CV.v (Value.bool (bif Prod.snd (Prod.snd (doRF x t (2 : Int) (0 : Int) (List.take n (List.drop lo ws)))) then x.1 == (4 : Int) else false))))) [(Ent.ws own rc ws), Ent.dead, Ent.dead, Ent.dead, Ent.dead, Ent.dead])))))
   (Tree.br (k == (19 : Int))
   (Tree.chk ((x.1 == (5 : Int)) = true → (x.1 == (5 : Int)) = true)
   (Tree.chk ((x.1 == (5 : Int)) = true → (x.1 == (5 : Int)) = true)
   (Tree.chk ((bif x.1 == (5 : Int) then decide (t ≥ (0 : Int)) else false) = true → (bif x.1 == (5 : Int) then decide (t ≥ (0 : Int)) else false) = true)
   (Tree.chk ((bif x.1 == (5 : Int) then decide (t ≥ (0 : Int)) else false) = true → (bif x.1 == (5 : Int) then decide (t ≥ (0 : Int)) else false) = true)
   (Tree.chk ((bif bif x.1 == (5 : Int) then decide (t ≥ (0 : Int)) else false then decide (t < (8 : Int)) else false) = true → (bif bif x.1 == (5 : Int) then decide (t ≥ (0 : Int)) else false then decide (t < (8 : Int)) else false) = true)
   (Tree.chk ((bif bif x.1 == (5 : Int) then decide (t ≥ (0 : Int)) else false then decide (t < (8 : Int)) else false) = true → (bif bif x.1 == (5 : Int) then decide (t ≥ (0 : Int)) else false then decide (t < (8 : Int)) else false) = true)
   (Tree.chk ((bif bif x.1 == (5 : Int) then decide (t ≥ (0 : Int)) else false then decide (t < (8 : Int)) else false) = true → (bif bif x.1 == (5 : Int) then decide (t ≥ (0 : Int)) else false then decide (t < (8 : Int)) else false) = true)
   (Tree.chk ((bif bif bif x.1 == (5 : Int) then decide (t ≥ (0 : Int)) else false then decide (t < (8 : Int)) else false then x.13 != (-1 : Int) else false) = true → (bif bif bif x.1 == (5 : Int) then decide (t ≥ (0 : Int)) else false then decide (t < (8 : Int)) else false then x.13 != (-1 : Int) else false) = true)
   (Tree.chk ((bif bif bif x.1 == (5 : Int) then decide (t ≥ (0 : Int)) else false then decide (t < (8 : Int)) else false then x.13 != (-1 : Int) else false) = true → (bif bif bif x.1 == (5 : Int) then decide (t ≥ (0 : Int)) else false then decide (t < (8 : Int)) else false then x.13 != (-1 : Int) else false) = true)
   (Tree.chk ((bif bif bif x.1 == (5 : Int) then decide (t ≥ (0 : Int)) else false then decide (t < (8 : Int)) else false then x.13 != (-1 : Int) else false) = true → (bif bif bif x.1 == (5 : Int) then decide (t ≥ (0 : Int)) else false then decide (t < (8 : Int)) else false then x.13 != (-1 : Int) else false) = true)
   (Tree.chk ((bif bif bif x.1 == (5 : Int) then decide (t ≥ (0 : Int)) else false then decide (t < (8 : Int)) else false then x.13 != (-1 : Int) else false) = true → (bif bif bif x.1 == (5 : Int) then decide (t ≥ (0 : Int)) else false then decide (t < (8 : Int)) else false then x.13 != (-1 : Int) else false) = true)
   (Tree.done (XV.a (AV.c (CV.v (Value.bool (bif bif bif bif x.1 == (5 : Int) then decide (t ≥ (0 : Int)) else false then decide (t < (8 : Int)) else false then x.13 != (-1 : Int) else false then x.13 != t else false))))) [(Ent.ws own rc ws), Ent.dead, Ent.dead, Ent.dead]))))))))))))
   (Tree.callf 11 [AV.agg [iv x.1, iv x.2, iv x.3, iv x.4, iv x.5, iv x.6, iv x.7, iv x.8, iv x.9, iv x.10, iv x.11, iv x.12, CV.sl 0 0 lo 2 n cap, iv x.13, iv x.14], AV.c (iv t), AV.agg [iv (1 : Int), iv (0 : Int)]] [(Ent.ws own rc ws), (Ent.mkBox 25 [iv x.1, iv x.2, iv x.3, iv x.4, iv x.5, iv x.6, iv x.7, iv x.8, iv x.9, iv x.10, iv x.11, iv x.12, CV.sl 0 0 lo 2 n cap, iv x.13, iv x.14]), (Ent.mkBox 42 [iv k, iv o, iv q, iv wt, CV.v (Value.bool b)]), (Ent.mkBox 29 [iv (1 : Int), iv (0 : Int)])] (doC x t (1 : Int) (0 : Int) ws own lo n cap rc 4 [0]) fun c => Tree.chk (Prod.snd (Prod.snd (doRF x t (1 : Int) (0 : Int) (List.take n (List.drop lo ws)))) = true → Prod.snd (Prod.snd (doRF x t (1 : Int) (0 : Int) (List.take n (List.drop lo ws)))) = true)
   (Tree.chk (Prod.snd (Prod.snd (doRF x t (1 : Int) (0 : Int) (List.take n (List.drop lo ws)))) = true → Prod.snd (Prod.snd (doRF x t (1 : Int) (0 : Int) (List.take n (List.drop lo ws)))) = true)
   (Tree.chk (Prod.snd (Prod.snd (doRF x t (1 : Int) (0 : Int) (List.take n (List.drop lo ws)))) = true → Prod.snd (Prod.snd (doRF x t (1 : Int) (0 : Int) (List.take n (List.drop lo ws)))) = true)
   (Tree.chk (Prod.snd (Prod.snd (doRF x t (1 : Int) (0 : Int) (List.take n (List.drop lo ws)))) = true → Prod.snd (Prod.snd (doRF x t (1 : Int) (0 : Int) (List.take n (List.drop lo ws)))) = true)
   (Tree.done (XV.a (AV.c (CV.v (Value.bool (bif Prod.snd (Prod.snd (doRF x t (1 : Int) (0 : Int) (List.take n (List.drop lo ws)))) then x.1 == (0 : Int) else false))))) [(Ent.ws own rc ws), Ent.dead, Ent.dead, Ent.dead, Ent.dead, Ent.dead]))))))))))
theorem tcan_eq (x : Thg) (t k o q wt : Int) (b : Bool) (ws : List Wt) (own : Bool) (lo n cap rc : Nat) : xfunc tab (canG ws own lo n rc) noInv Go.Proofs.Try.f17 [x.av 0 lo n cap, .c (iv t), callA k o q wt b] [Ent.ws own rc ws] [0] = tcan x t k o q wt b ws own lo n cap rc := by kernel_rfl
def tcanr (x : Thg) (t k o q wt : Int) (b : Bool) (ws : List Wt) (cap : Nat) : Tree :=
  Tree.chk ((!decide (t < (0 : Int))) = true → (!decide (t < (0 : Int))) = true)
   (Tree.chk (decide (t < (0 : Int)) = false → (!decide (t < (0 : Int))) = true)
   (Tree.br (bif decide (t < (0 : Int)) then true else decide (t > (7 : Int)))
   (Tree.done (XV.a (AV.c (CV.v (Value.bool false)))) [(Ent.ws false cap ws), Ent.dead, Ent.dead])
   (Tree.br (k == (19 : Int))
   (Tree.chk ((x.1 == (5 : Int)) = true → (x.1 == (5 : Int)) = true)
   (Tree.chk ((x.1 == (5 : Int)) = true → (x.1 == (5 : Int)) = true)
   (Tree.chk ((x.1 == (5 : Int)) = true → (x.1 == (5 : Int)) = true)
   (Tree.chk ((bif x.1 == (5 : Int) then x.13 != (-1 : Int) else false) = true → (bif x.1 == (5 : Int) then x.13 != (-1 : Int) else false) = true)
   (Tree.chk ((bif x.1 == (5 : Int) then x.13 != (-1 : Int) else false) = true → (bif x.1 == (5 : Int) then x.13 != (-1 : Int) else false) = true)
   (Tree.chk ((bif x.1 == (5 : Int) then x.13 != (-1 : Int) else false) = true → (bif x.1 == (5 : Int) then x.13 != (-1 : Int) else false) = true)
   (Tree.chk ((bif x.1 == (5 : Int) then x.13 != (-1 : Int) else false) = true → (bif x.1 == (5 : Int) then x.13 != (-1 : Int) else false) = true)
   (Tree.done (XV.a (AV.c (CV.v (Value.bool (bif bif x.1 == (5 : Int) then x.13 != (-1 : Int) else false then x.13 != t else false))))) [(Ent.ws false cap ws), Ent.dead, Ent.dead]))))))))
   (Tree.br (k == (1 : Int))
   (Tree.callf 16 [AV.agg [iv x.1, iv x.2, iv x.3, iv x.4, iv x.5, iv x.6, iv x.7, iv x.8, iv x.9, iv x.10, iv x.11, iv x.12, CV.sl 0 0 0 2 (List.length ws) cap, iv x.13, iv x.14], AV.c (iv t), AV.agg [iv (1 : Int), iv (1 : Int)]] [(Ent.ws false cap ws), (Ent.mkBox 25 [iv x.1, iv x.2, iv x.3, iv x.4, iv x.5, iv x.6, iv x.7, iv x.8, iv x.9, iv x.10, iv x.11, iv x.12, CV.sl 0 0 0 2 (List.length ws) cap, iv x.13, iv x.14]), (Ent.mkBox 42 [iv k, iv o, iv q, iv wt, CV.v (Value.bool b)]), (Ent.mkBox 29 [iv (1 : Int), iv (1 : Int)])] (doRC x t (1 : Int) (1 : Int) ws cap 4 [0]) fun c => Tree.chk ((x.1 == (1 : Int)) = true → (x.1 == (1 : Int)) = true)
   (Tree.done (XV.a (AV.c (CV.v (Value.bool (bif x.1 == (1 : Int) then Prod.snd (Prod.snd (doRF x t (1 : Int) (1 : Int) ws)) else false))))) [(Ent.ws false cap ws), Ent.dead, Ent.dead, Ent.dead, Ent.dead, Ent.dead]))
   (Tree.br (k == (4 : Int))
   (Tree.callf 16 [AV.agg [iv x.1, iv x.2, iv x.3, iv x.4, iv x.5, iv x.6, iv x.7, iv x.8, iv x.9, iv x.10, iv x.11, iv x.12, CV.sl 0 0 0 2 (List.length ws) cap, iv x.13, iv x.14], AV.c (iv t), AV.agg [iv (1 : Int), iv q]] [(Ent.ws false cap ws), (Ent.mkBox 25 [iv x.1, iv x.2, iv x.3, iv x.4, iv x.5, iv x.6, iv x.7, iv x.8, iv x.9, iv x.10, iv x.11, iv x.12, CV.sl 0 0 0 2 (List.length ws) cap, iv x.13, iv x.14]), (Ent.mkBox 42 [iv k, iv o, iv q, iv wt, CV.v (Value.bool b)]), (Ent.mkBox 29 [iv (1 : Int), iv q])] (doRC x t (1 : Int) q ws cap 4 [0]) fun c => Tree.chk ((x.1 == (2 : Int)) = true → (x.1 == (2 : Int)) = true)
   (Tree.done (XV.a (AV.c (CV.v (Value.bool (bif x.1 == (2 : Int) then Prod.snd (Prod.snd (doRF x t (1 : Int) q ws)) else false))))) [(Ent.ws false cap ws), Ent.dead, Ent.dead, Ent.dead, Ent.dead, Ent.dead]))
   (Tree.br (k == (8 : Int))
   (Tree.callf 16 [AV.agg [iv x.1, iv x.2, iv x.3, iv x.4, iv x.5, iv x.6, iv x.7, iv x.8, iv x.9, iv x.10, iv x.11, iv x.12, CV.sl 0 0 0 2 (List.length ws) cap, iv x.13, iv x.14], AV.c (iv t), AV.agg [iv (1 : Int), iv (0 : Int)]] [(Ent.ws false cap ws), (Ent.mkBox 25 [iv x.1, iv x.2, iv x.3, iv x.4, iv x.5, iv x.6, iv x.7, iv x.8, iv x.9, iv x.10, iv x.11, iv x.12, CV.sl 0 0 0 2 (List.length ws) cap, iv x.13, iv x.14]), (Ent.mkBox 42 [iv k, iv o, iv q, iv wt, CV.v (Value.bool b)]), (Ent.mkBox 29 [iv (1 : Int), iv (0 : Int)])] (doRC x t (1 : Int) (0 : Int) ws cap 4 [0]) fun c => Tree.chk ((x.1 == (3 : Int)) = true → (x.1 == (3 : Int)) = true)
   (Tree.done (XV.a (AV.c (CV.v (Value.bool (bif x.1 == (3 : Int) then Prod.snd (Prod.snd (doRF x t (1 : Int) (0 : Int) ws)) else false))))) [(Ent.ws false cap ws), Ent.dead, Ent.dead, Ent.dead, Ent.dead, Ent.dead]))
   (Tree.br (k == (10 : Int))
   (Tree.callf 16 [AV.agg [iv x.1, iv x.2, iv x.3, iv x.4, iv x.5, iv x.6, iv x.7, iv x.8, iv x.9, iv x.10, iv x.11, iv x.12, CV.sl 0 0 0 2 (List.length ws) cap, iv x.13, iv x.14], AV.c (iv t), AV.agg [iv (2 : Int), iv (0 : Int)]] [(Ent.ws false cap ws), (Ent.mkBox 25 [iv x.1, iv x.2, iv x.3, iv x.4, iv x.5, iv x.6, iv x.7, iv x.8, iv x.9, iv x.10, iv x.11, iv x.12, CV.sl 0 0 0 2 (List.length ws) cap, iv x.13, iv x.14]), (Ent.mkBox 42 [iv k, iv o, iv q, iv wt, CV.v (Value.bool b)]), (Ent.mkBox 29 [iv (2 : Int), iv (0 : Int)])] (doRC x t (2 : Int) (0 : Int) ws cap 4 [0]) fun c => Tree.chk ((x.1 == (4 : Int)) = true → (x.1 == (4 : Int)) = true)
   (Tree.done (XV.a (AV.c (CV.v (Value.bool (bif x.1 == (4 : Int) then Prod.snd (Prod.snd (doRF x t (2 : Int) (0 : Int) ws)) else false))))) [(Ent.ws false cap ws), Ent.dead, Ent.dead, Ent.dead, Ent.dead, Ent.dead]))
   (Tree.br (k == (13 : Int))
   (Tree.callf 16 [AV.agg [iv x.1, iv x.2, iv x.3, iv x.4, iv x.5, iv x.6, iv x.7, iv x.8, iv x.9, iv x.10, iv x.11, iv x.12, CV.sl 0 0 0 2 (List.length ws) cap, iv x.13, iv x.14], AV.c (iv t), AV.agg [iv (1 : Int), iv (1 : Int)]] [(Ent.ws false cap ws), (Ent.mkBox 25 [iv x.1, iv x.2, iv x.3, iv x.4, iv x.5, iv x.6, iv x.7, iv x.8, iv x.9, iv x.10, iv x.11, iv x.12, CV.sl 0 0 0 2 (List.length ws) cap, iv x.13, iv x.14]), (Ent.mkBox 42 [iv k, iv o, iv q, iv wt, CV.v (Value.bool b)]), (Ent.mkBox 29 [iv (1 : Int), iv (1 : Int)])] (doRC x t (1 : Int) (1 : Int) ws cap 4 [0]) fun c => Tree.chk ((x.1 == (4 : Int)) = true → (x.1 == (4 : Int)) = true)
   (Tree.done (XV.a (AV.c (CV.v (Value.bool (bif x.1 == (4 : Int) then Prod.snd (Prod.snd (doRF x t (1 : Int) (1 : Int) ws)) else false))))) [(Ent.ws false cap ws), Ent.dead, Ent.dead, Ent.dead, Ent.dead, Ent.dead]))
   (Tree.callf 16 [AV.agg [iv x.1, iv x.2, iv x.3, iv x.4, iv x.5, iv x.6, iv x.7, iv x.8, iv x.9, iv x.10, iv x.11, iv x.12, CV.sl 0 0 0 2 (List.length ws) cap, iv x.13, iv x.14], AV.c (iv t), AV.agg [iv (1 : Int), iv (0 : Int)]] [(Ent.ws false cap ws), (Ent.mkBox 25 [iv x.1, iv x.2, iv x.3, iv x.4, iv x.5, iv x.6, iv x.7, iv x.8, iv x.9, iv x.10, iv x.11, iv x.12, CV.sl 0 0 0 2 (List.length ws) cap, iv x.13, iv x.14]), (Ent.mkBox 42 [iv k, iv o, iv q, iv wt, CV.v (Value.bool b)]), (Ent.mkBox 29 [iv (1 : Int), iv (0 : Int)])] (doRC x t (1 : Int) (0 : Int) ws cap 4 [0]) fun c => Tree.chk ((x.1 == (0 : Int)) = true → (x.1 == (0 : Int)) = true)
   (Tree.done (XV.a (AV.c (CV.v (Value.bool (bif x.1 == (0 : Int) then Prod.snd (Prod.snd (doRF x t (1 : Int) (0 : Int) ws)) else false))))) [(Ent.ws false cap ws), Ent.dead, Ent.dead, Ent.dead, Ent.dead, Ent.dead]))))))))))
theorem tcanr_eq (x : Thg) (t k o q wt : Int) (b : Bool) (ws : List Wt) (cap : Nat) : xfunc tab (canRG ws) noInv Go.Proofs.Try.f18 [x.av 0 0 ws.length cap, .c (iv t), callA k o q wt b] [Ent.ws false cap ws] [0] = tcanr x t k o q wt b ws cap := by kernel_rfl
end Go.Proofs.Ytnenbngjdekegaa.X

/- The model: can it go on: proved. -/
set_option linter.unusedVariables false
set_option linter.unusedSimpArgs false
namespace Go.Proofs.Ytnenbngjdekegaa.X
open Go Go.RowKit Go.Proofs.YtnenbngjdekegaaW.PrintWords Go.Proofs.Ytnenbngjdekegaa.Base
def canF (x : Thg) (t k q : Int) (ws : List Wt) : Bool :=
  bif k == 1 then (bif (doRF x t 1 1 ws).2.2 then x.kd == 1 else false)
  else bif k == 4 then (bif (doRF x t 1 q ws).2.2 then x.kd == 2 else false)
  else bif k == 8 then (bif (doRF x t 1 0 ws).2.2 then x.kd == 3 else false)
  else bif k == 13 then (bif (doRF x t 1 1 ws).2.2 then x.kd == 4 else false)
  else bif k == 10 then (bif (doRF x t 2 0 ws).2.2 then x.kd == 4 else false)
  else bif k == 19 then (bif (bif (bif (bif x.kd == 5 then decide (t ≥ 0) else false) then decide (t < 8) else false) then x.f != -1 else false) then x.f != t else false)
  else (bif (doRF x t 1 0 ws).2.2 then x.kd == 0 else false)
def canC (x : Thg) (t k o q wt : Int) (b : Bool) (ws : List Wt) (own : Bool) (lo n cap rc : Nat) (ρ : List Nat) : CallSpec := rdSpec ρ [x.av 0 lo n cap, .c (iv t), callA k o q wt b] [Ent.ws own rc ws] (.a (.c (.v (.bool (canF x t k q (wsub ws lo n))))))
def canRF (x : Thg) (t k q : Int) (ws : List Wt) : Bool :=
  bif (bif decide (t < 0) then true else decide (t > 7)) then false
  else bif k == 19 then (bif (bif x.kd == 5 then x.f != -1 else false) then x.f != t else false)
  else bif k == 1 then (bif x.kd == 1 then (doRF x t 1 1 ws).2.2 else false)
  else bif k == 4 then (bif x.kd == 2 then (doRF x t 1 q ws).2.2 else false)
  else bif k == 8 then (bif x.kd == 3 then (doRF x t 1 0 ws).2.2 else false)
  else bif k == 10 then (bif x.kd == 4 then (doRF x t 2 0 ws).2.2 else false)
  else bif k == 13 then (bif x.kd == 4 then (doRF x t 1 1 ws).2.2 else false)
  else (bif x.kd == 0 then (doRF x t 1 0 ws).2.2 else false)
def canRC (x : Thg) (t k o q wt : Int) (b : Bool) (ws : List Wt) (cap : Nat) (ρ : List Nat) : CallSpec := rdSpec ρ [x.av 0 0 ws.length cap, .c (iv t), callA k o q wt b] [Ent.ws false cap ws] (.a (.c (.v (.bool (canRF x t k q ws)))))
theorem do_call : Callable Try.prog 11 := ⟨_, Try.func11, by kernel_rfl, rfl⟩
theorem doR_call : Callable Try.prog 16 := ⟨_, Try.func16, by kernel_rfl, rfl⟩
theorem can_local (x : Thg) (t k o q wt : Int) (b : Bool) (ws : List Wt) (own : Bool) (lo n cap rc : Nat) (ρ : List Nat) (hx : lightP x) (hn : lo + n ≤ ws.length) (hl : n ≤ 1000000) : (canC x t k o q wt b ws own lo n cap rc ρ).Local Try.prog 17 := by
  refine local_of Try.func17 rfl (tcan_eq x t k o q wt b ws own lo n cap rc) fun ν w => ?_
  repeat' first
    | refine ok_br' (fun h => ?_) (fun h => ?_)
    | (refine ok_callf' do_call (fits_of rfl rfl ⟨⟨_, rfl, EntRel.ws⟩, trivial⟩ fun c _ => ⟨⟨Nat.le_succ 1, rfl⟩, ⟨rfl, rfl⟩, ⟨⟨EntRel.ws, rfl, (fun h => by cases h), .inr rfl⟩, ⟨EntRel.ws, rfl, (fun h => by cases h), .inr rfl⟩, trivial⟩⟩) (do_local _ _ _ _ _ _ _ _ _ _ _ _ hx hn hl) fun c hc => ?_)
    | refine ok_chk' (fun h => h) ?_
    | refine ok_chk' rfl ?_
    | (refine ok_leaf (fun _ => 0) [] [0] trivial ?_ ⟨⟨_, rfl, EntRel.ws⟩, trivial⟩ rfl; show XV.a _ = .a (.c (.v (.bool (canF x t k q (wsub ws lo n))))); simp only [canF, *, cond_true, cond_false]; first | done | rfl)
theorem canR_local (x : Thg) (t k o q wt : Int) (b : Bool) (ws : List Wt) (cap : Nat) (ρ : List Nat) (hl : ws.length ≤ 1000000) : (canRC x t k o q wt b ws cap ρ).Local Try.prog 18 := by
  refine local_of Try.func18 rfl (tcanr_eq x t k o q wt b ws cap) fun ν w => ?_
  repeat' first
    | refine ok_br' (fun h => ?_) (fun h => ?_)
    | (refine ok_callf' doR_call (fits_of rfl rfl ⟨⟨_, rfl, EntRel.ws⟩, trivial⟩ fun c _ => ⟨⟨Nat.le_succ 1, rfl⟩, ⟨rfl, rfl⟩, ⟨⟨EntRel.ws, rfl, (fun h => by cases h), .inr rfl⟩, ⟨EntRel.ws, rfl, (fun h => by cases h), .inr rfl⟩, trivial⟩⟩) (doR_local _ _ _ _ _ _ _ _ hl) fun c hc => ?_)
    | refine ok_chk' (fun h => h) ?_
    | refine ok_chk' rfl ?_
    | refine ok_chk' (fun h => by rw [h]; rfl) ?_
    | (refine ok_leaf (fun _ => 0) [] [0] trivial ?_ ⟨⟨_, rfl, EntRel.ws⟩, trivial⟩ rfl; show XV.a _ = .a (.c (.v (.bool (canRF x t k q ws)))); simp only [canRF, *, cond_true, cond_false]; first | done | rfl)
theorem doR_out {x : Thg} {t k v : Int} {ws : List Wt} (h : (bif decide (t < 0) then true else decide (t > 7)) = true) : (doRF x t k v ws).2.2 = false := by
  unfold doRF
  rw [h]
  rfl
/-- They agree. -/
theorem can_agree (x : Thg) (t k q : Int) (ws : List Wt) : canF x t k q ws = canRF x t k q ws := by
  unfold canF canRF
  cases ht : (bif decide (t < 0) then true else decide (t > 7)) with
  | true =>
    simp only [doR_out ht, cond_true, cond_false]
    have : (bif (bif x.kd == 5 then decide (t ≥ 0) else false) then decide (t < 8) else false) = false := by
      cases (x.kd == 5) with
      | false => rfl
      | true =>
        simp at ht ⊢
        omega
    rw [this]
    cases (k == 1) <;> cases (k == 4) <;> cases (k == 8) <;> cases (k == 13) <;> cases (k == 10) <;> cases (k == 19) <;> rfl
  | false =>
    have h0 : decide (t ≥ 0) = true := by simp at ht ⊢; omega
    have h8 : decide (t < 8) = true := by simp at ht ⊢; omega
    have sw : ∀ a b : Bool, (bif a then b else false) = (bif b then a else false) := fun a b => by cases a <;> cases b <;> rfl
    simp only [h0, h8, cond_true, cond_false]
    by_cases h1 : k = 1
    · subst h1; rw [sw (x.kd == 1)]; cases (x.kd == 5) <;> rfl
    · by_cases h4 : k = 4
      · subst h4; rw [sw (x.kd == 2)]; rfl
      · by_cases h6 : k = 8
        · subst h6; rw [sw (x.kd == 3)]; rfl
        · by_cases h13 : k = 13
          · subst h13; rw [sw (x.kd == 4) (doRF x t 1 1 ws).2.2]; rfl
          · by_cases h10 : k = 10
            · subst h10; rw [sw (x.kd == 4) (doRF x t 2 0 ws).2.2]; rfl
            · by_cases h19 : k = 19
              · subst h19; cases (x.kd == 5) <;> rfl
              · simp only [beqF h1, beqF h4, beqF h6, beqF h13, beqF h10, beqF h19, cond_false]
                exact sw _ _
end Go.Proofs.Ytnenbngjdekegaa.X

/- The model: are two things the same: tree. -/
set_option linter.unusedVariables false
set_option linter.unusedSimpArgs false
namespace Go.Proofs.Ytnenbngjdekegaa.X
open Go Go.RowKit Go.Proofs.YtnenbngjdekegaaW.PrintWords Go.Proofs.Ytnenbngjdekegaa.Base
def sameP (wa wb : List Wt) (la lb n i : Nat) : Prop := i ≤ n ∧ ∀ j, j < i → wa.getD (la + j) (0, 0) = wb.getD (lb + j) (0, 0)
theorem sameP0 (wa wb : List Wt) (la lb n : Nat) : sameP wa wb la lb n 0 := ⟨Nat.zero_le _, fun j hj => absurd hj (Nat.not_lt_zero _)⟩
def sameInv (x y : Thg) (wa wb : List Wt) (oa ob : Bool) (la na ca ra lb nb cb rb : Nat) : LoopInv :=
  ⟨{i : Nat // sameP wa wb la lb na i}, fun i => ([(5, ia i.1), (2, .a (.c (.ptr (bref 2 15)))), (3, .a (.c (.ptr (bref 3 15))))], [Ent.ws oa ra wa, Ent.ws ob rb wb, Ent.mkBox TT (x.cv (.sl 0 0 la 2 na ca)), Ent.mkBox TT (y.cv (.sl 1 0 lb 2 nb cb))]), fun i => na - i.1, some ⟨0, sameP0 wa wb la lb na⟩, [], .l [0, 1, 2, 3], [], fun _ _ => .l [0, 1, 2, 3]⟩
def tsame (x y : Thg) (wa wb : List Wt) (oa ob : Bool) (la na ca ra lb nb cb rb : Nat) : Tree :=
  Tree.chk ((!x.1 != y.1) = true → (!x.1 != y.1) = true)
   (Tree.chk ((!x.1 != y.1) = true → (!x.1 != y.1) = true)
   (Tree.chk ((!x.1 != y.1) = true → (!x.1 != y.1) = true)
   (Tree.chk ((!x.1 != y.1) = true → (!x.1 != y.1) = true)
   (Tree.chk ((x.1 != y.1) = false → (!x.1 != y.1) = true)
   (Tree.chk ((!bif x.1 != y.1 then true else x.2 != y.2) = true → (!bif x.1 != y.1 then true else x.2 != y.2) = true)
   (Tree.chk ((!bif x.1 != y.1 then true else x.2 != y.2) = true → (!bif x.1 != y.1 then true else x.2 != y.2) = true)
   (Tree.chk ((!bif x.1 != y.1 then true else x.2 != y.2) = true → (!bif x.1 != y.1 then true else x.2 != y.2) = true)
   (Tree.chk ((!bif x.1 != y.1 then true else x.2 != y.2) = true → (!bif x.1 != y.1 then true else x.2 != y.2) = true)
   (Tree.chk ((bif x.1 != y.1 then true else x.2 != y.2) = false → (!bif x.1 != y.1 then true else x.2 != y.2) = true)
   (Tree.chk ((!bif bif x.1 != y.1 then true else x.2 != y.2 then true else x.3 != y.3) = true → (!bif bif x.1 != y.1 then true else x.2 != y.2 then true else x.3 != y.3) = true)
   (Tree.chk ((!bif bif x.1 != y.1 then true else x.2 != y.2 then true else x.3 != y.3) = true → (!bif bif x.1 != y.1 then true else x.2 != y.2 then true else x.3 != y.3) = true)
   (Tree.chk ((!bif bif x.1 != y.1 then true else x.2 != y.2 then true else x.3 != y.3) = true → (!bif bif x.1 != y.1 then true else x.2 != y.2 then true else x.3 != y.3) = true)
   (Tree.chk ((!bif bif x.1 != y.1 then true else x.2 != y.2 then true else x.3 != y.3) = true → (!bif bif x.1 != y.1 then true else x.2 != y.2 then true else x.3 != y.3) = true)
   (Tree.chk ((bif bif x.1 != y.1 then true else x.2 != y.2 then true else x.3 != y.3) = false → (!bif bif x.1 != y.1 then true else x.2 != y.2 then true else x.3 != y.3) = true)
   (Tree.chk ((!bif bif bif x.1 != y.1 then true else x.2 != y.2 then true else x.3 != y.3 then true else x.4 != y.4) = true → (!bif bif bif x.1 != y.1 then true else x.2 != y.2 then true else x.3 != y.3 then true else x.4 != y.4) = true)
   (Tree.chk ((!bif bif bif x.1 != y.1 then true else x.2 != y.2 then true else x.3 != y.3 then true else x.4 != y.4) = true → (!bif bif bif x.1 != y.1 then true else x.2 != y.2 then true else x.3 != y.3 then true else x.4 != y.4) = true)
   (Tree.chk ((!bif bif bif x.1 != y.1 then true else x.2 != y.2 then true else x.3 != y.3 then true else x.4 != y.4) = true → (!bif bif bif x.1 != y.1 then true else x.2 != y.2 then true else x.3 != y.3 then true else x.4 != y.4) = true)
   (Tree.chk ((!bif bif bif x.1 != y.1 then true else x.2 != y.2 then true else x.3 != y.3 then true else x.4 != y.4) = true → (!bif bif bif x.1 != y.1 then true else x.2 != y.2 then true else x.3 != y.3 then true else x.4 != y.4) = true)
   (Tree.chk ((bif bif bif x.1 != y.1 then true else x.2 != y.2 then true else x.3 != y.3 then true else x.4 != y.4) = false → (!bif bif bif x.1 != y.1 then true else x.2 != y.2 then true else x.3 != y.3 then true else x.4 != y.4) = true)
   (Tree.chk ((!bif bif bif bif x.1 != y.1 then true else x.2 != y.2 then true else x.3 != y.3 then true else x.4 != y.4 then true else !(x.5 == y.5 && (x.6 == y.6 && (x.7 == y.7 && (x.8 == y.8 && (x.9 == y.9 && (x.10 == y.10 && (x.11 == y.11 && x.12 == y.12)))))))) = true → (!bif bif bif bif x.1 != y.1 then true else x.2 != y.2 then true else x.3 != y.3 then true else x.4 != y.4 then true else !(x.5 == y.5 && (x.6 == y.6 && (x.7 == y.7 && (x.8 == y.8 && (x.9 == y.9 && (x.10 == y.10 && (x.11 == y.11 && x.12 == y.12)))))))) = true)
   (Tree.chk ((!bif bif bif bif x.1 != y.1 then true else x.2 != y.2 then true else x.3 != y.3 then true else x.4 != y.4 then true else !(x.5 == y.5 && (x.6 == y.6 && (x.7 == y.7 && (x.8 == y.8 && (x.9 == y.9 && (x.10 == y.10 && (x.11 == y.11 && x.12 == y.12)))))))) = true → (!bif bif bif bif x.1 != y.1 then true else x.2 != y.2 then true else x.3 != y.3 then true else x.4 != y.4 then true else !(x.5 == y.5 && (x.6 == y.6 && (x.7 == y.7 && (x.8 == y.8 && (x.9 == y.9 && (x.10 == y.10 && (x.11 == y.11 && x.12 == y.12)))))))) = true)
   (Tree.chk ((!bif bif bif bif x.1 != y.1 then true else x.2 != y.2 then true else x.3 != y.3 then true else x.4 != y.4 then true else !(x.5 == y.5 && (x.6 == y.6 && (x.7 == y.7 && (x.8 == y.8 && (x.9 == y.9 && (x.10 == y.10 && (x.11 == y.11 && x.12 == y.12)))))))) = true → (!bif bif bif bif x.1 != y.1 then true else x.2 != y.2 then true else x.3 != y.3 then true else x.4 != y.4 then true else !(x.5 == y.5 && (x.6 == y.6 && (x.7 == y.7 && (x.8 == y.8 && (x.9 == y.9 && (x.10 == y.10 && (x.11 == y.11 && x.12 == y.12)))))))) = true)
   (Tree.chk ((!bif bif bif bif x.1 != y.1 then true else x.2 != y.2 then true else x.3 != y.3 then true else x.4 != y.4 then true else !(x.5 == y.5 && (x.6 == y.6 && (x.7 == y.7 && (x.8 == y.8 && (x.9 == y.9 && (x.10 == y.10 && (x.11 == y.11 && x.12 == y.12)))))))) = true → (!bif bif bif bif x.1 != y.1 then true else x.2 != y.2 then true else x.3 != y.3 then true else x.4 != y.4 then true else !(x.5 == y.5 && (x.6 == y.6 && (x.7 == y.7 && (x.8 == y.8 && (x.9 == y.9 && (x.10 == y.10 && (x.11 == y.11 && x.12 == y.12)))))))) = true)
   (Tree.chk ((bif bif bif bif x.1 != y.1 then true else x.2 != y.2 then true else x.3 != y.3 then true else x.4 != y.4 then true else !(x.5 == y.5 && (x.6 == y.6 && (x.7 == y.7 && (x.8 == y.8 && (x.9 == y.9 && (x.10 == y.10 && (x.11 == y.11 && x.12 == y.12)))))))) = false → (!bif bif bif bif x.1 != y.1 then true else x.2 != y.2 then true else x.3 != y.3 then true else x.4 != y.4 then true else !(x.5 == y.5 && (x.6 == y.6 && (x.7 == y.7 && (x.8 == y.8 && (x.9 == y.9 && (x.10 == y.10 && (x.11 == y.11 && x.12 == y.12)))))))) = true)
   (Tree.chk ((!bif bif bif bif bif x.1 != y.1 then true else x.2 != y.2 then true else x.3 != y.3 then true else x.4 != y.4 then true else !(x.5 == y.5 && (x.6 == y.6 && (x.7 == y.7 && (x.8 == y.8 && (x.9 == y.9 && (x.10 == y.10 && (x.11 == y.11 && x.12 == y.12))))))) then true else x.13 != y.13) = true → (!bif bif bif bif bif x.1 != y.1 then true else x.2 != y.2 then true else x.3 != y.3 then true else x.4 != y.4 then true else !(x.5 == y.5 && (x.6 == y.6 && (x.7 == y.7 && (x.8 == y.8 && (x.9 == y.9 && (x.10 == y.10 && (x.11 == y.11 && x.12 == y.12))))))) then true else x.13 != y.13) = true)
   (Tree.chk ((!bif bif bif bif bif x.1 != y.1 then true else x.2 != y.2 then true else x.3 != y.3 then true else x.4 != y.4 then true else !(x.5 == y.5 && (x.6 == y.6 && (x.7 == y.7 && (x.8 == y.8 && (x.9 == y.9 && (x.10 == y.10 && (x.11 == y.11 && x.12 == y.12))))))) then true else x.13 != y.13) = true → (!bif bif bif bif bif x.1 != y.1 then true else x.2 != y.2 then true else x.3 != y.3 then true else x.4 != y.4 then true else !(x.5 == y.5 && (x.6 == y.6 && (x.7 == y.7 && (x.8 == y.8 && (x.9 == y.9 && (x.10 == y.10 && (x.11 == y.11 && x.12 == y.12))))))) then true else x.13 != y.13) = true)
   (Tree.chk ((!bif bif bif bif bif x.1 != y.1 then true else x.2 != y.2 then true else x.3 != y.3 then true else x.4 != y.4 then true else !(x.5 == y.5 && (x.6 == y.6 && (x.7 == y.7 && (x.8 == y.8 && (x.9 == y.9 && (x.10 == y.10 && (x.11 == y.11 && x.12 == y.12))))))) then true else x.13 != y.13) = true → (!bif bif bif bif bif x.1 != y.1 then true else x.2 != y.2 then true else x.3 != y.3 then true else x.4 != y.4 then true else !(x.5 == y.5 && (x.6 == y.6 && (x.7 == y.7 && (x.8 == y.8 && (x.9 == y.9 && (x.10 == y.10 && (x.11 == y.11 && x.12 == y.12))))))) then true else x.13 != y.13) = true)
   (Tree.chk ((!bif bif bif bif bif x.1 != y.1 then true else x.2 != y.2 then true else x.3 != y.3 then true else x.4 != y.4 then true else !(x.5 == y.5 && (x.6 == y.6 && (x.7 == y.7 && (x.8 == y.8 && (x.9 == y.9 && (x.10 == y.10 && (x.11 == y.11 && x.12 == y.12))))))) then true else x.13 != y.13) = true → (!bif bif bif bif bif x.1 != y.1 then true else x.2 != y.2 then true else x.3 != y.3 then true else x.4 != y.4 then true else !(x.5 == y.5 && (x.6 == y.6 && (x.7 == y.7 && (x.8 == y.8 && (x.9 == y.9 && (x.10 == y.10 && (x.11 == y.11 && x.12 == y.12))))))) then true else x.13 != y.13) = true)
   (Tree.chk ((bif bif bif bif bif x.1 != y.1 then true else x.2 != y.2 then true else x.3 != y.3 then true else x.4 != y.4 then true else !(x.5 == y.5 && (x.6 == y.6 && (x.7 == y.7 && (x.8 == y.8 && (x.9 == y.9 && (x.10 == y.10 && (x.11 == y.11 && x.12 == y.12))))))) then true else x.13 != y.13) = false → (!bif bif bif bif bif x.1 != y.1 then true else x.2 != y.2 then true else x.3 != y.3 then true else x.4 != y.4 then true else !(x.5 == y.5 && (x.6 == y.6 && (x.7 == y.7 && (x.8 == y.8 && (x.9 == y.9 && (x.10 == y.10 && (x.11 == y.11 && x.12 == y.12))))))) then true else x.13 != y.13) = true)
   (Tree.chk ((!bif bif bif bif bif bif x.1 != y.1 then true else x.2 != y.2 then true else x.3 != y.3 then true else x.4 != y.4 then true else !(x.5 == y.5 && (x.6 == y.6 && (x.7 == y.7 && (x.8 == y.8 && (x.9 == y.9 && (x.10 == y.10 && (x.11 == y.11 && x.12 == y.12))))))) then true else x.13 != y.13 then true else x.14 != y.14) = true → (!bif bif bif bif bif bif x.1 != y.1 then true else x.2 != y.2 then true else x.3 != y.3 then true else x.4 != y.4 then true else !(x.5 == y.5 && (x.6 == y.6 && (x.7 == y.7 && (x.8 == y.8 && (x.9 == y.9 && (x.10 == y.10 && (x.11 == y.11 && x.12 == y.12))))))) then true else x.13 != y.13 then true else x.14 != y.14) = true)
   (Tree.chk ((!bif bif bif bif bif bif x.1 != y.1 then true else x.2 != y.2 then true else x.3 != y.3 then true else x.4 != y.4 then true else !(x.5 == y.5 && (x.6 == y.6 && (x.7 == y.7 && (x.8 == y.8 && (x.9 == y.9 && (x.10 == y.10 && (x.11 == y.11 && x.12 == y.12))))))) then true else x.13 != y.13 then true else x.14 != y.14) = true → (!bif bif bif bif bif bif x.1 != y.1 then true else x.2 != y.2 then true else x.3 != y.3 then true else x.4 != y.4 then true else !(x.5 == y.5 && (x.6 == y.6 && (x.7 == y.7 && (x.8 == y.8 && (x.9 == y.9 && (x.10 == y.10 && (x.11 == y.11 && x.12 == y.12))))))) then true else x.13 != y.13 then true else x.14 != y.14) = true)
   (Tree.chk ((!bif bif bif bif bif bif x.1 != y.1 then true else x.2 != y.2 then true else x.3 != y.3 then true else x.4 != y.4 then true else !(x.5 == y.5 && (x.6 == y.6 && (x.7 == y.7 && (x.8 == y.8 && (x.9 == y.9 && (x.10 == y.10 && (x.11 == y.11 && x.12 == y.12))))))) then true else x.13 != y.13 then true else x.14 != y.14) = true → (!bif bif bif bif bif bif x.1 != y.1 then true else x.2 != y.2 then true else x.3 != y.3 then true else x.4 != y.4 then true else !(x.5 == y.5 && (x.6 == y.6 && (x.7 == y.7 && (x.8 == y.8 && (x.9 == y.9 && (x.10 == y.10 && (x.11 == y.11 && x.12 == y.12))))))) then true else x.13 != y.13 then true else x.14 != y.14) = true)
   (Tree.chk ((!bif bif bif bif bif bif x.1 != y.1 then true else x.2 != y.2 then true else x.3 != y.3 then true else x.4 != y.4 then true else !(x.5 == y.5 && (x.6 == y.6 && (x.7 == y.7 && (x.8 == y.8 && (x.9 == y.9 && (x.10 == y.10 && (x.11 == y.11 && x.12 == y.12))))))) then true else x.13 != y.13 then true else x.14 != y.14) = true → (!bif bif bif bif bif bif x.1 != y.1 then true else x.2 != y.2 then true else x.3 != y.3 then true else x.4 != y.4 then true else !(x.5 == y.5 && (x.6 == y.6 && (x.7 == y.7 && (x.8 == y.8 && (x.9 == y.9 && (x.10 == y.10 && (x.11 == y.11 && x.12 == y.12))))))) then true else x.13 != y.13 then true else x.14 != y.14) = true)
   (Tree.chk ((!bif bif bif bif bif bif x.1 != y.1 then true else x.2 != y.2 then true else x.3 != y.3 then true else x.4 != y.4 then true else !(x.5 == y.5 && (x.6 == y.6 && (x.7 == y.7 && (x.8 == y.8 && (x.9 == y.9 && (x.10 == y.10 && (x.11 == y.11 && x.12 == y.12))))))) then true else x.13 != y.13 then true else x.14 != y.14) = true → (!bif bif bif bif bif bif x.1 != y.1 then true else x.2 != y.2 then true else x.3 != y.3 then true else x.4 != y.4 then true else !(x.5 == y.5 && (x.6 == y.6 && (x.7 == y.7 && (x.8 == y.8 && (x.9 == y.9 && (x.10 == y.10 && (x.11 == y.11 && x.12 == y.12))))))) then true else x.13 != y.13 then true else x.14 != y.14) = true)
   (Tree.chk ((!bif bif bif bif bif bif x.1 != y.1 then true else x.2 != y.2 then true else x.3 != y.3 then true else x.4 != y.4 then true else !(x.5 == y.5 && (x.6 == y.6 && (x.7 == y.7 && (x.8 == y.8 && (x.9 == y.9 && (x.10 == y.10 && (x.11 == y.11 && x.12 == y.12))))))) then true else x.13 != y.13 then true else x.14 != y.14) = true → (!bif bif bif bif bif bif x.1 != y.1 then true else x.2 != y.2 then true else x.3 != y.3 then true else x.4 != y.4 then true else !(x.5 == y.5 && (x.6 == y.6 && (x.7 == y.7 && (x.8 == y.8 && (x.9 == y.9 && (x.10 == y.10 && (x.11 == y.11 && x.12 == y.12))))))) then true else x.13 != y.13 then true else x.14 != y.14) = true)
   (Tree.chk ((bif bif bif bif bif bif x.1 != y.1 then true else x.2 != y.2 then true else x.3 != y.3 then true else x.4 != y.4 then true else !(x.5 == y.5 && (x.6 == y.6 && (x.7 == y.7 && (x.8 == y.8 && (x.9 == y.9 && (x.10 == y.10 && (x.11 == y.11 && x.12 == y.12))))))) then true else x.13 != y.13 then true else x.14 != y.14) = false → (!bif bif bif bif bif bif x.1 != y.1 then true else x.2 != y.2 then true else x.3 != y.3 then true else x.4 != y.4 then true else !(x.5 == y.5 && (x.6 == y.6 && (x.7 == y.7 && (x.8 == y.8 && (x.9 == y.9 && (x.10 == y.10 && (x.11 == y.11 && x.12 == y.12))))))) then true else x.13 != y.13 then true else x.14 != y.14) = true)
   (Tree.br (bif bif bif bif bif bif bif x.1 != y.1 then true else x.2 != y.2 then true else x.3 != y.3 then true else x.4 != y.4 then true else !(x.5 == y.5 && (x.6 == y.6 && (x.7 == y.7 && (x.8 == y.8 && (x.9 == y.9 && (x.10 == y.10 && (x.11 == y.11 && x.12 == y.12))))))) then true else x.13 != y.13 then true else x.14 != y.14 then true else (↑na : Int) != (↑nb : Int))
   (Tree.done (XV.a (AV.c (CV.v (Value.bool false)))) [(Ent.ws oa ra wa), (Ent.ws ob rb wb), Ent.dead, Ent.dead])
   (Tree.both
   (Tree.chk (XV.a (AV.c (iv (0 : Int))) = XV.a (AV.c (iv (0 : Int))))
   (Tree.chk (XV.a (AV.c (CV.ptr { k := 2, j := 0, i := 0, sz := 15, c := 0, d := 0, dn := 0, cu := 0 })) = XV.a (AV.c (CV.ptr { k := 2, j := 0, i := 0, sz := 15, c := 0, d := 0, dn := 0, cu := 0 })))
   (Tree.chk (XV.a (AV.c (CV.ptr { k := 3, j := 0, i := 0, sz := 15, c := 0, d := 0, dn := 0, cu := 0 })) = XV.a (AV.c (CV.ptr { k := 3, j := 0, i := 0, sz := 15, c := 0, d := 0, dn := 0, cu := 0 })))
   (Tree.chk (EntRel 4 [0, 1, 2, 3] 4 (Ent.ws oa ra wa) (Ent.ws oa ra wa))
   (Tree.chk (EntRel 4 [0, 1, 2, 3] 4 (Ent.ws ob rb wb) (Ent.ws ob rb wb))
   (Tree.chk (EntRel 4 [0, 1, 2, 3] 4 (Ent.mkBox 25 [iv x.1, iv x.2, iv x.3, iv x.4, iv x.5, iv x.6, iv x.7, iv x.8, iv x.9, iv x.10, iv x.11, iv x.12, CV.sl 0 0 la 2 na ca, iv x.13, iv x.14]) (Ent.mkBox 25 [iv x.1, iv x.2, iv x.3, iv x.4, iv x.5, iv x.6, iv x.7, iv x.8, iv x.9, iv x.10, iv x.11, iv x.12, CV.sl 0 0 la 2 na ca, iv x.13, iv x.14]))
   (Tree.chk (EntRel 4 [0, 1, 2, 3] 4 (Ent.mkBox 25 [iv y.1, iv y.2, iv y.3, iv y.4, iv y.5, iv y.6, iv y.7, iv y.8, iv y.9, iv y.10, iv y.11, iv y.12, CV.sl 1 0 lb 2 nb cb, iv y.13, iv y.14]) (Ent.mkBox 25 [iv y.1, iv y.2, iv y.3, iv y.4, iv y.5, iv y.6, iv y.7, iv y.8, iv y.9, iv y.10, iv y.11, iv y.12, CV.sl 1 0 lb 2 nb cb, iv y.13, iv y.14]))
   (Tree.need True))))))))
   (Tree.every { i // sameP wa wb la lb na i } fun s => Tree.br (decide ((↑(Subtype.val s) : Int) < (↑na : Int)))
   (Tree.chk ((0 : Int) ≤ (↑(Subtype.val s) : Int) ∧ (↑(Subtype.val s) : Int) < (↑na : Int) ∧ Nat.rec (Int.toNat (↑(Subtype.val s) : Int)) (fun n n_ih => n + 1 + Int.toNat (↑(Subtype.val s) : Int)) la < List.length wa ∧ 0 < 1)
   (Tree.chk (0 < 1 ∧ Nat.rec (Int.toNat (↑(Subtype.val s) : Int)) (fun n n_ih => n + 1 + Int.toNat (↑(Subtype.val s) : Int)) la < List.length wa)
   (Tree.chk ((0 : Int) ≤ (↑(Subtype.val s) : Int) ∧ (↑(Subtype.val s) : Int) < (↑nb : Int) ∧ Nat.rec (Int.toNat (↑(Subtype.val s) : Int)) (fun n n_ih => n + 1 + Int.toNat (↑(Subtype.val s) : Int)) lb < List.length wb ∧ 0 < 1)
   (Tree.chk (0 < 1 ∧ Nat.rec (Int.toNat (↑(Subtype.val s) : Int)) (fun n n_ih => n + 1 + Int.toNat (↑(Subtype.val s) : Int)) lb < List.length wb)
   (Tree.br (!(Prod.fst (List.getD wa (Nat.rec (Int.toNat (↑(Subtype.val s) : Int)) (fun n n_ih => n + 1 + Int.toNat (↑(Subtype.val s) : Int)) la) ((0 : Int), (0 : Int))) == Prod.fst (List.getD wb (Nat.rec (Int.toNat (↑(Subtype.val s) : Int)) (fun n n_ih => n + 1 + Int.toNat (↑(Subtype.val s) : Int)) lb) ((0 : Int), (0 : Int))) && Prod.snd (List.getD wa (Nat.rec (Int.toNat (↑(Subtype.val s) : Int)) (fun n n_ih => n + 1 + Int.toNat (↑(Subtype.val s) : Int)) la) ((0 : Int), (0 : Int))) == Prod.snd (List.getD wb (Nat.rec (Int.toNat (↑(Subtype.val s) : Int)) (fun n n_ih => n + 1 + Int.toNat (↑(Subtype.val s) : Int)) lb) ((0 : Int), (0 : Int)))))
   (Tree.done (XV.a (AV.c (CV.v (Value.bool false)))) [(Ent.ws oa ra wa), (Ent.ws ob rb wb), Ent.dead, Ent.dead])
   (Tree.some_ { i // sameP wa wb la lb na i } fun s' => Tree.chk (na - Subtype.val s' < na - Subtype.val s)
   (Tree.chk (XV.a (AV.c (iv (IntKind.wrap IntKind.i64 ((↑(Subtype.val s) : Int) + (1 : Int))))) = XV.a (AV.c (iv (↑(Subtype.val s') : Int))))
   (Tree.chk (XV.a (AV.c (CV.ptr { k := 2, j := 0, i := 0, sz := 15, c := 0, d := 0, dn := 0, cu := 0 })) = XV.a (AV.c (CV.ptr { k := 2, j := 0, i := 0, sz := 15, c := 0, d := 0, dn := 0, cu := 0 })))
   (Tree.chk (XV.a (AV.c (CV.ptr { k := 3, j := 0, i := 0, sz := 15, c := 0, d := 0, dn := 0, cu := 0 })) = XV.a (AV.c (CV.ptr { k := 3, j := 0, i := 0, sz := 15, c := 0, d := 0, dn := 0, cu := 0 })))
   (Tree.chk (EntRel 4 [0, 1, 2, 3] 4 { own := oa, box := false, ty := 37, sz := 2, m := 1, n := fun x => List.length wa, cap := fun x => ra, f := fun x i => [iv (Prod.fst (List.getD wa i ((0 : Int), (0 : Int)))), iv (Prod.snd (List.getD wa i ((0 : Int), (0 : Int))))], ov := [] } { own := oa, box := false, ty := 37, sz := 2, m := 1, n := fun x => List.length wa, cap := fun x => ra, f := fun x i => [iv (Prod.fst (List.getD wa i ((0 : Int), (0 : Int)))), iv (Prod.snd (List.getD wa i ((0 : Int), (0 : Int))))], ov := [] })
   (Tree.chk (EntRel 4 [0, 1, 2, 3] 4 { own := ob, box := false, ty := 37, sz := 2, m := 1, n := fun x => List.length wb, cap := fun x => rb, f := fun x i => [iv (Prod.fst (List.getD wb i ((0 : Int), (0 : Int)))), iv (Prod.snd (List.getD wb i ((0 : Int), (0 : Int))))], ov := [] } { own := ob, box := false, ty := 37, sz := 2, m := 1, n := fun x => List.length wb, cap := fun x => rb, f := fun x i => [iv (Prod.fst (List.getD wb i ((0 : Int), (0 : Int)))), iv (Prod.snd (List.getD wb i ((0 : Int), (0 : Int))))], ov := [] })
   (Tree.chk (EntRel 4 [0, 1, 2, 3] 4 { own := true, box := true, ty := 25, sz := 15, m := 1, n := fun x => 1, cap := fun x => 1, f := fun x_1 x_2 => [iv x.1, iv x.2, iv x.3, iv x.4, iv x.5, iv x.6, iv x.7, iv x.8, iv x.9, iv x.10, iv x.11, iv x.12, CV.sl 0 0 la 2 na ca, iv x.13, iv x.14], ov := [] } { own := true, box := true, ty := 25, sz := 15, m := 1, n := fun x => 1, cap := fun x => 1, f := fun x_1 x_2 => [iv x.1, iv x.2, iv x.3, iv x.4, iv x.5, iv x.6, iv x.7, iv x.8, iv x.9, iv x.10, iv x.11, iv x.12, CV.sl 0 0 la 2 na ca, iv x.13, iv x.14], ov := [] })
   (Tree.chk (EntRel 4 [0, 1, 2, 3] 4 { own := true, box := true, ty := 25, sz := 15, m := 1, n := fun x => 1, cap := fun x => 1, f := fun x x_1 => [iv y.1, iv y.2, iv y.3, iv y.4, iv y.5, iv y.6, iv y.7, iv y.8, iv y.9, iv y.10, iv y.11, iv y.12, CV.sl 1 0 lb 2 nb cb, iv y.13, iv y.14], ov := [] } { own := true, box := true, ty := 25, sz := 15, m := 1, n := fun x => 1, cap := fun x => 1, f := fun x x_1 => [iv y.1, iv y.2, iv y.3, iv y.4, iv y.5, iv y.6, iv y.7, iv y.8, iv y.9, iv y.10, iv y.11, iv y.12, CV.sl 1 0 lb 2 nb cb, iv y.13, iv y.14], ov := [] })
   (Tree.need True))))))))))))))
   (Tree.done (XV.a (AV.c (CV.v (Value.bool true)))) [(Ent.ws oa ra wa), (Ent.ws ob rb wb), Ent.dead, Ent.dead]))))))))))))))))))))))))))))))))))))))))
theorem tsame_eq (x y : Thg) (wa wb : List Wt) (oa ob : Bool) (la na ca ra lb nb cb rb : Nat) : xfunc tab noCtr (lpI fun _ tm H => (sameInv x y wa wb oa ob la na ca ra lb nb cb rb)) Go.Proofs.Try.f12 [x.av 0 la na ca, y.av 1 lb nb cb] [Ent.ws oa ra wa, Ent.ws ob rb wb] [0, 1] = tsame x y wa wb oa ob la na ca ra lb nb cb rb := by kernel_rfl
end Go.Proofs.Ytnenbngjdekegaa.X

/- The model: are two things the same, proved. -/
set_option linter.unusedVariables false
set_option linter.unusedSimpArgs false
namespace Go.Proofs.Ytnenbngjdekegaa.X
open Go Go.RowKit Go.Proofs.YtnenbngjdekegaaW.PrintWords Go.Proofs.Ytnenbngjdekegaa.Base
def thgEq (x y : Thg) : Bool := x.kd == y.kd && (x.n == y.n && (x.o == y.o && (x.h == y.h && (x.r0 == y.r0 && (x.r1 == y.r1 && (x.r2 == y.r2 && (x.r3 == y.r3 && (x.r4 == y.r4 && (x.r5 == y.r5 && (x.r6 == y.r6 && (x.r7 == y.r7 && (x.f == y.f && x.i == y.i))))))))))))
theorem thgEq_iff {x y : Thg} : thgEq x y = true ↔ x = y := by
  cases x; cases y
  simp [thgEq]
def sameF (x y : Thg) (wa wb : List Wt) : Bool := thgEq x y && decide (wa = wb)
theorem sameF_iff {x y : Thg} {wa wb : List Wt} : sameF x y wa wb = true ↔ x = y ∧ wa = wb := by simp [sameF, thgEq_iff]
def eq2C (x y : Thg) (wa wb : List Wt) (oa ob : Bool) (la na ca ra lb nb cb rb : Nat) (ρ : List Nat) : CallSpec := rdSpec ρ [x.av 0 la na ca, y.av 1 lb nb cb] [Ent.ws oa ra wa, Ent.ws ob rb wb] (.a (.c (.v (.bool (sameF x y (wsub wa la na) (wsub wb lb nb))))))
theorem wt_ext {wa wb : List Wt} (hl : wa.length = wb.length) (h : ∀ i, i < wa.length → wa.getD i (0, 0) = wb.getD i (0, 0)) : wa = wb := by
  refine List.ext_getElem hl fun i h1 h2 => ?_
  have := h i h1
  simpa [List.getD_eq_getElem?_getD, h1, h2] using this
theorem eq2_local (x y : Thg) (wa wb : List Wt) (oa ob : Bool) (la na ca ra lb nb cb rb : Nat) (ρ : List Nat) (ha : la + na ≤ wa.length) (hb : lb + nb ≤ wb.length) (hl : na ≤ 1000000) : (eq2C x y wa wb oa ob la na ca ra lb nb cb rb ρ).Local Try.prog 12 := by
  refine local_of Try.func12 rfl (tsame_eq x y wa wb oa ob la na ca ra lb nb cb rb) fun ν w => ?_
  have la' := wsub_length wa ha
  have lb' := wsub_length wb hb
  repeat (refine ok_chk' (fun h => h) ?_)
  repeat' first | refine ok_chk' (fun h => h) ?_ | refine ok_chk' (fun h => by rw [h]; try rfl) ?_
  refine ok_br' (fun h => ?_) fun h => ?_
  · refine ok_leaf (fun _ => 0) [] [0, 1] trivial ?_ ⟨⟨_, rfl, EntRel.ws⟩, ⟨_, rfl, EntRel.ws⟩, trivial⟩ rfl
    show XV.a (.c (.v (.bool false))) = .a (.c (.v (.bool (sameF x y (wsub wa la na) (wsub wb lb nb)))))
    cases hs : sameF x y (wsub wa la na) (wsub wb lb nb) with
    | false => rfl
    | true =>
      obtain ⟨rfl, hw⟩ := sameF_iff.1 hs
      have hn := congrArg List.length hw
      rw [la', lb'] at hn
      subst hn
      simp at h
  · obtain ⟨rfl, rfl⟩ : x = y ∧ na = nb := by
      cases x; cases y
      simp at h
      simp_all
      omega
    refine ok_both' ?_ (ok_every' fun s => ?_)
    · repeat' first | exact rfl | exact EntRel.ws | exact EntRel.box' rfl rfl rfl rfl rfl | exact trivial | refine ok_chk' ?_ ?_
    · obtain ⟨i, hi, hs⟩ := s
      refine ok_br' (fun h2 => ?_) fun h2 => ?_
      · have h2 : decide ((i : Int) < (na : Int)) = true := h2
        have h2 : i < na := by simp only [decide_eq_true_eq] at h2; omega
        simp only [rec_plus, plus_eq, Int.toNat_natCast]
        refine ok_chk' ⟨by omega, by omega, by omega, by omega⟩ (ok_chk' ⟨by omega, by omega⟩ (ok_chk' ⟨by omega, by omega, by omega, by omega⟩ (ok_chk' ⟨by omega, by omega⟩ (ok_br' (fun h3 => ?_) fun h3 => ?_))))
        · refine ok_leaf (fun _ => 0) [] [0, 1] trivial ?_ ⟨⟨_, rfl, EntRel.ws⟩, ⟨_, rfl, EntRel.ws⟩, trivial⟩ rfl
          show XV.a (.c (.v (.bool false))) = .a (.c (.v (.bool (sameF x x (wsub wa la na) (wsub wb lb na)))))
          cases hs2 : sameF x x (wsub wa la na) (wsub wb lb na) with
          | false => rfl
          | true =>
            have hw := (sameF_iff.1 hs2).2
            have e1 := wsub_get wa (lo := la) h2
            have e2 := wsub_get wb (lo := lb) h2
            rw [hw, e2] at e1
            rw [← e1] at h3
            simp at h3
        · refine ok_some' ⟨i + 1, h2, fun j hj => ?_⟩ (ok_chk' (Nat.sub_lt_sub_left h2 (Nat.lt_succ_self _)) (ok_chk' ?_ ?_))
          · by_cases hji : j = i
            · subst hji
              simp only [Bool.not_eq_false', Bool.and_eq_true, beq_iff_eq] at h3
              exact Prod.ext h3.1 h3.2
            · exact hs j (by omega)
          · (rw [wrap64 (by omega) (by omega)]; try rfl)
          · repeat' first | exact rfl | exact EntRel.ws | exact EntRel.box' rfl rfl rfl rfl rfl | exact trivial | refine ok_chk' ?_ ?_
      · have h2 : decide ((i : Int) < (na : Int)) = false := h2
        have h2 : i = na := by simp only [decide_eq_false_iff_not] at h2; omega
        subst h2
        refine ok_leaf (fun _ => 0) [] [0, 1] trivial ?_ ⟨⟨_, rfl, EntRel.ws⟩, ⟨_, rfl, EntRel.ws⟩, trivial⟩ rfl
        show XV.a (.c (.v (.bool true))) = .a (.c (.v (.bool (sameF x x (wsub wa la i) (wsub wb lb i)))))
        rw [sameF_iff.2 ⟨rfl, wt_ext (by rw [la', lb']) fun j hj => ?_⟩]
        rw [la'] at hj
        rw [wsub_get wa hj, wsub_get wb hj]
        exact hs j hj
end Go.Proofs.Ytnenbngjdekegaa.X

/- The laws of the model: the head of all, and what is light: trees. -/
set_option linter.unusedVariables false
set_option linter.unusedSimpArgs false
namespace Go.Proofs.Ytnenbngjdekegaa.X
open Go Go.RowKit Go.Proofs.YtnenbngjdekegaaW.PrintWords Go.Proofs.Ytnenbngjdekegaa.Base
abbrev Gh : Type := List Wt × Bool × Nat
def bi (b : Bool) : XV := .a (.c (.v (.bool b)))
def lightB0 (x : Thg) (n : Nat) : Bool := bif (bif (bif (bif decide (x.n ≥ -1000000) then decide (x.n ≤ 1000000) else false) then decide (x.h ≥ -1000000) else false) then decide (x.h ≤ 1000000) else false) then decide ((n : Int) ≤ 100) else false
def lightF (x : Thg) (n : Nat) : Nat → Bool
  | 0 => lightB0 x n
  | i + 1 => bif (bif lightF x n i then decide (x.rs.getD i 0 ≥ -1000000) else false) then decide (x.rs.getD i 0 ≤ 1000000) else false
def lightInv (x : Thg) (ws : List Wt) (own : Bool) (lo n cap rc : Nat) : LoopInv :=
  ⟨{i : Nat // le8 i}, fun i => ([(3, bi (lightF x n i.1)), (4, ia i.1), (1, .a (.c (.ptr (bref 1 15))))], [Ent.ws own rc ws, Ent.mkBox TT (x.cv (.sl 0 0 lo 2 n cap))]), fun i => 8 - i.1, some ⟨0, Nat.zero_le _⟩, [], .l [0, 1], [], fun _ _ => .l [0, 1]⟩
def tlight (x : Thg) (ws : List Wt) (own : Bool) (lo n cap rc : Nat) : Tree :=
  Tree.chk (decide (x.2 ≥ (-1000000 : Int)) = true → decide (x.2 ≥ (-1000000 : Int)) = true)
   (Tree.chk (decide (x.2 ≥ (-1000000 : Int)) = true → decide (x.2 ≥ (-1000000 : Int)) = true)
   (Tree.chk (decide (x.2 ≥ (-1000000 : Int)) = true → decide (x.2 ≥ (-1000000 : Int)) = true)
   (Tree.chk ((bif decide (x.2 ≥ (-1000000 : Int)) then decide (x.2 ≤ (1000000 : Int)) else false) = true → (bif decide (x.2 ≥ (-1000000 : Int)) then decide (x.2 ≤ (1000000 : Int)) else false) = true)
   (Tree.chk ((bif decide (x.2 ≥ (-1000000 : Int)) then decide (x.2 ≤ (1000000 : Int)) else false) = true → (bif decide (x.2 ≥ (-1000000 : Int)) then decide (x.2 ≤ (1000000 : Int)) else false) = true)
   (Tree.chk ((bif decide (x.2 ≥ (-1000000 : Int)) then decide (x.2 ≤ (1000000 : Int)) else false) = true → (bif decide (x.2 ≥ (-1000000 : Int)) then decide (x.2 ≤ (1000000 : Int)) else false) = true)
   (Tree.chk ((bif bif decide (x.2 ≥ (-1000000 : Int)) then decide (x.2 ≤ (1000000 : Int)) else false then decide (x.4 ≥ (-1000000 : Int)) else false) = true → (bif bif decide (x.2 ≥ (-1000000 : Int)) then decide (x.2 ≤ (1000000 : Int)) else false then decide (x.4 ≥ (-1000000 : Int)) else false) = true)
   (Tree.chk ((bif bif decide (x.2 ≥ (-1000000 : Int)) then decide (x.2 ≤ (1000000 : Int)) else false then decide (x.4 ≥ (-1000000 : Int)) else false) = true → (bif bif decide (x.2 ≥ (-1000000 : Int)) then decide (x.2 ≤ (1000000 : Int)) else false then decide (x.4 ≥ (-1000000 : Int)) else false) = true)
   (Tree.chk ((bif bif decide (x.2 ≥ (-1000000 : Int)) then decide (x.2 ≤ (1000000 : Int)) else false then decide (x.4 ≥ (-1000000 : Int)) else false) = true → (bif bif decide (x.2 ≥ (-1000000 : Int)) then decide (x.2 ≤ (1000000 : Int)) else false then decide (x.4 ≥ (-1000000 : Int)) else false) = true)
   (Tree.chk ((bif bif bif decide (x.2 ≥ (-1000000 : Int)) then decide (x.2 ≤ (1000000 : Int)) else false then decide (x.4 ≥ (-1000000 : Int)) else false then decide (x.4 ≤ (1000000 : Int)) else false) = true → (bif bif bif decide (x.2 ≥ (-1000000 : Int)) then decide (x.2 ≤ (1000000 : Int)) else false then decide (x.4 ≥ (-1000000 : Int)) else false then decide (x.4 ≤ (1000000 : Int)) else false) = true)
   (Tree.chk ((bif bif bif decide (x.2 ≥ (-1000000 : Int)) then decide (x.2 ≤ (1000000 : Int)) else false then decide (x.4 ≥ (-1000000 : Int)) else false then decide (x.4 ≤ (1000000 : Int)) else false) = true → (bif bif bif decide (x.2 ≥ (-1000000 : Int)) then decide (x.2 ≤ (1000000 : Int)) else false then decide (x.4 ≥ (-1000000 : Int)) else false then decide (x.4 ≤ (1000000 : Int)) else false) = true)
   (Tree.chk ((bif bif bif decide (x.2 ≥ (-1000000 : Int)) then decide (x.2 ≤ (1000000 : Int)) else false then decide (x.4 ≥ (-1000000 : Int)) else false then decide (x.4 ≤ (1000000 : Int)) else false) = true → (bif bif bif decide (x.2 ≥ (-1000000 : Int)) then decide (x.2 ≤ (1000000 : Int)) else false then decide (x.4 ≥ (-1000000 : Int)) else false then decide (x.4 ≤ (1000000 : Int)) else false) = true)
   (Tree.chk ((bif bif bif decide (x.2 ≥ (-1000000 : Int)) then decide (x.2 ≤ (1000000 : Int)) else false then decide (x.4 ≥ (-1000000 : Int)) else false then decide (x.4 ≤ (1000000 : Int)) else false) = true → (bif bif bif decide (x.2 ≥ (-1000000 : Int)) then decide (x.2 ≤ (1000000 : Int)) else false then decide (x.4 ≥ (-1000000 : Int)) else false then decide (x.4 ≤ (1000000 : Int)) else false) = true)
   (Tree.both
   (Tree.chk (XV.a (AV.c (CV.v (Value.bool (bif bif bif bif decide (x.2 ≥ (-1000000 : Int)) then decide (x.2 ≤ (1000000 : Int)) else false then decide (x.4 ≥ (-1000000 : Int)) else false then decide (x.4 ≤ (1000000 : Int)) else false then decide ((↑n : Int) ≤ (100 : Int)) else false)))) = XV.a (AV.c (CV.v (Value.bool (lightF x n 0)))))
   (Tree.chk (XV.a (AV.c (iv (0 : Int))) = XV.a (AV.c (iv (0 : Int))))
   (Tree.chk (XV.a (AV.c (CV.ptr { k := 1, j := 0, i := 0, sz := 15, c := 0, d := 0, dn := 0, cu := 0 })) = XV.a (AV.c (CV.ptr { k := 1, j := 0, i := 0, sz := 15, c := 0, d := 0, dn := 0, cu := 0 })))
   (Tree.chk (EntRel 2 [0, 1] 2 (Ent.ws own rc ws) (Ent.ws own rc ws))
   (Tree.chk (EntRel 2 [0, 1] 2 (Ent.mkBox 25 [iv x.1, iv x.2, iv x.3, iv x.4, iv x.5, iv x.6, iv x.7, iv x.8, iv x.9, iv x.10, iv x.11, iv x.12, CV.sl 0 0 lo 2 n cap, iv x.13, iv x.14]) (Ent.mkBox 25 [iv x.1, iv x.2, iv x.3, iv x.4, iv x.5, iv x.6, iv x.7, iv x.8, iv x.9, iv x.10, iv x.11, iv x.12, CV.sl 0 0 lo 2 n cap, iv x.13, iv x.14]))
   (Tree.need True))))))
   (Tree.every { i // le8 i } fun s => Tree.br (decide ((↑(Subtype.val s) : Int) < (8 : Int)))
   (Tree.chk (lightF x n (Subtype.val s) = true → lightF x n (Subtype.val s) = true)
   (Tree.chk (lightF x n (Subtype.val s) = true → lightF x n (Subtype.val s) = true)
   (Tree.chk (lightF x n (Subtype.val s) = true → (0 : Int) ≤ (↑(Subtype.val s) : Int) ∧ (↑(Subtype.val s) : Int) < (↑8 : Int))
   (Tree.chk (lightF x n (Subtype.val s) = true → lightF x n (Subtype.val s) = true)
   (Tree.chk (lightF x n (Subtype.val s) = true → Int.toNat (↑(Subtype.val s) : Int) < 8)
   (Tree.chk (lightF x n (Subtype.val s) = true → lightF x n (Subtype.val s) = true)
   (Tree.chk (lightF x n (Subtype.val s) = true → lightF x n (Subtype.val s) = true)
   (Tree.chk ((bif lightF x n (Subtype.val s) then decide (List.getD [x.5, x.6, x.7, x.8, x.9, x.10, x.11, x.12] (Int.toNat (↑(Subtype.val s) : Int)) (0 : Int) ≥ (-1000000 : Int)) else false) = true → (bif lightF x n (Subtype.val s) then decide (List.getD [x.5, x.6, x.7, x.8, x.9, x.10, x.11, x.12] (Int.toNat (↑(Subtype.val s) : Int)) (0 : Int) ≥ (-1000000 : Int)) else false) = true)
   (Tree.chk ((bif lightF x n (Subtype.val s) then decide (List.getD [x.5, x.6, x.7, x.8, x.9, x.10, x.11, x.12] (Int.toNat (↑(Subtype.val s) : Int)) (0 : Int) ≥ (-1000000 : Int)) else false) = true → (bif lightF x n (Subtype.val s) then decide (List.getD [x.5, x.6, x.7, x.8, x.9, x.10, x.11, x.12] (Int.toNat (↑(Subtype.val s) : Int)) (0 : Int) ≥ (-1000000 : Int)) else false) = true)
   (Tree.chk ((bif lightF x n (Subtype.val s) then decide (List.getD [x.5, x.6, x.7, x.8, x.9, x.10, x.11, x.12] (Int.toNat (↑(Subtype.val s) : Int)) (0 : Int) ≥ (-1000000 : Int)) else false) = true → (0 : Int) ≤ (↑(Subtype.val s) : Int) ∧ (↑(Subtype.val s) : Int) < (↑8 : Int))
   (Tree.chk ((bif lightF x n (Subtype.val s) then decide (List.getD [x.5, x.6, x.7, x.8, x.9, x.10, x.11, x.12] (Int.toNat (↑(Subtype.val s) : Int)) (0 : Int) ≥ (-1000000 : Int)) else false) = true → (bif lightF x n (Subtype.val s) then decide (List.getD [x.5, x.6, x.7, x.8, x.9, x.10, x.11, x.12] (Int.toNat (↑(Subtype.val s) : Int)) (0 : Int) ≥ (-1000000 : Int)) else false) = true)
   (Tree.chk ((bif lightF x n (Subtype.val s) then decide (List.getD [x.5, x.6, x.7, x.8, x.9, x.10, x.11, x.12] (Int.toNat (↑(Subtype.val s) : Int)) (0 : Int) ≥ (-1000000 : Int)) else false) = true → Int.toNat (↑(Subtype.val s) : Int) < 8)
   (Tree.chk ((bif lightF x n (Subtype.val s) then decide (List.getD [x.5, x.6, x.7, x.8, x.9, x.10, x.11, x.12] (Int.toNat (↑(Subtype.val s) : Int)) (0 : Int) ≥ (-1000000 : Int)) else false) = true → (bif lightF x n (Subtype.val s) then decide (List.getD [x.5, x.6, x.7, x.8, x.9, x.10, x.11, x.12] (Int.toNat (↑(Subtype.val s) : Int)) (0 : Int) ≥ (-1000000 : Int)) else false) = true)
   (Tree.chk ((bif lightF x n (Subtype.val s) then decide (List.getD [x.5, x.6, x.7, x.8, x.9, x.10, x.11, x.12] (Int.toNat (↑(Subtype.val s) : Int)) (0 : Int) ≥ (-1000000 : Int)) else false) = true → (bif lightF x n (Subtype.val s) then decide (List.getD [x.5, x.6, x.7, x.8, x.9, x.10, x.11, x.12] (Int.toNat (↑(Subtype.val s) : Int)) (0 : Int) ≥ (-1000000 : Int)) else false) = true)
   (Tree.some_ { i // le8 i } fun s' => Tree.chk (8 - Subtype.val s' < 8 - Subtype.val s)
   (Tree.chk (XV.a (AV.c (CV.v (Value.bool (bif bif lightF x n (Subtype.val s) then decide (List.getD [x.5, x.6, x.7, x.8, x.9, x.10, x.11, x.12] (Int.toNat (↑(Subtype.val s) : Int)) (0 : Int) ≥ (-1000000 : Int)) else false then decide (List.getD [x.5, x.6, x.7, x.8, x.9, x.10, x.11, x.12] (Int.toNat (↑(Subtype.val s) : Int)) (0 : Int) ≤ (1000000 : Int)) else false)))) = XV.a (AV.c (CV.v (Value.bool (lightF x n (Subtype.val s'))))))
   (Tree.chk (XV.a (AV.c (iv (IntKind.wrap IntKind.i64 ((↑(Subtype.val s) : Int) + (1 : Int))))) = XV.a (AV.c (iv (↑(Subtype.val s') : Int))))
   (Tree.chk (XV.a (AV.c (CV.ptr { k := 1, j := 0, i := 0, sz := 15, c := 0, d := 0, dn := 0, cu := 0 })) = XV.a (AV.c (CV.ptr { k := 1, j := 0, i := 0, sz := 15, c := 0, d := 0, dn := 0, cu := 0 })))
   (Tree.chk (EntRel 2 [0, 1] 2 (Ent.ws own rc ws) (Ent.ws own rc ws))
   (Tree.chk (EntRel 2 [0, 1] 2 (Ent.mkBox 25 [iv x.1, iv x.2, iv x.3, iv x.4, iv x.5, iv x.6, iv x.7, iv x.8, iv x.9, iv x.10, iv x.11, iv x.12, CV.sl 0 0 lo 2 n cap, iv x.13, iv x.14]) (Ent.mkBox 25 [iv x.1, iv x.2, iv x.3, iv x.4, iv x.5, iv x.6, iv x.7, iv x.8, iv x.9, iv x.10, iv x.11, iv x.12, CV.sl 0 0 lo 2 n cap, iv x.13, iv x.14]))
   (Tree.need True)))))))))))))))))))))
   (Tree.done (XV.a (AV.c (CV.v (Value.bool (lightF x n (Subtype.val s)))))) [(Ent.ws own rc ws), Ent.dead])))))))))))))))
theorem tlight_eq (x : Thg) (ws : List Wt) (own : Bool) (lo n cap rc : Nat) : xfunc tab noCtr (lpI fun _ _ _ => (lightInv x ws own lo n cap rc)) Go.Proofs.Try.f10 [x.av 0 lo n cap] [Ent.ws own rc ws] [0] = tlight x ws own lo n cap rc := by kernel_rfl
def upG : Ctr := fun f args H => match args with
  | [.agg [.v (.int _ k), .v (.bool b), .v (.int _ n)]] => some (newC k n b H.length)
  | [.agg l, .c (.v (.int _ t)), .agg [.v (.int _ k), .v (.int _ v)]] => some (doC (thgOf l) t k v [] false 0 0 0 0 H.length [slK l])
  | _ => none
def tup (u : Unit) : Tree :=
  Tree.callf 14 [AV.agg [iv (1 : Int), CV.v (Value.bool false), iv (0 : Int)]] [] (newC (1 : Int) (0 : Int) false 0) fun c => Tree.callf 11 [AV.agg [iv (1 : Int), iv (0 : Int), iv (-1 : Int), iv (0 : Int), iv (0 : Int), iv (0 : Int), iv (0 : Int), iv (0 : Int), iv (0 : Int), iv (0 : Int), iv (0 : Int), iv (0 : Int), CV.sl 0 0 0 2 0 0, iv (-1 : Int), iv (0 : Int)], AV.c (iv (3 : Int)), AV.agg [iv (1 : Int), iv (1 : Int)]] [{ own := false, box := false, ty := 37, sz := 2, m := 1, n := fun x => 0, cap := fun x => 0, f := fun x i => [iv (0 : Int), iv (0 : Int)], ov := [] }] (doC { kd := (1 : Int), n := (0 : Int), o := (-1 : Int), h := (0 : Int), r0 := (0 : Int), r1 := (0 : Int), r2 := (0 : Int), r3 := (0 : Int), r4 := (0 : Int), r5 := (0 : Int), r6 := (0 : Int), r7 := (0 : Int), f := (-1 : Int), i := (0 : Int) } (3 : Int) (1 : Int) (1 : Int) [] false 0 0 0 0 1 [0]) fun c => Tree.callf 14 [AV.agg [iv (1 : Int), CV.v (Value.bool false), iv (0 : Int)]] [{ own := false, box := false, ty := 37, sz := 2, m := 1, n := fun x => 0, cap := fun x => 0, f := fun x i => [iv (0 : Int), iv (0 : Int)], ov := [] }, { own := true, box := false, ty := 37, sz := 2, m := 1, n := fun x => 0, cap := fun x => c 1, f := fun x i => [iv (0 : Int), iv (0 : Int)], ov := [] }, (Ent.mkBox 25 [iv (1 : Int), iv (0 : Int), iv (3 : Int), iv (1 : Int), iv (0 : Int), iv (0 : Int), iv (0 : Int), iv (0 : Int), iv (0 : Int), iv (0 : Int), iv (0 : Int), iv (0 : Int), CV.sl 1 0 (c 2) 2 0 (c 0), iv (-1 : Int), iv (0 : Int)])] (newC (1 : Int) (0 : Int) false 3) fun c_1 => Tree.callf 11 [AV.agg [iv (1 : Int), iv (0 : Int), iv (-1 : Int), iv (0 : Int), iv (0 : Int), iv (0 : Int), iv (0 : Int), iv (0 : Int), iv (0 : Int), iv (0 : Int), iv (0 : Int), iv (0 : Int), CV.sl 3 0 0 2 0 0, iv (-1 : Int), iv (0 : Int)], AV.c (iv (3 : Int)), AV.agg [iv (3 : Int), iv (0 : Int)]] [{ own := false, box := false, ty := 37, sz := 2, m := 1, n := fun x => 0, cap := fun x => 0, f := fun x i => [iv (0 : Int), iv (0 : Int)], ov := [] }, { own := true, box := false, ty := 37, sz := 2, m := 1, n := fun x => 0, cap := fun x => c 1, f := fun x i => [iv (0 : Int), iv (0 : Int)], ov := [] }, (Ent.mkBox 25 [iv (1 : Int), iv (0 : Int), iv (3 : Int), iv (1 : Int), iv (0 : Int), iv (0 : Int), iv (0 : Int), iv (0 : Int), iv (0 : Int), iv (0 : Int), iv (0 : Int), iv (0 : Int), CV.sl 1 0 (c 2) 2 0 (c 0), iv (-1 : Int), iv (0 : Int)]), { own := false, box := false, ty := 37, sz := 2, m := 1, n := fun x => 0, cap := fun x => 0, f := fun x i => [iv (0 : Int), iv (0 : Int)], ov := [] }] (doC { kd := (1 : Int), n := (0 : Int), o := (-1 : Int), h := (0 : Int), r0 := (0 : Int), r1 := (0 : Int), r2 := (0 : Int), r3 := (0 : Int), r4 := (0 : Int), r5 := (0 : Int), r6 := (0 : Int), r7 := (0 : Int), f := (-1 : Int), i := (0 : Int) } (3 : Int) (3 : Int) (0 : Int) [] false 0 0 0 0 4 [3]) fun c => Tree.chk (true = true → true = true)
   (Tree.chk (true = true → true = true)
   (Tree.chk (true = true → true = true)
   (Tree.chk (true = true → true = true)
   (Tree.chk (true = true → true = true)
   (Tree.chk (true = true → true = true)
   (Tree.chk (true = true → true = true)
   (Tree.chk (true = true → true = true)
   (Tree.done (XV.a (AV.c (CV.v (Value.bool true)))) [Ent.dead, Ent.dead, Ent.dead, Ent.dead, Ent.dead, Ent.dead]))))))))
theorem tup_eq (u : Unit) : xfunc tab upG noInv Go.Proofs.Try.f9 [] [] [] = tup u := by kernel_rfl
end Go.Proofs.Ytnenbngjdekegaa.X

/- The laws of the model: the head of all, and what is light: proved. -/
set_option linter.unusedVariables false
set_option linter.unusedSimpArgs false
namespace Go.Proofs.Ytnenbngjdekegaa.X
open Go Go.RowKit Go.Proofs.YtnenbngjdekegaaW.PrintWords Go.Proofs.Ytnenbngjdekegaa.Base
def lightC (x : Thg) (ws : List Wt) (own : Bool) (lo n cap rc : Nat) (ρ : List Nat) : CallSpec := rdSpec ρ [x.av 0 lo n cap] [Ent.ws own rc ws] (bi (lightF x n 8))
theorem light_local (x : Thg) (ws : List Wt) (own : Bool) (lo n cap rc : Nat) (ρ : List Nat) : (lightC x ws own lo n cap rc ρ).Local Try.prog 10 := by
  refine local_of Try.func10 rfl (tlight_eq x ws own lo n cap rc) fun ν w => ?_
  repeat refine ok_chk' (fun h => h) ?_
  refine ok_both' ?_ (ok_every' fun s => ok_br' (fun h => ?_) fun h => ?_)
  · repeat' first | exact rfl | exact EntRel.ws | exact EntRel.box' rfl rfl rfl rfl rfl | exact trivial | refine ok_chk' ?_ ?_
  · have hi : s.1 < 8 := by simp only [decide_eq_true_eq] at h; omega
    repeat (first | refine ok_chk' (fun h => h) ?_ | refine ok_chk' (fun _ => ⟨by omega, by omega⟩) ?_ | refine ok_chk' (fun _ => (show (s.1 : Int).toNat < 8 by omega)) ?_)
    refine ok_some' ⟨s.1 + 1, hi⟩ (ok_chk' (Nat.sub_lt_sub_left hi (Nat.lt_succ_self _)) (ok_chk' ?_ (ok_chk' ?_ ?_)))
    · rfl
    · (rw [wrap64 (by omega) (by omega)]; try rfl)
    · repeat' first | exact rfl | exact EntRel.ws | exact EntRel.box' rfl rfl rfl rfl rfl | exact trivial | refine ok_chk' ?_ ?_
  · refine ok_leaf (fun _ => 0) [] [0] trivial ?_ ⟨⟨_, rfl, EntRel.ws⟩, trivial⟩ rfl
    have hs : s.1 = 8 := by have : s.1 ≤ 8 := s.2; simp only [decide_eq_false_iff_not] at h; omega
    show bi (lightF x n s.1) = bi (lightF x n 8)
    rw [hs]
theorem lightF_iff {x : Thg} {n : Nat} : lightF x n 8 = true ↔ lightP x ∧ n ≤ 100 := by
  have a : ∀ b c : Bool, (bif b then c else false) = (b && c) := fun b c => by cases b <;> rfl
  simp only [lightF, lightB0, a, Bool.and_eq_true, decide_eq_true_eq, lightP, Thg.rs, List.getD_cons_zero, List.getD_cons_succ, List.forall_mem_cons, List.not_mem_nil, false_imp_iff, implies_true, and_true]
  omega
def upC : CallSpec := rdSpec [] [] [] (bi true)
theorem new_call : Callable Try.prog 14 := ⟨_, Try.func14, by kernel_rfl, rfl⟩
theorem newr_call : Callable Try.prog 15 := ⟨_, Try.func15, by kernel_rfl, rfl⟩
theorem up_local : upC.Local Try.prog 9 := by
  refine local_of Try.func9 rfl (tup_eq ()) fun ν w => ?_
  refine ok_callf' new_call (fits_of rfl rfl trivial fun c _ => ⟨⟨Nat.zero_le _, rfl⟩, ⟨rfl, rfl⟩, ⟨⟨EntRel.ws, rfl, (fun h => by cases h), .inr rfl⟩, trivial⟩⟩) (new_local _ _ _ _) fun c _ => ?_
  have lp : lightP (newF 1 0) := ⟨⟨by decide, by decide⟩, ⟨by decide, by decide⟩, by decide⟩
  refine ok_callf' do_call (fits_of rfl rfl ⟨⟨_, rfl, EntRel.ws (own := false) (cap := 0) (ws := [])⟩, trivial⟩ fun c _ => ⟨⟨Nat.le_succ 1, rfl⟩, ⟨rfl, rfl⟩, ⟨⟨EntRel.ws (own := false) (cap := 0) (ws := []), rfl, (fun h => by cases h), .inr rfl⟩, ⟨EntRel.ws, rfl, (fun h => by cases h), .inr rfl⟩, trivial⟩⟩) (do_local _ _ _ _ _ _ _ _ _ _ _ _ lp (Nat.le_refl _) (Nat.zero_le _)) fun c hc => ?_
  refine ok_callf' new_call (fits_of rfl rfl trivial fun c _ => ⟨⟨Nat.zero_le _, rfl⟩, ⟨rfl, rfl⟩, ⟨⟨EntRel.ws, rfl, (fun h => by cases h), .inr rfl⟩, trivial⟩⟩) (new_local _ _ _ _) fun c _ => ?_
  refine ok_callf' do_call (fits_of rfl rfl ⟨⟨_, rfl, EntRel.ws (own := false) (cap := 0) (ws := [])⟩, trivial⟩ fun c _ => ⟨⟨Nat.le_succ 1, rfl⟩, ⟨rfl, rfl⟩, ⟨⟨EntRel.ws (own := false) (cap := 0) (ws := []), rfl, (fun h => by cases h), .inr rfl⟩, ⟨EntRel.ws, rfl, (fun h => by cases h), .inr rfl⟩, trivial⟩⟩) (do_local _ _ _ _ _ _ _ _ _ _ _ _ lp (Nat.le_refl _) (Nat.zero_le _)) fun c hc => ?_
  repeat (first | refine ok_chk' (fun h => h) ?_ | refine ok_chk' rfl ?_)
  exact ok_leaf (fun _ => 0) [] [] trivial rfl trivial rfl
end Go.Proofs.Ytnenbngjdekegaa.X

/- The laws of the model: what is known of callees. -/
set_option linter.unusedVariables false
set_option linter.unusedSimpArgs false
namespace Go.Proofs.Ytnenbngjdekegaa.X
open Go Go.RowKit Go.Proofs.YtnenbngjdekegaaW.PrintWords Go.Proofs.Ytnenbngjdekegaa.Base
def lawG : Ctr := fun f args H =>
  if f = 14 ∨ f = 15 then (match args with
    | [.agg [.v (.int _ k), .v (.bool b), .v (.int _ n)]] => some (newC k n b H.length)
    | _ => none)
  else match args with
  | [] => some upC
  | [.agg l] => if f = 10 then some (.ex Gh fun g => lightC (thgOf l) g.1 g.2.1 (slLN l).1 (slLN l).2 (slCap l) g.2.2 [slK l])
    else some (.ex Gh fun g => copy2C (thgOf l) g.1 g.2.1 (slLN l).1 (slLN l).2 (slCap l) g.2.2 H.length [slK l])
  | [.agg l, .agg l'] => some (.ex (Gh × Gh) fun g => eq2C (thgOf l) (thgOf l') g.1.1 g.2.1 g.1.2.1 g.2.2.1 (slLN l).1 (slLN l).2 (slCap l) g.1.2.2 (slLN l').1 (slLN l').2 (slCap l') g.2.2.2 [slK l, slK l'])
  | [.agg l, .c (.v (.int _ t)), .agg [.v (.int _ k), .v (.int _ v)]] => if f = 11 then some (.ex Gh fun g => doC (thgOf l) t k v g.1 g.2.1 (slLN l).1 (slLN l).2 (slCap l) g.2.2 H.length [slK l])
    else some (.ex (List Wt) fun ws => doRC (thgOf l) t k v ws (slCap l) H.length [slK l])
  | [.agg l, .c (.v (.int _ t)), .agg [.v (.int _ k), .v (.int _ o), .v (.int _ q), .v (.int _ w), .v (.bool b)]] => if f = 17 then some (.ex Gh fun g => canC (thgOf l) t k o q w b g.1 g.2.1 (slLN l).1 (slLN l).2 (slCap l) g.2.2 [slK l])
    else some (.ex (List Wt) fun ws => canRC (thgOf l) t k o q w b ws (slCap l) [slK l])
  | _ => none
end Go.Proofs.Ytnenbngjdekegaa.X

/- The laws of the model: words that all proofs use. -/
set_option linter.unusedVariables false
set_option linter.unusedSimpArgs false
namespace Go.Proofs.Ytnenbngjdekegaa.X
open Go Go.RowKit Go.Proofs.YtnenbngjdekegaaW.PrintWords Go.Proofs.Ytnenbngjdekegaa.Base
theorem up_call : Callable Try.prog 9 := ⟨_, Try.func9, by kernel_rfl, rfl⟩
theorem light_call : Callable Try.prog 10 := ⟨_, Try.func10, by kernel_rfl, rfl⟩
theorem can_call : Callable Try.prog 17 := ⟨_, Try.func17, by kernel_rfl, rfl⟩
theorem canR_call : Callable Try.prog 18 := ⟨_, Try.func18, by kernel_rfl, rfl⟩
theorem eq2_call : Callable Try.prog 12 := ⟨_, Try.func12, by kernel_rfl, rfl⟩
theorem copy_call : Callable Try.prog 13 := ⟨_, Try.func13, by kernel_rfl, rfl⟩
theorem do_kd0 {x : Thg} {t k v : Int} {ws : List Wt} (h : x.kd = 0) : (doRF x t k v ws).2.2 = false := by
  unfold doRF
  have : decide (x.kd < 1) = true := by simp; omega
  rw [this]
  cases (bif decide (t < 0) then true else decide (t > 7)) <;> rfl
/-- What can go on may be done. -/
theorem can_do {x : Thg} {t k q : Int} {ws : List Wt} (h : canF x t k q ws = true) :
    (bif k == 4 then (doRF x t 1 q ws).2.2 else bif k == 8 then (doRF x t 1 0 ws).2.2 else bif k == 10 then (doRF x t 2 0 ws).2.2 else bif k == 19 then (doRF x t 14 x.f ws).2.2 else (doRF x t 1 1 ws).2.2) = true := by
  have key : ∀ a b : Bool, (bif a then b else false) = true → a = true := fun a b h => by cases a <;> simp_all
  unfold canF at h
  by_cases h1 : k = 1
  · subst h1; exact key _ _ h
  · by_cases h4 : k = 4
    · subst h4; exact key _ _ h
    · by_cases h8 : k = 8
      · subst h8; exact key _ _ h
      · by_cases h13 : k = 13
        · subst h13; exact key _ _ h
        · by_cases h10 : k = 10
          · subst h10; exact key _ _ h
          · by_cases h19 : k = 19
            · subst h19
              simp at h
              obtain ⟨⟨⟨⟨h5, t0⟩, t8⟩, f1⟩, f2⟩ := h
              have a1 : decide (t < 0) = false := by simp; omega
              have a2 : decide (t > 7) = false := by simp; omega
              have f1' : (x.f != -1) = true := by simpa using f1
              have f2' : (x.f != t) = true := by simpa using f2
              simp [doRF, swaprS, h5, a1, a2, f1', f2']
            · simp only [beqF h1, beqF h4, beqF h8, beqF h13, beqF h10, beqF h19, cond_false] at h
              cases hd : (doRF x t 1 0 ws).2.2 with
              | false => rw [hd] at h; cases h
              | true =>
                rw [hd] at h
                have : x.kd = 0 := by simpa using h
                rw [do_kd0 this] at hd
                cases hd
end Go.Proofs.Ytnenbngjdekegaa.X

/- How a thing, a mark, a call that is handed in opens. -/
set_option linter.unusedVariables false
set_option linter.unusedSimpArgs false
namespace Go.Proofs.Ytnenbngjdekegaa.X
open Go Go.RowKit Go.Proofs.YtnenbngjdekegaaW.PrintWords Go.Proofs.Ytnenbngjdekegaa.Base Go.Proofs.Ytnenbngjdekegaa.Open
abbrev kdI : Kd Int := Kd.int .i64
abbrev kdWt : Kd Wt := Kd.pair kdI kdI
abbrev wfI (x : Int) : Prop := (Lit.int .i64 x).wf = true
theorem opensI : Opens Try.prog 3 kdI wfI := opens_int Try.underlying3
theorem opensI64 : Opens Try.prog 2 kdI wfI := opens_int Try.underlying2
theorem opensWt : Opens Try.prog 37 kdWt (fun x => wfI x.1 ∧ wfI x.2) :=
  opens_struct Try.underlying37 (by kernel_rfl) (opensF_cons opensI rfl (by kernel_rfl) (opensF_one opensI rfl (by kernel_rfl)))
theorem opensNote : Opens Try.prog 29 kdWt (fun x => wfI x.1 ∧ wfI x.2) :=
  opens_struct Try.underlying29 (by kernel_rfl) (opensF_cons opensI rfl (by kernel_rfl) (opensF_one opensI64 rfl (by kernel_rfl)))
abbrev kdThing : Kd (Int × Int × Int × Int × List Int × List Wt × Int × Int) := Kd.pair kdI (Kd.pair kdI (Kd.pair kdI (Kd.pair kdI (Kd.pair (Kd.arr 8 kdI Nat.one_pos) (Kd.pair (Kd.slice 37 kdWt) (Kd.pair kdI kdI))))))
theorem opensThing : Opens Try.prog 25 kdThing (fun _ => True) :=
  opens_wf (opens_struct Try.underlying25 (by kernel_rfl) (opensF_cons opensI rfl (by kernel_rfl) (opensF_cons opensI rfl (by kernel_rfl) (opensF_cons opensI rfl (by kernel_rfl) (opensF_cons opensI rfl (by kernel_rfl)
    (opensF_cons (opens_array Try.underlying22 (by kernel_rfl) (by kernel_rfl) Nat.one_pos opensI) rfl (by kernel_rfl) (opensF_cons (opens_slice Try.underlying23 (by kernel_rfl) opensWt) rfl (by kernel_rfl) (opensF_cons opensI rfl (by kernel_rfl) (opensF_one opensI rfl (by kernel_rfl)))))))))) fun _ _ => trivial
abbrev kdCall : Kd (Int × Int × Int × Int × Bool) := Kd.pair kdI (Kd.pair kdI (Kd.pair kdI (Kd.pair kdI Kd.bool)))
theorem opensCall : Opens Try.prog 42 kdCall (fun _ => True) :=
  opens_wf (opens_struct Try.underlying42 (by kernel_rfl) (opensF_cons opensI rfl (by kernel_rfl) (opensF_cons opensI rfl (by kernel_rfl) (opensF_cons opensI rfl (by kernel_rfl) (opensF_cons opensI64 rfl (by kernel_rfl) (opensF_one (opens_bool Try.underlying4) rfl (by kernel_rfl))))))) fun _ _ => trivial
abbrev kdObj : Kd (Int × Bool × Int) := Kd.pair kdI (Kd.pair Kd.bool kdI)
theorem opensObj : Opens Try.prog 40 kdObj (fun _ => True) :=
  opens_wf (opens_struct Try.underlying40 (by kernel_rfl) (opensF_cons opensI rfl (by kernel_rfl) (opensF_cons (opens_bool Try.underlying4) rfl (by kernel_rfl) (opensF_one opensI rfl (by kernel_rfl))))) fun _ _ => trivial
theorem agg_of {cs : Array Value} {l : List Value} (h : cs.toList = l) : Value.agg cs = .agg l.toArray := by rw [← h]
theorem call_open {W : World} {x : Int × Int × Int × Int × Bool} {cs : Array Value} (h : kdCall.K W x cs.toList) (ν : Val) : Value.agg cs = (callA x.1 x.2.1 x.2.2.1 x.2.2.2.1 x.2.2.2.2).den ν := by
  obtain ⟨c0, c1, he, rfl, d0, d1, rfl, rfl, e0, e1, rfl, rfl, f0, f1, rfl, rfl, rfl⟩ := h
  exact agg_of he
theorem note_open {W : World} {x : Wt} {cs : Array Value} (h : kdWt.K W x cs.toList) (ν : Val) : Value.agg cs = (markA x.1 x.2).den ν := by
  obtain ⟨c0, c1, he, rfl, rfl⟩ := h
  exact agg_of he
theorem obj_open {W : World} {x : Int × Bool × Int} {cs : Array Value} (h : kdObj.K W x cs.toList) (ν : Val) : Value.agg cs = (objA x.1 x.2.2 x.2.1).den ν := by
  obtain ⟨c0, c1, he, rfl, d0, d1, rfl, rfl, rfl⟩ := h
  exact agg_of he
def Thg.ofK (x : Int × Int × Int × Int × List Int × List Wt × Int × Int) : Thg := ⟨x.1, x.2.1, x.2.2.1, x.2.2.2.1, x.2.2.2.2.1.getD 0 0, x.2.2.2.2.1.getD 1 0, x.2.2.2.2.1.getD 2 0, x.2.2.2.2.1.getD 3 0, x.2.2.2.2.1.getD 4 0, x.2.2.2.2.1.getD 5 0, x.2.2.2.2.1.getD 6 0, x.2.2.2.2.1.getD 7 0, x.2.2.2.2.2.2.1, x.2.2.2.2.2.2.2⟩
theorem reads_open {W : World} {xs : List Int} {c : List Value} (h : (Kd.arr 8 kdI Nat.one_pos).K W xs c) : c = [.int .i64 (xs.getD 0 0), .int .i64 (xs.getD 1 0), .int .i64 (xs.getD 2 0), .int .i64 (xs.getD 3 0), .int .i64 (xs.getD 4 0), .int .i64 (xs.getD 5 0), .int .i64 (xs.getD 6 0), .int .i64 (xs.getD 7 0)] := by
  obtain ⟨hl, hc, hr⟩ := h
  rw [hl] at hc
  have hc : c.length = 8 := hc
  match xs, hl with
  | [a0, a1, a2, a3, a4, a5, a6, a7], _ =>
    match c, hc with
    | [b0, b1, b2, b3, b4, b5, b6, b7], _ =>
      have h0 : [b0] = [Value.int .i64 a0] := hr 0 a0 rfl
      have h1 : [b1] = [Value.int .i64 a1] := hr 1 a1 rfl
      have h2 : [b2] = [Value.int .i64 a2] := hr 2 a2 rfl
      have h3 : [b3] = [Value.int .i64 a3] := hr 3 a3 rfl
      have h4 : [b4] = [Value.int .i64 a4] := hr 4 a4 rfl
      have h5 : [b5] = [Value.int .i64 a5] := hr 5 a5 rfl
      have h6 : [b6] = [Value.int .i64 a6] := hr 6 a6 rfl
      have h7 : [b7] = [Value.int .i64 a7] := hr 7 a7 rfl
      cases h0; cases h1; cases h2; cases h3; cases h4; cases h5; cases h6; cases h7
      rfl
theorem holds_ro {W : World} {A : Option Addr} {cap : Nat} {ws : List Wt} (hC : kdWt.C W A ws.length ws) : Holds (rootOf (fun _ _ => A) [Ent.ws false cap ws] W) (fun _ _ => A) [Ent.ws false cap ws] W := by
  obtain ⟨-, -, hr⟩ := hC
  have h0 : ∀ k e, Hp.get k [Ent.ws false cap ws] = some e → k = 0 ∧ e = Ent.ws false cap ws := fun k e he => by
    cases k with
    | zero => exact ⟨rfl, (Option.some.inj he).symm⟩
    | succ k => cases k <;> cases he
  refine ⟨Upd.refl _ _, fun k e he => ?_, fun k e j he ho => ?_, ⟨Nat.le_refl _, fun _ _ _ => rfl⟩⟩
  · obtain ⟨rfl, rfl⟩ := h0 k e he
    refine ⟨⟨(fun h => by cases h), .inr (show 0 < 2 by decide)⟩, fun j hj i hi => ⟨rfl, fun x hx => ?_⟩, (fun h => by cases h), fun _ j hj hp => ?_⟩
    · have hx : x ∈ wrow ws i := hx
      simp only [wrow, wc, List.mem_cons, List.not_mem_nil, or_false] at hx
      rcases hx with rfl | rfl <;> exact ⟨rfl, rfl⟩
    · have hp : 0 < ws.length := hp
      obtain ⟨ad, hA, hc⟩ := hr hp
      refine ⟨ad, hA, .inr (.inl ⟨0, _, 0, ad, rfl, rfl, Nat.one_pos, hp, hA, rfl⟩), fun i hi c x hx => ?_⟩
      have hi : i < ws.length := hi
      obtain ⟨cc, -, hK, hcell⟩ := hc i ws[i] (List.getElem?_eq_getElem hi)
      refine hcell c _ ?_
      obtain ⟨c0, c1, rfl, rfl, rfl⟩ := hK
      have hx : (wrow ws i)[c]? = some x := hx
      have hg : ws.getD i (0, 0) = ws[i] := by rw [List.getD_eq_getElem?_getD, List.getElem?_eq_getElem hi, Option.getD_some]
      rw [wrow, hg, wc] at hx
      match c, hx with
      | 0, hx => cases hx; rfl
      | 1, hx => cases hx; rfl
  · obtain ⟨rfl, rfl⟩ := h0 k e he
    cases ho
theorem thing_open {W : World} {x : Int × Int × Int × Int × List Int × List Wt × Int × Int} {cs : Array Value} (h : kdThing.K W x cs.toList) : ∃ A cap, Value.agg cs = ((Thg.ofK x).av 0 0 x.2.2.2.2.2.1.length cap).den (fun _ _ => A) ∧ Holds (rootOf (fun _ _ => A) [Ent.ws false cap x.2.2.2.2.2.1] W) (fun _ _ => A) [Ent.ws false cap x.2.2.2.2.2.1] W := by
  obtain ⟨c0, c1, he, rfl, d0, d1, rfl, rfl, e0, e1, rfl, rfl, f0, f1, rfl, rfl, g0, g1, rfl, hr, k0, k1, rfl, ⟨A, cap, rfl, -, hC⟩, m0, m1, rfl, rfl, rfl⟩ := h
  refine ⟨A, cap, ?_, holds_ro hC⟩
  rw [agg_of he, reads_open hr]
  show Value.agg _ = Value.agg _
  have hA : A.map (·.add (0 * 2)) = A := map_add_zero A
  simp only [Thg.cv, List.map, CV.den, iv, hA, Thg.ofK]
  rfl
/-- What is handed in is but read: nothing that was is changed. -/
theorem below_of {ν ν' : Val} {H0 H : Hp} {W w' : World} (h : Holds (rootOf ν H0 W) ν' H w') (ho : ∀ k e, H0.get k = some e → e.own = false) : Below W.heap.size W w' :=
  h.upd.below (Nat.le_refl _) fun g ⟨k, e, j, ad, h1, h2, _⟩ => by rw [ho k e h1] at h2; cases h2
end Go.Proofs.Ytnenbngjdekegaa.X

