/- What the law ModelBack's functions come to; no conditions. -/
import Derived.Test.YtnenbngjdekegaaC3
/- The laws of the model: boxes, rows: words. -/
set_option linter.unusedVariables false
set_option linter.unusedSimpArgs false
namespace Go.Proofs.Ytnenbngjdekegaa.X
open Go Go.RowKit Go.Proofs.YtnenbngjdekegaaW.PrintWords Go.Proofs.Ytnenbngjdekegaa.Base
def rowCap : Option Ent → Nat
  | some e => e.cap 0
  | none => 0
def bx (k : Nat) : XV := .a (.c (.ptr (bref k 15)))
end Go.Proofs.Ytnenbngjdekegaa.X

/- The law ModelBack: its tree. -/
set_option linter.unusedVariables false
set_option linter.unusedSimpArgs false
namespace Go.Proofs.Ytnenbngjdekegaa.X
open Go Go.RowKit Go.Proofs.YtnenbngjdekegaaW.PrintWords Go.Proofs.Ytnenbngjdekegaa.Base
abbrev NT : Nat := 29
def posF (x : Thg) (n : Nat) : Nat → Bool
  | 0 => lightF x n 8
  | i + 1 => bif posF x n i then decide (x.rs.getD i 0 ≥ 0) else false
def tkF (i : Nat) : Int := [(1 : Int), 1, 2, 15].getD i 0
def tvF (v : Int) (i : Nat) : Int := [(1 : Int), v, 0, v].getD i 0
def fkF (i : Nat) : Int := [(3 : Int), 3, 4, 16].getD i 0
def fvF (v : Int) (i : Nat) : Int := [(0 : Int), v, 0, 0].getD i 0
def le4 (i : Nat) : Prop := i ≤ 4
def slKt : Option XV → Nat
  | some (.a (.c (.sl k _ _ _ _ _))) => k
  | _ => 0
def backInv (x : Thg) (t v : Int) (ws : List Wt) (cap : Nat) (li : Nat) (tm : Tm) (H : Hp) : LoopInv :=
  match li with
  | 0 => ⟨{i : Nat // le8 i}, fun i => ([(8, bi (posF x ws.length i.1)), (9, ia i.1), (1, ia t), (2, ia v), (3, bx 1), (7, bi true)], [Ent.ws false cap ws, Ent.mkBox TT (x.cv (.sl 0 0 0 2 ws.length cap))]), fun i => 8 - i.1, some ⟨0, Nat.zero_le _⟩, [], .l [0, ptrK (tm.get 3)], [], fun _ _ => .l [0, 1]⟩
  | _ => ⟨{i : Nat // le4 i}, fun i => ([(12, ia i.1), (1, ia t), (2, ia v), (3, bx 1), (7, bi true), (10, .a (.c (.sl 2 0 0 2 4 4))), (11, .a (.c (.sl 3 0 0 2 4 4)))], [Ent.ws false cap ws, Ent.mkBox TT (x.cv (.sl 0 0 0 2 ws.length cap)), Ent.rw true NT 2 4 4 (fun i => [iv (tkF i), iv (tvF v i)]), Ent.rw true NT 2 4 4 (fun i => [iv (fkF i), iv (fvF v i)])]), fun i => 4 - i.1, some ⟨0, Nat.zero_le _⟩, [], .l [0, ptrK (tm.get 3), slKt (tm.get 10), slKt (tm.get 11)], [], fun _ _ => .l [0, 1, 2, 3]⟩
/-- What taking comes to. -/
abbrev bY (x : Thg) (t v : Int) (ws : List Wt) (i : Nat) : Thg × List Wt × Bool := doRF x t (tkF (Int.toNat (↑i : Int))) (tvF v (Int.toNat (↑i : Int))) (List.take (List.length ws) (List.drop 0 ws))
abbrev bI (i : Nat) : Nat := Int.toNat (↑i : Int)
def backZ (ws : List Wt) (cap : Nat) : Par := fun r =>
  bif Nat.beq r 15 then some <| par0 fun f args H => match args with
    | [.agg l, .c (.v (.int _ t)), .agg [.v (.int _ k), .v (.int _ v)]] => some (doC (thgOf l) t k v ws false (slLN l).1 (slLN l).2 (slCap l) cap H.length [slK l])
    | _ => none
  else bif Nat.beq r 17 then some ⟨List Wt × Nat, fun g f args H => match args with
    | [.agg l, .c (.v (.int _ t)), .agg [.v (.int _ k), .v (.int _ v)]] => some (doC (thgOf l) t k v g.1 false (slLN l).1 (slLN l).2 (slCap l) g.2 H.length [slK l])
    | _ => none⟩
  else none
def tback (x : Thg) (t v : Int) (ws : List Wt) (cap : Nat) : Tree :=
  Tree.callf 9 [] [(Ent.ws false cap ws), (Ent.mkBox 25 [iv x.1, iv x.2, iv x.3, iv x.4, iv x.5, iv x.6, iv x.7, iv x.8, iv x.9, iv x.10, iv x.11, iv x.12, CV.sl 0 0 0 2 (List.length ws) cap, iv x.13, iv x.14])] upC fun c => Tree.some_ (List (Int × Int) × Bool × Nat) fun s => Tree.callf 10 [AV.agg [iv x.1, iv x.2, iv x.3, iv x.4, iv x.5, iv x.6, iv x.7, iv x.8, iv x.9, iv x.10, iv x.11, iv x.12, CV.sl 0 0 0 2 (List.length ws) cap, iv x.13, iv x.14]] [(Ent.ws false cap ws), (Ent.mkBox 25 [iv x.1, iv x.2, iv x.3, iv x.4, iv x.5, iv x.6, iv x.7, iv x.8, iv x.9, iv x.10, iv x.11, iv x.12, CV.sl 0 0 0 2 (List.length ws) cap, iv x.13, iv x.14])] (lightC x (Prod.fst s) (Prod.fst (Prod.snd s)) 0 (List.length ws) cap (Prod.snd (Prod.snd s)) [0]) fun c_1 => Tree.both
   (Tree.chk (XV.a (AV.c (CV.v (Value.bool (lightF x (List.length ws) 8)))) = XV.a (AV.c (CV.v (Value.bool (posF x (List.length ws) 0)))))
   (Tree.chk (XV.a (AV.c (iv (0 : Int))) = XV.a (AV.c (iv (0 : Int))))
   (Tree.chk (XV.a (AV.c (iv t)) = XV.a (AV.c (iv t)))
   (Tree.chk (XV.a (AV.c (iv v)) = XV.a (AV.c (iv v)))
   (Tree.chk (XV.a (AV.c (CV.ptr { k := 1, j := 0, i := 0, sz := 15, c := 0, d := 0, dn := 0, cu := 0 })) = XV.a (AV.c (CV.ptr { k := 1, j := 0, i := 0, sz := 15, c := 0, d := 0, dn := 0, cu := 0 })))
   (Tree.chk (XV.a (AV.c (CV.v (Value.bool true))) = XV.a (AV.c (CV.v (Value.bool true))))
   (Tree.chk (EntRel 2 [0, 1] 2 (Ent.ws (Prod.fst (Prod.snd s)) (Prod.snd (Prod.snd s)) (Prod.fst s)) (Ent.ws false cap ws))
   (Tree.chk (EntRel 2 [0, 1] 2 (Ent.mkBox 25 [iv x.1, iv x.2, iv x.3, iv x.4, iv x.5, iv x.6, iv x.7, iv x.8, iv x.9, iv x.10, iv x.11, iv x.12, CV.sl 0 0 0 2 (List.length ws) cap, iv x.13, iv x.14]) (Ent.mkBox 25 [iv x.1, iv x.2, iv x.3, iv x.4, iv x.5, iv x.6, iv x.7, iv x.8, iv x.9, iv x.10, iv x.11, iv x.12, CV.sl 0 0 0 2 (List.length ws) cap, iv x.13, iv x.14]))
   (Tree.need True)))))))))
   (Tree.every { i // le8 i } fun s_1 => Tree.br (decide ((↑(Subtype.val s_1) : Int) < (8 : Int)))
   (Tree.chk (posF x (List.length ws) (Subtype.val s_1) = true → posF x (List.length ws) (Subtype.val s_1) = true)
   (Tree.chk (posF x (List.length ws) (Subtype.val s_1) = true → posF x (List.length ws) (Subtype.val s_1) = true)
   (Tree.chk (posF x (List.length ws) (Subtype.val s_1) = true → (0 : Int) ≤ (↑(Subtype.val s_1) : Int) ∧ (↑(Subtype.val s_1) : Int) < (↑8 : Int))
   (Tree.chk (posF x (List.length ws) (Subtype.val s_1) = true → posF x (List.length ws) (Subtype.val s_1) = true)
   (Tree.chk (posF x (List.length ws) (Subtype.val s_1) = true → Int.toNat (↑(Subtype.val s_1) : Int) < 8)
   (Tree.chk (posF x (List.length ws) (Subtype.val s_1) = true → posF x (List.length ws) (Subtype.val s_1) = true)
   (Tree.chk (posF x (List.length ws) (Subtype.val s_1) = true → posF x (List.length ws) (Subtype.val s_1) = true)
   (Tree.some_ { i // le8 i } fun s' => Tree.chk (8 - Subtype.val s' < 8 - Subtype.val s_1)
   (Tree.chk (XV.a (AV.c (CV.v (Value.bool (bif posF x (List.length ws) (Subtype.val s_1) then decide (List.getD [x.5, x.6, x.7, x.8, x.9, x.10, x.11, x.12] (Int.toNat (↑(Subtype.val s_1) : Int)) (0 : Int) ≥ (0 : Int)) else false)))) = XV.a (AV.c (CV.v (Value.bool (posF x (List.length ws) (Subtype.val s'))))))
   (Tree.chk (XV.a (AV.c (iv (IntKind.wrap IntKind.i64 ((↑(Subtype.val s_1) : Int) + (1 : Int))))) = XV.a (AV.c (iv (↑(Subtype.val s') : Int))))
   (Tree.chk (XV.a (AV.c (iv t)) = XV.a (AV.c (iv t)))
   (Tree.chk (XV.a (AV.c (iv v)) = XV.a (AV.c (iv v)))
   (Tree.chk (XV.a (AV.c (CV.ptr { k := 1, j := 0, i := 0, sz := 15, c := 0, d := 0, dn := 0, cu := 0 })) = XV.a (AV.c (CV.ptr { k := 1, j := 0, i := 0, sz := 15, c := 0, d := 0, dn := 0, cu := 0 })))
   (Tree.chk (XV.a (AV.c (CV.v (Value.bool true))) = XV.a (AV.c (CV.v (Value.bool true))))
   (Tree.chk (EntRel 2 [0, 1] 2 (Ent.ws false cap ws) (Ent.ws false cap ws))
   (Tree.chk (EntRel 2 [0, 1] 2 (Ent.mkBox 25 [iv x.1, iv x.2, iv x.3, iv x.4, iv x.5, iv x.6, iv x.7, iv x.8, iv x.9, iv x.10, iv x.11, iv x.12, CV.sl 0 0 0 2 (List.length ws) cap, iv x.13, iv x.14]) (Ent.mkBox 25 [iv x.1, iv x.2, iv x.3, iv x.4, iv x.5, iv x.6, iv x.7, iv x.8, iv x.9, iv x.10, iv x.11, iv x.12, CV.sl 0 0 0 2 (List.length ws) cap, iv x.13, iv x.14]))
   (Tree.need True)))))))))))))))))
   (Tree.chk ((!!posF x (List.length ws) (Subtype.val s_1)) = true → (!!posF x (List.length ws) (Subtype.val s_1)) = true)
   (Tree.chk ((!!posF x (List.length ws) (Subtype.val s_1)) = true → (!!posF x (List.length ws) (Subtype.val s_1)) = true)
   (Tree.chk ((!posF x (List.length ws) (Subtype.val s_1)) = false → (!!posF x (List.length ws) (Subtype.val s_1)) = true)
   (Tree.chk ((!bif !posF x (List.length ws) (Subtype.val s_1) then true else decide (x.2 < (0 : Int))) = true → (!bif !posF x (List.length ws) (Subtype.val s_1) then true else decide (x.2 < (0 : Int))) = true)
   (Tree.chk ((!bif !posF x (List.length ws) (Subtype.val s_1) then true else decide (x.2 < (0 : Int))) = true → (!bif !posF x (List.length ws) (Subtype.val s_1) then true else decide (x.2 < (0 : Int))) = true)
   (Tree.chk ((bif !posF x (List.length ws) (Subtype.val s_1) then true else decide (x.2 < (0 : Int))) = false → (!bif !posF x (List.length ws) (Subtype.val s_1) then true else decide (x.2 < (0 : Int))) = true)
   (Tree.chk ((!bif bif !posF x (List.length ws) (Subtype.val s_1) then true else decide (x.2 < (0 : Int)) then true else decide (x.2 > (1000 : Int))) = true → (!bif bif !posF x (List.length ws) (Subtype.val s_1) then true else decide (x.2 < (0 : Int)) then true else decide (x.2 > (1000 : Int))) = true)
   (Tree.chk ((!bif bif !posF x (List.length ws) (Subtype.val s_1) then true else decide (x.2 < (0 : Int)) then true else decide (x.2 > (1000 : Int))) = true → (!bif bif !posF x (List.length ws) (Subtype.val s_1) then true else decide (x.2 < (0 : Int)) then true else decide (x.2 > (1000 : Int))) = true)
   (Tree.chk ((bif bif !posF x (List.length ws) (Subtype.val s_1) then true else decide (x.2 < (0 : Int)) then true else decide (x.2 > (1000 : Int))) = false → (!bif bif !posF x (List.length ws) (Subtype.val s_1) then true else decide (x.2 < (0 : Int)) then true else decide (x.2 > (1000 : Int))) = true)
   (Tree.chk ((!bif bif bif !posF x (List.length ws) (Subtype.val s_1) then true else decide (x.2 < (0 : Int)) then true else decide (x.2 > (1000 : Int)) then true else decide (x.4 < (0 : Int))) = true → (!bif bif bif !posF x (List.length ws) (Subtype.val s_1) then true else decide (x.2 < (0 : Int)) then true else decide (x.2 > (1000 : Int)) then true else decide (x.4 < (0 : Int))) = true)
   (Tree.chk ((!bif bif bif !posF x (List.length ws) (Subtype.val s_1) then true else decide (x.2 < (0 : Int)) then true else decide (x.2 > (1000 : Int)) then true else decide (x.4 < (0 : Int))) = true → (!bif bif bif !posF x (List.length ws) (Subtype.val s_1) then true else decide (x.2 < (0 : Int)) then true else decide (x.2 > (1000 : Int)) then true else decide (x.4 < (0 : Int))) = true)
   (Tree.chk ((bif bif bif !posF x (List.length ws) (Subtype.val s_1) then true else decide (x.2 < (0 : Int)) then true else decide (x.2 > (1000 : Int)) then true else decide (x.4 < (0 : Int))) = false → (!bif bif bif !posF x (List.length ws) (Subtype.val s_1) then true else decide (x.2 < (0 : Int)) then true else decide (x.2 > (1000 : Int)) then true else decide (x.4 < (0 : Int))) = true)
   (Tree.chk ((!bif bif bif bif !posF x (List.length ws) (Subtype.val s_1) then true else decide (x.2 < (0 : Int)) then true else decide (x.2 > (1000 : Int)) then true else decide (x.4 < (0 : Int)) then true else decide (x.4 > (1000 : Int))) = true → (!bif bif bif bif !posF x (List.length ws) (Subtype.val s_1) then true else decide (x.2 < (0 : Int)) then true else decide (x.2 > (1000 : Int)) then true else decide (x.4 < (0 : Int)) then true else decide (x.4 > (1000 : Int))) = true)
   (Tree.chk ((!bif bif bif bif !posF x (List.length ws) (Subtype.val s_1) then true else decide (x.2 < (0 : Int)) then true else decide (x.2 > (1000 : Int)) then true else decide (x.4 < (0 : Int)) then true else decide (x.4 > (1000 : Int))) = true → (!bif bif bif bif !posF x (List.length ws) (Subtype.val s_1) then true else decide (x.2 < (0 : Int)) then true else decide (x.2 > (1000 : Int)) then true else decide (x.4 < (0 : Int)) then true else decide (x.4 > (1000 : Int))) = true)
   (Tree.chk ((!bif bif bif bif !posF x (List.length ws) (Subtype.val s_1) then true else decide (x.2 < (0 : Int)) then true else decide (x.2 > (1000 : Int)) then true else decide (x.4 < (0 : Int)) then true else decide (x.4 > (1000 : Int))) = true → (!bif bif bif bif !posF x (List.length ws) (Subtype.val s_1) then true else decide (x.2 < (0 : Int)) then true else decide (x.2 > (1000 : Int)) then true else decide (x.4 < (0 : Int)) then true else decide (x.4 > (1000 : Int))) = true)
   (Tree.chk (((!bif bif bif bif !posF x (List.length ws) (Subtype.val s_1) then true else decide (x.2 < (0 : Int)) then true else decide (x.2 > (1000 : Int)) then true else decide (x.4 < (0 : Int)) then true else decide (x.4 > (1000 : Int))) && x.1 == (5 : Int)) = true → ((!bif bif bif bif !posF x (List.length ws) (Subtype.val s_1) then true else decide (x.2 < (0 : Int)) then true else decide (x.2 > (1000 : Int)) then true else decide (x.4 < (0 : Int)) then true else decide (x.4 > (1000 : Int))) && x.1 == (5 : Int)) = true)
   (Tree.chk (((!bif bif bif bif !posF x (List.length ws) (Subtype.val s_1) then true else decide (x.2 < (0 : Int)) then true else decide (x.2 > (1000 : Int)) then true else decide (x.4 < (0 : Int)) then true else decide (x.4 > (1000 : Int))) && x.1 == (5 : Int)) = true → ((!bif bif bif bif !posF x (List.length ws) (Subtype.val s_1) then true else decide (x.2 < (0 : Int)) then true else decide (x.2 > (1000 : Int)) then true else decide (x.4 < (0 : Int)) then true else decide (x.4 > (1000 : Int))) && x.1 == (5 : Int)) = true)
   (Tree.chk ((!bif bif bif bif !posF x (List.length ws) (Subtype.val s_1) then true else decide (x.2 < (0 : Int)) then true else decide (x.2 > (1000 : Int)) then true else decide (x.4 < (0 : Int)) then true else decide (x.4 > (1000 : Int))) = true → (!bif bif bif bif !posF x (List.length ws) (Subtype.val s_1) then true else decide (x.2 < (0 : Int)) then true else decide (x.2 > (1000 : Int)) then true else decide (x.4 < (0 : Int)) then true else decide (x.4 > (1000 : Int))) = true)
   (Tree.chk ((!bif bif bif bif !posF x (List.length ws) (Subtype.val s_1) then true else decide (x.2 < (0 : Int)) then true else decide (x.2 > (1000 : Int)) then true else decide (x.4 < (0 : Int)) then true else decide (x.4 > (1000 : Int))) = true → (x.1 == (5 : Int)) = true → ((!bif bif bif bif !posF x (List.length ws) (Subtype.val s_1) then true else decide (x.2 < (0 : Int)) then true else decide (x.2 > (1000 : Int)) then true else decide (x.4 < (0 : Int)) then true else decide (x.4 > (1000 : Int))) && x.1 == (5 : Int)) = true)
   (Tree.chk ((!bif bif bif bif !posF x (List.length ws) (Subtype.val s_1) then true else decide (x.2 < (0 : Int)) then true else decide (x.2 > (1000 : Int)) then true else decide (x.4 < (0 : Int)) then true else decide (x.4 > (1000 : Int))) = true → (!bif bif bif bif !posF x (List.length ws) (Subtype.val s_1) then true else decide (x.2 < (0 : Int)) then true else decide (x.2 > (1000 : Int)) then true else decide (x.4 < (0 : Int)) then true else decide (x.4 > (1000 : Int))) = true)
   (Tree.chk (((!bif bif bif bif !posF x (List.length ws) (Subtype.val s_1) then true else decide (x.2 < (0 : Int)) then true else decide (x.2 > (1000 : Int)) then true else decide (x.4 < (0 : Int)) then true else decide (x.4 > (1000 : Int))) && bif x.1 == (5 : Int) then x.13 == (-1 : Int) else false) = true → ((!bif bif bif bif !posF x (List.length ws) (Subtype.val s_1) then true else decide (x.2 < (0 : Int)) then true else decide (x.2 > (1000 : Int)) then true else decide (x.4 < (0 : Int)) then true else decide (x.4 > (1000 : Int))) && bif x.1 == (5 : Int) then x.13 == (-1 : Int) else false) = true)
   (Tree.chk (((!bif bif bif bif !posF x (List.length ws) (Subtype.val s_1) then true else decide (x.2 < (0 : Int)) then true else decide (x.2 > (1000 : Int)) then true else decide (x.4 < (0 : Int)) then true else decide (x.4 > (1000 : Int))) && bif x.1 == (5 : Int) then x.13 == (-1 : Int) else false) = true → ((!bif bif bif bif !posF x (List.length ws) (Subtype.val s_1) then true else decide (x.2 < (0 : Int)) then true else decide (x.2 > (1000 : Int)) then true else decide (x.4 < (0 : Int)) then true else decide (x.4 > (1000 : Int))) && bif x.1 == (5 : Int) then x.13 == (-1 : Int) else false) = true)
   (Tree.chk ((!bif bif bif bif !posF x (List.length ws) (Subtype.val s_1) then true else decide (x.2 < (0 : Int)) then true else decide (x.2 > (1000 : Int)) then true else decide (x.4 < (0 : Int)) then true else decide (x.4 > (1000 : Int))) = true → (!bif bif bif bif !posF x (List.length ws) (Subtype.val s_1) then true else decide (x.2 < (0 : Int)) then true else decide (x.2 > (1000 : Int)) then true else decide (x.4 < (0 : Int)) then true else decide (x.4 > (1000 : Int))) = true)
   (Tree.chk ((!bif bif bif bif !posF x (List.length ws) (Subtype.val s_1) then true else decide (x.2 < (0 : Int)) then true else decide (x.2 > (1000 : Int)) then true else decide (x.4 < (0 : Int)) then true else decide (x.4 > (1000 : Int))) = true → (bif x.1 == (5 : Int) then x.13 == (-1 : Int) else false) = true → ((!bif bif bif bif !posF x (List.length ws) (Subtype.val s_1) then true else decide (x.2 < (0 : Int)) then true else decide (x.2 > (1000 : Int)) then true else decide (x.4 < (0 : Int)) then true else decide (x.4 > (1000 : Int))) && bif x.1 == (5 : Int) then x.13 == (-1 : Int) else false) = true)
   (Tree.chk ((bif bif bif bif !posF x (List.length ws) (Subtype.val s_1) then true else decide (x.2 < (0 : Int)) then true else decide (x.2 > (1000 : Int)) then true else decide (x.4 < (0 : Int)) then true else decide (x.4 > (1000 : Int))) = false → (!bif bif bif bif !posF x (List.length ws) (Subtype.val s_1) then true else decide (x.2 < (0 : Int)) then true else decide (x.2 > (1000 : Int)) then true else decide (x.4 < (0 : Int)) then true else decide (x.4 > (1000 : Int))) = true)
   (Tree.chk ((!bif bif bif bif bif !posF x (List.length ws) (Subtype.val s_1) then true else decide (x.2 < (0 : Int)) then true else decide (x.2 > (1000 : Int)) then true else decide (x.4 < (0 : Int)) then true else decide (x.4 > (1000 : Int)) then true else bif bif x.1 == (5 : Int) then x.13 == (-1 : Int) else false then x.14 != (0 : Int) else false) = true → (!bif bif bif bif bif !posF x (List.length ws) (Subtype.val s_1) then true else decide (x.2 < (0 : Int)) then true else decide (x.2 > (1000 : Int)) then true else decide (x.4 < (0 : Int)) then true else decide (x.4 > (1000 : Int)) then true else bif bif x.1 == (5 : Int) then x.13 == (-1 : Int) else false then x.14 != (0 : Int) else false) = true)
   (Tree.chk ((!bif bif bif bif bif !posF x (List.length ws) (Subtype.val s_1) then true else decide (x.2 < (0 : Int)) then true else decide (x.2 > (1000 : Int)) then true else decide (x.4 < (0 : Int)) then true else decide (x.4 > (1000 : Int)) then true else bif bif x.1 == (5 : Int) then x.13 == (-1 : Int) else false then x.14 != (0 : Int) else false) = true → (!bif bif bif bif bif !posF x (List.length ws) (Subtype.val s_1) then true else decide (x.2 < (0 : Int)) then true else decide (x.2 > (1000 : Int)) then true else decide (x.4 < (0 : Int)) then true else decide (x.4 > (1000 : Int)) then true else bif bif x.1 == (5 : Int) then x.13 == (-1 : Int) else false then x.14 != (0 : Int) else false) = true)
   (Tree.chk ((!bif bif bif bif bif !posF x (List.length ws) (Subtype.val s_1) then true else decide (x.2 < (0 : Int)) then true else decide (x.2 > (1000 : Int)) then true else decide (x.4 < (0 : Int)) then true else decide (x.4 > (1000 : Int)) then true else bif bif x.1 == (5 : Int) then x.13 == (-1 : Int) else false then x.14 != (0 : Int) else false) = true → (!bif bif bif bif bif !posF x (List.length ws) (Subtype.val s_1) then true else decide (x.2 < (0 : Int)) then true else decide (x.2 > (1000 : Int)) then true else decide (x.4 < (0 : Int)) then true else decide (x.4 > (1000 : Int)) then true else bif bif x.1 == (5 : Int) then x.13 == (-1 : Int) else false then x.14 != (0 : Int) else false) = true)
   (Tree.chk ((!bif bif bif bif bif !posF x (List.length ws) (Subtype.val s_1) then true else decide (x.2 < (0 : Int)) then true else decide (x.2 > (1000 : Int)) then true else decide (x.4 < (0 : Int)) then true else decide (x.4 > (1000 : Int)) then true else bif bif x.1 == (5 : Int) then x.13 == (-1 : Int) else false then x.14 != (0 : Int) else false) = true → (!bif bif bif bif bif !posF x (List.length ws) (Subtype.val s_1) then true else decide (x.2 < (0 : Int)) then true else decide (x.2 > (1000 : Int)) then true else decide (x.4 < (0 : Int)) then true else decide (x.4 > (1000 : Int)) then true else bif bif x.1 == (5 : Int) then x.13 == (-1 : Int) else false then x.14 != (0 : Int) else false) = true)
   (Tree.chk ((!bif bif bif bif bif !posF x (List.length ws) (Subtype.val s_1) then true else decide (x.2 < (0 : Int)) then true else decide (x.2 > (1000 : Int)) then true else decide (x.4 < (0 : Int)) then true else decide (x.4 > (1000 : Int)) then true else bif bif x.1 == (5 : Int) then x.13 == (-1 : Int) else false then x.14 != (0 : Int) else false) = true → (!bif bif bif bif bif !posF x (List.length ws) (Subtype.val s_1) then true else decide (x.2 < (0 : Int)) then true else decide (x.2 > (1000 : Int)) then true else decide (x.4 < (0 : Int)) then true else decide (x.4 > (1000 : Int)) then true else bif bif x.1 == (5 : Int) then x.13 == (-1 : Int) else false then x.14 != (0 : Int) else false) = true)
   (Tree.chk ((!bif bif bif bif bif !posF x (List.length ws) (Subtype.val s_1) then true else decide (x.2 < (0 : Int)) then true else decide (x.2 > (1000 : Int)) then true else decide (x.4 < (0 : Int)) then true else decide (x.4 > (1000 : Int)) then true else bif bif x.1 == (5 : Int) then x.13 == (-1 : Int) else false then x.14 != (0 : Int) else false) = true → (!bif bif bif bif bif !posF x (List.length ws) (Subtype.val s_1) then true else decide (x.2 < (0 : Int)) then true else decide (x.2 > (1000 : Int)) then true else decide (x.4 < (0 : Int)) then true else decide (x.4 > (1000 : Int)) then true else bif bif x.1 == (5 : Int) then x.13 == (-1 : Int) else false then x.14 != (0 : Int) else false) = true)
   (Tree.chk ((bif bif bif bif bif !posF x (List.length ws) (Subtype.val s_1) then true else decide (x.2 < (0 : Int)) then true else decide (x.2 > (1000 : Int)) then true else decide (x.4 < (0 : Int)) then true else decide (x.4 > (1000 : Int)) then true else bif bif x.1 == (5 : Int) then x.13 == (-1 : Int) else false then x.14 != (0 : Int) else false) = false → (!bif bif bif bif bif !posF x (List.length ws) (Subtype.val s_1) then true else decide (x.2 < (0 : Int)) then true else decide (x.2 > (1000 : Int)) then true else decide (x.4 < (0 : Int)) then true else decide (x.4 > (1000 : Int)) then true else bif bif x.1 == (5 : Int) then x.13 == (-1 : Int) else false then x.14 != (0 : Int) else false) = true)
   (Tree.br (bif bif bif bif bif bif !posF x (List.length ws) (Subtype.val s_1) then true else decide (x.2 < (0 : Int)) then true else decide (x.2 > (1000 : Int)) then true else decide (x.4 < (0 : Int)) then true else decide (x.4 > (1000 : Int)) then true else bif bif x.1 == (5 : Int) then x.13 == (-1 : Int) else false then x.14 != (0 : Int) else false then true else !(x.3 == (-1 : Int)) == (x.4 == (0 : Int)))
   (Tree.done (XV.a (AV.c (CV.v (Value.bool true)))) [(Ent.ws false cap ws), Ent.dead])
   (Tree.both
   (Tree.chk (XV.a (AV.c (iv (0 : Int))) = XV.a (AV.c (iv (0 : Int))))
   (Tree.chk (XV.a (AV.c (iv t)) = XV.a (AV.c (iv t)))
   (Tree.chk (XV.a (AV.c (iv v)) = XV.a (AV.c (iv v)))
   (Tree.chk (XV.a (AV.c (CV.ptr { k := 1, j := 0, i := 0, sz := 15, c := 0, d := 0, dn := 0, cu := 0 })) = XV.a (AV.c (CV.ptr { k := 1, j := 0, i := 0, sz := 15, c := 0, d := 0, dn := 0, cu := 0 })))
   (Tree.chk (XV.a (AV.c (CV.v (Value.bool true))) = XV.a (AV.c (CV.v (Value.bool true))))
   (Tree.chk (XV.a (AV.c (CV.sl 2 0 0 2 4 4)) = XV.a (AV.c (CV.sl 2 0 0 2 4 4)))
   (Tree.chk (XV.a (AV.c (CV.sl 3 0 0 2 4 4)) = XV.a (AV.c (CV.sl 3 0 0 2 4 4)))
   (Tree.chk (EntRel 4 [0, 1, 2, 3] 4 (Ent.ws false cap ws) (Ent.ws false cap ws))
   (Tree.chk (EntRel 4 [0, 1, 2, 3] 4 (Ent.mkBox 25 [iv x.1, iv x.2, iv x.3, iv x.4, iv x.5, iv x.6, iv x.7, iv x.8, iv x.9, iv x.10, iv x.11, iv x.12, CV.sl 0 0 0 2 (List.length ws) cap, iv x.13, iv x.14]) (Ent.mkBox 25 [iv x.1, iv x.2, iv x.3, iv x.4, iv x.5, iv x.6, iv x.7, iv x.8, iv x.9, iv x.10, iv x.11, iv x.12, CV.sl 0 0 0 2 (List.length ws) cap, iv x.13, iv x.14]))
   (Tree.chk (EntRel 4 [0, 1, 2, 3] 4 { own := true, box := false, ty := 29, sz := 2, m := 1, n := fun x => 4, cap := fun x => 4, f := fun x i => List.getD [[iv (1 : Int), iv (1 : Int)], [iv (1 : Int), iv v], [iv (2 : Int), iv (0 : Int)], [iv (15 : Int), iv v]] i [], ov := [] } { own := true, box := false, ty := 29, sz := 2, m := 1, n := fun x => 4, cap := fun x => 4, f := fun x i => [iv (tkF i), iv (tvF v i)], ov := [] })
   (Tree.chk (EntRel 4 [0, 1, 2, 3] 4 { own := true, box := false, ty := 29, sz := 2, m := 1, n := fun x => 4, cap := fun x => 4, f := fun x i => List.getD [[iv (3 : Int), iv (0 : Int)], [iv (3 : Int), iv v], [iv (4 : Int), iv (0 : Int)], [iv (16 : Int), iv (0 : Int)]] i [], ov := [] } { own := true, box := false, ty := 29, sz := 2, m := 1, n := fun x => 4, cap := fun x => 4, f := fun x i => [iv (fkF i), iv (fvF v i)], ov := [] })
   (Tree.need True))))))))))))
   (Tree.every { i // le4 i } fun s_2 => Tree.br (decide ((↑(Subtype.val s_2) : Int) < (4 : Int)))
   (Tree.chk (((↑(Subtype.val s_2) : Int) == (0 : Int)) = true → ((↑(Subtype.val s_2) : Int) == (0 : Int)) = true)
   (Tree.chk (((↑(Subtype.val s_2) : Int) == (0 : Int)) = true → ((↑(Subtype.val s_2) : Int) == (0 : Int)) = true)
   (Tree.chk (((↑(Subtype.val s_2) : Int) == (0 : Int)) = true → ((↑(Subtype.val s_2) : Int) == (0 : Int)) = true)
   (Tree.chk ((!bif (↑(Subtype.val s_2) : Int) == (0 : Int) then x.1 == (2 : Int) else false) = true → (!bif (↑(Subtype.val s_2) : Int) == (0 : Int) then x.1 == (2 : Int) else false) = true)
   (Tree.chk ((!bif (↑(Subtype.val s_2) : Int) == (0 : Int) then x.1 == (2 : Int) else false) = true → (!bif (↑(Subtype.val s_2) : Int) == (0 : Int) then x.1 == (2 : Int) else false) = true)
   (Tree.chk (((!bif (↑(Subtype.val s_2) : Int) == (0 : Int) then x.1 == (2 : Int) else false) && (↑(Subtype.val s_2) : Int) == (1 : Int)) = true → ((!bif (↑(Subtype.val s_2) : Int) == (0 : Int) then x.1 == (2 : Int) else false) && (↑(Subtype.val s_2) : Int) == (1 : Int)) = true)
   (Tree.chk (((!bif (↑(Subtype.val s_2) : Int) == (0 : Int) then x.1 == (2 : Int) else false) && (↑(Subtype.val s_2) : Int) == (1 : Int)) = true → ((!bif (↑(Subtype.val s_2) : Int) == (0 : Int) then x.1 == (2 : Int) else false) && (↑(Subtype.val s_2) : Int) == (1 : Int)) = true)
   (Tree.chk ((!bif (↑(Subtype.val s_2) : Int) == (0 : Int) then x.1 == (2 : Int) else false) = true → (!bif (↑(Subtype.val s_2) : Int) == (0 : Int) then x.1 == (2 : Int) else false) = true)
   (Tree.chk ((!bif (↑(Subtype.val s_2) : Int) == (0 : Int) then x.1 == (2 : Int) else false) = true → ((↑(Subtype.val s_2) : Int) == (1 : Int)) = true → ((!bif (↑(Subtype.val s_2) : Int) == (0 : Int) then x.1 == (2 : Int) else false) && (↑(Subtype.val s_2) : Int) == (1 : Int)) = true)
   (Tree.chk ((bif (↑(Subtype.val s_2) : Int) == (0 : Int) then x.1 == (2 : Int) else false) = false → (!bif (↑(Subtype.val s_2) : Int) == (0 : Int) then x.1 == (2 : Int) else false) = true)
   (Tree.br (bif bif (↑(Subtype.val s_2) : Int) == (0 : Int) then x.1 == (2 : Int) else false then true else bif (↑(Subtype.val s_2) : Int) == (1 : Int) then x.1 != (2 : Int) else false)
   (Tree.some_ { i // le4 i } fun s' => Tree.chk (4 - Subtype.val s' < 4 - Subtype.val s_2)
   (Tree.chk (XV.a (AV.c (iv (IntKind.wrap IntKind.i64 ((↑(Subtype.val s_2) : Int) + (1 : Int))))) = XV.a (AV.c (iv (↑(Subtype.val s') : Int))))
   (Tree.chk (XV.a (AV.c (iv t)) = XV.a (AV.c (iv t)))
   (Tree.chk (XV.a (AV.c (iv v)) = XV.a (AV.c (iv v)))
   (Tree.chk (XV.a (AV.c (CV.ptr { k := 1, j := 0, i := 0, sz := 15, c := 0, d := 0, dn := 0, cu := 0 })) = XV.a (AV.c (CV.ptr { k := 1, j := 0, i := 0, sz := 15, c := 0, d := 0, dn := 0, cu := 0 })))
   (Tree.chk (XV.a (AV.c (CV.v (Value.bool true))) = XV.a (AV.c (CV.v (Value.bool true))))
   (Tree.chk (XV.a (AV.c (CV.sl 2 0 0 2 4 4)) = XV.a (AV.c (CV.sl 2 0 0 2 4 4)))
   (Tree.chk (XV.a (AV.c (CV.sl 3 0 0 2 4 4)) = XV.a (AV.c (CV.sl 3 0 0 2 4 4)))
   (Tree.chk (EntRel 4 [0, 1, 2, 3] 4 { own := false, box := false, ty := 37, sz := 2, m := 1, n := fun x => List.length ws, cap := fun x => cap, f := fun x i => [iv (Prod.fst (List.getD ws i ((0 : Int), (0 : Int)))), iv (Prod.snd (List.getD ws i ((0 : Int), (0 : Int))))], ov := [] } { own := false, box := false, ty := 37, sz := 2, m := 1, n := fun x => List.length ws, cap := fun x => cap, f := fun x i => [iv (Prod.fst (List.getD ws i ((0 : Int), (0 : Int)))), iv (Prod.snd (List.getD ws i ((0 : Int), (0 : Int))))], ov := [] })
   (Tree.chk (EntRel 4 [0, 1, 2, 3] 4 { own := true, box := true, ty := 25, sz := 15, m := 1, n := fun x => 1, cap := fun x => 1, f := fun x_1 x_2 => [iv x.1, iv x.2, iv x.3, iv x.4, iv x.5, iv x.6, iv x.7, iv x.8, iv x.9, iv x.10, iv x.11, iv x.12, CV.sl 0 0 0 2 (List.length ws) cap, iv x.13, iv x.14], ov := [] } { own := true, box := true, ty := 25, sz := 15, m := 1, n := fun x => 1, cap := fun x => 1, f := fun x_1 x_2 => [iv x.1, iv x.2, iv x.3, iv x.4, iv x.5, iv x.6, iv x.7, iv x.8, iv x.9, iv x.10, iv x.11, iv x.12, CV.sl 0 0 0 2 (List.length ws) cap, iv x.13, iv x.14], ov := [] })
   (Tree.chk (EntRel 4 [0, 1, 2, 3] 4 { own := true, box := false, ty := 29, sz := 2, m := 1, n := fun x => 4, cap := fun x => 4, f := fun x i => [iv (tkF i), iv (tvF v i)], ov := [] } { own := true, box := false, ty := 29, sz := 2, m := 1, n := fun x => 4, cap := fun x => 4, f := fun x i => [iv (tkF i), iv (tvF v i)], ov := [] })
   (Tree.chk (EntRel 4 [0, 1, 2, 3] 4 { own := true, box := false, ty := 29, sz := 2, m := 1, n := fun x => 4, cap := fun x => 4, f := fun x i => [iv (fkF i), iv (fvF v i)], ov := [] } { own := true, box := false, ty := 29, sz := 2, m := 1, n := fun x => 4, cap := fun x => 4, f := fun x i => [iv (fkF i), iv (fvF v i)], ov := [] })
   (Tree.need True)))))))))))))
   (Tree.some_ Unit fun s_3 => Tree.both
   (Tree.every (Nat → Nat → Nat) fun c => Tree.sub
   (Tree.chk (0 < 1 ∧ 0 < 1)
   (Tree.some_ (Nat → Nat) fun d => Tree.chk (some (XV.a (AV.agg [iv x.1, iv x.2, iv x.3, iv x.4, iv x.5, iv x.6, iv x.7, iv x.8, iv x.9, iv x.10, iv x.11, iv x.12, CV.sl 0 0 0 2 (List.length ws) cap, iv x.13, iv x.14])) = some (XV.a (AV.agg [iv x.1, iv x.2, iv x.3, iv x.4, iv x.5, iv x.6, iv x.7, iv x.8, iv x.9, iv x.10, iv x.11, iv x.12, CV.sl 0 0 0 2 (List.length ws) cap, iv x.13, iv x.14])))
   (Tree.chk (EqH [] [])
   (Tree.chk (0 = 0)
   (Tree.chk True
   (Tree.need True)))))))
   (Tree.both
   (Tree.every (Nat → Nat → Nat) fun c => Tree.sub
   (Tree.some_ (Nat → Nat) fun d => Tree.chk (some (XV.a (AV.c (iv t))) = some (XV.a (AV.c (iv t))))
   (Tree.chk (EqH [] [])
   (Tree.chk (0 = 0)
   (Tree.chk True
   (Tree.need True))))))
   (Tree.both
   (Tree.every (Nat → Nat → Nat) fun c => Tree.sub
   (Tree.some_ (Nat → Nat) fun d => Tree.chk (some (XV.a (AV.c (CV.sl 2 0 0 2 4 4))) = some (XV.a (AV.c (CV.sl 2 0 0 2 4 4))))
   (Tree.chk (EqH [] [])
   (Tree.chk (0 = 0)
   (Tree.chk True
   (Tree.need True))))))
   (Tree.both
   (Tree.every (Nat → Nat → Nat) fun c => Tree.sub
   (Tree.some_ (Nat → Nat) fun d => Tree.chk (some (XV.a (AV.c (iv (↑(Subtype.val s_2) : Int)))) = some (XV.a (AV.c (iv (↑(Subtype.val s_2) : Int)))))
   (Tree.chk (EqH [] [])
   (Tree.chk (0 = 0)
   (Tree.chk True
   (Tree.need True))))))
   (Tree.both
   (Tree.every (Nat → Nat → Nat) fun c => Tree.sub
   (Tree.chk ((0 : Int) ≤ (↑(Subtype.val s_2) : Int) ∧ (↑(Subtype.val s_2) : Int) < (↑(4 : Nat) : Int) ∧ Int.toNat (↑(Subtype.val s_2) : Int) < 4 ∧ 0 < 1)
   (Tree.some_ (Nat → Nat) fun d => Tree.chk (some (XV.a (AV.c (CV.ptr { k := 2, j := 0, i := Int.toNat (↑(Subtype.val s_2) : Int), sz := 2, c := 0, d := 0, dn := 0, cu := 117 }))) = some (XV.a (AV.c (CV.ptr { k := 2, j := 0, i := Int.toNat (↑(Subtype.val s_2) : Int), sz := 2, c := 0, d := 0, dn := 0, cu := 117 }))))
   (Tree.chk (EqH [] [])
   (Tree.chk (0 = 0)
   (Tree.chk True
   (Tree.need True)))))))
   (Tree.both
   (Tree.every (Nat → Nat → Nat) fun c => Tree.sub
   (Tree.chk (0 < 1 ∧ Int.toNat (↑(Subtype.val s_2) : Int) < 4)
   (Tree.some_ (Nat → Nat) fun d => Tree.chk (some (XV.a (AV.agg [iv (tkF (bI s_2.1)), iv (tvF v (bI s_2.1))])) = some (XV.a (AV.agg [iv (tkF (bI s_2.1)), iv (tvF v (bI s_2.1))])))
   (Tree.chk (EqH [] [])
   (Tree.chk (0 = 0)
   (Tree.chk True
   (Tree.need True)))))))
   (Tree.both
   (Tree.every (Nat → Nat → Nat) fun c => Tree.sub
   (Tree.callf 11 [AV.agg [iv x.1, iv x.2, iv x.3, iv x.4, iv x.5, iv x.6, iv x.7, iv x.8, iv x.9, iv x.10, iv x.11, iv x.12, CV.sl 0 0 0 2 (List.length ws) cap, iv x.13, iv x.14], AV.c (iv t), AV.agg [iv (tkF (bI s_2.1)), iv (tvF v (bI s_2.1))]] [{ own := false, box := false, ty := 37, sz := 2, m := 1, n := fun a => List.length ws, cap := fun a => cap, f := fun a a_1 => [iv (Prod.fst (List.getD ws a_1 ((0 : Int), (0 : Int)))), iv (Prod.snd (List.getD ws a_1 ((0 : Int), (0 : Int))))], ov := [] }, { own := false, box := false, ty := 25, sz := 15, m := 1, n := fun a => 1, cap := fun a => 1, f := fun a a_1 => [iv x.1, iv x.2, iv x.3, iv x.4, iv x.5, iv x.6, iv x.7, iv x.8, iv x.9, iv x.10, iv x.11, iv x.12, CV.sl 0 0 0 2 (List.length ws) cap, iv x.13, iv x.14], ov := [] }, { own := false, box := false, ty := 29, sz := 2, m := 1, n := fun a => 4, cap := fun a => 4, f := fun a a_1 => [iv (tkF a_1), iv (tvF v a_1)], ov := [] }, { own := false, box := false, ty := 29, sz := 2, m := 1, n := fun a => 4, cap := fun a => 4, f := fun a a_1 => [iv (fkF a_1), iv (fvF v a_1)], ov := [] }] (doC x t (tkF (bI s_2.1)) (tvF v (bI s_2.1)) ws false 0 (List.length ws) cap cap 4 [0]) fun c => Tree.some_ (Nat → Nat) fun d => Tree.chk (doGood x t (tkF (bI s_2.1)) (tvF v (bI s_2.1)) (List.take (List.length ws) (List.drop 0 ws)) d)
   (Tree.chk (some (XV.tup [AV.agg [iv (Prod.fst (bY x t v ws s_2.1)).1, iv (Prod.fst (bY x t v ws s_2.1)).2, iv (Prod.fst (bY x t v ws s_2.1)).3, iv (Prod.fst (bY x t v ws s_2.1)).4, iv (Prod.fst (bY x t v ws s_2.1)).5, iv (Prod.fst (bY x t v ws s_2.1)).6, iv (Prod.fst (bY x t v ws s_2.1)).7, iv (Prod.fst (bY x t v ws s_2.1)).8, iv (Prod.fst (bY x t v ws s_2.1)).9, iv (Prod.fst (bY x t v ws s_2.1)).10, iv (Prod.fst (bY x t v ws s_2.1)).11, iv (Prod.fst (bY x t v ws s_2.1)).12, CV.sl 4 0 (c 2) 2 (List.length (Prod.fst (Prod.snd (bY x t v ws s_2.1)))) (c 0), iv (Prod.fst (bY x t v ws s_2.1)).13, iv (Prod.fst (bY x t v ws s_2.1)).14], AV.c (CV.v (Value.bool (Prod.snd (Prod.snd (bY x t v ws s_2.1)))))]) = some (XV.tup [AV.agg [iv (Prod.fst (bY x t v ws s_2.1)).1, iv (Prod.fst (bY x t v ws s_2.1)).2, iv (Prod.fst (bY x t v ws s_2.1)).3, iv (Prod.fst (bY x t v ws s_2.1)).4, iv (Prod.fst (bY x t v ws s_2.1)).5, iv (Prod.fst (bY x t v ws s_2.1)).6, iv (Prod.fst (bY x t v ws s_2.1)).7, iv (Prod.fst (bY x t v ws s_2.1)).8, iv (Prod.fst (bY x t v ws s_2.1)).9, iv (Prod.fst (bY x t v ws s_2.1)).10, iv (Prod.fst (bY x t v ws s_2.1)).11, iv (Prod.fst (bY x t v ws s_2.1)).12, CV.sl 4 0 (d 2) 2 (List.length (Prod.fst (Prod.snd (bY x t v ws s_2.1)))) (d 0), iv (Prod.fst (bY x t v ws s_2.1)).13, iv (Prod.fst (bY x t v ws s_2.1)).14], AV.c (CV.v (Value.bool (Prod.snd (Prod.snd (bY x t v ws s_2.1)))))]))
   (Tree.chk (EqH [{ own := true, box := false, ty := 37, sz := 2, m := 1, n := fun x_1 => List.length (doRowF x t (tkF (bI s_2.1)) (tvF v (bI s_2.1)) (List.take (List.length ws) (List.drop 0 ws))), cap := fun x => c 1, f := fun x_1 i => [iv (Prod.fst (List.getD (doRowF x t (tkF (bI s_2.1)) (tvF v (bI s_2.1)) (List.take (List.length ws) (List.drop 0 ws))) i ((0 : Int), (0 : Int)))), iv (Prod.snd (List.getD (doRowF x t (tkF (bI s_2.1)) (tvF v (bI s_2.1)) (List.take (List.length ws) (List.drop 0 ws))) i ((0 : Int), (0 : Int))))], ov := [] }] [{ own := true, box := false, ty := 37, sz := 2, m := 1, n := fun x_1 => List.length (doRowF x t (tkF (bI s_2.1)) (tvF v (bI s_2.1)) (List.take (List.length ws) (List.drop 0 ws))), cap := fun x => d 1, f := fun x_1 i => [iv (Prod.fst (List.getD (doRowF x t (tkF (bI s_2.1)) (tvF v (bI s_2.1)) (List.take (List.length ws) (List.drop 0 ws))) i ((0 : Int), (0 : Int)))), iv (Prod.snd (List.getD (doRowF x t (tkF (bI s_2.1)) (tvF v (bI s_2.1)) (List.take (List.length ws) (List.drop 0 ws))) i ((0 : Int), (0 : Int))))], ov := [] }])
   (Tree.chk (1 = 1)
   (Tree.chk (((true = true ∨ ∀ (j : Nat), List.length (doRowF x t (tkF (bI s_2.1)) (tvF v (bI s_2.1)) (List.take (List.length ws) (List.drop 0 ws))) = 0) ∧ ∀ (j i : Nat), true = true) ∧ True)
   (Tree.need True)))))))
   (Tree.both
   (Tree.every (Nat → Nat → Nat) fun c => Tree.hyp (doGood x t (tkF (bI s_2.1)) (tvF v (bI s_2.1)) (List.take (List.length ws) (List.drop 0 ws)) (c 6))
   (Tree.sub
   (Tree.some_ (Nat → Nat) fun d => Tree.chk (some (XV.tup [AV.agg [iv (Prod.fst (bY x t v ws s_2.1)).1, iv (Prod.fst (bY x t v ws s_2.1)).2, iv (Prod.fst (bY x t v ws s_2.1)).3, iv (Prod.fst (bY x t v ws s_2.1)).4, iv (Prod.fst (bY x t v ws s_2.1)).5, iv (Prod.fst (bY x t v ws s_2.1)).6, iv (Prod.fst (bY x t v ws s_2.1)).7, iv (Prod.fst (bY x t v ws s_2.1)).8, iv (Prod.fst (bY x t v ws s_2.1)).9, iv (Prod.fst (bY x t v ws s_2.1)).10, iv (Prod.fst (bY x t v ws s_2.1)).11, iv (Prod.fst (bY x t v ws s_2.1)).12, CV.sl 4 0 (c 6 2) 2 (List.length (Prod.fst (Prod.snd (bY x t v ws s_2.1)))) (c 6 0), iv (Prod.fst (bY x t v ws s_2.1)).13, iv (Prod.fst (bY x t v ws s_2.1)).14], AV.c (CV.v (Value.bool (Prod.snd (Prod.snd (bY x t v ws s_2.1)))))]) = some (XV.tup [AV.agg [iv (Prod.fst (bY x t v ws s_2.1)).1, iv (Prod.fst (bY x t v ws s_2.1)).2, iv (Prod.fst (bY x t v ws s_2.1)).3, iv (Prod.fst (bY x t v ws s_2.1)).4, iv (Prod.fst (bY x t v ws s_2.1)).5, iv (Prod.fst (bY x t v ws s_2.1)).6, iv (Prod.fst (bY x t v ws s_2.1)).7, iv (Prod.fst (bY x t v ws s_2.1)).8, iv (Prod.fst (bY x t v ws s_2.1)).9, iv (Prod.fst (bY x t v ws s_2.1)).10, iv (Prod.fst (bY x t v ws s_2.1)).11, iv (Prod.fst (bY x t v ws s_2.1)).12, CV.sl 4 0 (c 6 2) 2 (List.length (Prod.fst (Prod.snd (bY x t v ws s_2.1)))) (c 6 0), iv (Prod.fst (bY x t v ws s_2.1)).13, iv (Prod.fst (bY x t v ws s_2.1)).14], AV.c (CV.v (Value.bool (Prod.snd (Prod.snd (bY x t v ws s_2.1)))))]))
   (Tree.chk (EqH [] [])
   (Tree.chk (0 = 0)
   (Tree.chk True
   (Tree.need True)))))))
   (Tree.both
   (Tree.every (Nat → Nat → Nat) fun c => Tree.hyp (doGood x t (tkF (bI s_2.1)) (tvF v (bI s_2.1)) (List.take (List.length ws) (List.drop 0 ws)) (c 6))
   (Tree.sub
   (Tree.some_ (Nat → Nat) fun d => Tree.chk (some (XV.a (AV.agg [iv (Prod.fst (bY x t v ws s_2.1)).1, iv (Prod.fst (bY x t v ws s_2.1)).2, iv (Prod.fst (bY x t v ws s_2.1)).3, iv (Prod.fst (bY x t v ws s_2.1)).4, iv (Prod.fst (bY x t v ws s_2.1)).5, iv (Prod.fst (bY x t v ws s_2.1)).6, iv (Prod.fst (bY x t v ws s_2.1)).7, iv (Prod.fst (bY x t v ws s_2.1)).8, iv (Prod.fst (bY x t v ws s_2.1)).9, iv (Prod.fst (bY x t v ws s_2.1)).10, iv (Prod.fst (bY x t v ws s_2.1)).11, iv (Prod.fst (bY x t v ws s_2.1)).12, CV.sl 4 0 (c 6 2) 2 (List.length (Prod.fst (Prod.snd (bY x t v ws s_2.1)))) (c 6 0), iv (Prod.fst (bY x t v ws s_2.1)).13, iv (Prod.fst (bY x t v ws s_2.1)).14])) = some (XV.a (AV.agg [iv (Prod.fst (bY x t v ws s_2.1)).1, iv (Prod.fst (bY x t v ws s_2.1)).2, iv (Prod.fst (bY x t v ws s_2.1)).3, iv (Prod.fst (bY x t v ws s_2.1)).4, iv (Prod.fst (bY x t v ws s_2.1)).5, iv (Prod.fst (bY x t v ws s_2.1)).6, iv (Prod.fst (bY x t v ws s_2.1)).7, iv (Prod.fst (bY x t v ws s_2.1)).8, iv (Prod.fst (bY x t v ws s_2.1)).9, iv (Prod.fst (bY x t v ws s_2.1)).10, iv (Prod.fst (bY x t v ws s_2.1)).11, iv (Prod.fst (bY x t v ws s_2.1)).12, CV.sl 4 0 (c 6 2) 2 (List.length (Prod.fst (Prod.snd (bY x t v ws s_2.1)))) (c 6 0), iv (Prod.fst (bY x t v ws s_2.1)).13, iv (Prod.fst (bY x t v ws s_2.1)).14])))
   (Tree.chk (EqH [] [])
   (Tree.chk (0 = 0)
   (Tree.chk True
   (Tree.need True)))))))
   (Tree.both
   (Tree.every (Nat → Nat → Nat) fun c => Tree.hyp (doGood x t (tkF (bI s_2.1)) (tvF v (bI s_2.1)) (List.take (List.length ws) (List.drop 0 ws)) (c 6))
   (Tree.sub
   (Tree.some_ (Nat → Nat) fun d => Tree.chk (some (XV.a (AV.c (CV.v (Value.bool (Prod.snd (Prod.snd (bY x t v ws s_2.1))))))) = some (XV.a (AV.c (CV.v (Value.bool (Prod.snd (Prod.snd (bY x t v ws s_2.1))))))))
   (Tree.chk (EqH [] [])
   (Tree.chk (0 = 0)
   (Tree.chk True
   (Tree.need True)))))))
   (Tree.both
   (Tree.every (Nat → Nat → Nat) fun c => Tree.sub
   (Tree.some_ (Nat → Nat) fun d => Tree.chk (some (XV.a (AV.c (CV.ptr { k := 5, j := 0, i := 0, sz := 15, c := 0, d := 0, dn := 0, cu := 0 }))) = some (XV.a (AV.c (CV.ptr { k := 5, j := 0, i := 0, sz := 15, c := 0, d := 0, dn := 0, cu := 0 }))))
   (Tree.chk (EqH [{ own := true, box := true, ty := 25, sz := 15, m := 1, n := fun x => 1, cap := fun x => 1, f := fun x x_1 => [iv (0 : Int), iv (0 : Int), iv (0 : Int), iv (0 : Int), iv (0 : Int), iv (0 : Int), iv (0 : Int), iv (0 : Int), iv (0 : Int), iv (0 : Int), iv (0 : Int), iv (0 : Int), CV.v (Value.slice none 0 0), iv (0 : Int), iv (0 : Int)], ov := [] }] [{ own := true, box := true, ty := 25, sz := 15, m := 1, n := fun x => 1, cap := fun x => 1, f := fun x x_1 => [iv (0 : Int), iv (0 : Int), iv (0 : Int), iv (0 : Int), iv (0 : Int), iv (0 : Int), iv (0 : Int), iv (0 : Int), iv (0 : Int), iv (0 : Int), iv (0 : Int), iv (0 : Int), CV.v (Value.slice none 0 0), iv (0 : Int), iv (0 : Int)], ov := [] }])
   (Tree.chk (1 = 1)
   (Tree.chk (((true = true ∨ ∀ (j : Nat), 1 = 0) ∧ ∀ (j i : Nat), true = true) ∧ True)
   (Tree.need True))))))
   (Tree.both
   (Tree.every (Nat → Nat → Nat) fun c => Tree.hyp (doGood x t (tkF (bI s_2.1)) (tvF v (bI s_2.1)) (List.take (List.length ws) (List.drop 0 ws)) (c 6))
   (Tree.sub
   (Tree.some_ (Nat → Nat) fun d => Tree.chk (some (XV.a (AV.c (CV.v (Value.tuple { toList := [] })))) = some (XV.a (AV.c (CV.v (Value.tuple { toList := [] })))))
   (Tree.chk (EqH [] [])
   (Tree.chk (0 = 0)
   (Tree.chk True
   (Tree.chk (EqE (some { own := true, box := true, ty := 25, sz := 15, m := 1, n := fun a => 1, cap := fun a => 1, f := fun x_1 x_2 => [iv (Prod.fst (bY x t v ws s_2.1)).1, iv (Prod.fst (bY x t v ws s_2.1)).2, iv (Prod.fst (bY x t v ws s_2.1)).3, iv (Prod.fst (bY x t v ws s_2.1)).4, iv (Prod.fst (bY x t v ws s_2.1)).5, iv (Prod.fst (bY x t v ws s_2.1)).6, iv (Prod.fst (bY x t v ws s_2.1)).7, iv (Prod.fst (bY x t v ws s_2.1)).8, iv (Prod.fst (bY x t v ws s_2.1)).9, iv (Prod.fst (bY x t v ws s_2.1)).10, iv (Prod.fst (bY x t v ws s_2.1)).11, iv (Prod.fst (bY x t v ws s_2.1)).12, CV.sl 4 0 (c 6 2) 2 (List.length (Prod.fst (Prod.snd (bY x t v ws s_2.1)))) (c 6 0), iv (Prod.fst (bY x t v ws s_2.1)).13, iv (Prod.fst (bY x t v ws s_2.1)).14], ov := [] }) (some { own := true, box := true, ty := 25, sz := 15, m := 1, n := fun a => 1, cap := fun a => 1, f := fun x_1 x_2 => [iv (Prod.fst (bY x t v ws s_2.1)).1, iv (Prod.fst (bY x t v ws s_2.1)).2, iv (Prod.fst (bY x t v ws s_2.1)).3, iv (Prod.fst (bY x t v ws s_2.1)).4, iv (Prod.fst (bY x t v ws s_2.1)).5, iv (Prod.fst (bY x t v ws s_2.1)).6, iv (Prod.fst (bY x t v ws s_2.1)).7, iv (Prod.fst (bY x t v ws s_2.1)).8, iv (Prod.fst (bY x t v ws s_2.1)).9, iv (Prod.fst (bY x t v ws s_2.1)).10, iv (Prod.fst (bY x t v ws s_2.1)).11, iv (Prod.fst (bY x t v ws s_2.1)).12, CV.sl 4 0 (c 6 2) 2 (List.length (Prod.fst (Prod.snd (bY x t v ws s_2.1)))) (c 6 0), iv (Prod.fst (bY x t v ws s_2.1)).13, iv (Prod.fst (bY x t v ws s_2.1)).14], ov := [] }))
   (Tree.chk (((true = true ∨ ∀ (j : Nat), 1 = 0) ∧ ∀ (j i : Nat), true = true) ∧ True)
   (Tree.need True)))))))))
   (Tree.both
   (Tree.every (Nat → Nat → Nat) fun c => Tree.hyp (doGood x t (tkF (bI s_2.1)) (tvF v (bI s_2.1)) (List.take (List.length ws) (List.drop 0 ws)) (c 6))
   (Tree.sub
   (Tree.some_ (Nat → Nat) fun d => Tree.chk (some (XV.a (AV.c (CV.v (Value.bool (Prod.snd (Prod.snd (bY x t v ws s_2.1))))))) = some (XV.a (AV.c (CV.v (Value.bool (Prod.snd (Prod.snd (bY x t v ws s_2.1))))))))
   (Tree.chk (EqH [] [])
   (Tree.chk (0 = 0)
   (Tree.chk True
   (Tree.need True)))))))
   (Tree.every (Nat → Nat → Nat) fun c_2 => Tree.hyp (doGood x t (tkF (bI s_2.1)) (tvF v (bI s_2.1)) (List.take (List.length ws) (List.drop 0 ws)) (c_2 6))
   (Tree.chk ((!!Prod.snd (Prod.snd (bY x t v ws s_2.1))) = true → (!!Prod.snd (Prod.snd (bY x t v ws s_2.1))) = true)
   (Tree.chk ((!!Prod.snd (Prod.snd (bY x t v ws s_2.1))) = true → (!!Prod.snd (Prod.snd (bY x t v ws s_2.1))) = true)
   (Tree.chk ((!Prod.snd (Prod.snd (bY x t v ws s_2.1))) = false → (!!Prod.snd (Prod.snd (bY x t v ws s_2.1))) = true)
   (Tree.br (bif !Prod.snd (Prod.snd (bY x t v ws s_2.1)) then true else x.1 == (3 : Int))
   (Tree.some_ { i // le4 i } fun s' => Tree.chk (4 - Subtype.val s' < 4 - Subtype.val s_2)
   (Tree.chk (XV.a (AV.c (iv (IntKind.wrap IntKind.i64 ((↑(Subtype.val s_2) : Int) + (1 : Int))))) = XV.a (AV.c (iv (↑(Subtype.val s') : Int))))
   (Tree.chk (XV.a (AV.c (iv t)) = XV.a (AV.c (iv t)))
   (Tree.chk (XV.a (AV.c (iv v)) = XV.a (AV.c (iv v)))
   (Tree.chk (XV.a (AV.c (CV.ptr { k := 1, j := 0, i := 0, sz := 15, c := 0, d := 0, dn := 0, cu := 0 })) = XV.a (AV.c (CV.ptr { k := 1, j := 0, i := 0, sz := 15, c := 0, d := 0, dn := 0, cu := 0 })))
   (Tree.chk (XV.a (AV.c (CV.v (Value.bool true))) = XV.a (AV.c (CV.v (Value.bool true))))
   (Tree.chk (XV.a (AV.c (CV.sl 2 0 0 2 4 4)) = XV.a (AV.c (CV.sl 2 0 0 2 4 4)))
   (Tree.chk (XV.a (AV.c (CV.sl 3 0 0 2 4 4)) = XV.a (AV.c (CV.sl 3 0 0 2 4 4)))
   (Tree.chk (EntRel 6 [0, 1, 2, 3] 4 { own := false, box := false, ty := 37, sz := 2, m := 1, n := fun x => List.length ws, cap := fun x => cap, f := fun x i => [iv (Prod.fst (List.getD ws i ((0 : Int), (0 : Int)))), iv (Prod.snd (List.getD ws i ((0 : Int), (0 : Int))))], ov := [] } { own := false, box := false, ty := 37, sz := 2, m := 1, n := fun x => List.length ws, cap := fun x => cap, f := fun x i => [iv (Prod.fst (List.getD ws i ((0 : Int), (0 : Int)))), iv (Prod.snd (List.getD ws i ((0 : Int), (0 : Int))))], ov := [] })
   (Tree.chk (EntRel 6 [0, 1, 2, 3] 4 { own := true, box := true, ty := 25, sz := 15, m := 1, n := fun x => 1, cap := fun x => 1, f := fun x_1 x_2 => [iv x.1, iv x.2, iv x.3, iv x.4, iv x.5, iv x.6, iv x.7, iv x.8, iv x.9, iv x.10, iv x.11, iv x.12, CV.sl 0 0 0 2 (List.length ws) cap, iv x.13, iv x.14], ov := [] } { own := true, box := true, ty := 25, sz := 15, m := 1, n := fun x => 1, cap := fun x => 1, f := fun x_1 x_2 => [iv x.1, iv x.2, iv x.3, iv x.4, iv x.5, iv x.6, iv x.7, iv x.8, iv x.9, iv x.10, iv x.11, iv x.12, CV.sl 0 0 0 2 (List.length ws) cap, iv x.13, iv x.14], ov := [] })
   (Tree.chk (EntRel 6 [0, 1, 2, 3] 4 { own := true, box := false, ty := 29, sz := 2, m := 1, n := fun x => 4, cap := fun x => 4, f := fun x i => [iv (tkF i), iv (tvF v i)], ov := [] } { own := true, box := false, ty := 29, sz := 2, m := 1, n := fun x => 4, cap := fun x => 4, f := fun x i => [iv (tkF i), iv (tvF v i)], ov := [] })
   (Tree.chk (EntRel 6 [0, 1, 2, 3] 4 { own := true, box := false, ty := 29, sz := 2, m := 1, n := fun x => 4, cap := fun x => 4, f := fun x i => [iv (fkF i), iv (fvF v i)], ov := [] } { own := true, box := false, ty := 29, sz := 2, m := 1, n := fun x => 4, cap := fun x => 4, f := fun x i => [iv (fkF i), iv (fvF v i)], ov := [] })
   (Tree.need True)))))))))))))
   (Tree.some_ (List (Int × Int) × Nat) fun s_4 => Tree.both
   (Tree.every (Nat → Nat → Nat) fun c => Tree.sub
   (Tree.chk (0 < 1 ∧ 0 < 1)
   (Tree.some_ (Nat → Nat) fun d => Tree.chk (some (XV.a (AV.agg [iv (Prod.fst (bY x t v ws s_2.1)).1, iv (Prod.fst (bY x t v ws s_2.1)).2, iv (Prod.fst (bY x t v ws s_2.1)).3, iv (Prod.fst (bY x t v ws s_2.1)).4, iv (Prod.fst (bY x t v ws s_2.1)).5, iv (Prod.fst (bY x t v ws s_2.1)).6, iv (Prod.fst (bY x t v ws s_2.1)).7, iv (Prod.fst (bY x t v ws s_2.1)).8, iv (Prod.fst (bY x t v ws s_2.1)).9, iv (Prod.fst (bY x t v ws s_2.1)).10, iv (Prod.fst (bY x t v ws s_2.1)).11, iv (Prod.fst (bY x t v ws s_2.1)).12, CV.sl 4 0 (c_2 6 2) 2 (List.length (Prod.fst (Prod.snd (bY x t v ws s_2.1)))) (c_2 6 0), iv (Prod.fst (bY x t v ws s_2.1)).13, iv (Prod.fst (bY x t v ws s_2.1)).14])) = some (XV.a (AV.agg [iv (Prod.fst (bY x t v ws s_2.1)).1, iv (Prod.fst (bY x t v ws s_2.1)).2, iv (Prod.fst (bY x t v ws s_2.1)).3, iv (Prod.fst (bY x t v ws s_2.1)).4, iv (Prod.fst (bY x t v ws s_2.1)).5, iv (Prod.fst (bY x t v ws s_2.1)).6, iv (Prod.fst (bY x t v ws s_2.1)).7, iv (Prod.fst (bY x t v ws s_2.1)).8, iv (Prod.fst (bY x t v ws s_2.1)).9, iv (Prod.fst (bY x t v ws s_2.1)).10, iv (Prod.fst (bY x t v ws s_2.1)).11, iv (Prod.fst (bY x t v ws s_2.1)).12, CV.sl 4 0 (c_2 6 2) 2 (List.length (Prod.fst (Prod.snd (bY x t v ws s_2.1)))) (c_2 6 0), iv (Prod.fst (bY x t v ws s_2.1)).13, iv (Prod.fst (bY x t v ws s_2.1)).14])))
   (Tree.chk (EqH [] [])
   (Tree.chk (0 = 0)
   (Tree.chk True
   (Tree.need True)))))))
   (Tree.both
   (Tree.every (Nat → Nat → Nat) fun c => Tree.sub
   (Tree.some_ (Nat → Nat) fun d => Tree.chk (some (XV.a (AV.c (iv t))) = some (XV.a (AV.c (iv t))))
   (Tree.chk (EqH [] [])
   (Tree.chk (0 = 0)
   (Tree.chk True
   (Tree.need True))))))
   (Tree.both
   (Tree.every (Nat → Nat → Nat) fun c => Tree.sub
   (Tree.some_ (Nat → Nat) fun d => Tree.chk (some (XV.a (AV.c (CV.sl 3 0 0 2 4 4))) = some (XV.a (AV.c (CV.sl 3 0 0 2 4 4))))
   (Tree.chk (EqH [] [])
   (Tree.chk (0 = 0)
   (Tree.chk True
   (Tree.need True))))))
   (Tree.both
   (Tree.every (Nat → Nat → Nat) fun c => Tree.sub
   (Tree.some_ (Nat → Nat) fun d => Tree.chk (some (XV.a (AV.c (iv (↑(Subtype.val s_2) : Int)))) = some (XV.a (AV.c (iv (↑(Subtype.val s_2) : Int)))))
   (Tree.chk (EqH [] [])
   (Tree.chk (0 = 0)
   (Tree.chk True
   (Tree.need True))))))
   (Tree.both
   (Tree.every (Nat → Nat → Nat) fun c => Tree.sub
   (Tree.chk ((0 : Int) ≤ (↑(Subtype.val s_2) : Int) ∧ (↑(Subtype.val s_2) : Int) < (↑(4 : Nat) : Int) ∧ Int.toNat (↑(Subtype.val s_2) : Int) < 4 ∧ 0 < 1)
   (Tree.some_ (Nat → Nat) fun d => Tree.chk (some (XV.a (AV.c (CV.ptr { k := 3, j := 0, i := Int.toNat (↑(Subtype.val s_2) : Int), sz := 2, c := 0, d := 0, dn := 0, cu := 134 }))) = some (XV.a (AV.c (CV.ptr { k := 3, j := 0, i := Int.toNat (↑(Subtype.val s_2) : Int), sz := 2, c := 0, d := 0, dn := 0, cu := 134 }))))
   (Tree.chk (EqH [] [])
   (Tree.chk (0 = 0)
   (Tree.chk True
   (Tree.need True)))))))
   (Tree.both
   (Tree.every (Nat → Nat → Nat) fun c => Tree.sub
   (Tree.chk (0 < 1 ∧ Int.toNat (↑(Subtype.val s_2) : Int) < 4)
   (Tree.some_ (Nat → Nat) fun d => Tree.chk (some (XV.a (AV.agg [iv (fkF (bI s_2.1)), iv (fvF v (bI s_2.1))])) = some (XV.a (AV.agg [iv (fkF (bI s_2.1)), iv (fvF v (bI s_2.1))])))
   (Tree.chk (EqH [] [])
   (Tree.chk (0 = 0)
   (Tree.chk True
   (Tree.need True)))))))
   (Tree.both
   (Tree.every (Nat → Nat → Nat) fun c => Tree.sub
   (Tree.callf 11 [AV.agg [iv (Prod.fst (bY x t v ws s_2.1)).1, iv (Prod.fst (bY x t v ws s_2.1)).2, iv (Prod.fst (bY x t v ws s_2.1)).3, iv (Prod.fst (bY x t v ws s_2.1)).4, iv (Prod.fst (bY x t v ws s_2.1)).5, iv (Prod.fst (bY x t v ws s_2.1)).6, iv (Prod.fst (bY x t v ws s_2.1)).7, iv (Prod.fst (bY x t v ws s_2.1)).8, iv (Prod.fst (bY x t v ws s_2.1)).9, iv (Prod.fst (bY x t v ws s_2.1)).10, iv (Prod.fst (bY x t v ws s_2.1)).11, iv (Prod.fst (bY x t v ws s_2.1)).12, CV.sl 4 0 (c_2 6 2) 2 (List.length (Prod.fst (Prod.snd (bY x t v ws s_2.1)))) (c_2 6 0), iv (Prod.fst (bY x t v ws s_2.1)).13, iv (Prod.fst (bY x t v ws s_2.1)).14], AV.c (iv t), AV.agg [iv (fkF (bI s_2.1)), iv (fvF v (bI s_2.1))]] [{ own := false, box := false, ty := 37, sz := 2, m := 1, n := fun a => List.length ws, cap := fun a => cap, f := fun a a_1 => [iv (Prod.fst (List.getD ws a_1 ((0 : Int), (0 : Int)))), iv (Prod.snd (List.getD ws a_1 ((0 : Int), (0 : Int))))], ov := [] }, { own := false, box := false, ty := 25, sz := 15, m := 1, n := fun a => 1, cap := fun a => 1, f := fun a a_1 => [iv x.1, iv x.2, iv x.3, iv x.4, iv x.5, iv x.6, iv x.7, iv x.8, iv x.9, iv x.10, iv x.11, iv x.12, CV.sl 0 0 0 2 (List.length ws) cap, iv x.13, iv x.14], ov := [] }, { own := false, box := false, ty := 29, sz := 2, m := 1, n := fun a => 4, cap := fun a => 4, f := fun a a_1 => [iv (tkF a_1), iv (tvF v a_1)], ov := [] }, { own := false, box := false, ty := 29, sz := 2, m := 1, n := fun a => 4, cap := fun a => 4, f := fun a a_1 => [iv (fkF a_1), iv (fvF v a_1)], ov := [] }, { own := false, box := false, ty := 37, sz := 2, m := 1, n := fun a => List.length (doRowF x t (tkF (bI s_2.1)) (tvF v (bI s_2.1)) (List.take (List.length ws) (List.drop 0 ws))), cap := fun a => c_2 6 1, f := fun a a_1 => [iv (Prod.fst (List.getD (doRowF x t (tkF (bI s_2.1)) (tvF v (bI s_2.1)) (List.take (List.length ws) (List.drop 0 ws))) a_1 ((0 : Int), (0 : Int)))), iv (Prod.snd (List.getD (doRowF x t (tkF (bI s_2.1)) (tvF v (bI s_2.1)) (List.take (List.length ws) (List.drop 0 ws))) a_1 ((0 : Int), (0 : Int))))], ov := [] }, { own := false, box := false, ty := 25, sz := 15, m := 1, n := fun a => 1, cap := fun a => 1, f := fun a a_1 => [iv (Prod.fst (bY x t v ws s_2.1)).1, iv (Prod.fst (bY x t v ws s_2.1)).2, iv (Prod.fst (bY x t v ws s_2.1)).3, iv (Prod.fst (bY x t v ws s_2.1)).4, iv (Prod.fst (bY x t v ws s_2.1)).5, iv (Prod.fst (bY x t v ws s_2.1)).6, iv (Prod.fst (bY x t v ws s_2.1)).7, iv (Prod.fst (bY x t v ws s_2.1)).8, iv (Prod.fst (bY x t v ws s_2.1)).9, iv (Prod.fst (bY x t v ws s_2.1)).10, iv (Prod.fst (bY x t v ws s_2.1)).11, iv (Prod.fst (bY x t v ws s_2.1)).12, CV.sl 4 0 (c_2 6 2) 2 (List.length (Prod.fst (Prod.snd (bY x t v ws s_2.1)))) (c_2 6 0), iv (Prod.fst (bY x t v ws s_2.1)).13, iv (Prod.fst (bY x t v ws s_2.1)).14], ov := [] }] (doC (Prod.fst (bY x t v ws s_2.1)) t (fkF (bI s_2.1)) (fvF v (bI s_2.1)) (Prod.fst s_4) false (c_2 6 2) (List.length (Prod.fst (Prod.snd (bY x t v ws s_2.1)))) (c_2 6 0) (Prod.snd s_4) 6 [4]) fun c => Tree.some_ (Nat → Nat) fun d => Tree.chk (doGood (Prod.fst (bY x t v ws s_2.1)) t (fkF (bI s_2.1)) (fvF v (bI s_2.1)) (List.take (List.length (Prod.fst (Prod.snd (bY x t v ws s_2.1)))) (List.drop (c_2 6 2) (Prod.fst s_4))) d)
   (Tree.chk (some (XV.tup [AV.agg [iv (Prod.fst (doRF (Prod.fst (bY x t v ws s_2.1)) t (fkF (bI s_2.1)) (fvF v (bI s_2.1)) (List.take (List.length (Prod.fst (Prod.snd (bY x t v ws s_2.1)))) (List.drop (c_2 6 2) (Prod.fst s_4))))).1, iv (Prod.fst (doRF (Prod.fst (bY x t v ws s_2.1)) t (fkF (bI s_2.1)) (fvF v (bI s_2.1)) (List.take (List.length (Prod.fst (Prod.snd (bY x t v ws s_2.1)))) (List.drop (c_2 6 2) (Prod.fst s_4))))).2, iv (Prod.fst (doRF (Prod.fst (bY x t v ws s_2.1)) t (fkF (bI s_2.1)) (fvF v (bI s_2.1)) (List.take (List.length (Prod.fst (Prod.snd (bY x t v ws s_2.1)))) (List.drop (c_2 6 2) (Prod.fst s_4))))).3, iv (Prod.fst (doRF (Prod.fst (bY x t v ws s_2.1)) t (fkF (bI s_2.1)) (fvF v (bI s_2.1)) (List.take (List.length (Prod.fst (Prod.snd (bY x t v ws s_2.1)))) (List.drop (c_2 6 2) (Prod.fst s_4))))).4, iv (Prod.fst (doRF (Prod.fst (bY x t v ws s_2.1)) t (fkF (bI s_2.1)) (fvF v (bI s_2.1)) (List.take (List.length (Prod.fst (Prod.snd (bY x t v ws s_2.1)))) (List.drop (c_2 6 2) (Prod.fst s_4))))).5, iv (Prod.fst (doRF (Prod.fst (bY x t v ws s_2.1)) t (fkF (bI s_2.1)) (fvF v (bI s_2.1)) (List.take (List.length (Prod.fst (Prod.snd (bY x t v ws s_2.1)))) (List.drop (c_2 6 2) (Prod.fst s_4))))).6, iv (Prod.fst (doRF (Prod.fst (bY x t v ws s_2.1)) t (fkF (bI s_2.1)) (fvF v (bI s_2.1)) (List.take (List.length (Prod.fst (Prod.snd (bY x t v ws s_2.1)))) (List.drop (c_2 6 2) (Prod.fst s_4))))).7, iv (Prod.fst (doRF (Prod.fst (bY x t v ws s_2.1)) t (fkF (bI s_2.1)) (fvF v (bI s_2.1)) (List.take (List.length (Prod.fst (Prod.snd (bY x t v ws s_2.1)))) (List.drop (c_2 6 2) (Prod.fst s_4))))).8, iv (Prod.fst (doRF (Prod.fst (bY x t v ws s_2.1)) t (fkF (bI s_2.1)) (fvF v (bI s_2.1)) (List.take (List.length (Prod.fst (Prod.snd (bY x t v ws s_2.1)))) (List.drop (c_2 6 2) (Prod.fst s_4))))).9, iv (Prod.fst (doRF (Prod.fst (bY x t v ws s_2.1)) t (fkF (bI s_2.1)) (fvF v (bI s_2.1)) (List.take (List.length (Prod.fst (Prod.snd (bY x t v ws s_2.1)))) (List.drop (c_2 6 2) (Prod.fst s_4))))).10, iv (Prod.fst (doRF (Prod.fst (bY x t v ws s_2.1)) t (fkF (bI s_2.1)) (fvF v (bI s_2.1)) (List.take (List.length (Prod.fst (Prod.snd (bY x t v ws s_2.1)))) (List.drop (c_2 6 2) (Prod.fst s_4))))).11, iv (Prod.fst (doRF (Prod.fst (bY x t v ws s_2.1)) t (fkF (bI s_2.1)) (fvF v (bI s_2.1)) (List.take (List.length (Prod.fst (Prod.snd (bY x t v ws s_2.1)))) (List.drop (c_2 6 2) (Prod.fst s_4))))).12, CV.sl 6 0 (c 2) 2 (List.length (Prod.fst (Prod.snd (doRF (Prod.fst (bY x t v ws s_2.1)) t (fkF (bI s_2.1)) (fvF v (bI s_2.1)) (List.take (List.length (Prod.fst (Prod.snd (bY x t v ws s_2.1)))) (List.drop (c_2 6 2) (Prod.fst s_4))))))) (c 0), iv (Prod.fst (doRF (Prod.fst (bY x t v ws s_2.1)) t (fkF (bI s_2.1)) (fvF v (bI s_2.1)) (List.take (List.length (Prod.fst (Prod.snd (bY x t v ws s_2.1)))) (List.drop (c_2 6 2) (Prod.fst s_4))))).13, iv (Prod.fst (doRF (Prod.fst (bY x t v ws s_2.1)) t (fkF (bI s_2.1)) (fvF v (bI s_2.1)) (List.take (List.length (Prod.fst (Prod.snd (bY x t v ws s_2.1)))) (List.drop (c_2 6 2) (Prod.fst s_4))))).14], AV.c (CV.v (Value.bool (Prod.snd (Prod.snd (doRF (Prod.fst (bY x t v ws s_2.1)) t (fkF (bI s_2.1)) (fvF v (bI s_2.1)) (List.take (List.length (Prod.fst (Prod.snd (bY x t v ws s_2.1)))) (List.drop (c_2 6 2) (Prod.fst s_4))))))))]) = some (XV.tup [AV.agg [iv (Prod.fst (doRF (Prod.fst (bY x t v ws s_2.1)) t (fkF (bI s_2.1)) (fvF v (bI s_2.1)) (List.take (List.length (Prod.fst (Prod.snd (bY x t v ws s_2.1)))) (List.drop (c_2 6 2) (Prod.fst s_4))))).1, iv (Prod.fst (doRF (Prod.fst (bY x t v ws s_2.1)) t (fkF (bI s_2.1)) (fvF v (bI s_2.1)) (List.take (List.length (Prod.fst (Prod.snd (bY x t v ws s_2.1)))) (List.drop (c_2 6 2) (Prod.fst s_4))))).2, iv (Prod.fst (doRF (Prod.fst (bY x t v ws s_2.1)) t (fkF (bI s_2.1)) (fvF v (bI s_2.1)) (List.take (List.length (Prod.fst (Prod.snd (bY x t v ws s_2.1)))) (List.drop (c_2 6 2) (Prod.fst s_4))))).3, iv (Prod.fst (doRF (Prod.fst (bY x t v ws s_2.1)) t (fkF (bI s_2.1)) (fvF v (bI s_2.1)) (List.take (List.length (Prod.fst (Prod.snd (bY x t v ws s_2.1)))) (List.drop (c_2 6 2) (Prod.fst s_4))))).4, iv (Prod.fst (doRF (Prod.fst (bY x t v ws s_2.1)) t (fkF (bI s_2.1)) (fvF v (bI s_2.1)) (List.take (List.length (Prod.fst (Prod.snd (bY x t v ws s_2.1)))) (List.drop (c_2 6 2) (Prod.fst s_4))))).5, iv (Prod.fst (doRF (Prod.fst (bY x t v ws s_2.1)) t (fkF (bI s_2.1)) (fvF v (bI s_2.1)) (List.take (List.length (Prod.fst (Prod.snd (bY x t v ws s_2.1)))) (List.drop (c_2 6 2) (Prod.fst s_4))))).6, iv (Prod.fst (doRF (Prod.fst (bY x t v ws s_2.1)) t (fkF (bI s_2.1)) (fvF v (bI s_2.1)) (List.take (List.length (Prod.fst (Prod.snd (bY x t v ws s_2.1)))) (List.drop (c_2 6 2) (Prod.fst s_4))))).7, iv (Prod.fst (doRF (Prod.fst (bY x t v ws s_2.1)) t (fkF (bI s_2.1)) (fvF v (bI s_2.1)) (List.take (List.length (Prod.fst (Prod.snd (bY x t v ws s_2.1)))) (List.drop (c_2 6 2) (Prod.fst s_4))))).8, iv (Prod.fst (doRF (Prod.fst (bY x t v ws s_2.1)) t (fkF (bI s_2.1)) (fvF v (bI s_2.1)) (List.take (List.length (Prod.fst (Prod.snd (bY x t v ws s_2.1)))) (List.drop (c_2 6 2) (Prod.fst s_4))))).9, iv (Prod.fst (doRF (Prod.fst (bY x t v ws s_2.1)) t (fkF (bI s_2.1)) (fvF v (bI s_2.1)) (List.take (List.length (Prod.fst (Prod.snd (bY x t v ws s_2.1)))) (List.drop (c_2 6 2) (Prod.fst s_4))))).10, iv (Prod.fst (doRF (Prod.fst (bY x t v ws s_2.1)) t (fkF (bI s_2.1)) (fvF v (bI s_2.1)) (List.take (List.length (Prod.fst (Prod.snd (bY x t v ws s_2.1)))) (List.drop (c_2 6 2) (Prod.fst s_4))))).11, iv (Prod.fst (doRF (Prod.fst (bY x t v ws s_2.1)) t (fkF (bI s_2.1)) (fvF v (bI s_2.1)) (List.take (List.length (Prod.fst (Prod.snd (bY x t v ws s_2.1)))) (List.drop (c_2 6 2) (Prod.fst s_4))))).12, CV.sl 6 0 (d 2) 2 (List.length (Prod.fst (Prod.snd (doRF (Prod.fst (bY x t v ws s_2.1)) t (fkF (bI s_2.1)) (fvF v (bI s_2.1)) (List.take (List.length (Prod.fst (Prod.snd (bY x t v ws s_2.1)))) (List.drop (c_2 6 2) (Prod.fst s_4))))))) (d 0), iv (Prod.fst (doRF (Prod.fst (bY x t v ws s_2.1)) t (fkF (bI s_2.1)) (fvF v (bI s_2.1)) (List.take (List.length (Prod.fst (Prod.snd (bY x t v ws s_2.1)))) (List.drop (c_2 6 2) (Prod.fst s_4))))).13, iv (Prod.fst (doRF (Prod.fst (bY x t v ws s_2.1)) t (fkF (bI s_2.1)) (fvF v (bI s_2.1)) (List.take (List.length (Prod.fst (Prod.snd (bY x t v ws s_2.1)))) (List.drop (c_2 6 2) (Prod.fst s_4))))).14], AV.c (CV.v (Value.bool (Prod.snd (Prod.snd (doRF (Prod.fst (bY x t v ws s_2.1)) t (fkF (bI s_2.1)) (fvF v (bI s_2.1)) (List.take (List.length (Prod.fst (Prod.snd (bY x t v ws s_2.1)))) (List.drop (c_2 6 2) (Prod.fst s_4))))))))]))
   (Tree.chk (EqH [{ own := true, box := false, ty := 37, sz := 2, m := 1, n := fun x_1 => List.length (doRowF (Prod.fst (bY x t v ws s_2.1)) t (fkF (bI s_2.1)) (fvF v (bI s_2.1)) (List.take (List.length (Prod.fst (Prod.snd (bY x t v ws s_2.1)))) (List.drop (c_2 6 2) (Prod.fst s_4)))), cap := fun x => c 1, f := fun x_1 i => [iv (Prod.fst (List.getD (doRowF (Prod.fst (bY x t v ws s_2.1)) t (fkF (bI s_2.1)) (fvF v (bI s_2.1)) (List.take (List.length (Prod.fst (Prod.snd (bY x t v ws s_2.1)))) (List.drop (c_2 6 2) (Prod.fst s_4)))) i ((0 : Int), (0 : Int)))), iv (Prod.snd (List.getD (doRowF (Prod.fst (bY x t v ws s_2.1)) t (fkF (bI s_2.1)) (fvF v (bI s_2.1)) (List.take (List.length (Prod.fst (Prod.snd (bY x t v ws s_2.1)))) (List.drop (c_2 6 2) (Prod.fst s_4)))) i ((0 : Int), (0 : Int))))], ov := [] }] [{ own := true, box := false, ty := 37, sz := 2, m := 1, n := fun x_1 => List.length (doRowF (Prod.fst (bY x t v ws s_2.1)) t (fkF (bI s_2.1)) (fvF v (bI s_2.1)) (List.take (List.length (Prod.fst (Prod.snd (bY x t v ws s_2.1)))) (List.drop (c_2 6 2) (Prod.fst s_4)))), cap := fun x => d 1, f := fun x_1 i => [iv (Prod.fst (List.getD (doRowF (Prod.fst (bY x t v ws s_2.1)) t (fkF (bI s_2.1)) (fvF v (bI s_2.1)) (List.take (List.length (Prod.fst (Prod.snd (bY x t v ws s_2.1)))) (List.drop (c_2 6 2) (Prod.fst s_4)))) i ((0 : Int), (0 : Int)))), iv (Prod.snd (List.getD (doRowF (Prod.fst (bY x t v ws s_2.1)) t (fkF (bI s_2.1)) (fvF v (bI s_2.1)) (List.take (List.length (Prod.fst (Prod.snd (bY x t v ws s_2.1)))) (List.drop (c_2 6 2) (Prod.fst s_4)))) i ((0 : Int), (0 : Int))))], ov := [] }])
   (Tree.chk (1 = 1)
   (Tree.chk (((true = true ∨ ∀ (j : Nat), List.length (doRowF (Prod.fst (bY x t v ws s_2.1)) t (fkF (bI s_2.1)) (fvF v (bI s_2.1)) (List.take (List.length (Prod.fst (Prod.snd (bY x t v ws s_2.1)))) (List.drop (c_2 6 2) (Prod.fst s_4)))) = 0) ∧ ∀ (j i : Nat), true = true) ∧ True)
   (Tree.need True)))))))
   (Tree.both
   (Tree.every (Nat → Nat → Nat) fun c => Tree.hyp (doGood (Prod.fst (bY x t v ws s_2.1)) t (fkF (bI s_2.1)) (fvF v (bI s_2.1)) (List.take (List.length (Prod.fst (Prod.snd (bY x t v ws s_2.1)))) (List.drop (c_2 6 2) (Prod.fst s_4))) (c 6))
   (Tree.sub
   (Tree.some_ (Nat → Nat) fun d => Tree.chk (some (XV.tup [AV.agg [iv (Prod.fst (doRF (Prod.fst (bY x t v ws s_2.1)) t (fkF (bI s_2.1)) (fvF v (bI s_2.1)) (List.take (List.length (Prod.fst (Prod.snd (bY x t v ws s_2.1)))) (List.drop (c_2 6 2) (Prod.fst s_4))))).1, iv (Prod.fst (doRF (Prod.fst (bY x t v ws s_2.1)) t (fkF (bI s_2.1)) (fvF v (bI s_2.1)) (List.take (List.length (Prod.fst (Prod.snd (bY x t v ws s_2.1)))) (List.drop (c_2 6 2) (Prod.fst s_4))))).2, iv (Prod.fst (doRF (Prod.fst (bY x t v ws s_2.1)) t (fkF (bI s_2.1)) (fvF v (bI s_2.1)) (List.take (List.length (Prod.fst (Prod.snd (bY x t v ws s_2.1)))) (List.drop (c_2 6 2) (Prod.fst s_4))))).3, iv (Prod.fst (doRF (Prod.fst (bY x t v ws s_2.1)) t (fkF (bI s_2.1)) (fvF v (bI s_2.1)) (List.take (List.length (Prod.fst (Prod.snd (bY x t v ws s_2.1)))) (List.drop (c_2 6 2) (Prod.fst s_4))))).4, iv (Prod.fst (doRF (Prod.fst (bY x t v ws s_2.1)) t (fkF (bI s_2.1)) (fvF v (bI s_2.1)) (List.take (List.length (Prod.fst (Prod.snd (bY x t v ws s_2.1)))) (List.drop (c_2 6 2) (Prod.fst s_4))))).5, iv (Prod.fst (doRF (Prod.fst (bY x t v ws s_2.1)) t (fkF (bI s_2.1)) (fvF v (bI s_2.1)) (List.take (List.length (Prod.fst (Prod.snd (bY x t v ws s_2.1)))) (List.drop (c_2 6 2) (Prod.fst s_4))))).6, iv (Prod.fst (doRF (Prod.fst (bY x t v ws s_2.1)) t (fkF (bI s_2.1)) (fvF v (bI s_2.1)) (List.take (List.length (Prod.fst (Prod.snd (bY x t v ws s_2.1)))) (List.drop (c_2 6 2) (Prod.fst s_4))))).7, iv (Prod.fst (doRF (Prod.fst (bY x t v ws s_2.1)) t (fkF (bI s_2.1)) (fvF v (bI s_2.1)) (List.take (List.length (Prod.fst (Prod.snd (bY x t v ws s_2.1)))) (List.drop (c_2 6 2) (Prod.fst s_4))))).8, iv (Prod.fst (doRF (Prod.fst (bY x t v ws s_2.1)) t (fkF (bI s_2.1)) (fvF v (bI s_2.1)) (List.take (List.length (Prod.fst (Prod.snd (bY x t v ws s_2.1)))) (List.drop (c_2 6 2) (Prod.fst s_4))))).9, iv (Prod.fst (doRF (Prod.fst (bY x t v ws s_2.1)) t (fkF (bI s_2.1)) (fvF v (bI s_2.1)) (List.take (List.length (Prod.fst (Prod.snd (bY x t v ws s_2.1)))) (List.drop (c_2 6 2) (Prod.fst s_4))))).10, iv (Prod.fst (doRF (Prod.fst (bY x t v ws s_2.1)) t (fkF (bI s_2.1)) (fvF v (bI s_2.1)) (List.take (List.length (Prod.fst (Prod.snd (bY x t v ws s_2.1)))) (List.drop (c_2 6 2) (Prod.fst s_4))))).11, iv (Prod.fst (doRF (Prod.fst (bY x t v ws s_2.1)) t (fkF (bI s_2.1)) (fvF v (bI s_2.1)) (List.take (List.length (Prod.fst (Prod.snd (bY x t v ws s_2.1)))) (List.drop (c_2 6 2) (Prod.fst s_4))))).12, CV.sl 6 0 (c 6 2) 2 (List.length (Prod.fst (Prod.snd (doRF (Prod.fst (bY x t v ws s_2.1)) t (fkF (bI s_2.1)) (fvF v (bI s_2.1)) (List.take (List.length (Prod.fst (Prod.snd (bY x t v ws s_2.1)))) (List.drop (c_2 6 2) (Prod.fst s_4))))))) (c 6 0), iv (Prod.fst (doRF (Prod.fst (bY x t v ws s_2.1)) t (fkF (bI s_2.1)) (fvF v (bI s_2.1)) (List.take (List.length (Prod.fst (Prod.snd (bY x t v ws s_2.1)))) (List.drop (c_2 6 2) (Prod.fst s_4))))).13, iv (Prod.fst (doRF (Prod.fst (bY x t v ws s_2.1)) t (fkF (bI s_2.1)) (fvF v (bI s_2.1)) (List.take (List.length (Prod.fst (Prod.snd (bY x t v ws s_2.1)))) (List.drop (c_2 6 2) (Prod.fst s_4))))).14], AV.c (CV.v (Value.bool (Prod.snd (Prod.snd (doRF (Prod.fst (bY x t v ws s_2.1)) t (fkF (bI s_2.1)) (fvF v (bI s_2.1)) (List.take (List.length (Prod.fst (Prod.snd (bY x t v ws s_2.1)))) (List.drop (c_2 6 2) (Prod.fst s_4))))))))]) = some (XV.tup [AV.agg [iv (Prod.fst (doRF (Prod.fst (bY x t v ws s_2.1)) t (fkF (bI s_2.1)) (fvF v (bI s_2.1)) (List.take (List.length (Prod.fst (Prod.snd (bY x t v ws s_2.1)))) (List.drop (c_2 6 2) (Prod.fst s_4))))).1, iv (Prod.fst (doRF (Prod.fst (bY x t v ws s_2.1)) t (fkF (bI s_2.1)) (fvF v (bI s_2.1)) (List.take (List.length (Prod.fst (Prod.snd (bY x t v ws s_2.1)))) (List.drop (c_2 6 2) (Prod.fst s_4))))).2, iv (Prod.fst (doRF (Prod.fst (bY x t v ws s_2.1)) t (fkF (bI s_2.1)) (fvF v (bI s_2.1)) (List.take (List.length (Prod.fst (Prod.snd (bY x t v ws s_2.1)))) (List.drop (c_2 6 2) (Prod.fst s_4))))).3, iv (Prod.fst (doRF (Prod.fst (bY x t v ws s_2.1)) t (fkF (bI s_2.1)) (fvF v (bI s_2.1)) (List.take (List.length (Prod.fst (Prod.snd (bY x t v ws s_2.1)))) (List.drop (c_2 6 2) (Prod.fst s_4))))).4, iv (Prod.fst (doRF (Prod.fst (bY x t v ws s_2.1)) t (fkF (bI s_2.1)) (fvF v (bI s_2.1)) (List.take (List.length (Prod.fst (Prod.snd (bY x t v ws s_2.1)))) (List.drop (c_2 6 2) (Prod.fst s_4))))).5, iv (Prod.fst (doRF (Prod.fst (bY x t v ws s_2.1)) t (fkF (bI s_2.1)) (fvF v (bI s_2.1)) (List.take (List.length (Prod.fst (Prod.snd (bY x t v ws s_2.1)))) (List.drop (c_2 6 2) (Prod.fst s_4))))).6, iv (Prod.fst (doRF (Prod.fst (bY x t v ws s_2.1)) t (fkF (bI s_2.1)) (fvF v (bI s_2.1)) (List.take (List.length (Prod.fst (Prod.snd (bY x t v ws s_2.1)))) (List.drop (c_2 6 2) (Prod.fst s_4))))).7, iv (Prod.fst (doRF (Prod.fst (bY x t v ws s_2.1)) t (fkF (bI s_2.1)) (fvF v (bI s_2.1)) (List.take (List.length (Prod.fst (Prod.snd (bY x t v ws s_2.1)))) (List.drop (c_2 6 2) (Prod.fst s_4))))).8, iv (Prod.fst (doRF (Prod.fst (bY x t v ws s_2.1)) t (fkF (bI s_2.1)) (fvF v (bI s_2.1)) (List.take (List.length (Prod.fst (Prod.snd (bY x t v ws s_2.1)))) (List.drop (c_2 6 2) (Prod.fst s_4))))).9, iv (Prod.fst (doRF (Prod.fst (bY x t v ws s_2.1)) t (fkF (bI s_2.1)) (fvF v (bI s_2.1)) (List.take (List.length (Prod.fst (Prod.snd (bY x t v ws s_2.1)))) (List.drop (c_2 6 2) (Prod.fst s_4))))).10, iv (Prod.fst (doRF (Prod.fst (bY x t v ws s_2.1)) t (fkF (bI s_2.1)) (fvF v (bI s_2.1)) (List.take (List.length (Prod.fst (Prod.snd (bY x t v ws s_2.1)))) (List.drop (c_2 6 2) (Prod.fst s_4))))).11, iv (Prod.fst (doRF (Prod.fst (bY x t v ws s_2.1)) t (fkF (bI s_2.1)) (fvF v (bI s_2.1)) (List.take (List.length (Prod.fst (Prod.snd (bY x t v ws s_2.1)))) (List.drop (c_2 6 2) (Prod.fst s_4))))).12, CV.sl 6 0 (c 6 2) 2 (List.length (Prod.fst (Prod.snd (doRF (Prod.fst (bY x t v ws s_2.1)) t (fkF (bI s_2.1)) (fvF v (bI s_2.1)) (List.take (List.length (Prod.fst (Prod.snd (bY x t v ws s_2.1)))) (List.drop (c_2 6 2) (Prod.fst s_4))))))) (c 6 0), iv (Prod.fst (doRF (Prod.fst (bY x t v ws s_2.1)) t (fkF (bI s_2.1)) (fvF v (bI s_2.1)) (List.take (List.length (Prod.fst (Prod.snd (bY x t v ws s_2.1)))) (List.drop (c_2 6 2) (Prod.fst s_4))))).13, iv (Prod.fst (doRF (Prod.fst (bY x t v ws s_2.1)) t (fkF (bI s_2.1)) (fvF v (bI s_2.1)) (List.take (List.length (Prod.fst (Prod.snd (bY x t v ws s_2.1)))) (List.drop (c_2 6 2) (Prod.fst s_4))))).14], AV.c (CV.v (Value.bool (Prod.snd (Prod.snd (doRF (Prod.fst (bY x t v ws s_2.1)) t (fkF (bI s_2.1)) (fvF v (bI s_2.1)) (List.take (List.length (Prod.fst (Prod.snd (bY x t v ws s_2.1)))) (List.drop (c_2 6 2) (Prod.fst s_4))))))))]))
   (Tree.chk (EqH [] [])
   (Tree.chk (0 = 0)
   (Tree.chk True
   (Tree.need True)))))))
   (Tree.both
   (Tree.every (Nat → Nat → Nat) fun c => Tree.hyp (doGood (Prod.fst (bY x t v ws s_2.1)) t (fkF (bI s_2.1)) (fvF v (bI s_2.1)) (List.take (List.length (Prod.fst (Prod.snd (bY x t v ws s_2.1)))) (List.drop (c_2 6 2) (Prod.fst s_4))) (c 6))
   (Tree.sub
   (Tree.some_ (Nat → Nat) fun d => Tree.chk (some (XV.a (AV.agg [iv (Prod.fst (doRF (Prod.fst (bY x t v ws s_2.1)) t (fkF (bI s_2.1)) (fvF v (bI s_2.1)) (List.take (List.length (Prod.fst (Prod.snd (bY x t v ws s_2.1)))) (List.drop (c_2 6 2) (Prod.fst s_4))))).1, iv (Prod.fst (doRF (Prod.fst (bY x t v ws s_2.1)) t (fkF (bI s_2.1)) (fvF v (bI s_2.1)) (List.take (List.length (Prod.fst (Prod.snd (bY x t v ws s_2.1)))) (List.drop (c_2 6 2) (Prod.fst s_4))))).2, iv (Prod.fst (doRF (Prod.fst (bY x t v ws s_2.1)) t (fkF (bI s_2.1)) (fvF v (bI s_2.1)) (List.take (List.length (Prod.fst (Prod.snd (bY x t v ws s_2.1)))) (List.drop (c_2 6 2) (Prod.fst s_4))))).3, iv (Prod.fst (doRF (Prod.fst (bY x t v ws s_2.1)) t (fkF (bI s_2.1)) (fvF v (bI s_2.1)) (List.take (List.length (Prod.fst (Prod.snd (bY x t v ws s_2.1)))) (List.drop (c_2 6 2) (Prod.fst s_4))))).4, iv (Prod.fst (doRF (Prod.fst (bY x t v ws s_2.1)) t (fkF (bI s_2.1)) (fvF v (bI s_2.1)) (List.take (List.length (Prod.fst (Prod.snd (bY x t v ws s_2.1)))) (List.drop (c_2 6 2) (Prod.fst s_4))))).5, iv (Prod.fst (doRF (Prod.fst (bY x t v ws s_2.1)) t (fkF (bI s_2.1)) (fvF v (bI s_2.1)) (List.take (List.length (Prod.fst (Prod.snd (bY x t v ws s_2.1)))) (List.drop (c_2 6 2) (Prod.fst s_4))))).6, iv (Prod.fst (doRF (Prod.fst (bY x t v ws s_2.1)) t (fkF (bI s_2.1)) (fvF v (bI s_2.1)) (List.take (List.length (Prod.fst (Prod.snd (bY x t v ws s_2.1)))) (List.drop (c_2 6 2) (Prod.fst s_4))))).7, iv (Prod.fst (doRF (Prod.fst (bY x t v ws s_2.1)) t (fkF (bI s_2.1)) (fvF v (bI s_2.1)) (List.take (List.length (Prod.fst (Prod.snd (bY x t v ws s_2.1)))) (List.drop (c_2 6 2) (Prod.fst s_4))))).8, iv (Prod.fst (doRF (Prod.fst (bY x t v ws s_2.1)) t (fkF (bI s_2.1)) (fvF v (bI s_2.1)) (List.take (List.length (Prod.fst (Prod.snd (bY x t v ws s_2.1)))) (List.drop (c_2 6 2) (Prod.fst s_4))))).9, iv (Prod.fst (doRF (Prod.fst (bY x t v ws s_2.1)) t (fkF (bI s_2.1)) (fvF v (bI s_2.1)) (List.take (List.length (Prod.fst (Prod.snd (bY x t v ws s_2.1)))) (List.drop (c_2 6 2) (Prod.fst s_4))))).10, iv (Prod.fst (doRF (Prod.fst (bY x t v ws s_2.1)) t (fkF (bI s_2.1)) (fvF v (bI s_2.1)) (List.take (List.length (Prod.fst (Prod.snd (bY x t v ws s_2.1)))) (List.drop (c_2 6 2) (Prod.fst s_4))))).11, iv (Prod.fst (doRF (Prod.fst (bY x t v ws s_2.1)) t (fkF (bI s_2.1)) (fvF v (bI s_2.1)) (List.take (List.length (Prod.fst (Prod.snd (bY x t v ws s_2.1)))) (List.drop (c_2 6 2) (Prod.fst s_4))))).12, CV.sl 6 0 (c 6 2) 2 (List.length (Prod.fst (Prod.snd (doRF (Prod.fst (bY x t v ws s_2.1)) t (fkF (bI s_2.1)) (fvF v (bI s_2.1)) (List.take (List.length (Prod.fst (Prod.snd (bY x t v ws s_2.1)))) (List.drop (c_2 6 2) (Prod.fst s_4))))))) (c 6 0), iv (Prod.fst (doRF (Prod.fst (bY x t v ws s_2.1)) t (fkF (bI s_2.1)) (fvF v (bI s_2.1)) (List.take (List.length (Prod.fst (Prod.snd (bY x t v ws s_2.1)))) (List.drop (c_2 6 2) (Prod.fst s_4))))).13, iv (Prod.fst (doRF (Prod.fst (bY x t v ws s_2.1)) t (fkF (bI s_2.1)) (fvF v (bI s_2.1)) (List.take (List.length (Prod.fst (Prod.snd (bY x t v ws s_2.1)))) (List.drop (c_2 6 2) (Prod.fst s_4))))).14])) = some (XV.a (AV.agg [iv (Prod.fst (doRF (Prod.fst (bY x t v ws s_2.1)) t (fkF (bI s_2.1)) (fvF v (bI s_2.1)) (List.take (List.length (Prod.fst (Prod.snd (bY x t v ws s_2.1)))) (List.drop (c_2 6 2) (Prod.fst s_4))))).1, iv (Prod.fst (doRF (Prod.fst (bY x t v ws s_2.1)) t (fkF (bI s_2.1)) (fvF v (bI s_2.1)) (List.take (List.length (Prod.fst (Prod.snd (bY x t v ws s_2.1)))) (List.drop (c_2 6 2) (Prod.fst s_4))))).2, iv (Prod.fst (doRF (Prod.fst (bY x t v ws s_2.1)) t (fkF (bI s_2.1)) (fvF v (bI s_2.1)) (List.take (List.length (Prod.fst (Prod.snd (bY x t v ws s_2.1)))) (List.drop (c_2 6 2) (Prod.fst s_4))))).3, iv (Prod.fst (doRF (Prod.fst (bY x t v ws s_2.1)) t (fkF (bI s_2.1)) (fvF v (bI s_2.1)) (List.take (List.length (Prod.fst (Prod.snd (bY x t v ws s_2.1)))) (List.drop (c_2 6 2) (Prod.fst s_4))))).4, iv (Prod.fst (doRF (Prod.fst (bY x t v ws s_2.1)) t (fkF (bI s_2.1)) (fvF v (bI s_2.1)) (List.take (List.length (Prod.fst (Prod.snd (bY x t v ws s_2.1)))) (List.drop (c_2 6 2) (Prod.fst s_4))))).5, iv (Prod.fst (doRF (Prod.fst (bY x t v ws s_2.1)) t (fkF (bI s_2.1)) (fvF v (bI s_2.1)) (List.take (List.length (Prod.fst (Prod.snd (bY x t v ws s_2.1)))) (List.drop (c_2 6 2) (Prod.fst s_4))))).6, iv (Prod.fst (doRF (Prod.fst (bY x t v ws s_2.1)) t (fkF (bI s_2.1)) (fvF v (bI s_2.1)) (List.take (List.length (Prod.fst (Prod.snd (bY x t v ws s_2.1)))) (List.drop (c_2 6 2) (Prod.fst s_4))))).7, iv (Prod.fst (doRF (Prod.fst (bY x t v ws s_2.1)) t (fkF (bI s_2.1)) (fvF v (bI s_2.1)) (List.take (List.length (Prod.fst (Prod.snd (bY x t v ws s_2.1)))) (List.drop (c_2 6 2) (Prod.fst s_4))))).8, iv (Prod.fst (doRF (Prod.fst (bY x t v ws s_2.1)) t (fkF (bI s_2.1)) (fvF v (bI s_2.1)) (List.take (List.length (Prod.fst (Prod.snd (bY x t v ws s_2.1)))) (List.drop (c_2 6 2) (Prod.fst s_4))))).9, iv (Prod.fst (doRF (Prod.fst (bY x t v ws s_2.1)) t (fkF (bI s_2.1)) (fvF v (bI s_2.1)) (List.take (List.length (Prod.fst (Prod.snd (bY x t v ws s_2.1)))) (List.drop (c_2 6 2) (Prod.fst s_4))))).10, iv (Prod.fst (doRF (Prod.fst (bY x t v ws s_2.1)) t (fkF (bI s_2.1)) (fvF v (bI s_2.1)) (List.take (List.length (Prod.fst (Prod.snd (bY x t v ws s_2.1)))) (List.drop (c_2 6 2) (Prod.fst s_4))))).11, iv (Prod.fst (doRF (Prod.fst (bY x t v ws s_2.1)) t (fkF (bI s_2.1)) (fvF v (bI s_2.1)) (List.take (List.length (Prod.fst (Prod.snd (bY x t v ws s_2.1)))) (List.drop (c_2 6 2) (Prod.fst s_4))))).12, CV.sl 6 0 (c 6 2) 2 (List.length (Prod.fst (Prod.snd (doRF (Prod.fst (bY x t v ws s_2.1)) t (fkF (bI s_2.1)) (fvF v (bI s_2.1)) (List.take (List.length (Prod.fst (Prod.snd (bY x t v ws s_2.1)))) (List.drop (c_2 6 2) (Prod.fst s_4))))))) (c 6 0), iv (Prod.fst (doRF (Prod.fst (bY x t v ws s_2.1)) t (fkF (bI s_2.1)) (fvF v (bI s_2.1)) (List.take (List.length (Prod.fst (Prod.snd (bY x t v ws s_2.1)))) (List.drop (c_2 6 2) (Prod.fst s_4))))).13, iv (Prod.fst (doRF (Prod.fst (bY x t v ws s_2.1)) t (fkF (bI s_2.1)) (fvF v (bI s_2.1)) (List.take (List.length (Prod.fst (Prod.snd (bY x t v ws s_2.1)))) (List.drop (c_2 6 2) (Prod.fst s_4))))).14])))
   (Tree.chk (EqH [] [])
   (Tree.chk (0 = 0)
   (Tree.chk True
   (Tree.need True)))))))
   (Tree.both
   (Tree.every (Nat → Nat → Nat) fun c => Tree.hyp (doGood (Prod.fst (bY x t v ws s_2.1)) t (fkF (bI s_2.1)) (fvF v (bI s_2.1)) (List.take (List.length (Prod.fst (Prod.snd (bY x t v ws s_2.1)))) (List.drop (c_2 6 2) (Prod.fst s_4))) (c 6))
   (Tree.sub
   (Tree.some_ (Nat → Nat) fun d => Tree.chk (some (XV.a (AV.c (CV.v (Value.bool (Prod.snd (Prod.snd (doRF (Prod.fst (bY x t v ws s_2.1)) t (fkF (bI s_2.1)) (fvF v (bI s_2.1)) (List.take (List.length (Prod.fst (Prod.snd (bY x t v ws s_2.1)))) (List.drop (c_2 6 2) (Prod.fst s_4)))))))))) = some (XV.a (AV.c (CV.v (Value.bool (Prod.snd (Prod.snd (doRF (Prod.fst (bY x t v ws s_2.1)) t (fkF (bI s_2.1)) (fvF v (bI s_2.1)) (List.take (List.length (Prod.fst (Prod.snd (bY x t v ws s_2.1)))) (List.drop (c_2 6 2) (Prod.fst s_4)))))))))))
   (Tree.chk (EqH [] [])
   (Tree.chk (0 = 0)
   (Tree.chk True
   (Tree.need True)))))))
   (Tree.both
   (Tree.every (Nat → Nat → Nat) fun c => Tree.sub
   (Tree.some_ (Nat → Nat) fun d => Tree.chk (some (XV.a (AV.c (CV.ptr { k := 7, j := 0, i := 0, sz := 15, c := 0, d := 0, dn := 0, cu := 0 }))) = some (XV.a (AV.c (CV.ptr { k := 7, j := 0, i := 0, sz := 15, c := 0, d := 0, dn := 0, cu := 0 }))))
   (Tree.chk (EqH [{ own := true, box := true, ty := 25, sz := 15, m := 1, n := fun x => 1, cap := fun x => 1, f := fun x x_1 => [iv (0 : Int), iv (0 : Int), iv (0 : Int), iv (0 : Int), iv (0 : Int), iv (0 : Int), iv (0 : Int), iv (0 : Int), iv (0 : Int), iv (0 : Int), iv (0 : Int), iv (0 : Int), CV.v (Value.slice none 0 0), iv (0 : Int), iv (0 : Int)], ov := [] }] [{ own := true, box := true, ty := 25, sz := 15, m := 1, n := fun x => 1, cap := fun x => 1, f := fun x x_1 => [iv (0 : Int), iv (0 : Int), iv (0 : Int), iv (0 : Int), iv (0 : Int), iv (0 : Int), iv (0 : Int), iv (0 : Int), iv (0 : Int), iv (0 : Int), iv (0 : Int), iv (0 : Int), CV.v (Value.slice none 0 0), iv (0 : Int), iv (0 : Int)], ov := [] }])
   (Tree.chk (1 = 1)
   (Tree.chk (((true = true ∨ ∀ (j : Nat), 1 = 0) ∧ ∀ (j i : Nat), true = true) ∧ True)
   (Tree.need True))))))
   (Tree.both
   (Tree.every (Nat → Nat → Nat) fun c => Tree.hyp (doGood (Prod.fst (bY x t v ws s_2.1)) t (fkF (bI s_2.1)) (fvF v (bI s_2.1)) (List.take (List.length (Prod.fst (Prod.snd (bY x t v ws s_2.1)))) (List.drop (c_2 6 2) (Prod.fst s_4))) (c 6))
   (Tree.sub
   (Tree.some_ (Nat → Nat) fun d => Tree.chk (some (XV.a (AV.c (CV.v (Value.tuple { toList := [] })))) = some (XV.a (AV.c (CV.v (Value.tuple { toList := [] })))))
   (Tree.chk (EqH [] [])
   (Tree.chk (0 = 0)
   (Tree.chk True
   (Tree.chk (EqE (some { own := true, box := true, ty := 25, sz := 15, m := 1, n := fun a => 1, cap := fun a => 1, f := fun x_1 x_2 => [iv (Prod.fst (doRF (Prod.fst (bY x t v ws s_2.1)) t (fkF (bI s_2.1)) (fvF v (bI s_2.1)) (List.take (List.length (Prod.fst (Prod.snd (bY x t v ws s_2.1)))) (List.drop (c_2 6 2) (Prod.fst s_4))))).1, iv (Prod.fst (doRF (Prod.fst (bY x t v ws s_2.1)) t (fkF (bI s_2.1)) (fvF v (bI s_2.1)) (List.take (List.length (Prod.fst (Prod.snd (bY x t v ws s_2.1)))) (List.drop (c_2 6 2) (Prod.fst s_4))))).2, iv (Prod.fst (doRF (Prod.fst (bY x t v ws s_2.1)) t (fkF (bI s_2.1)) (fvF v (bI s_2.1)) (List.take (List.length (Prod.fst (Prod.snd (bY x t v ws s_2.1)))) (List.drop (c_2 6 2) (Prod.fst s_4))))).3, iv (Prod.fst (doRF (Prod.fst (bY x t v ws s_2.1)) t (fkF (bI s_2.1)) (fvF v (bI s_2.1)) (List.take (List.length (Prod.fst (Prod.snd (bY x t v ws s_2.1)))) (List.drop (c_2 6 2) (Prod.fst s_4))))).4, iv (Prod.fst (doRF (Prod.fst (bY x t v ws s_2.1)) t (fkF (bI s_2.1)) (fvF v (bI s_2.1)) (List.take (List.length (Prod.fst (Prod.snd (bY x t v ws s_2.1)))) (List.drop (c_2 6 2) (Prod.fst s_4))))).5, iv (Prod.fst (doRF (Prod.fst (bY x t v ws s_2.1)) t (fkF (bI s_2.1)) (fvF v (bI s_2.1)) (List.take (List.length (Prod.fst (Prod.snd (bY x t v ws s_2.1)))) (List.drop (c_2 6 2) (Prod.fst s_4))))).6, iv (Prod.fst (doRF (Prod.fst (bY x t v ws s_2.1)) t (fkF (bI s_2.1)) (fvF v (bI s_2.1)) (List.take (List.length (Prod.fst (Prod.snd (bY x t v ws s_2.1)))) (List.drop (c_2 6 2) (Prod.fst s_4))))).7, iv (Prod.fst (doRF (Prod.fst (bY x t v ws s_2.1)) t (fkF (bI s_2.1)) (fvF v (bI s_2.1)) (List.take (List.length (Prod.fst (Prod.snd (bY x t v ws s_2.1)))) (List.drop (c_2 6 2) (Prod.fst s_4))))).8, iv (Prod.fst (doRF (Prod.fst (bY x t v ws s_2.1)) t (fkF (bI s_2.1)) (fvF v (bI s_2.1)) (List.take (List.length (Prod.fst (Prod.snd (bY x t v ws s_2.1)))) (List.drop (c_2 6 2) (Prod.fst s_4))))).9, iv (Prod.fst (doRF (Prod.fst (bY x t v ws s_2.1)) t (fkF (bI s_2.1)) (fvF v (bI s_2.1)) (List.take (List.length (Prod.fst (Prod.snd (bY x t v ws s_2.1)))) (List.drop (c_2 6 2) (Prod.fst s_4))))).10, iv (Prod.fst (doRF (Prod.fst (bY x t v ws s_2.1)) t (fkF (bI s_2.1)) (fvF v (bI s_2.1)) (List.take (List.length (Prod.fst (Prod.snd (bY x t v ws s_2.1)))) (List.drop (c_2 6 2) (Prod.fst s_4))))).11, iv (Prod.fst (doRF (Prod.fst (bY x t v ws s_2.1)) t (fkF (bI s_2.1)) (fvF v (bI s_2.1)) (List.take (List.length (Prod.fst (Prod.snd (bY x t v ws s_2.1)))) (List.drop (c_2 6 2) (Prod.fst s_4))))).12, CV.sl 6 0 (c 6 2) 2 (List.length (Prod.fst (Prod.snd (doRF (Prod.fst (bY x t v ws s_2.1)) t (fkF (bI s_2.1)) (fvF v (bI s_2.1)) (List.take (List.length (Prod.fst (Prod.snd (bY x t v ws s_2.1)))) (List.drop (c_2 6 2) (Prod.fst s_4))))))) (c 6 0), iv (Prod.fst (doRF (Prod.fst (bY x t v ws s_2.1)) t (fkF (bI s_2.1)) (fvF v (bI s_2.1)) (List.take (List.length (Prod.fst (Prod.snd (bY x t v ws s_2.1)))) (List.drop (c_2 6 2) (Prod.fst s_4))))).13, iv (Prod.fst (doRF (Prod.fst (bY x t v ws s_2.1)) t (fkF (bI s_2.1)) (fvF v (bI s_2.1)) (List.take (List.length (Prod.fst (Prod.snd (bY x t v ws s_2.1)))) (List.drop (c_2 6 2) (Prod.fst s_4))))).14], ov := [] }) (some { own := true, box := true, ty := 25, sz := 15, m := 1, n := fun a => 1, cap := fun a => 1, f := fun x_1 x_2 => [iv (Prod.fst (doRF (Prod.fst (bY x t v ws s_2.1)) t (fkF (bI s_2.1)) (fvF v (bI s_2.1)) (List.take (List.length (Prod.fst (Prod.snd (bY x t v ws s_2.1)))) (List.drop (c_2 6 2) (Prod.fst s_4))))).1, iv (Prod.fst (doRF (Prod.fst (bY x t v ws s_2.1)) t (fkF (bI s_2.1)) (fvF v (bI s_2.1)) (List.take (List.length (Prod.fst (Prod.snd (bY x t v ws s_2.1)))) (List.drop (c_2 6 2) (Prod.fst s_4))))).2, iv (Prod.fst (doRF (Prod.fst (bY x t v ws s_2.1)) t (fkF (bI s_2.1)) (fvF v (bI s_2.1)) (List.take (List.length (Prod.fst (Prod.snd (bY x t v ws s_2.1)))) (List.drop (c_2 6 2) (Prod.fst s_4))))).3, iv (Prod.fst (doRF (Prod.fst (bY x t v ws s_2.1)) t (fkF (bI s_2.1)) (fvF v (bI s_2.1)) (List.take (List.length (Prod.fst (Prod.snd (bY x t v ws s_2.1)))) (List.drop (c_2 6 2) (Prod.fst s_4))))).4, iv (Prod.fst (doRF (Prod.fst (bY x t v ws s_2.1)) t (fkF (bI s_2.1)) (fvF v (bI s_2.1)) (List.take (List.length (Prod.fst (Prod.snd (bY x t v ws s_2.1)))) (List.drop (c_2 6 2) (Prod.fst s_4))))).5, iv (Prod.fst (doRF (Prod.fst (bY x t v ws s_2.1)) t (fkF (bI s_2.1)) (fvF v (bI s_2.1)) (List.take (List.length (Prod.fst (Prod.snd (bY x t v ws s_2.1)))) (List.drop (c_2 6 2) (Prod.fst s_4))))).6, iv (Prod.fst (doRF (Prod.fst (bY x t v ws s_2.1)) t (fkF (bI s_2.1)) (fvF v (bI s_2.1)) (List.take (List.length (Prod.fst (Prod.snd (bY x t v ws s_2.1)))) (List.drop (c_2 6 2) (Prod.fst s_4))))).7, iv (Prod.fst (doRF (Prod.fst (bY x t v ws s_2.1)) t (fkF (bI s_2.1)) (fvF v (bI s_2.1)) (List.take (List.length (Prod.fst (Prod.snd (bY x t v ws s_2.1)))) (List.drop (c_2 6 2) (Prod.fst s_4))))).8, iv (Prod.fst (doRF (Prod.fst (bY x t v ws s_2.1)) t (fkF (bI s_2.1)) (fvF v (bI s_2.1)) (List.take (List.length (Prod.fst (Prod.snd (bY x t v ws s_2.1)))) (List.drop (c_2 6 2) (Prod.fst s_4))))).9, iv (Prod.fst (doRF (Prod.fst (bY x t v ws s_2.1)) t (fkF (bI s_2.1)) (fvF v (bI s_2.1)) (List.take (List.length (Prod.fst (Prod.snd (bY x t v ws s_2.1)))) (List.drop (c_2 6 2) (Prod.fst s_4))))).10, iv (Prod.fst (doRF (Prod.fst (bY x t v ws s_2.1)) t (fkF (bI s_2.1)) (fvF v (bI s_2.1)) (List.take (List.length (Prod.fst (Prod.snd (bY x t v ws s_2.1)))) (List.drop (c_2 6 2) (Prod.fst s_4))))).11, iv (Prod.fst (doRF (Prod.fst (bY x t v ws s_2.1)) t (fkF (bI s_2.1)) (fvF v (bI s_2.1)) (List.take (List.length (Prod.fst (Prod.snd (bY x t v ws s_2.1)))) (List.drop (c_2 6 2) (Prod.fst s_4))))).12, CV.sl 6 0 (c 6 2) 2 (List.length (Prod.fst (Prod.snd (doRF (Prod.fst (bY x t v ws s_2.1)) t (fkF (bI s_2.1)) (fvF v (bI s_2.1)) (List.take (List.length (Prod.fst (Prod.snd (bY x t v ws s_2.1)))) (List.drop (c_2 6 2) (Prod.fst s_4))))))) (c 6 0), iv (Prod.fst (doRF (Prod.fst (bY x t v ws s_2.1)) t (fkF (bI s_2.1)) (fvF v (bI s_2.1)) (List.take (List.length (Prod.fst (Prod.snd (bY x t v ws s_2.1)))) (List.drop (c_2 6 2) (Prod.fst s_4))))).13, iv (Prod.fst (doRF (Prod.fst (bY x t v ws s_2.1)) t (fkF (bI s_2.1)) (fvF v (bI s_2.1)) (List.take (List.length (Prod.fst (Prod.snd (bY x t v ws s_2.1)))) (List.drop (c_2 6 2) (Prod.fst s_4))))).14], ov := [] }))
   (Tree.chk (((true = true ∨ ∀ (j : Nat), 1 = 0) ∧ ∀ (j i : Nat), true = true) ∧ True)
   (Tree.need True)))))))))
   (Tree.both
   (Tree.every (Nat → Nat → Nat) fun c => Tree.hyp (doGood (Prod.fst (bY x t v ws s_2.1)) t (fkF (bI s_2.1)) (fvF v (bI s_2.1)) (List.take (List.length (Prod.fst (Prod.snd (bY x t v ws s_2.1)))) (List.drop (c_2 6 2) (Prod.fst s_4))) (c 6))
   (Tree.sub
   (Tree.some_ (Nat → Nat) fun d => Tree.chk (some (XV.a (AV.c (CV.v (Value.bool (Prod.snd (Prod.snd (doRF (Prod.fst (bY x t v ws s_2.1)) t (fkF (bI s_2.1)) (fvF v (bI s_2.1)) (List.take (List.length (Prod.fst (Prod.snd (bY x t v ws s_2.1)))) (List.drop (c_2 6 2) (Prod.fst s_4)))))))))) = some (XV.a (AV.c (CV.v (Value.bool (Prod.snd (Prod.snd (doRF (Prod.fst (bY x t v ws s_2.1)) t (fkF (bI s_2.1)) (fvF v (bI s_2.1)) (List.take (List.length (Prod.fst (Prod.snd (bY x t v ws s_2.1)))) (List.drop (c_2 6 2) (Prod.fst s_4)))))))))))
   (Tree.chk (EqH [] [])
   (Tree.chk (0 = 0)
   (Tree.chk True
   (Tree.need True)))))))
   (Tree.every (Nat → Nat → Nat) fun c_3 => Tree.hyp (doGood (Prod.fst (bY x t v ws s_2.1)) t (fkF (bI s_2.1)) (fvF v (bI s_2.1)) (List.take (List.length (Prod.fst (Prod.snd (bY x t v ws s_2.1)))) (List.drop (c_2 6 2) (Prod.fst s_4))) (c_3 6))
   (Tree.br (!!Prod.snd (Prod.snd (doRF (Prod.fst (bY x t v ws s_2.1)) t (fkF (bI s_2.1)) (fvF v (bI s_2.1)) (List.take (List.length (Prod.fst (Prod.snd (bY x t v ws s_2.1)))) (List.drop (c_2 6 2) (Prod.fst s_4))))))
   (Tree.chk ((!!Prod.snd (Prod.snd (doRF (Prod.fst (bY x t v ws s_2.1)) t (fkF (bI s_2.1)) (fvF v (bI s_2.1)) (List.take (List.length (Prod.fst (Prod.snd (bY x t v ws s_2.1)))) (List.drop (c_2 6 2) (Prod.fst s_4)))))) = true)
   (Tree.chk ((!!Prod.snd (Prod.snd (doRF (Prod.fst (bY x t v ws s_2.1)) t (fkF (bI s_2.1)) (fvF v (bI s_2.1)) (List.take (List.length (Prod.fst (Prod.snd (bY x t v ws s_2.1)))) (List.drop (c_2 6 2) (Prod.fst s_4)))))) = true)
   (Tree.some_ ((List (Int × Int) × Bool × Nat) × List (Int × Int) × Bool × Nat) fun s_5 => Tree.callf 12 [AV.agg [iv (Prod.fst (doRF (Prod.fst (bY x t v ws s_2.1)) t (fkF (bI s_2.1)) (fvF v (bI s_2.1)) (List.take (List.length (Prod.fst (Prod.snd (bY x t v ws s_2.1)))) (List.drop (c_2 6 2) (Prod.fst s_4))))).1, iv (Prod.fst (doRF (Prod.fst (bY x t v ws s_2.1)) t (fkF (bI s_2.1)) (fvF v (bI s_2.1)) (List.take (List.length (Prod.fst (Prod.snd (bY x t v ws s_2.1)))) (List.drop (c_2 6 2) (Prod.fst s_4))))).2, iv (Prod.fst (doRF (Prod.fst (bY x t v ws s_2.1)) t (fkF (bI s_2.1)) (fvF v (bI s_2.1)) (List.take (List.length (Prod.fst (Prod.snd (bY x t v ws s_2.1)))) (List.drop (c_2 6 2) (Prod.fst s_4))))).3, iv (Prod.fst (doRF (Prod.fst (bY x t v ws s_2.1)) t (fkF (bI s_2.1)) (fvF v (bI s_2.1)) (List.take (List.length (Prod.fst (Prod.snd (bY x t v ws s_2.1)))) (List.drop (c_2 6 2) (Prod.fst s_4))))).4, iv (Prod.fst (doRF (Prod.fst (bY x t v ws s_2.1)) t (fkF (bI s_2.1)) (fvF v (bI s_2.1)) (List.take (List.length (Prod.fst (Prod.snd (bY x t v ws s_2.1)))) (List.drop (c_2 6 2) (Prod.fst s_4))))).5, iv (Prod.fst (doRF (Prod.fst (bY x t v ws s_2.1)) t (fkF (bI s_2.1)) (fvF v (bI s_2.1)) (List.take (List.length (Prod.fst (Prod.snd (bY x t v ws s_2.1)))) (List.drop (c_2 6 2) (Prod.fst s_4))))).6, iv (Prod.fst (doRF (Prod.fst (bY x t v ws s_2.1)) t (fkF (bI s_2.1)) (fvF v (bI s_2.1)) (List.take (List.length (Prod.fst (Prod.snd (bY x t v ws s_2.1)))) (List.drop (c_2 6 2) (Prod.fst s_4))))).7, iv (Prod.fst (doRF (Prod.fst (bY x t v ws s_2.1)) t (fkF (bI s_2.1)) (fvF v (bI s_2.1)) (List.take (List.length (Prod.fst (Prod.snd (bY x t v ws s_2.1)))) (List.drop (c_2 6 2) (Prod.fst s_4))))).8, iv (Prod.fst (doRF (Prod.fst (bY x t v ws s_2.1)) t (fkF (bI s_2.1)) (fvF v (bI s_2.1)) (List.take (List.length (Prod.fst (Prod.snd (bY x t v ws s_2.1)))) (List.drop (c_2 6 2) (Prod.fst s_4))))).9, iv (Prod.fst (doRF (Prod.fst (bY x t v ws s_2.1)) t (fkF (bI s_2.1)) (fvF v (bI s_2.1)) (List.take (List.length (Prod.fst (Prod.snd (bY x t v ws s_2.1)))) (List.drop (c_2 6 2) (Prod.fst s_4))))).10, iv (Prod.fst (doRF (Prod.fst (bY x t v ws s_2.1)) t (fkF (bI s_2.1)) (fvF v (bI s_2.1)) (List.take (List.length (Prod.fst (Prod.snd (bY x t v ws s_2.1)))) (List.drop (c_2 6 2) (Prod.fst s_4))))).11, iv (Prod.fst (doRF (Prod.fst (bY x t v ws s_2.1)) t (fkF (bI s_2.1)) (fvF v (bI s_2.1)) (List.take (List.length (Prod.fst (Prod.snd (bY x t v ws s_2.1)))) (List.drop (c_2 6 2) (Prod.fst s_4))))).12, CV.sl 6 0 (c_3 6 2) 2 (List.length (Prod.fst (Prod.snd (doRF (Prod.fst (bY x t v ws s_2.1)) t (fkF (bI s_2.1)) (fvF v (bI s_2.1)) (List.take (List.length (Prod.fst (Prod.snd (bY x t v ws s_2.1)))) (List.drop (c_2 6 2) (Prod.fst s_4))))))) (c_3 6 0), iv (Prod.fst (doRF (Prod.fst (bY x t v ws s_2.1)) t (fkF (bI s_2.1)) (fvF v (bI s_2.1)) (List.take (List.length (Prod.fst (Prod.snd (bY x t v ws s_2.1)))) (List.drop (c_2 6 2) (Prod.fst s_4))))).13, iv (Prod.fst (doRF (Prod.fst (bY x t v ws s_2.1)) t (fkF (bI s_2.1)) (fvF v (bI s_2.1)) (List.take (List.length (Prod.fst (Prod.snd (bY x t v ws s_2.1)))) (List.drop (c_2 6 2) (Prod.fst s_4))))).14], AV.agg [iv x.1, iv x.2, iv x.3, iv x.4, iv x.5, iv x.6, iv x.7, iv x.8, iv x.9, iv x.10, iv x.11, iv x.12, CV.sl 0 0 0 2 (List.length ws) cap, iv x.13, iv x.14]] [{ own := false, box := false, ty := 37, sz := 2, m := 1, n := fun x => List.length ws, cap := fun x => cap, f := fun x i => [iv (Prod.fst (List.getD ws i ((0 : Int), (0 : Int)))), iv (Prod.snd (List.getD ws i ((0 : Int), (0 : Int))))], ov := [] }, { own := true, box := true, ty := 25, sz := 15, m := 1, n := fun x => 1, cap := fun x => 1, f := fun x_1 x_2 => [iv x.1, iv x.2, iv x.3, iv x.4, iv x.5, iv x.6, iv x.7, iv x.8, iv x.9, iv x.10, iv x.11, iv x.12, CV.sl 0 0 0 2 (List.length ws) cap, iv x.13, iv x.14], ov := [] }, { own := true, box := false, ty := 29, sz := 2, m := 1, n := fun x => 4, cap := fun x => 4, f := fun x i => [iv (tkF i), iv (tvF v i)], ov := [] }, { own := true, box := false, ty := 29, sz := 2, m := 1, n := fun x => 4, cap := fun x => 4, f := fun x i => [iv (fkF i), iv (fvF v i)], ov := [] }, { own := true, box := false, ty := 37, sz := 2, m := 1, n := fun x_1 => List.length (doRowF x t (tkF (bI s_2.1)) (tvF v (bI s_2.1)) (List.take (List.length ws) (List.drop 0 ws))), cap := fun x => c_2 6 1, f := fun x_1 i => [iv (Prod.fst (List.getD (doRowF x t (tkF (bI s_2.1)) (tvF v (bI s_2.1)) (List.take (List.length ws) (List.drop 0 ws))) i ((0 : Int), (0 : Int)))), iv (Prod.snd (List.getD (doRowF x t (tkF (bI s_2.1)) (tvF v (bI s_2.1)) (List.take (List.length ws) (List.drop 0 ws))) i ((0 : Int), (0 : Int))))], ov := [] }, { own := true, box := true, ty := 25, sz := 15, m := 1, n := fun a => 1, cap := fun a => 1, f := fun x_1 x_2 => [iv (Prod.fst (bY x t v ws s_2.1)).1, iv (Prod.fst (bY x t v ws s_2.1)).2, iv (Prod.fst (bY x t v ws s_2.1)).3, iv (Prod.fst (bY x t v ws s_2.1)).4, iv (Prod.fst (bY x t v ws s_2.1)).5, iv (Prod.fst (bY x t v ws s_2.1)).6, iv (Prod.fst (bY x t v ws s_2.1)).7, iv (Prod.fst (bY x t v ws s_2.1)).8, iv (Prod.fst (bY x t v ws s_2.1)).9, iv (Prod.fst (bY x t v ws s_2.1)).10, iv (Prod.fst (bY x t v ws s_2.1)).11, iv (Prod.fst (bY x t v ws s_2.1)).12, CV.sl 4 0 (c_2 6 2) 2 (List.length (Prod.fst (Prod.snd (bY x t v ws s_2.1)))) (c_2 6 0), iv (Prod.fst (bY x t v ws s_2.1)).13, iv (Prod.fst (bY x t v ws s_2.1)).14], ov := [] }, { own := true, box := false, ty := 37, sz := 2, m := 1, n := fun x_1 => List.length (doRowF (Prod.fst (bY x t v ws s_2.1)) t (fkF (bI s_2.1)) (fvF v (bI s_2.1)) (List.take (List.length (Prod.fst (Prod.snd (bY x t v ws s_2.1)))) (List.drop (c_2 6 2) (Prod.fst s_4)))), cap := fun x => c_3 6 1, f := fun x_1 i => [iv (Prod.fst (List.getD (doRowF (Prod.fst (bY x t v ws s_2.1)) t (fkF (bI s_2.1)) (fvF v (bI s_2.1)) (List.take (List.length (Prod.fst (Prod.snd (bY x t v ws s_2.1)))) (List.drop (c_2 6 2) (Prod.fst s_4)))) i ((0 : Int), (0 : Int)))), iv (Prod.snd (List.getD (doRowF (Prod.fst (bY x t v ws s_2.1)) t (fkF (bI s_2.1)) (fvF v (bI s_2.1)) (List.take (List.length (Prod.fst (Prod.snd (bY x t v ws s_2.1)))) (List.drop (c_2 6 2) (Prod.fst s_4)))) i ((0 : Int), (0 : Int))))], ov := [] }, { own := true, box := true, ty := 25, sz := 15, m := 1, n := fun a => 1, cap := fun a => 1, f := fun x_1 x_2 => [iv (Prod.fst (doRF (Prod.fst (bY x t v ws s_2.1)) t (fkF (bI s_2.1)) (fvF v (bI s_2.1)) (List.take (List.length (Prod.fst (Prod.snd (bY x t v ws s_2.1)))) (List.drop (c_2 6 2) (Prod.fst s_4))))).1, iv (Prod.fst (doRF (Prod.fst (bY x t v ws s_2.1)) t (fkF (bI s_2.1)) (fvF v (bI s_2.1)) (List.take (List.length (Prod.fst (Prod.snd (bY x t v ws s_2.1)))) (List.drop (c_2 6 2) (Prod.fst s_4))))).2, iv (Prod.fst (doRF (Prod.fst (bY x t v ws s_2.1)) t (fkF (bI s_2.1)) (fvF v (bI s_2.1)) (List.take (List.length (Prod.fst (Prod.snd (bY x t v ws s_2.1)))) (List.drop (c_2 6 2) (Prod.fst s_4))))).3, iv (Prod.fst (doRF (Prod.fst (bY x t v ws s_2.1)) t (fkF (bI s_2.1)) (fvF v (bI s_2.1)) (List.take (List.length (Prod.fst (Prod.snd (bY x t v ws s_2.1)))) (List.drop (c_2 6 2) (Prod.fst s_4))))).4, iv (Prod.fst (doRF (Prod.fst (bY x t v ws s_2.1)) t (fkF (bI s_2.1)) (fvF v (bI s_2.1)) (List.take (List.length (Prod.fst (Prod.snd (bY x t v ws s_2.1)))) (List.drop (c_2 6 2) (Prod.fst s_4))))).5, iv (Prod.fst (doRF (Prod.fst (bY x t v ws s_2.1)) t (fkF (bI s_2.1)) (fvF v (bI s_2.1)) (List.take (List.length (Prod.fst (Prod.snd (bY x t v ws s_2.1)))) (List.drop (c_2 6 2) (Prod.fst s_4))))).6, iv (Prod.fst (doRF (Prod.fst (bY x t v ws s_2.1)) t (fkF (bI s_2.1)) (fvF v (bI s_2.1)) (List.take (List.length (Prod.fst (Prod.snd (bY x t v ws s_2.1)))) (List.drop (c_2 6 2) (Prod.fst s_4))))).7, iv (Prod.fst (doRF (Prod.fst (bY x t v ws s_2.1)) t (fkF (bI s_2.1)) (fvF v (bI s_2.1)) (List.take (List.length (Prod.fst (Prod.snd (bY x t v ws s_2.1)))) (List.drop (c_2 6 2) (Prod.fst s_4))))).8, iv (Prod.fst (doRF (Prod.fst (bY x t v ws s_2.1)) t (fkF (bI s_2.1)) (fvF v (bI s_2.1)) (List.take (List.length (Prod.fst (Prod.snd (bY x t v ws s_2.1)))) (List.drop (c_2 6 2) (Prod.fst s_4))))).9, iv (Prod.fst (doRF (Prod.fst (bY x t v ws s_2.1)) t (fkF (bI s_2.1)) (fvF v (bI s_2.1)) (List.take (List.length (Prod.fst (Prod.snd (bY x t v ws s_2.1)))) (List.drop (c_2 6 2) (Prod.fst s_4))))).10, iv (Prod.fst (doRF (Prod.fst (bY x t v ws s_2.1)) t (fkF (bI s_2.1)) (fvF v (bI s_2.1)) (List.take (List.length (Prod.fst (Prod.snd (bY x t v ws s_2.1)))) (List.drop (c_2 6 2) (Prod.fst s_4))))).11, iv (Prod.fst (doRF (Prod.fst (bY x t v ws s_2.1)) t (fkF (bI s_2.1)) (fvF v (bI s_2.1)) (List.take (List.length (Prod.fst (Prod.snd (bY x t v ws s_2.1)))) (List.drop (c_2 6 2) (Prod.fst s_4))))).12, CV.sl 6 0 (c_3 6 2) 2 (List.length (Prod.fst (Prod.snd (doRF (Prod.fst (bY x t v ws s_2.1)) t (fkF (bI s_2.1)) (fvF v (bI s_2.1)) (List.take (List.length (Prod.fst (Prod.snd (bY x t v ws s_2.1)))) (List.drop (c_2 6 2) (Prod.fst s_4))))))) (c_3 6 0), iv (Prod.fst (doRF (Prod.fst (bY x t v ws s_2.1)) t (fkF (bI s_2.1)) (fvF v (bI s_2.1)) (List.take (List.length (Prod.fst (Prod.snd (bY x t v ws s_2.1)))) (List.drop (c_2 6 2) (Prod.fst s_4))))).13, iv (Prod.fst (doRF (Prod.fst (bY x t v ws s_2.1)) t (fkF (bI s_2.1)) (fvF v (bI s_2.1)) (List.take (List.length (Prod.fst (Prod.snd (bY x t v ws s_2.1)))) (List.drop (c_2 6 2) (Prod.fst s_4))))).14], ov := [] }] (eq2C (Prod.fst (doRF (Prod.fst (bY x t v ws s_2.1)) t (fkF (bI s_2.1)) (fvF v (bI s_2.1)) (List.take (List.length (Prod.fst (Prod.snd (bY x t v ws s_2.1)))) (List.drop (c_2 6 2) (Prod.fst s_4))))) x (Prod.fst (Prod.fst s_5)) (Prod.fst (Prod.snd s_5)) (Prod.fst (Prod.snd (Prod.fst s_5))) (Prod.fst (Prod.snd (Prod.snd s_5))) (c_3 6 2) (List.length (Prod.fst (Prod.snd (doRF (Prod.fst (bY x t v ws s_2.1)) t (fkF (bI s_2.1)) (fvF v (bI s_2.1)) (List.take (List.length (Prod.fst (Prod.snd (bY x t v ws s_2.1)))) (List.drop (c_2 6 2) (Prod.fst s_4))))))) (c_3 6 0) (Prod.snd (Prod.snd (Prod.fst s_5))) 0 (List.length ws) cap (Prod.snd (Prod.snd (Prod.snd s_5))) [6, 0]) fun c_4 => Tree.chk ((!Prod.snd (Prod.snd (doRF (Prod.fst (bY x t v ws s_2.1)) t (fkF (bI s_2.1)) (fvF v (bI s_2.1)) (List.take (List.length (Prod.fst (Prod.snd (bY x t v ws s_2.1)))) (List.drop (c_2 6 2) (Prod.fst s_4)))))) = false → (!!Prod.snd (Prod.snd (doRF (Prod.fst (bY x t v ws s_2.1)) t (fkF (bI s_2.1)) (fvF v (bI s_2.1)) (List.take (List.length (Prod.fst (Prod.snd (bY x t v ws s_2.1)))) (List.drop (c_2 6 2) (Prod.fst s_4)))))) = true)
   (Tree.br (bif !Prod.snd (Prod.snd (doRF (Prod.fst (bY x t v ws s_2.1)) t (fkF (bI s_2.1)) (fvF v (bI s_2.1)) (List.take (List.length (Prod.fst (Prod.snd (bY x t v ws s_2.1)))) (List.drop (c_2 6 2) (Prod.fst s_4))))) then true else !sameF (Prod.fst (doRF (Prod.fst (bY x t v ws s_2.1)) t (fkF (bI s_2.1)) (fvF v (bI s_2.1)) (List.take (List.length (Prod.fst (Prod.snd (bY x t v ws s_2.1)))) (List.drop (c_2 6 2) (Prod.fst s_4))))) x (List.take (List.length (Prod.fst (Prod.snd (doRF (Prod.fst (bY x t v ws s_2.1)) t (fkF (bI s_2.1)) (fvF v (bI s_2.1)) (List.take (List.length (Prod.fst (Prod.snd (bY x t v ws s_2.1)))) (List.drop (c_2 6 2) (Prod.fst s_4))))))) (List.drop (c_3 6 2) (Prod.fst (Prod.fst s_5)))) (List.take (List.length ws) (List.drop 0 (Prod.fst (Prod.snd s_5)))))
   (Tree.done (XV.a (AV.c (CV.v (Value.bool false)))) [{ own := Prod.fst (Prod.snd (Prod.snd s_5)), box := false, ty := 37, sz := 2, m := 1, n := fun x => List.length (Prod.fst (Prod.snd s_5)), cap := fun x => Prod.snd (Prod.snd (Prod.snd s_5)), f := fun x i => [iv (Prod.fst (List.getD (Prod.fst (Prod.snd s_5)) i ((0 : Int), (0 : Int)))), iv (Prod.snd (List.getD (Prod.fst (Prod.snd s_5)) i ((0 : Int), (0 : Int))))], ov := [] }, Ent.dead, Ent.dead, Ent.dead, Ent.dead, Ent.dead, Ent.dead, Ent.dead])
   (Tree.some_ { i // le4 i } fun s' => Tree.chk (4 - Subtype.val s' < 4 - Subtype.val s_2)
   (Tree.chk (XV.a (AV.c (iv (IntKind.wrap IntKind.i64 ((↑(Subtype.val s_2) : Int) + (1 : Int))))) = XV.a (AV.c (iv (↑(Subtype.val s') : Int))))
   (Tree.chk (XV.a (AV.c (iv t)) = XV.a (AV.c (iv t)))
   (Tree.chk (XV.a (AV.c (iv v)) = XV.a (AV.c (iv v)))
   (Tree.chk (XV.a (AV.c (CV.ptr { k := 1, j := 0, i := 0, sz := 15, c := 0, d := 0, dn := 0, cu := 0 })) = XV.a (AV.c (CV.ptr { k := 1, j := 0, i := 0, sz := 15, c := 0, d := 0, dn := 0, cu := 0 })))
   (Tree.chk (XV.a (AV.c (CV.v (Value.bool true))) = XV.a (AV.c (CV.v (Value.bool true))))
   (Tree.chk (XV.a (AV.c (CV.sl 2 0 0 2 4 4)) = XV.a (AV.c (CV.sl 2 0 0 2 4 4)))
   (Tree.chk (XV.a (AV.c (CV.sl 3 0 0 2 4 4)) = XV.a (AV.c (CV.sl 3 0 0 2 4 4)))
   (Tree.chk (EntRel 8 [0, 1, 2, 3] 4 { own := Prod.fst (Prod.snd (Prod.snd s_5)), box := false, ty := 37, sz := 2, m := 1, n := fun x => List.length (Prod.fst (Prod.snd s_5)), cap := fun x => Prod.snd (Prod.snd (Prod.snd s_5)), f := fun x i => [iv (Prod.fst (List.getD (Prod.fst (Prod.snd s_5)) i ((0 : Int), (0 : Int)))), iv (Prod.snd (List.getD (Prod.fst (Prod.snd s_5)) i ((0 : Int), (0 : Int))))], ov := [] } { own := false, box := false, ty := 37, sz := 2, m := 1, n := fun x => List.length ws, cap := fun x => cap, f := fun x i => [iv (Prod.fst (List.getD ws i ((0 : Int), (0 : Int)))), iv (Prod.snd (List.getD ws i ((0 : Int), (0 : Int))))], ov := [] })
   (Tree.chk (EntRel 8 [0, 1, 2, 3] 4 { own := true, box := true, ty := 25, sz := 15, m := 1, n := fun x => 1, cap := fun x => 1, f := fun x_1 x_2 => [iv x.1, iv x.2, iv x.3, iv x.4, iv x.5, iv x.6, iv x.7, iv x.8, iv x.9, iv x.10, iv x.11, iv x.12, CV.sl 0 0 0 2 (List.length ws) cap, iv x.13, iv x.14], ov := [] } { own := true, box := true, ty := 25, sz := 15, m := 1, n := fun x => 1, cap := fun x => 1, f := fun x_1 x_2 => [iv x.1, iv x.2, iv x.3, iv x.4, iv x.5, iv x.6, iv x.7, iv x.8, iv x.9, iv x.10, iv x.11, iv x.12, CV.sl 0 0 0 2 (List.length ws) cap, iv x.13, iv x.14], ov := [] })
   (Tree.chk (EntRel 8 [0, 1, 2, 3] 4 { own := true, box := false, ty := 29, sz := 2, m := 1, n := fun x => 4, cap := fun x => 4, f := fun x i => [iv (tkF i), iv (tvF v i)], ov := [] } { own := true, box := false, ty := 29, sz := 2, m := 1, n := fun x => 4, cap := fun x => 4, f := fun x i => [iv (tkF i), iv (tvF v i)], ov := [] })
   (Tree.chk (EntRel 8 [0, 1, 2, 3] 4 { own := true, box := false, ty := 29, sz := 2, m := 1, n := fun x => 4, cap := fun x => 4, f := fun x i => [iv (fkF i), iv (fvF v i)], ov := [] } { own := true, box := false, ty := 29, sz := 2, m := 1, n := fun x => 4, cap := fun x => 4, f := fun x i => [iv (fkF i), iv (fvF v i)], ov := [] })
   (Tree.need True)))))))))))))))))
   (Tree.chk ((!!Prod.snd (Prod.snd (doRF (Prod.fst (bY x t v ws s_2.1)) t (fkF (bI s_2.1)) (fvF v (bI s_2.1)) (List.take (List.length (Prod.fst (Prod.snd (bY x t v ws s_2.1)))) (List.drop (c_2 6 2) (Prod.fst s_4)))))) = true → False)
   (Tree.chk ((!Prod.snd (Prod.snd (doRF (Prod.fst (bY x t v ws s_2.1)) t (fkF (bI s_2.1)) (fvF v (bI s_2.1)) (List.take (List.length (Prod.fst (Prod.snd (bY x t v ws s_2.1)))) (List.drop (c_2 6 2) (Prod.fst s_4)))))) = true)
   (Tree.br true
   (Tree.done (XV.a (AV.c (CV.v (Value.bool false)))) [{ own := false, box := false, ty := 37, sz := 2, m := 1, n := fun x => List.length ws, cap := fun x => cap, f := fun x i => [iv (Prod.fst (List.getD ws i ((0 : Int), (0 : Int)))), iv (Prod.snd (List.getD ws i ((0 : Int), (0 : Int))))], ov := [] }, Ent.dead, Ent.dead, Ent.dead, Ent.dead, Ent.dead, Ent.dead, Ent.dead])
   (Tree.some_ { i // le4 i } fun s' => Tree.chk (4 - Subtype.val s' < 4 - Subtype.val s_2)
   (Tree.chk (XV.a (AV.c (iv (IntKind.wrap IntKind.i64 ((↑(Subtype.val s_2) : Int) + (1 : Int))))) = XV.a (AV.c (iv (↑(Subtype.val s') : Int))))
   (Tree.chk (XV.a (AV.c (iv t)) = XV.a (AV.c (iv t)))
   (Tree.chk (XV.a (AV.c (iv v)) = XV.a (AV.c (iv v)))
   (Tree.chk (XV.a (AV.c (CV.ptr { k := 1, j := 0, i := 0, sz := 15, c := 0, d := 0, dn := 0, cu := 0 })) = XV.a (AV.c (CV.ptr { k := 1, j := 0, i := 0, sz := 15, c := 0, d := 0, dn := 0, cu := 0 })))
   (Tree.chk (XV.a (AV.c (CV.v (Value.bool true))) = XV.a (AV.c (CV.v (Value.bool true))))
   (Tree.chk (XV.a (AV.c (CV.sl 2 0 0 2 4 4)) = XV.a (AV.c (CV.sl 2 0 0 2 4 4)))
   (Tree.chk (XV.a (AV.c (CV.sl 3 0 0 2 4 4)) = XV.a (AV.c (CV.sl 3 0 0 2 4 4)))
   (Tree.chk (EntRel 8 [0, 1, 2, 3] 4 { own := false, box := false, ty := 37, sz := 2, m := 1, n := fun x => List.length ws, cap := fun x => cap, f := fun x i => [iv (Prod.fst (List.getD ws i ((0 : Int), (0 : Int)))), iv (Prod.snd (List.getD ws i ((0 : Int), (0 : Int))))], ov := [] } { own := false, box := false, ty := 37, sz := 2, m := 1, n := fun x => List.length ws, cap := fun x => cap, f := fun x i => [iv (Prod.fst (List.getD ws i ((0 : Int), (0 : Int)))), iv (Prod.snd (List.getD ws i ((0 : Int), (0 : Int))))], ov := [] })
   (Tree.chk (EntRel 8 [0, 1, 2, 3] 4 { own := true, box := true, ty := 25, sz := 15, m := 1, n := fun x => 1, cap := fun x => 1, f := fun x_1 x_2 => [iv x.1, iv x.2, iv x.3, iv x.4, iv x.5, iv x.6, iv x.7, iv x.8, iv x.9, iv x.10, iv x.11, iv x.12, CV.sl 0 0 0 2 (List.length ws) cap, iv x.13, iv x.14], ov := [] } { own := true, box := true, ty := 25, sz := 15, m := 1, n := fun x => 1, cap := fun x => 1, f := fun x_1 x_2 => [iv x.1, iv x.2, iv x.3, iv x.4, iv x.5, iv x.6, iv x.7, iv x.8, iv x.9, iv x.10, iv x.11, iv x.12, CV.sl 0 0 0 2 (List.length ws) cap, iv x.13, iv x.14], ov := [] })
   (Tree.chk (EntRel 8 [0, 1, 2, 3] 4 { own := true, box := false, ty := 29, sz := 2, m := 1, n := fun x => 4, cap := fun x => 4, f := fun x i => [iv (tkF i), iv (tvF v i)], ov := [] } { own := true, box := false, ty := 29, sz := 2, m := 1, n := fun x => 4, cap := fun x => 4, f := fun x i => [iv (tkF i), iv (tvF v i)], ov := [] })
   (Tree.chk (EntRel 8 [0, 1, 2, 3] 4 { own := true, box := false, ty := 29, sz := 2, m := 1, n := fun x => 4, cap := fun x => 4, f := fun x i => [iv (fkF i), iv (fvF v i)], ov := [] } { own := true, box := false, ty := 29, sz := 2, m := 1, n := fun x => 4, cap := fun x => 4, f := fun x i => [iv (fkF i), iv (fvF v i)], ov := [] })
   (Tree.need True))))))))))))))))))))))))))))))))))))))))))))))))))))))))))))
   (Tree.done (XV.a (AV.c (CV.v (Value.bool true)))) [(Ent.ws false cap ws), Ent.dead, Ent.dead, Ent.dead])))))))))))))))))))))))))))))))))))))
theorem tback_eq (x : Thg) (t v : Int) (ws : List Wt) (cap : Nat) : xfuncZ tab lawG (backZ ws cap) (lpI fun li tm H => (backInv x t v ws cap li tm H)) Go.Proofs.Try.f3 [x.av 0 0 ws.length cap, .c (iv t), .c (iv v)] [Ent.ws false cap ws] [0] = tback x t v ws cap := by kernel_rfl
end Go.Proofs.Ytnenbngjdekegaa.X

/- The model: what a lock, and a RW, does. -/
set_option linter.unusedVariables false
set_option linter.unusedSimpArgs false
namespace Go.Proofs.Ytnenbngjdekegaa.X
open Go Go.RowKit Go.Proofs.YtnenbngjdekegaaW.PrintWords Go.Proofs.Ytnenbngjdekegaa.Base
theorem do_lock {x : Thg} {t k v : Int} {ws : List Wt} (h1 : x.kd = 1) (t0 : 0 ≤ t) (t8 : t < 8) (hk : (k == 17) = false) : doRF x t k v ws = lockrF x t k v ws := by
  unfold doRF
  have a1 : decide (t < 0) = false := by simp; omega
  have a2 : decide (t > 7) = false := by simp; omega
  simp only [a1, a2, h1, hk, cond_false, show decide ((1 : Int) < 1) = false from rfl, show decide ((1 : Int) > 5) = false from rfl, show ((1 : Int) == 1) = true from rfl, cond_true]
theorem do_rw {x : Thg} {t k v : Int} {ws : List Wt} (h1 : x.kd = 4) (t0 : 0 ≤ t) (t8 : t < 8) (hk : (k == 17) = false) : doRF x t k v ws = ((rwrS x t k v).1, ws, (rwrS x t k v).2) := by
  unfold doRF
  have a1 : decide (t < 0) = false := by simp; omega
  have a2 : decide (t > 7) = false := by simp; omega
  simp only [a1, a2, h1, hk, cond_false, show decide ((4 : Int) < 1) = false from rfl, show decide ((4 : Int) > 5) = false from rfl, show ((4 : Int) == 1) = false from rfl, show ((4 : Int) == 2) = false from rfl, show ((4 : Int) == 3) = false from rfl, show ((4 : Int) == 4) = true from rfl, cond_true]
end Go.Proofs.Ytnenbngjdekegaa.X

/- The law ModelBack: what is taken, and freed, is as it was. -/
set_option linter.unusedVariables false
set_option linter.unusedSimpArgs false
namespace Go.Proofs.Ytnenbngjdekegaa.X
open Go Go.RowKit Go.Proofs.YtnenbngjdekegaaW.PrintWords Go.Proofs.Ytnenbngjdekegaa.Base
/-- Of what the law speaks. -/
structure BackP (x : Thg) : Prop where
  li : lightP x
  r : ∀ r ∈ x.rs, 0 ≤ r
  n : 0 ≤ x.n ∧ x.n ≤ 1000
  h : 0 ≤ x.h ∧ x.h ≤ 1000
  s : x.kd = 5 → x.f = -1 → x.i = 0
  o : x.o = -1 ↔ x.h = 0
def Backs (x : Thg) (t : Int) (ws : List Wt) (k v k' v' : Int) : Prop := (doRF x t k v ws).2.2 = true → x.kd ≠ 3 → (doRF x t k v ws).2.1 = ws ∧ lightP (doRF x t k v ws).1 ∧ doRF (doRF x t k v ws).1 t k' v' ws = (x, ws, true)
theorem do_in {x : Thg} {t k v : Int} {ws : List Wt} (h : (doRF x t k v ws).2.2 = true) : (0 ≤ t ∧ t < 8) ∧ 1 ≤ x.kd ∧ x.kd ≤ 5 := by
  cases hb : (bif (bif (bif decide (t < 0) then true else decide (t > 7)) then true else decide (x.kd < 1)) then true else decide (x.kd > 5)) with
  | true => unfold doRF at h; rw [hb] at h; cases h
  | false =>
    simp at hb
    omega
theorem do_sema {x : Thg} {t k v : Int} {ws : List Wt} (h1 : x.kd = 2) (t0 : 0 ≤ t) (t8 : t < 8) (hk : (k == 17) = false) : doRF x t k v ws = ((semarS x k v).1, ws, (semarS x k v).2) := by
  unfold doRF
  have a1 : decide (t < 0) = false := by simp; omega
  have a2 : decide (t > 7) = false := by simp; omega
  simp only [a1, a2, h1, hk, cond_false, show decide ((2 : Int) < 1) = false from rfl, show decide ((2 : Int) > 5) = false from rfl, show ((2 : Int) == 1) = false from rfl, show ((2 : Int) == 2) = true from rfl, cond_true]
theorem do_swap {x : Thg} {t k v : Int} {ws : List Wt} (h1 : x.kd = 5) (t0 : 0 ≤ t) (t8 : t < 8) (hk : (k == 17) = false) : doRF x t k v ws = ((swaprS x t k v).1, ws, (swaprS x t k v).2) := by
  unfold doRF
  have a1 : decide (t < 0) = false := by simp; omega
  have a2 : decide (t > 7) = false := by simp; omega
  simp only [a1, a2, h1, hk, cond_false, show decide ((5 : Int) < 1) = false from rfl, show decide ((5 : Int) > 5) = false from rfl, show ((5 : Int) == 1) = false from rfl, show ((5 : Int) == 2) = false from rfl, show ((5 : Int) == 3) = false from rfl, show ((5 : Int) == 4) = false from rfl]
theorem back_swap {x : Thg} {t v : Int} {ws : List Wt} (h : BackP x) (h5 : x.kd = 5) : Backs x t ws 15 v 16 0 := by
  intro hd _
  obtain ⟨⟨t0, t8⟩, -, -⟩ := do_in hd
  rw [do_swap h5 t0 t8 rfl] at hd ⊢
  unfold swaprS at hd ⊢
  simp only [show ((15 : Int) == 15) = true from rfl, cond_true] at hd ⊢
  cases hc : (bif (bif x.f == -1 then decide (v ≥ 0) else false) then decide (v ≤ 1000) else false) with
  | false => rw [hc] at hd; cases hd
  | true =>
    simp only [cond_true]
    have hf : x.f = -1 := by
      cases hx : (x.f == -1) with
      | true => simpa using hx
      | false => rw [hx] at hc; cases hc
    refine ⟨trivial, ⟨h.li.1, h.li.2.1, h.li.2.2⟩, ?_⟩
    rw [do_swap (by exact h5) t0 t8 rfl]
    unfold swaprS
    simp only [show ((16 : Int) == 15) = false from rfl, show ((16 : Int) == 14) = false from rfl, show ((16 : Int) == 16) = true from rfl, show (t == t) = true by simp, show ((0 : Int) == 0) = true from rfl, cond_true, cond_false]
    have hi := h.s h5 hf
    cases x
    simp_all
theorem back_sema {x : Thg} {t v : Int} {ws : List Wt} (h : BackP x) (h2 : x.kd = 2) : Backs x t ws 1 v 3 v := by
  intro hd _
  obtain ⟨⟨t0, t8⟩, -, -⟩ := do_in hd
  have hn := h.n
  rw [do_sema h2 t0 t8 rfl] at hd ⊢
  unfold semarS at hd ⊢
  simp only [show ((1 : Int) == 1) = true from rfl, cond_true] at hd ⊢
  cases hc : (bif decide (v ≥ 1) then decide (v ≤ x.n) else false) with
  | false => rw [hc] at hd; cases hd
  | true =>
    have hv : 1 ≤ v ∧ v ≤ x.n := by simpa using hc
    simp only [cond_true]
    rw [wrapL (x := x.n - v) (by omega) (by omega)]
    refine ⟨trivial, ⟨⟨by show -1000000 ≤ x.n - v; omega, by show x.n - v ≤ 1000000; omega⟩, h.li.2.1, h.li.2.2⟩, ?_⟩
    rw [do_sema (by exact h2) t0 t8 rfl]
    unfold semarS
    have hw : IntKind.wrap .i64 (1000 - (x.n - v)) = 1000 - (x.n - v) := wrapL (by omega) (by omega)
    have hg : (bif decide (v ≥ 1) then decide (v ≤ IntKind.wrap .i64 (1000 - (x.n - v))) else false) = true := by rw [hw]; simp; omega
    simp only [show ((3 : Int) == 1) = false from rfl, show ((3 : Int) == 3) = true from rfl, hg, cond_true, cond_false]
    rw [wrapL (x := x.n - v + v) (by omega) (by omega)]
    have : x.n - v + v = x.n := by omega
    rw [this]
theorem free_back {x : Thg} {t : Int} (h : BackP x) (t0 : 0 ≤ t) (hx : x.o = -1 ∨ x.o = t) : freeS { x with o := t, h := IntKind.wrap .i64 (x.h + 1) } = x := by
  have hh := h.h
  have ho := h.o
  unfold freeS
  rw [wrapL (x := x.h + 1) (by omega) (by omega)]
  simp only
  rw [wrapL (x := x.h + 1 - 1) (by omega) (by omega)]
  have e : x.h + 1 - 1 = x.h := by omega
  rw [e]
  cases h0 : (x.h == 0) with
  | true =>
    have h0 : x.h = 0 := by simpa using h0
    have := ho.2 h0
    cases x
    simp_all
  | false =>
    have h0 : x.h ≠ 0 := by simpa using h0
    have : x.o = t := by
      rcases hx with hx | hx
      · exact absurd (ho.1 hx) h0
      · exact hx
    cases x
    simp_all
theorem back_lock {x : Thg} {t : Int} {ws : List Wt} (h : BackP x) (h1 : x.kd = 1) : Backs x t ws 1 1 3 0 := by
  intro hd _
  obtain ⟨⟨t0, t8⟩, -, -⟩ := do_in hd
  have hh := h.h
  rw [do_lock h1 t0 t8 rfl] at hd ⊢
  have key : ∀ y : Thg, y = { x with o := t, h := IntKind.wrap .i64 (x.h + 1) } → (x.o = -1 ∨ x.o = t) → lightP y ∧ doRF y t 3 0 ws = (x, ws, true) := fun y hy hx => by
    refine ⟨?_, ?_⟩
    · subst hy
      refine ⟨h.li.1, ?_, h.li.2.2⟩
      rw [wrapL (by omega) (by omega)]
      exact ⟨by show -1000000 ≤ x.h + 1; omega, by show x.h + 1 ≤ 1000000; omega⟩
    · rw [do_lock (by rw [hy]; exact h1) t0 t8 rfl]
      unfold lockrF
      have : (y.o == t) = true := by rw [hy]; simp
      simp only [show ((3 : Int) == 1) = false from rfl, show ((3 : Int) == 3) = true from rfl, this, show ((0 : Int) == 0) = true from rfl, cond_true, cond_false, hy, free_back h t0 hx, show (t == t) = true by simp]
  unfold lockrF at hd ⊢
  simp only [show ((1 : Int) == 1) = true from rfl, cond_true] at hd ⊢
  cases hc : (bif (bif (bif x.o == -1 then decide ((1 : Int) ≥ 1) else false) then decide ((1 : Int) ≤ 1000) else false) then decide (placeF ws t 0 < 0) else false) with
  | true =>
    have ho : x.o = -1 := by
      cases hx : (x.o == -1) with
      | true => simpa using hx
      | false => rw [hx] at hc; cases hc
    simp only [cond_true]
    obtain ⟨k1, k2⟩ := key { x with o := t, h := 1 } (by rw [h.o.1 ho]; rfl) (.inl ho)
    exact ⟨trivial, k1, k2⟩
  | false =>
    simp only [hc, cond_false] at hd ⊢
    cases hb : (bif (bif x.o == t then true else false) then decide (x.h < 1000) else false) with
    | false => rw [hb] at hd; cases hd
    | true =>
      have ho : x.o = t := by
        cases hx : (x.o == t) with
        | true => simpa using hx
        | false => rw [hx] at hb; cases hb
      simp only [cond_true]
      obtain ⟨k1, k2⟩ := key { x with h := IntKind.wrap .i64 (x.h + 1) } (by cases x; simp_all) (.inr ho)
      exact ⟨trivial, k1, k2⟩
theorem back_write {x : Thg} {t : Int} {ws : List Wt} (h : BackP x) (h4 : x.kd = 4) : Backs x t ws 1 1 3 0 := by
  intro hd _
  obtain ⟨⟨t0, t8⟩, -, -⟩ := do_in hd
  have hh := h.h
  rw [do_rw h4 t0 t8 rfl] at hd ⊢
  unfold rwrS at hd ⊢
  simp only [show ((1 : Int) == 1) = true from rfl, cond_true] at hd ⊢
  cases hc : (bif (bif x.o == -1 then allW [x.r0, x.r1, x.r2, x.r3, x.r4, x.r5, x.r6, x.r7] 8 == 0 else false) then true else (bif x.o == t then decide (x.h < 1000) else false)) with
  | false => rw [hc] at hd; cases hd
  | true =>
    have ho : x.o = -1 ∨ x.o = t := by
      cases hx : (x.o == -1) with
      | true => exact .inl (by simpa using hx)
      | false =>
        cases hy : (x.o == t) with
        | true => exact .inr (by simpa using hy)
        | false => rw [hx, hy] at hc; cases hc
    simp only [cond_true]
    refine ⟨trivial, ⟨h.li.1, ?_, h.li.2.2⟩, ?_⟩
    · rw [wrapL (by omega) (by omega)]
      exact ⟨by show -1000000 ≤ x.h + 1; omega, by show x.h + 1 ≤ 1000000; omega⟩
    · rw [do_rw (by exact h4) t0 t8 rfl]
      unfold rwrS
      simp only [show ((3 : Int) == 1) = false from rfl, show ((3 : Int) == 2) = false from rfl, show ((3 : Int) == 3) = true from rfl, show (t == t) = true by simp, show ((0 : Int) == 0) = true from rfl, cond_true, cond_false, free_back h t0 ho]
theorem allW_sum {x : Thg} (h : BackP x) : allW [x.r0, x.r1, x.r2, x.r3, x.r4, x.r5, x.r6, x.r7] 8 = x.r0 + x.r1 + x.r2 + x.r3 + x.r4 + x.r5 + x.r6 + x.r7 := by
  have b := h.li.2.2
  have c := h.r
  simp only [Thg.rs, List.forall_mem_cons] at b c
  obtain ⟨b0, b1, b2, b3, b4, b5, b6, b7, -⟩ := b
  obtain ⟨c0, c1, c2, c3, c4, c5, c6, c7, -⟩ := c
  have s1 : allW x.rs 1 = x.r0 := by show IntKind.wrap .i64 (0 + x.r0) = _; rw [wrapL (by omega) (by omega)]; omega
  have s2 : allW x.rs 2 = x.r0 + x.r1 := by show IntKind.wrap .i64 (allW x.rs 1 + x.r1) = _; rw [s1, wrapL (by omega) (by omega)]
  have s3 : allW x.rs 3 = x.r0 + x.r1 + x.r2 := by show IntKind.wrap .i64 (allW x.rs 2 + x.r2) = _; rw [s2, wrapL (by omega) (by omega)]
  have s4 : allW x.rs 4 = x.r0 + x.r1 + x.r2 + x.r3 := by show IntKind.wrap .i64 (allW x.rs 3 + x.r3) = _; rw [s3, wrapL (by omega) (by omega)]
  have s5 : allW x.rs 5 = x.r0 + x.r1 + x.r2 + x.r3 + x.r4 := by show IntKind.wrap .i64 (allW x.rs 4 + x.r4) = _; rw [s4, wrapL (by omega) (by omega)]
  have s6 : allW x.rs 6 = x.r0 + x.r1 + x.r2 + x.r3 + x.r4 + x.r5 := by show IntKind.wrap .i64 (allW x.rs 5 + x.r5) = _; rw [s5, wrapL (by omega) (by omega)]
  have s7 : allW x.rs 7 = x.r0 + x.r1 + x.r2 + x.r3 + x.r4 + x.r5 + x.r6 := by show IntKind.wrap .i64 (allW x.rs 6 + x.r6) = _; rw [s6, wrapL (by omega) (by omega)]
  show IntKind.wrap .i64 (allW x.rs 7 + x.r7) = _
  rw [s7, wrapL (by omega) (by omega)]
theorem back_read {x : Thg} {t : Int} {ws : List Wt} (h : BackP x) (h4 : x.kd = 4) : Backs x t ws 2 0 4 0 := by
  intro hd _
  obtain ⟨⟨t0, t8⟩, -, -⟩ := do_in hd
  rw [do_rw h4 t0 t8 rfl] at hd ⊢
  unfold rwrS at hd ⊢
  have hs := allW_sum h
  have b := h.li.2.2
  have c := h.r
  simp only [Thg.rs, List.forall_mem_cons] at b c
  obtain ⟨b0, b1, b2, b3, b4, b5, b6, b7, -⟩ := b
  obtain ⟨c0, c1, c2, c3, c4, c5, c6, c7, -⟩ := c
  simp only [show ((2 : Int) == 1) = false from rfl, show ((2 : Int) == 2) = true from rfl, show ((0 : Int) == 0) = true from rfl, cond_true, cond_false, hs] at hd ⊢
  cases hc : (bif (bif x.o == -1 then true else x.o == t) then decide (x.r0 + x.r1 + x.r2 + x.r3 + x.r4 + x.r5 + x.r6 + x.r7 < 1000) else false) with
  | false => rw [hc] at hd; cases hd
  | true =>
    have hlt : x.r0 + x.r1 + x.r2 + x.r3 + x.r4 + x.r5 + x.r6 + x.r7 < 1000 := by
      cases ha : (bif x.o == -1 then true else x.o == t) with
      | true => rw [ha] at hc; simpa using hc
      | false => rw [ha] at hc; cases hc
    simp only [cond_true]
    have w : ∀ r : Int, 0 ≤ r → r ≤ 1000000 → IntKind.wrap .i64 (r + 1) = r + 1 := fun r h1 h2 => wrapL (by omega) (by omega)
    have w2 : ∀ r : Int, 0 ≤ r → r ≤ 1000000 → IntKind.wrap .i64 r = r := fun r h1 h2 => wrapL (by omega) (by omega)
    have ht : t = 0 ∨ t = 1 ∨ t = 2 ∨ t = 3 ∨ t = 4 ∨ t = 5 ∨ t = 6 ∨ t = 7 := by omega
    refine ⟨trivial, ?_, ?_⟩
    · refine ⟨h.li.1, h.li.2.1, ?_⟩
      simp only [Thg.rs, List.forall_mem_cons]
      rcases ht with rfl | rfl | rfl | rfl | rfl | rfl | rfl | rfl <;> simp [w, *] <;> omega
    · rw [do_rw (by exact h4) t0 t8 rfl]
      unfold rwrS
      simp only [show ((4 : Int) == 1) = false from rfl, show ((4 : Int) == 2) = false from rfl, show ((4 : Int) == 3) = false from rfl, show ((4 : Int) == 4) = true from rfl, show ((0 : Int) == 0) = true from rfl, cond_true, cond_false]
      have p : ∀ r : Int, 0 ≤ r → decide (r + 1 > 0) = true := fun r h1 => decide_eq_true (by omega)
      have e1 : Int.toNat 1 = 1 := rfl
      have e2 : Int.toNat 2 = 2 := rfl
      have e3 : Int.toNat 3 = 3 := rfl
      have e4 : Int.toNat 4 = 4 := rfl
      have e5 : Int.toNat 5 = 5 := rfl
      have e6 : Int.toNat 6 = 6 := rfl
      have e7 : Int.toNat 7 = 7 := rfl
      rcases ht with rfl | rfl | rfl | rfl | rfl | rfl | rfl | rfl
      · simp [w _ c0 (by omega), w2 _ c0 (by omega), p _ c0]
      · simp [e1, w _ c1 (by omega), w2 _ c1 (by omega), p _ c1]
      · simp [e2, w _ c2 (by omega), w2 _ c2 (by omega), p _ c2]
      · simp [e3, w _ c3 (by omega), w2 _ c3 (by omega), p _ c3]
      · simp [e4, w _ c4 (by omega), w2 _ c4 (by omega), p _ c4]
      · simp [e5, w _ c5 (by omega), w2 _ c5 (by omega), p _ c5]
      · simp [e6, w _ c6 (by omega), w2 _ c6 (by omega), p _ c6]
      · simp [e7, w _ c7 (by omega), w2 _ c7 (by omega), p _ c7]
end Go.Proofs.Ytnenbngjdekegaa.X

/- The law ModelBack: proved. -/
set_option linter.unusedVariables false
set_option linter.unusedSimpArgs false
namespace Go.Proofs.Ytnenbngjdekegaa.X
open Go Go.RowKit Go.Proofs.YtnenbngjdekegaaW.PrintWords Go.Proofs.Ytnenbngjdekegaa.Base
theorem backs_all {x : Thg} {t v : Int} {ws : List Wt} (h : BackP x) (i : Nat) (hi : i < 4) (h0 : i = 0 → x.kd ≠ 2) (h1 : i = 1 → x.kd = 2) : Backs x t ws (tkF i) (tvF v i) (fkF i) (fvF v i) := by
  by_cases hb : (doRF x t (tkF i) (tvF v i) ws).2.2 = true
  · obtain ⟨⟨t0, t8⟩, k1, k5⟩ := do_in hb
    have hk : x.kd = 1 ∨ x.kd = 2 ∨ x.kd = 3 ∨ x.kd = 4 ∨ x.kd = 5 := by omega
    match i, hi with
    | 0, _ =>
      rcases hk with hk | hk | hk | hk | hk
      · exact back_lock h hk
      · exact absurd hk (h0 rfl)
      · exact fun _ h3 => absurd hk h3
      · exact back_write h hk
      · have hb : (doRF x t 1 1 ws).2.2 = true := hb
        rw [do_swap hk t0 t8 rfl] at hb
        simp [swaprS] at hb
    | 1, _ => exact back_sema h (h1 rfl)
    | 2, _ =>
      have hb : (doRF x t 2 0 ws).2.2 = true := hb
      rcases hk with hk | hk | hk | hk | hk
      · rw [do_lock hk t0 t8 rfl] at hb
        simp [lockrF] at hb
      · rw [do_sema hk t0 t8 rfl] at hb
        simp [semarS] at hb
      · exact fun _ h3 => absurd hk h3
      · exact back_read h hk
      · rw [do_swap hk t0 t8 rfl] at hb
        simp [swaprS] at hb
    | 3, _ =>
      have hb : (doRF x t 15 v ws).2.2 = true := hb
      rcases hk with hk | hk | hk | hk | hk
      · rw [do_lock hk t0 t8 rfl] at hb
        simp [lockrF] at hb
      · rw [do_sema hk t0 t8 rfl] at hb
        simp [semarS] at hb
      · exact fun _ h3 => absurd hk h3
      · rw [do_rw hk t0 t8 rfl] at hb
        simp [rwrS] at hb
      · exact back_swap h hk
  · exact fun h => absurd h hb
theorem posF_iff {x : Thg} {n : Nat} : ∀ {i : Nat}, posF x n i = true ↔ lightF x n 8 = true ∧ ∀ j, j < i → 0 ≤ x.rs.getD j 0
  | 0 => by simp [posF]
  | i + 1 => by
    have a : posF x n (i + 1) = (posF x n i && decide (x.rs.getD i 0 ≥ 0)) := by show (bif posF x n i then decide (x.rs.getD i 0 ≥ 0) else false) = _; cases posF x n i <;> rfl
    rw [a, Bool.and_eq_true, posF_iff, decide_eq_true_eq]
    constructor
    · rintro ⟨⟨h1, h2⟩, h3⟩
      refine ⟨h1, fun j hj => ?_⟩
      by_cases e : j = i
      · rw [e]; exact h3
      · exact h2 j (by omega)
    · rintro ⟨h1, h2⟩
      exact ⟨⟨h1, fun j hj => h2 j (by omega)⟩, h2 i (by omega)⟩
def backC (x : Thg) (t v : Int) (ws : List Wt) (cap : Nat) : CallSpec := rdSpec [] [x.av 0 0 ws.length cap, .c (iv t), .c (iv v)] [Ent.ws false cap ws] (bi true)
set_option maxHeartbeats 8000000 in
theorem back_local (x : Thg) (t v : Int) (ws : List Wt) (cap : Nat) : (backC x t v ws cap).Local Try.prog 3 := by
  refine local_ofZ Try.func3 rfl (tback_eq x t v ws cap) fun ν w => ?_
  have hz : 0 + ws.length ≤ ws.length := by omega
  (refine ok_callf' up_call (fits_of rfl rfl trivial fun c _ => ⟨⟨Nat.le_refl _, rfl⟩, ⟨rfl, rfl⟩, trivial⟩) up_local fun _ _ => ?_)
  refine ok_some' (ws, false, cap) (ok_callf' light_call (fits_of rfl rfl ⟨⟨_, rfl, EntRel.ws⟩, trivial⟩ fun c _ => ⟨⟨Nat.le_refl _, rfl⟩, ⟨rfl, rfl⟩, ⟨⟨EntRel.ws, rfl, (fun h => by cases h), .inr rfl⟩, trivial⟩⟩) (light_local _ _ _ _ _ _ _ _) fun _ _ => ?_)
  refine ok_both' ?_ (ok_every' fun s => ok_br' (fun h => ?_) fun h => ?_)
  · (repeat' first | exact rfl | exact EntRel.ws | exact EntRel.box' rfl rfl rfl rfl rfl | exact EntRel.rw rfl rfl (fun _ _ => rfl) (fun _ _ => rfl) | exact trivial | refine ok_chk' ?_ ?_)
  · have hi : s.1 < 8 := by simp only [decide_eq_true_eq] at h; omega
    repeat (first | refine ok_chk' (fun h => h) ?_ | refine ok_chk' (fun _ => ⟨by omega, by omega⟩) ?_ | refine ok_chk' (fun _ => (show (s.1 : Int).toNat < 8 by omega)) ?_)
    refine ok_some' ⟨s.1 + 1, hi⟩ (ok_chk' (Nat.sub_lt_sub_left hi (Nat.lt_succ_self _)) (ok_chk' ?_ (ok_chk' ?_ ?_)))
    · rfl
    · (rw [wrap64 (by omega) (by omega)]; try rfl)
    · (repeat' first | exact rfl | exact EntRel.ws | exact EntRel.box' rfl rfl rfl rfl rfl | exact EntRel.rw rfl rfl (fun _ _ => rfl) (fun _ _ => rfl) | exact trivial | refine ok_chk' ?_ ?_)
  have hs8 : s.1 = 8 := by have : s.1 ≤ 8 := s.2; simp only [decide_eq_false_iff_not] at h; omega
  repeat (first | refine ok_chk' (fun h => h) ?_ | refine ok_chk' (fun h => by rw [h]; rfl) ?_ | refine ok_chk' (fun h1 h2 => by rw [h1, h2]; rfl) ?_)
  refine ok_br' (fun h => ?_) fun h => ?_
  · exact ok_leaf (fun _ => 0) [] [0] trivial rfl ⟨⟨_, rfl, EntRel.ws⟩, trivial⟩ rfl
  have hB : posF x ws.length 8 = true ∧ ¬ x.n < 0 ∧ ¬ x.n > 1000 ∧ ¬ x.h < 0 ∧ ¬ x.h > 1000 ∧ ((x.kd == 5) = true → (x.f == -1) = true → x.i = 0) ∧ ((x.o == -1) = (x.h == 0)) := by
    rw [hs8] at h
    simp only [Bool.cond_true_left, Bool.cond_false_right, Bool.or_eq_false_iff, Bool.not_eq_false', decide_eq_false_iff_not] at h
    obtain ⟨⟨⟨⟨⟨⟨h1, h2⟩, h3⟩, h4⟩, h5⟩, h6⟩, h7⟩ := h
    refine ⟨h1, h2, h3, h4, h5, fun a b => ?_, by simpa using h7⟩
    rw [a, b] at h6
    simpa using h6
  have hi := posF_iff.1 hB.1
  have hL := lightF_iff.1 hi.1
  have hl : ws.length ≤ 1000000 := by have := hL.2; omega
  have hP : BackP x := by
    obtain ⟨-, b1, b2, b3, b4, b5, b6⟩ := hB
    refine ⟨hL.1, fun r hr => ?_, ⟨by omega, by omega⟩, ⟨by omega, by omega⟩, fun h1 h2 => b5 (by simp [h1]) (by simp [h2]), ?_⟩
    · obtain ⟨j, hj, rfl⟩ := List.getElem_of_mem hr
      have hj8 : j < 8 := hj
      have := hi.2 j hj8
      rwa [List.getD_eq_getElem?_getD, List.getElem?_eq_getElem hj, Option.getD_some] at this
    · rw [Bool.eq_iff_iff] at b6
      simpa using b6
  clear hi
  refine ok_both' ?_ (ok_every' fun s2 => ok_br' (fun h2 => ?_) fun h2 => ?_)
  · repeat' first | exact rfl | exact EntRel.ws | exact EntRel.box' rfl rfl rfl rfl rfl | exact trivial | refine ok_chk' ?_ ?_
    · exact EntRel.rw rfl rfl (fun i hi => match i, hi with | 0, _ => rfl | 1, _ => rfl | 2, _ => rfl | 3, _ => rfl) (fun _ _ => rfl)
    · exact EntRel.rw rfl rfl (fun i hi => match i, hi with | 0, _ => rfl | 1, _ => rfl | 2, _ => rfl | 3, _ => rfl) (fun _ _ => rfl)
  · have hi : s2.1 < 4 := by simp only [decide_eq_true_eq] at h2; omega
    repeat (first | refine ok_chk' (fun h => h) ?_ | refine ok_chk' (fun h => by rw [h]; rfl) ?_ | refine ok_chk' (fun h1 h2 => by rw [h1, h2]; rfl) ?_)
    have hwr : XV.a (.c (iv (IntKind.wrap .i64 ((s2.1 : Int) + 1)))) = XV.a (.c (iv ((s2.1 + 1 : Nat) : Int))) := by rw [wrap64 (by omega) (by omega)]; try rfl
    refine ok_br' (fun h3 => ?_) fun h3 => ?_
    · (refine ok_some' ⟨s2.1 + 1, hi⟩ (ok_chk' (Nat.sub_lt_sub_left hi (Nat.lt_succ_self _)) (ok_chk' hwr ?_)); (repeat' first | exact rfl | exact EntRel.ws | exact EntRel.box' rfl rfl rfl rfl rfl | exact EntRel.rw rfl rfl (fun _ _ => rfl) (fun _ _ => rfl) | exact trivial | refine ok_chk' ?_ ?_))
    have hsk : (s2.1 = 0 → x.kd ≠ 2) ∧ (s2.1 = 1 → x.kd = 2) := by
      revert h3
      generalize s2.1 = i at *
      by_cases e0 : i = 0
      · subst e0
        by_cases k2 : x.kd = 2 <;> simp [k2]
      · by_cases e1 : i = 1
        · subst e1
          by_cases k2 : x.kd = 2 <;> simp [k2]
        · intro _; exact ⟨fun e => absurd e e0, fun e => absurd e e1⟩
    have hBk := backs_all (t := t) (v := v) (ws := ws) hP s2.1 hi hsk.1 hsk.2
    have hw : wsub ws 0 ws.length = ws := wsub_all ws
    refine ok_some' () ?_
    iterate 6 (refine ok_both' (ok_every' fun c => ?_) ?_; focus ((repeat (first | refine ok_hyp' (fun _ => ?_) | refine ok_sub' (fun R Rp => ?_))); (repeat' first | exact trivial | exact rfl | exact fun _ => rfl | exact ⟨Nat.one_pos, Nat.one_pos⟩ | exact ⟨Nat.one_pos, hi⟩ | exact ⟨by omega, by omega, hi, Nat.one_pos⟩ | exact ⟨⟨.inr fun _ => rfl, fun _ _ => rfl⟩, trivial⟩ | exact ⟨⟨.inl rfl, fun _ _ => rfl⟩, trivial⟩ | refine ok_chk' ?_ ?_ | refine ok_some' (fun _ => 0) ?_)))
    refine ok_both' (ok_every' fun c => ?_) ?_
    · (repeat (first | refine ok_hyp' (fun _ => ?_) | refine ok_sub' (fun R Rp => ?_)))
      refine ok_callf' do_call (fits_of rfl rfl ⟨⟨_, rfl, EntRel.ws⟩, trivial⟩ fun c _ => ⟨⟨Nat.le_succ 1, rfl⟩, ⟨rfl, rfl⟩, ⟨⟨EntRel.ws, rfl, (fun h => by cases h), .inr rfl⟩, ⟨EntRel.ws, rfl, (fun h => by cases h), .inr rfl⟩, trivial⟩⟩) (do_local _ _ _ _ _ _ _ _ _ _ _ _ hL.1 hz hl) fun c hc => ok_some' c (ok_chk' hc ?_)
      (repeat' first | exact trivial | exact rfl | exact fun _ => rfl | exact ⟨Nat.one_pos, Nat.one_pos⟩ | exact ⟨Nat.one_pos, hi⟩ | exact ⟨by omega, by omega, hi, Nat.one_pos⟩ | exact ⟨⟨.inr fun _ => rfl, fun _ _ => rfl⟩, trivial⟩ | exact ⟨⟨.inl rfl, fun _ _ => rfl⟩, trivial⟩ | refine ok_chk' ?_ ?_ | refine ok_some' (fun _ => 0) ?_)
    iterate 5 (refine ok_both' (ok_every' fun c => ?_) ?_; focus ((repeat (first | refine ok_hyp' (fun _ => ?_) | refine ok_sub' (fun R Rp => ?_))); (repeat' first | exact trivial | exact rfl | exact fun _ => rfl | exact ⟨Nat.one_pos, Nat.one_pos⟩ | exact ⟨Nat.one_pos, hi⟩ | exact ⟨by omega, by omega, hi, Nat.one_pos⟩ | exact ⟨⟨.inr fun _ => rfl, fun _ _ => rfl⟩, trivial⟩ | exact ⟨⟨.inl rfl, fun _ _ => rfl⟩, trivial⟩ | refine ok_chk' ?_ ?_ | refine ok_some' (fun _ => 0) ?_)))
    refine ok_both' (ok_every' fun c => ?_) (ok_every' fun c => ok_hyp' fun hg => ?_)
    · (repeat (first | refine ok_hyp' (fun _ => ?_) | refine ok_sub' (fun R Rp => ?_))); (repeat' first | exact trivial | exact rfl | exact fun _ => rfl | exact ⟨Nat.one_pos, Nat.one_pos⟩ | exact ⟨Nat.one_pos, hi⟩ | exact ⟨by omega, by omega, hi, Nat.one_pos⟩ | exact ⟨⟨.inr fun _ => rfl, fun _ _ => rfl⟩, trivial⟩ | exact ⟨⟨.inl rfl, fun _ _ => rfl⟩, trivial⟩ | refine ok_chk' ?_ ?_ | refine ok_some' (fun _ => 0) ?_)
    obtain ⟨g1, g2⟩ := hg
    repeat (first | refine ok_chk' (fun h => h) ?_ | refine ok_chk' (fun h => by rw [h]; rfl) ?_ | refine ok_chk' (fun h1 h2 => by rw [h1, h2]; rfl) ?_)
    refine ok_br' (fun h4 => ?_) fun h4 => ?_
    · (refine ok_some' ⟨s2.1 + 1, hi⟩ (ok_chk' (Nat.sub_lt_sub_left hi (Nat.lt_succ_self _)) (ok_chk' hwr ?_)); (repeat' first | exact rfl | exact EntRel.ws | exact EntRel.box' rfl rfl rfl rfl rfl | exact EntRel.rw rfl rfl (fun _ _ => rfl) (fun _ _ => rfl) | exact trivial | refine ok_chk' ?_ ?_))
    have hY : (doRF x t (tkF s2.1) (tvF v s2.1) ws).2.2 = true ∧ x.kd ≠ 3 := by
      have h4 : (bif !(doRF x t (tkF s2.1) (tvF v s2.1) (wsub ws 0 ws.length)).2.2 then true else x.kd == 3) = false := h4
      rw [hw] at h4
      cases hb : (doRF x t (tkF s2.1) (tvF v s2.1) ws).2.2 with
      | false => rw [hb] at h4; cases h4
      | true => rw [hb] at h4; exact ⟨rfl, by simpa using h4⟩
    obtain ⟨q1, q2, q3⟩ := hBk hY.1 hY.2
    have r2 : wsub (doRowF x t (tkF s2.1) (tvF v s2.1) (wsub ws 0 ws.length)) (c 6 2) (doRF x t (tkF s2.1) (tvF v s2.1) (wsub ws 0 ws.length)).2.1.length = ws := by
      refine g2.trans ?_
      show (doRF x t (tkF s2.1) (tvF v s2.1) (wsub ws 0 ws.length)).2.1 = ws
      rw [hw]; exact q1
    have r1 : (doRF x t (tkF s2.1) (tvF v s2.1) (wsub ws 0 ws.length)).2.1.length ≤ 1000000 := by rw [hw, q1]; exact hl
    have r0 : lightP (doRF x t (tkF s2.1) (tvF v s2.1) (wsub ws 0 ws.length)).1 := by rw [hw]; exact q2
    have r3 : doRF (doRF x t (tkF s2.1) (tvF v s2.1) (wsub ws 0 ws.length)).1 t (fkF s2.1) (fvF v s2.1) (wsub (doRowF x t (tkF s2.1) (tvF v s2.1) (wsub ws 0 ws.length)) (c 6 2) (doRF x t (tkF s2.1) (tvF v s2.1) (wsub ws 0 ws.length)).2.1.length) = (x, ws, true) := by rw [r2, hw]; exact q3
    refine ok_some' (doRowF x t (tkF s2.1) (tvF v s2.1) (wsub ws 0 ws.length), c 6 1) ?_
    iterate 6 (refine ok_both' (ok_every' fun c => ?_) ?_; focus ((repeat (first | refine ok_hyp' (fun _ => ?_) | refine ok_sub' (fun R Rp => ?_))); (repeat' first | exact trivial | exact rfl | exact fun _ => rfl | exact ⟨Nat.one_pos, Nat.one_pos⟩ | exact ⟨Nat.one_pos, hi⟩ | exact ⟨by omega, by omega, hi, Nat.one_pos⟩ | exact ⟨⟨.inr fun _ => rfl, fun _ _ => rfl⟩, trivial⟩ | exact ⟨⟨.inl rfl, fun _ _ => rfl⟩, trivial⟩ | refine ok_chk' ?_ ?_ | refine ok_some' (fun _ => 0) ?_)))
    refine ok_both' (ok_every' fun c2 => ?_) ?_
    · (repeat (first | refine ok_hyp' (fun _ => ?_) | refine ok_sub' (fun R Rp => ?_)))
      refine ok_callf' do_call (fits_of rfl rfl ⟨⟨_, rfl, EntRel.ws⟩, trivial⟩ fun c _ => ⟨⟨Nat.le_succ 1, rfl⟩, ⟨rfl, rfl⟩, ⟨⟨EntRel.ws, rfl, (fun h => by cases h), .inr rfl⟩, ⟨EntRel.ws, rfl, (fun h => by cases h), .inr rfl⟩, trivial⟩⟩) (do_local _ _ _ _ _ _ _ _ _ _ _ _ r0 g1 r1) fun c hc => ok_some' c (ok_chk' hc ?_)
      (repeat' first | exact trivial | exact rfl | exact fun _ => rfl | exact ⟨Nat.one_pos, Nat.one_pos⟩ | exact ⟨Nat.one_pos, hi⟩ | exact ⟨by omega, by omega, hi, Nat.one_pos⟩ | exact ⟨⟨.inr fun _ => rfl, fun _ _ => rfl⟩, trivial⟩ | exact ⟨⟨.inl rfl, fun _ _ => rfl⟩, trivial⟩ | refine ok_chk' ?_ ?_ | refine ok_some' (fun _ => 0) ?_)
    iterate 5 (refine ok_both' (ok_every' fun c => ?_) ?_; focus ((repeat (first | refine ok_hyp' (fun _ => ?_) | refine ok_sub' (fun R Rp => ?_))); (repeat' first | exact trivial | exact rfl | exact fun _ => rfl | exact ⟨Nat.one_pos, Nat.one_pos⟩ | exact ⟨Nat.one_pos, hi⟩ | exact ⟨by omega, by omega, hi, Nat.one_pos⟩ | exact ⟨⟨.inr fun _ => rfl, fun _ _ => rfl⟩, trivial⟩ | exact ⟨⟨.inl rfl, fun _ _ => rfl⟩, trivial⟩ | refine ok_chk' ?_ ?_ | refine ok_some' (fun _ => 0) ?_)))
    refine ok_both' (ok_every' fun c => ?_) (ok_every' fun c3 => ok_hyp' fun hg3 => ?_)
    · (repeat (first | refine ok_hyp' (fun _ => ?_) | refine ok_sub' (fun R Rp => ?_))); (repeat' first | exact trivial | exact rfl | exact fun _ => rfl | exact ⟨Nat.one_pos, Nat.one_pos⟩ | exact ⟨Nat.one_pos, hi⟩ | exact ⟨by omega, by omega, hi, Nat.one_pos⟩ | exact ⟨⟨.inr fun _ => rfl, fun _ _ => rfl⟩, trivial⟩ | exact ⟨⟨.inl rfl, fun _ _ => rfl⟩, trivial⟩ | refine ok_chk' ?_ ?_ | refine ok_some' (fun _ => 0) ?_)
    obtain ⟨g3, g4⟩ := hg3
    have h5 : (!!(doRF (doRF x t (tkF s2.1) (tvF v s2.1) (wsub ws 0 ws.length)).1 t (fkF s2.1) (fvF v s2.1) (wsub (doRowF x t (tkF s2.1) (tvF v s2.1) (wsub ws 0 ws.length)) (c 6 2) (doRF x t (tkF s2.1) (tvF v s2.1) (wsub ws 0 ws.length)).2.1.length)).2.2) = true := by rw [r3]; try rfl
    refine ok_br' (fun h => ?_) fun h => Bool.noConfusion (h5.symm.trans h)
    repeat (first | refine ok_chk' h ?_ | refine ok_chk' (fun h => h) ?_ | refine ok_chk' (fun _ => h) ?_ | refine ok_chk' rfl ?_)
    have g4 : wsub (doRowF (doRF x t (tkF s2.1) (tvF v s2.1) (wsub ws 0 ws.length)).1 t (fkF s2.1) (fvF v s2.1) (wsub (doRowF x t (tkF s2.1) (tvF v s2.1) (wsub ws 0 ws.length)) (c 6 2) (doRF x t (tkF s2.1) (tvF v s2.1) (wsub ws 0 ws.length)).2.1.length)) (c3 6 2) (doRF (doRF x t (tkF s2.1) (tvF v s2.1) (wsub ws 0 ws.length)).1 t (fkF s2.1) (fvF v s2.1) (wsub (doRowF x t (tkF s2.1) (tvF v s2.1) (wsub ws 0 ws.length)) (c 6 2) (doRF x t (tkF s2.1) (tvF v s2.1) (wsub ws 0 ws.length)).2.1.length)).2.1.length = (doRF (doRF x t (tkF s2.1) (tvF v s2.1) (wsub ws 0 ws.length)).1 t (fkF s2.1) (fvF v s2.1) (wsub (doRowF x t (tkF s2.1) (tvF v s2.1) (wsub ws 0 ws.length)) (c 6 2) (doRF x t (tkF s2.1) (tvF v s2.1) (wsub ws 0 ws.length)).2.1.length)).2.1 := g4
    have g3 : c3 6 2 + (doRF (doRF x t (tkF s2.1) (tvF v s2.1) (wsub ws 0 ws.length)).1 t (fkF s2.1) (fvF v s2.1) (wsub (doRowF x t (tkF s2.1) (tvF v s2.1) (wsub ws 0 ws.length)) (c 6 2) (doRF x t (tkF s2.1) (tvF v s2.1) (wsub ws 0 ws.length)).2.1.length)).2.1.length ≤ (doRowF (doRF x t (tkF s2.1) (tvF v s2.1) (wsub ws 0 ws.length)).1 t (fkF s2.1) (fvF v s2.1) (wsub (doRowF x t (tkF s2.1) (tvF v s2.1) (wsub ws 0 ws.length)) (c 6 2) (doRF x t (tkF s2.1) (tvF v s2.1) (wsub ws 0 ws.length)).2.1.length)).length := g3
    have r5 : (doRF (doRF x t (tkF s2.1) (tvF v s2.1) (wsub ws 0 ws.length)).1 t (fkF s2.1) (fvF v s2.1) (wsub (doRowF x t (tkF s2.1) (tvF v s2.1) (wsub ws 0 ws.length)) (c 6 2) (doRF x t (tkF s2.1) (tvF v s2.1) (wsub ws 0 ws.length)).2.1.length)).2.1.length ≤ 1000000 := by rw [r3]; exact hl
    refine ok_some' ((doRowF (doRF x t (tkF s2.1) (tvF v s2.1) (wsub ws 0 ws.length)).1 t (fkF s2.1) (fvF v s2.1) (wsub (doRowF x t (tkF s2.1) (tvF v s2.1) (wsub ws 0 ws.length)) (c 6 2) (doRF x t (tkF s2.1) (tvF v s2.1) (wsub ws 0 ws.length)).2.1.length), true, c3 6 1), (ws, false, cap)) (ok_callf' eq2_call (fits_of rfl rfl ⟨⟨_, rfl, EntRel.ws⟩, ⟨_, rfl, EntRel.ws⟩, trivial⟩ fun c _ => ⟨⟨Nat.le_refl _, rfl⟩, ⟨rfl, rfl⟩, ⟨⟨EntRel.ws, rfl, (fun h => by cases h), .inr rfl⟩, ⟨EntRel.ws, rfl, (fun h => by cases h), .inr rfl⟩, trivial⟩⟩) (eq2_local _ _ _ _ _ _ _ _ _ _ _ _ _ _ _ g3 hz r5) fun _ _ => ?_)
    have hs3 : sameF (doRF (doRF x t (tkF s2.1) (tvF v s2.1) (wsub ws 0 ws.length)).1 t (fkF s2.1) (fvF v s2.1) (wsub (doRowF x t (tkF s2.1) (tvF v s2.1) (wsub ws 0 ws.length)) (c 6 2) (doRF x t (tkF s2.1) (tvF v s2.1) (wsub ws 0 ws.length)).2.1.length)).1 x (wsub (doRowF (doRF x t (tkF s2.1) (tvF v s2.1) (wsub ws 0 ws.length)).1 t (fkF s2.1) (fvF v s2.1) (wsub (doRowF x t (tkF s2.1) (tvF v s2.1) (wsub ws 0 ws.length)) (c 6 2) (doRF x t (tkF s2.1) (tvF v s2.1) (wsub ws 0 ws.length)).2.1.length)) (c3 6 2) (doRF (doRF x t (tkF s2.1) (tvF v s2.1) (wsub ws 0 ws.length)).1 t (fkF s2.1) (fvF v s2.1) (wsub (doRowF x t (tkF s2.1) (tvF v s2.1) (wsub ws 0 ws.length)) (c 6 2) (doRF x t (tkF s2.1) (tvF v s2.1) (wsub ws 0 ws.length)).2.1.length)).2.1.length) (wsub ws 0 ws.length) = true := by
      refine sameF_iff.2 ⟨by rw [r3], ?_⟩
      rw [g4, r3, hw]
    repeat (first | refine ok_chk' h ?_ | refine ok_chk' (fun h => h) ?_ | refine ok_chk' (fun _ => h) ?_ | refine ok_chk' rfl ?_)
    refine ok_br' (fun h6 => ?_) fun h6 => ?_
    · exfalso
      have h6 : (bif !(doRF (doRF x t (tkF s2.1) (tvF v s2.1) (wsub ws 0 ws.length)).1 t (fkF s2.1) (fvF v s2.1) (wsub (doRowF x t (tkF s2.1) (tvF v s2.1) (wsub ws 0 ws.length)) (c 6 2) (doRF x t (tkF s2.1) (tvF v s2.1) (wsub ws 0 ws.length)).2.1.length)).2.2 then true else !sameF (doRF (doRF x t (tkF s2.1) (tvF v s2.1) (wsub ws 0 ws.length)).1 t (fkF s2.1) (fvF v s2.1) (wsub (doRowF x t (tkF s2.1) (tvF v s2.1) (wsub ws 0 ws.length)) (c 6 2) (doRF x t (tkF s2.1) (tvF v s2.1) (wsub ws 0 ws.length)).2.1.length)).1 x (wsub (doRowF (doRF x t (tkF s2.1) (tvF v s2.1) (wsub ws 0 ws.length)).1 t (fkF s2.1) (fvF v s2.1) (wsub (doRowF x t (tkF s2.1) (tvF v s2.1) (wsub ws 0 ws.length)) (c 6 2) (doRF x t (tkF s2.1) (tvF v s2.1) (wsub ws 0 ws.length)).2.1.length)) (c3 6 2) (doRF (doRF x t (tkF s2.1) (tvF v s2.1) (wsub ws 0 ws.length)).1 t (fkF s2.1) (fvF v s2.1) (wsub (doRowF x t (tkF s2.1) (tvF v s2.1) (wsub ws 0 ws.length)) (c 6 2) (doRF x t (tkF s2.1) (tvF v s2.1) (wsub ws 0 ws.length)).2.1.length)).2.1.length) (wsub ws 0 ws.length)) = true := h6
      rw [hs3, r3] at h6
      cases h6
    · (refine ok_some' ⟨s2.1 + 1, hi⟩ (ok_chk' (Nat.sub_lt_sub_left hi (Nat.lt_succ_self _)) (ok_chk' hwr ?_)); (repeat' first | exact rfl | exact EntRel.ws | exact EntRel.box' rfl rfl rfl rfl rfl | exact EntRel.rw rfl rfl (fun _ _ => rfl) (fun _ _ => rfl) | exact trivial | refine ok_chk' ?_ ?_))
  · exact ok_leaf (fun _ => 0) [] [0] trivial rfl ⟨⟨_, rfl, EntRel.ws⟩, trivial⟩ rfl
end Go.Proofs.Ytnenbngjdekegaa.X

/- The law ModelBack. -/
set_option linter.unusedVariables false
set_option linter.unusedSimpArgs false
namespace Go.Proofs.Ytnenbngjdekegaa.X
open Go Go.RowKit Go.Proofs.YtnenbngjdekegaaW.PrintWords Go.Proofs.Ytnenbngjdekegaa.Base Go.Proofs.Ytnenbngjdekegaa.Open
theorem back_walk (cs0 : Array Value) (x0 : Int × Int × Int × Int × List Int × List Wt × Int × Int) (a1 : Int) (a2 : Int) (W : World) (hK0 : kdThing.K W x0 cs0.toList) (hw0 : True) (w1 : wfI a1) (w2 : wfI a2) :
    Calls Try.prog 3 #[.agg cs0, .int .i64 a1, .int .i64 a2] W fun e w' => e = .returned (.bool true) ∧ Below W.heap.size W w' := by
  obtain ⟨A, cap, he, hH⟩ := thing_open hK0
  have := back_local (Thg.ofK x0) a1 a2 x0.2.2.2.2.2.1 cap _ W hH
  rw [he]
  refine this.mono ?_
  rintro e w' ⟨ν', c, -, rfl, h⟩
  exact ⟨rfl, below_of h fun k e hk => by cases k with | zero => cases hk; rfl | succ k => cases k <;> cases hk⟩
end Go.Proofs.Ytnenbngjdekegaa.X

