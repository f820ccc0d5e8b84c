/- What the law ModelCan's functions come to; no conditions. -/
import Derived.Test.YtnenbngjdekegaaC3
/- The law ModelCan: its tree. -/
set_option linter.unusedVariables false
set_option linter.unusedSimpArgs false
namespace Go.Proofs.Ytnenbngjdekegaa.X
open Go Go.RowKit Go.Proofs.YtnenbngjdekegaaW.PrintWords Go.Proofs.Ytnenbngjdekegaa.Base
def tlcan (x : Thg) (t ck co cq cw : Int) (cb : Bool) (ws : List Wt) (cap : Nat) : Tree :=
  Tree.callf 9 [] [(Ent.ws false cap ws), (Ent.mkBox 25 [iv x.1, iv x.2, iv x.3, iv x.4, iv x.5, iv x.6, iv x.7, iv x.8, iv x.9, iv x.10, iv x.11, iv x.12, CV.sl 0 0 0 2 (List.length ws) cap, iv x.13, iv x.14]), (Ent.mkBox 42 [iv ck, iv co, iv cq, iv cw, CV.v (Value.bool cb)])] upC fun c => Tree.some_ (List (Int × Int) × Bool × Nat) fun s => Tree.callf 10 [AV.agg [iv x.1, iv x.2, iv x.3, iv x.4, iv x.5, iv x.6, iv x.7, iv x.8, iv x.9, iv x.10, iv x.11, iv x.12, CV.sl 0 0 0 2 (List.length ws) cap, iv x.13, iv x.14]] [(Ent.ws false cap ws), (Ent.mkBox 25 [iv x.1, iv x.2, iv x.3, iv x.4, iv x.5, iv x.6, iv x.7, iv x.8, iv x.9, iv x.10, iv x.11, iv x.12, CV.sl 0 0 0 2 (List.length ws) cap, iv x.13, iv x.14]), (Ent.mkBox 42 [iv ck, iv co, iv cq, iv cw, CV.v (Value.bool cb)])] (lightC x (Prod.fst s) (Prod.fst (Prod.snd s)) 0 (List.length ws) cap (Prod.snd (Prod.snd s)) [0]) fun c => Tree.br (!!lightF x (List.length ws) 8)
   (Tree.chk ((!!lightF x (List.length ws) 8) = true)
   (Tree.chk ((!!lightF x (List.length ws) 8) = true)
   (Tree.chk ((!!lightF x (List.length ws) 8) = true)
   (Tree.some_ (List (Int × Int) × Bool × Nat) fun s_1 => Tree.callf 17 [AV.agg [iv x.1, iv x.2, iv x.3, iv x.4, iv x.5, iv x.6, iv x.7, iv x.8, iv x.9, iv x.10, iv x.11, iv x.12, CV.sl 0 0 0 2 (List.length ws) cap, iv x.13, iv x.14], AV.c (iv t), AV.agg [iv ck, iv co, iv cq, iv cw, CV.v (Value.bool cb)]] [(Ent.ws (Prod.fst (Prod.snd s)) (Prod.snd (Prod.snd s)) (Prod.fst s)), (Ent.mkBox 25 [iv x.1, iv x.2, iv x.3, iv x.4, iv x.5, iv x.6, iv x.7, iv x.8, iv x.9, iv x.10, iv x.11, iv x.12, CV.sl 0 0 0 2 (List.length ws) cap, iv x.13, iv x.14]), (Ent.mkBox 42 [iv ck, iv co, iv cq, iv cw, CV.v (Value.bool cb)])] (canC x t ck co cq cw cb (Prod.fst s_1) (Prod.fst (Prod.snd s_1)) 0 (List.length ws) cap (Prod.snd (Prod.snd s_1)) [0]) fun c => Tree.chk ((!lightF x (List.length ws) 8) = false → (!!lightF x (List.length ws) 8) = true)
   (Tree.br (bif !lightF x (List.length ws) 8 then true else !canF x t ck cq (List.take (List.length ws) (List.drop 0 (Prod.fst s_1))))
   (Tree.done (XV.a (AV.c (CV.v (Value.bool true)))) [(Ent.ws (Prod.fst (Prod.snd s_1)) (Prod.snd (Prod.snd s_1)) (Prod.fst s_1)), Ent.dead, Ent.dead])
   (Tree.br (ck == (4 : Int))
   (Tree.some_ (List (Int × Int) × Bool × Nat) fun s => Tree.callf 11 [AV.agg [iv x.1, iv x.2, iv x.3, iv x.4, iv x.5, iv x.6, iv x.7, iv x.8, iv x.9, iv x.10, iv x.11, iv x.12, CV.sl 0 0 0 2 (List.length ws) cap, iv x.13, iv x.14], AV.c (iv t), AV.agg [iv (1 : Int), iv cq]] [(Ent.ws (Prod.fst (Prod.snd s_1)) (Prod.snd (Prod.snd s_1)) (Prod.fst s_1)), (Ent.mkBox 25 [iv x.1, iv x.2, iv x.3, iv x.4, iv x.5, iv x.6, iv x.7, iv x.8, iv x.9, iv x.10, iv x.11, iv x.12, CV.sl 0 0 0 2 (List.length ws) cap, iv x.13, iv x.14]), (Ent.mkBox 42 [iv ck, iv co, iv cq, iv cw, CV.v (Value.bool cb)]), (Ent.mkBox 29 [iv (1 : Int), iv cq])] (doC x t (1 : Int) cq (Prod.fst s) (Prod.fst (Prod.snd s)) 0 (List.length ws) cap (Prod.snd (Prod.snd s)) 4 [0]) fun c => Tree.chk (true = true → true = true)
   (Tree.done (XV.a (AV.c (CV.v (Value.bool (bif true then Prod.snd (Prod.snd (doRF x t (1 : Int) cq (List.take (List.length ws) (List.drop 0 (Prod.fst s))))) else false))))) [(Ent.ws (Prod.fst (Prod.snd s)) (Prod.snd (Prod.snd s)) (Prod.fst s)), Ent.dead, Ent.dead, Ent.dead, Ent.dead, Ent.dead]))
   (Tree.br (ck == (8 : Int))
   (Tree.some_ (List (Int × Int) × Bool × Nat) fun s => Tree.callf 11 [AV.agg [iv x.1, iv x.2, iv x.3, iv x.4, iv x.5, iv x.6, iv x.7, iv x.8, iv x.9, iv x.10, iv x.11, iv x.12, CV.sl 0 0 0 2 (List.length ws) cap, iv x.13, iv x.14], AV.c (iv t), AV.agg [iv (1 : Int), iv (0 : Int)]] [(Ent.ws (Prod.fst (Prod.snd s_1)) (Prod.snd (Prod.snd s_1)) (Prod.fst s_1)), (Ent.mkBox 25 [iv x.1, iv x.2, iv x.3, iv x.4, iv x.5, iv x.6, iv x.7, iv x.8, iv x.9, iv x.10, iv x.11, iv x.12, CV.sl 0 0 0 2 (List.length ws) cap, iv x.13, iv x.14]), (Ent.mkBox 42 [iv ck, iv co, iv cq, iv cw, CV.v (Value.bool cb)]), (Ent.mkBox 29 [iv (1 : Int), iv (0 : Int)])] (doC x t (1 : Int) (0 : Int) (Prod.fst s) (Prod.fst (Prod.snd s)) 0 (List.length ws) cap (Prod.snd (Prod.snd s)) 4 [0]) fun c => Tree.chk (true = true → true = true)
   (Tree.done (XV.a (AV.c (CV.v (Value.bool (bif true then Prod.snd (Prod.snd (doRF x t (1 : Int) (0 : Int) (List.take (List.length ws) (List.drop 0 (Prod.fst s))))) else false))))) [(Ent.ws (Prod.fst (Prod.snd s)) (Prod.snd (Prod.snd s)) (Prod.fst s)), Ent.dead, Ent.dead, Ent.dead, Ent.dead, Ent.dead]))
   (Tree.br (ck == (10 : Int))
   (Tree.some_ (List (Int × Int) × Bool × Nat) fun s => Tree.callf 11 [AV.agg [iv x.1, iv x.2, iv x.3, iv x.4, iv x.5, iv x.6, iv x.7, iv x.8, iv x.9, iv x.10, iv x.11, iv x.12, CV.sl 0 0 0 2 (List.length ws) cap, iv x.13, iv x.14], AV.c (iv t), AV.agg [iv (2 : Int), iv (0 : Int)]] [(Ent.ws (Prod.fst (Prod.snd s_1)) (Prod.snd (Prod.snd s_1)) (Prod.fst s_1)), (Ent.mkBox 25 [iv x.1, iv x.2, iv x.3, iv x.4, iv x.5, iv x.6, iv x.7, iv x.8, iv x.9, iv x.10, iv x.11, iv x.12, CV.sl 0 0 0 2 (List.length ws) cap, iv x.13, iv x.14]), (Ent.mkBox 42 [iv ck, iv co, iv cq, iv cw, CV.v (Value.bool cb)]), (Ent.mkBox 29 [iv (2 : Int), iv (0 : Int)])] (doC x t (2 : Int) (0 : Int) (Prod.fst s) (Prod.fst (Prod.snd s)) 0 (List.length ws) cap (Prod.snd (Prod.snd s)) 4 [0]) fun c => Tree.chk (true = true → true = true)
   (Tree.done (XV.a (AV.c (CV.v (Value.bool (bif true then Prod.snd (Prod.snd (doRF x t (2 : Int) (0 : Int) (List.take (List.length ws) (List.drop 0 (Prod.fst s))))) else false))))) [(Ent.ws (Prod.fst (Prod.snd s)) (Prod.snd (Prod.snd s)) (Prod.fst s)), Ent.dead, Ent.dead, Ent.dead, Ent.dead, Ent.dead]))
   (Tree.br (ck == (19 : Int))
   (Tree.some_ (List (Int × Int) × Bool × Nat) fun s => Tree.callf 11 [AV.agg [iv x.1, iv x.2, iv x.3, iv x.4, iv x.5, iv x.6, iv x.7, iv x.8, iv x.9, iv x.10, iv x.11, iv x.12, CV.sl 0 0 0 2 (List.length ws) cap, iv x.13, iv x.14], AV.c (iv t), AV.agg [iv (14 : Int), iv x.13]] [(Ent.ws (Prod.fst (Prod.snd s_1)) (Prod.snd (Prod.snd s_1)) (Prod.fst s_1)), (Ent.mkBox 25 [iv x.1, iv x.2, iv x.3, iv x.4, iv x.5, iv x.6, iv x.7, iv x.8, iv x.9, iv x.10, iv x.11, iv x.12, CV.sl 0 0 0 2 (List.length ws) cap, iv x.13, iv x.14]), (Ent.mkBox 42 [iv ck, iv co, iv cq, iv cw, CV.v (Value.bool cb)]), (Ent.mkBox 29 [iv (14 : Int), iv x.13])] (doC x t (14 : Int) x.13 (Prod.fst s) (Prod.fst (Prod.snd s)) 0 (List.length ws) cap (Prod.snd (Prod.snd s)) 4 [0]) fun c => Tree.chk (true = true → true = true)
   (Tree.done (XV.a (AV.c (CV.v (Value.bool (bif true then Prod.snd (Prod.snd (doRF x t (14 : Int) x.13 (List.take (List.length ws) (List.drop 0 (Prod.fst s))))) else false))))) [(Ent.ws (Prod.fst (Prod.snd s)) (Prod.snd (Prod.snd s)) (Prod.fst s)), Ent.dead, Ent.dead, Ent.dead, Ent.dead, Ent.dead]))
   (Tree.some_ (List (Int × Int) × Bool × Nat) fun s => Tree.callf 11 [AV.agg [iv x.1, iv x.2, iv x.3, iv x.4, iv x.5, iv x.6, iv x.7, iv x.8, iv x.9, iv x.10, iv x.11, iv x.12, CV.sl 0 0 0 2 (List.length ws) cap, iv x.13, iv x.14], AV.c (iv t), AV.agg [iv (1 : Int), iv (1 : Int)]] [(Ent.ws (Prod.fst (Prod.snd s_1)) (Prod.snd (Prod.snd s_1)) (Prod.fst s_1)), (Ent.mkBox 25 [iv x.1, iv x.2, iv x.3, iv x.4, iv x.5, iv x.6, iv x.7, iv x.8, iv x.9, iv x.10, iv x.11, iv x.12, CV.sl 0 0 0 2 (List.length ws) cap, iv x.13, iv x.14]), (Ent.mkBox 42 [iv ck, iv co, iv cq, iv cw, CV.v (Value.bool cb)]), (Ent.mkBox 29 [iv (1 : Int), iv (1 : Int)])] (doC x t (1 : Int) (1 : Int) (Prod.fst s) (Prod.fst (Prod.snd s)) 0 (List.length ws) cap (Prod.snd (Prod.snd s)) 4 [0]) fun c => Tree.chk (true = true → true = true)
   (Tree.done (XV.a (AV.c (CV.v (Value.bool (bif true then Prod.snd (Prod.snd (doRF x t (1 : Int) (1 : Int) (List.take (List.length ws) (List.drop 0 (Prod.fst s))))) else false))))) [(Ent.ws (Prod.fst (Prod.snd s)) (Prod.snd (Prod.snd s)) (Prod.fst s)), Ent.dead, Ent.dead, Ent.dead, Ent.dead, Ent.dead])))))))))))
   (Tree.chk ((!!lightF x (List.length ws) 8) = true → False)
   (Tree.chk ((!lightF x (List.length ws) 8) = true)
   (Tree.br true
   (Tree.done (XV.a (AV.c (CV.v (Value.bool true)))) [(Ent.ws (Prod.fst (Prod.snd s)) (Prod.snd (Prod.snd s)) (Prod.fst s)), Ent.dead, Ent.dead])
   (Tree.br (ck == (4 : Int))
   (Tree.some_ (List (Int × Int) × Bool × Nat) fun s_1 => Tree.callf 11 [AV.agg [iv x.1, iv x.2, iv x.3, iv x.4, iv x.5, iv x.6, iv x.7, iv x.8, iv x.9, iv x.10, iv x.11, iv x.12, CV.sl 0 0 0 2 (List.length ws) cap, iv x.13, iv x.14], AV.c (iv t), AV.agg [iv (1 : Int), iv cq]] [(Ent.ws (Prod.fst (Prod.snd s)) (Prod.snd (Prod.snd s)) (Prod.fst s)), (Ent.mkBox 25 [iv x.1, iv x.2, iv x.3, iv x.4, iv x.5, iv x.6, iv x.7, iv x.8, iv x.9, iv x.10, iv x.11, iv x.12, CV.sl 0 0 0 2 (List.length ws) cap, iv x.13, iv x.14]), (Ent.mkBox 42 [iv ck, iv co, iv cq, iv cw, CV.v (Value.bool cb)]), (Ent.mkBox 29 [iv (1 : Int), iv cq])] (doC x t (1 : Int) cq (Prod.fst s_1) (Prod.fst (Prod.snd s_1)) 0 (List.length ws) cap (Prod.snd (Prod.snd s_1)) 4 [0]) fun c => Tree.chk (true = true → true = true)
   (Tree.done (XV.a (AV.c (CV.v (Value.bool (bif true then Prod.snd (Prod.snd (doRF x t (1 : Int) cq (List.take (List.length ws) (List.drop 0 (Prod.fst s_1))))) else false))))) [(Ent.ws (Prod.fst (Prod.snd s_1)) (Prod.snd (Prod.snd s_1)) (Prod.fst s_1)), Ent.dead, Ent.dead, Ent.dead, Ent.dead, Ent.dead]))
   (Tree.br (ck == (8 : Int))
   (Tree.some_ (List (Int × Int) × Bool × Nat) fun s_1 => Tree.callf 11 [AV.agg [iv x.1, iv x.2, iv x.3, iv x.4, iv x.5, iv x.6, iv x.7, iv x.8, iv x.9, iv x.10, iv x.11, iv x.12, CV.sl 0 0 0 2 (List.length ws) cap, iv x.13, iv x.14], AV.c (iv t), AV.agg [iv (1 : Int), iv (0 : Int)]] [(Ent.ws (Prod.fst (Prod.snd s)) (Prod.snd (Prod.snd s)) (Prod.fst s)), (Ent.mkBox 25 [iv x.1, iv x.2, iv x.3, iv x.4, iv x.5, iv x.6, iv x.7, iv x.8, iv x.9, iv x.10, iv x.11, iv x.12, CV.sl 0 0 0 2 (List.length ws) cap, iv x.13, iv x.14]), (Ent.mkBox 42 [iv ck, iv co, iv cq, iv cw, CV.v (Value.bool cb)]), (Ent.mkBox 29 [iv (1 : Int), iv (0 : Int)])] (doC x t (1 : Int) (0 : Int) (Prod.fst s_1) (Prod.fst (Prod.snd s_1)) 0 (List.length ws) cap (Prod.snd (Prod.snd s_1)) 4 [0]) fun c => Tree.chk (true = true → true = true)
   (Tree.done (XV.a (AV.c (CV.v (Value.bool (bif true then Prod.snd (Prod.snd (doRF x t (1 : Int) (0 : Int) (List.take (List.length ws) (List.drop 0 (Prod.fst s_1))))) else false))))) [(Ent.ws (Prod.fst (Prod.snd s_1)) (Prod.snd (Prod.snd s_1)) (Prod.fst s_1)), Ent.dead, Ent.dead, Ent.dead, Ent.dead, Ent.dead]))
   (Tree.br (ck == (10 : Int))
   (Tree.some_ (List (Int × Int) × Bool × Nat) fun s_1 => Tree.callf 11 [AV.agg [iv x.1, iv x.2, iv x.3, iv x.4, iv x.5, iv x.6, iv x.7, iv x.8, iv x.9, iv x.10, iv x.11, iv x.12, CV.sl 0 0 0 2 (List.length ws) cap, iv x.13, iv x.14], AV.c (iv t), AV.agg [iv (2 : Int), iv (0 : Int)]] [(Ent.ws (Prod.fst (Prod.snd s)) (Prod.snd (Prod.snd s)) (Prod.fst s)), (Ent.mkBox 25 [iv x.1, iv x.2, iv x.3, iv x.4, iv x.5, iv x.6, iv x.7, iv x.8, iv x.9, iv x.10, iv x.11, iv x.12, CV.sl 0 0 0 2 (List.length ws) cap, iv x.13, iv x.14]), (Ent.mkBox 42 [iv ck, iv co, iv cq, iv cw, CV.v (Value.bool cb)]), (Ent.mkBox 29 [iv (2 : Int), iv (0 : Int)])] (doC x t (2 : Int) (0 : Int) (Prod.fst s_1) (Prod.fst (Prod.snd s_1)) 0 (List.length ws) cap (Prod.snd (Prod.snd s_1)) 4 [0]) fun c => Tree.chk (true = true → true = true)
   (Tree.done (XV.a (AV.c (CV.v (Value.bool (bif true then Prod.snd (Prod.snd (doRF x t (2 : Int) (0 : Int) (List.take (List.length ws) (List.drop 0 (Prod.fst s_1))))) else false))))) [(Ent.ws (Prod.fst (Prod.snd s_1)) (Prod.snd (Prod.snd s_1)) (Prod.fst s_1)), Ent.dead, Ent.dead, Ent.dead, Ent.dead, Ent.dead]))
   (Tree.br (ck == (19 : Int))
   (Tree.some_ (List (Int × Int) × Bool × Nat) fun s_1 => Tree.callf 11 [AV.agg [iv x.1, iv x.2, iv x.3, iv x.4, iv x.5, iv x.6, iv x.7, iv x.8, iv x.9, iv x.10, iv x.11, iv x.12, CV.sl 0 0 0 2 (List.length ws) cap, iv x.13, iv x.14], AV.c (iv t), AV.agg [iv (14 : Int), iv x.13]] [(Ent.ws (Prod.fst (Prod.snd s)) (Prod.snd (Prod.snd s)) (Prod.fst s)), (Ent.mkBox 25 [iv x.1, iv x.2, iv x.3, iv x.4, iv x.5, iv x.6, iv x.7, iv x.8, iv x.9, iv x.10, iv x.11, iv x.12, CV.sl 0 0 0 2 (List.length ws) cap, iv x.13, iv x.14]), (Ent.mkBox 42 [iv ck, iv co, iv cq, iv cw, CV.v (Value.bool cb)]), (Ent.mkBox 29 [iv (14 : Int), iv x.13])] (doC x t (14 : Int) x.13 (Prod.fst s_1) (Prod.fst (Prod.snd s_1)) 0 (List.length ws) cap (Prod.snd (Prod.snd s_1)) 4 [0]) fun c => Tree.chk (true = true → true = true)
   (Tree.done (XV.a (AV.c (CV.v (Value.bool (bif true then Prod.snd (Prod.snd (doRF x t (14 : Int) x.13 (List.take (List.length ws) (List.drop 0 (Prod.fst s_1))))) else false))))) [(Ent.ws (Prod.fst (Prod.snd s_1)) (Prod.snd (Prod.snd s_1)) (Prod.fst s_1)), Ent.dead, Ent.dead, Ent.dead, Ent.dead, Ent.dead]))
   (Tree.some_ (List (Int × Int) × Bool × Nat) fun s_1 => Tree.callf 11 [AV.agg [iv x.1, iv x.2, iv x.3, iv x.4, iv x.5, iv x.6, iv x.7, iv x.8, iv x.9, iv x.10, iv x.11, iv x.12, CV.sl 0 0 0 2 (List.length ws) cap, iv x.13, iv x.14], AV.c (iv t), AV.agg [iv (1 : Int), iv (1 : Int)]] [(Ent.ws (Prod.fst (Prod.snd s)) (Prod.snd (Prod.snd s)) (Prod.fst s)), (Ent.mkBox 25 [iv x.1, iv x.2, iv x.3, iv x.4, iv x.5, iv x.6, iv x.7, iv x.8, iv x.9, iv x.10, iv x.11, iv x.12, CV.sl 0 0 0 2 (List.length ws) cap, iv x.13, iv x.14]), (Ent.mkBox 42 [iv ck, iv co, iv cq, iv cw, CV.v (Value.bool cb)]), (Ent.mkBox 29 [iv (1 : Int), iv (1 : Int)])] (doC x t (1 : Int) (1 : Int) (Prod.fst s_1) (Prod.fst (Prod.snd s_1)) 0 (List.length ws) cap (Prod.snd (Prod.snd s_1)) 4 [0]) fun c => Tree.chk (true = true → true = true)
   (Tree.done (XV.a (AV.c (CV.v (Value.bool (bif true then Prod.snd (Prod.snd (doRF x t (1 : Int) (1 : Int) (List.take (List.length ws) (List.drop 0 (Prod.fst s_1))))) else false))))) [(Ent.ws (Prod.fst (Prod.snd s_1)) (Prod.snd (Prod.snd s_1)) (Prod.fst s_1)), Ent.dead, Ent.dead, Ent.dead, Ent.dead, Ent.dead])))))))))
theorem tlcan_eq (x : Thg) (t ck co cq cw : Int) (cb : Bool) (ws : List Wt) (cap : Nat) : xfunc tab lawG noInv Go.Proofs.Try.f6 [x.av 0 0 ws.length cap, .c (iv t), callA ck co cq cw cb] [Ent.ws false cap ws] [0] = tlcan x t ck co cq cw cb ws cap := by kernel_rfl
end Go.Proofs.Ytnenbngjdekegaa.X

/- The law ModelCan: proved. -/
set_option linter.unusedVariables false
set_option linter.unusedSimpArgs false
namespace Go.Proofs.Ytnenbngjdekegaa.X
open Go Go.RowKit Go.Proofs.YtnenbngjdekegaaW.PrintWords Go.Proofs.Ytnenbngjdekegaa.Base
def lcanC (x : Thg) (t ck co cq cw : Int) (cb : Bool) (ws : List Wt) (cap : Nat) : CallSpec := rdSpec [] [x.av 0 0 ws.length cap, .c (iv t), callA ck co cq cw cb] [Ent.ws false cap ws] (bi true)
theorem lcan_local (x : Thg) (t ck co cq cw : Int) (cb : Bool) (ws : List Wt) (cap : Nat) : (lcanC x t ck co cq cw cb ws cap).Local Try.prog 6 := by
  refine local_of Try.func6 rfl (tlcan_eq x t ck co cq cw cb ws cap) fun ν w => ?_
  have hz : 0 + ws.length ≤ ws.length := by omega
  (refine ok_callf' up_call (fits_of rfl rfl trivial fun c _ => ⟨⟨Nat.le_refl _, rfl⟩, ⟨rfl, rfl⟩, trivial⟩) up_local fun _ _ => ?_)
  refine ok_some' (ws, false, cap) (ok_callf' light_call (fits_of rfl rfl ⟨⟨_, rfl, EntRel.ws⟩, trivial⟩ fun c _ => ⟨⟨Nat.le_refl _, rfl⟩, ⟨rfl, rfl⟩, ⟨⟨EntRel.ws, rfl, (fun h => by cases h), .inr rfl⟩, trivial⟩⟩) (light_local _ _ _ _ _ _ _ _) fun _ _ => ?_)
  refine ok_br' (fun h => ?_) fun h => ?_
  · have hP := lightF_iff.1 (show lightF x ws.length 8 = true by simpa using h)
    have hl : ws.length ≤ 1000000 := by have := hP.2; omega
    repeat refine ok_chk' h ?_
    refine ok_some' (ws, false, cap) (ok_callf' can_call (fits_of rfl rfl ⟨⟨_, rfl, EntRel.ws⟩, trivial⟩ fun c _ => ⟨⟨Nat.le_refl _, rfl⟩, ⟨rfl, rfl⟩, ⟨⟨EntRel.ws, rfl, (fun h => by cases h), .inr rfl⟩, trivial⟩⟩) (can_local _ _ _ _ _ _ _ _ _ _ _ _ _ _ hP.1 hz hl) fun _ _ => ?_)
    repeat (first | refine ok_chk' (fun h => h) ?_ | refine ok_chk' (fun h => by rw [h]; rfl) ?_)
    refine ok_br' (fun h2 => ?_) fun h2 => ?_
    · exact ok_leaf (fun _ => 0) [] [0] trivial rfl ⟨⟨_, rfl, EntRel.ws⟩, trivial⟩ rfl
    · have hc : canF x t ck cq (wsub ws 0 ws.length) = true := by
        have h2 : (bif !lightF x ws.length 8 then true else !canF x t ck cq (wsub ws 0 ws.length)) = false := h2
        cases hcc : canF x t ck cq (wsub ws 0 ws.length) with
        | true => rfl
        | false => cases hL : lightF x ws.length 8 <;> rw [hcc, hL] at h2 <;> cases h2
      have hd := can_do hc
      repeat' first
        | refine ok_br' (fun h3 => ?_) (fun h3 => ?_)
        | (refine ok_some' (ws, false, cap) (ok_callf' do_call (fits_of rfl rfl ⟨⟨_, rfl, EntRel.ws⟩, trivial⟩ fun c _ => ⟨⟨Nat.le_succ 1, rfl⟩, ⟨rfl, rfl⟩, ⟨⟨EntRel.ws, rfl, (fun h => by cases h), .inr rfl⟩, ⟨EntRel.ws, rfl, (fun h => by cases h), .inr rfl⟩, trivial⟩⟩) (do_local _ _ _ _ _ _ _ _ _ _ _ _ hP.1 hz hl) fun c hc => ?_))
        | refine ok_chk' (fun h => h) ?_
        | refine ok_chk' rfl ?_
      all_goals
        refine ok_leaf (fun _ => 0) [] [0] trivial ?_ ⟨⟨_, rfl, EntRel.ws⟩, trivial⟩ rfl
        simp only [*, cond_true, cond_false] at hd
        exact congrArg bi hd
  · exact ok_chk' (fun h' => by rw [h] at h'; cases h') (ok_chk' (by simpa using h) (ok_br' (fun _ => ok_leaf (fun _ => 0) [] [0] trivial rfl ⟨⟨_, rfl, EntRel.ws⟩, trivial⟩ rfl) fun h => by cases h))
end Go.Proofs.Ytnenbngjdekegaa.X

/- The law ModelCan. -/
set_option linter.unusedVariables false
set_option linter.unusedSimpArgs false
namespace Go.Proofs.Ytnenbngjdekegaa.X
open Go Go.RowKit Go.Proofs.YtnenbngjdekegaaW.PrintWords Go.Proofs.Ytnenbngjdekegaa.Base Go.Proofs.Ytnenbngjdekegaa.Open
theorem lcan_walk (cs0 : Array Value) (x0 : Int × Int × Int × Int × List Int × List Wt × Int × Int) (a1 : Int) (cs2 : Array Value) (x2 : Int × Int × Int × Int × Bool) (W : World) (hK0 : kdThing.K W x0 cs0.toList) (hw0 : True) (w1 : wfI a1) (hK2 : kdCall.K W x2 cs2.toList) (hw2 : True) :
    Calls Try.prog 6 #[.agg cs0, .int .i64 a1, .agg cs2] W fun e w' => e = .returned (.bool true) ∧ Below W.heap.size W w' := by
  obtain ⟨A, cap, he, hH⟩ := thing_open hK0
  have := lcan_local (Thg.ofK x0) a1 x2.1 x2.2.1 x2.2.2.1 x2.2.2.2.1 x2.2.2.2.2 x0.2.2.2.2.2.1 cap _ W hH
  rw [he, call_open hK2 (fun _ _ => A)]
  refine this.mono ?_
  rintro e w' ⟨ν', c, -, rfl, h⟩
  exact ⟨rfl, below_of h fun k e hk => by cases k with | zero => cases hk; rfl | succ k => cases k <;> cases hk⟩
end Go.Proofs.Ytnenbngjdekegaa.X

