/- What the law ModelDoes's functions come to; no conditions. -/
import Derived.Test.YtnenbngjdekegaaC3
/- The laws of the model: boxes, rows: words. -/
set_option linter.unusedVariables false
set_option linter.unusedSimpArgs false
namespace Go.Proofs.Ytnenbngjdekegaa.X
open Go Go.RowKit Go.Proofs.YtnenbngjdekegaaW.PrintWords Go.Proofs.Ytnenbngjdekegaa.Base
def rowCap : Option Ent → Nat
  | some e => e.cap 0
  | none => 0
def bx (k : Nat) : XV := .a (.c (.ptr (bref k 15)))
end Go.Proofs.Ytnenbngjdekegaa.X

/- The law ModelDoes: its tree. -/
set_option linter.unusedVariables false
set_option linter.unusedSimpArgs false
namespace Go.Proofs.Ytnenbngjdekegaa.X
open Go Go.RowKit Go.Proofs.YtnenbngjdekegaaW.PrintWords Go.Proofs.Ytnenbngjdekegaa.Base
structure DoesT where
  lo : Nat
  yc : Nat
  yrc : Nat
  wc : Nat
  wrc : Nat
def vF (ws : List Wt) : List Wt := wsub ws 0 ws.length
def DoesP (x : Thg) (t k v : Int) (ws : List Wt) (p : DoesT) : Prop := p.lo + (doRF x t k v (vF ws)).2.1.length ≤ (doRowF x t k v (vF ws)).length ∧ wsub (doRowF x t k v (vF ws)) p.lo (doRF x t k v (vF ws)).2.1.length = (doRF x t k v (vF ws)).2.1
def px (k sz : Nat) : XV := .a (.c (.ptr (bref k sz)))
def callL (k o n w : Int) (b : Bool) : List CV := [iv k, iv o, iv n, iv w, .v (.bool b)]
def doesInv (x : Thg) (t k v ck co cq cw : Int) (cb : Bool) (ws : List Wt) (cap : Nat) (li : Nat) : Option LoopInv :=
  bif Nat.beq li 1008 then some ⟨{p : DoesT // DoesP x t k v ws p}, fun p => ([(2, ia t), (6, px 1 15), (9, px 2 5), (11, bi true), (13, px 4 15), (14, bi (doRF x t k v (vF ws)).2.2), (15, px 6 15), (16, bi (doRF x t k v (vF ws)).2.2)],
      [Ent.ws false cap ws, Ent.mkBox TT (x.cv (.sl 0 0 0 2 ws.length cap)), Ent.mkBox 42 (callL ck co cq cw cb), Ent.ws true p.1.yrc (doRowF x t k v (vF ws)), Ent.mkBox TT ((doRF x t k v (vF ws)).1.cv (.sl 3 0 p.1.lo 2 (doRF x t k v (vF ws)).2.1.length p.1.yc)),
       Ent.ws false p.1.wrc (doRF x t k v (vF ws)).2.1, Ent.mkBox TT ((doRF x t k v (vF ws)).1.cv (.sl 5 0 0 2 (doRF x t k v (vF ws)).2.1.length p.1.wc))]), fun _ => 0, none, [], .l [], [],
    fun tm H => Rm.of [0, ptrK (tm.get 6), ptrK (tm.get 9), slK (boxC (H.get (ptrK (tm.get 13)))), ptrK (tm.get 13), slK (boxC (H.get (ptrK (tm.get 15)))), ptrK (tm.get 15)] H.length⟩
  else none
def doesZ (x : Thg) (ws : List Wt) (cap : Nat) : Par := fun r =>
  bif Nat.beq r 5 then some <| par0 fun f args H => match args with
    | [.agg [.v (.int _ k), .v (.bool b), .v (.int _ n)]] => some (newC k n b H.length)
    | [.agg l, .agg l'] => some (eq2C (thgOf l) (thgOf l') [] [] false false (slLN l).1 (slLN l).2 (slCap l) 0 (slLN l').1 (slLN l').2 (slCap l') 0 [slK l, slK l'])
    | _ => none
  else bif Nat.beq r 11 then some <| par0 fun f args H => match args with
    | [.agg l, .c (.v (.int _ t)), .agg [.v (.int _ k), .v (.int _ o), .v (.int _ q), .v (.int _ w), .v (.bool b)]] => if f = 17 then some (canC (thgOf l) t k o q w b ws false (slLN l).1 (slLN l).2 (slCap l) cap [slK l])
      else some (canRC (thgOf l) t k o q w b ws (slCap l) [slK l])
    | _ => none
  else none
def tdoes (x : Thg) (t k v ok_ on ck co cq cw : Int) (ob cb : Bool) (ws : List Wt) (cap : Nat) : Tree :=
  Tree.callf 9 [] [(Ent.ws false cap ws), (Ent.mkBox 40 [iv ok_, CV.v (Value.bool ob), iv on]), (Ent.mkBox 25 [iv x.1, iv x.2, iv x.3, iv x.4, iv x.5, iv x.6, iv x.7, iv x.8, iv x.9, iv x.10, iv x.11, iv x.12, CV.sl 0 0 0 2 (List.length ws) cap, iv x.13, iv x.14]), (Ent.mkBox 29 [iv k, iv v]), (Ent.mkBox 42 [iv ck, iv co, iv cq, iv cw, CV.v (Value.bool cb)])] upC fun c => Tree.some_ (List (Int × Int) × Bool × Nat) fun s => Tree.callf 10 [AV.agg [iv x.1, iv x.2, iv x.3, iv x.4, iv x.5, iv x.6, iv x.7, iv x.8, iv x.9, iv x.10, iv x.11, iv x.12, CV.sl 0 0 0 2 (List.length ws) cap, iv x.13, iv x.14]] [(Ent.ws false cap ws), (Ent.mkBox 40 [iv ok_, CV.v (Value.bool ob), iv on]), (Ent.mkBox 25 [iv x.1, iv x.2, iv x.3, iv x.4, iv x.5, iv x.6, iv x.7, iv x.8, iv x.9, iv x.10, iv x.11, iv x.12, CV.sl 0 0 0 2 (List.length ws) cap, iv x.13, iv x.14]), (Ent.mkBox 29 [iv k, iv v]), (Ent.mkBox 42 [iv ck, iv co, iv cq, iv cw, CV.v (Value.bool cb)])] (lightC x (Prod.fst s) (Prod.fst (Prod.snd s)) 0 (List.length ws) cap (Prod.snd (Prod.snd s)) [0]) fun c => Tree.br (!lightF x (List.length ws) 8)
   (Tree.done (XV.a (AV.c (CV.v (Value.bool true)))) [(Ent.ws (Prod.fst (Prod.snd s)) (Prod.snd (Prod.snd s)) (Prod.fst s)), Ent.dead, Ent.dead, Ent.dead, Ent.dead])
   (Tree.some_ Unit fun s_1 => Tree.both
   (Tree.every (Nat → Nat → Nat) fun c => Tree.sub
   (Tree.chk (0 < 1 ∧ 0 < 1)
   (Tree.some_ (Nat → Nat) fun d => Tree.chk (some (XV.a (AV.agg [iv ok_, CV.v (Value.bool ob), iv on])) = some (XV.a (AV.agg [iv ok_, CV.v (Value.bool ob), iv on])))
   (Tree.chk (EqH [] [])
   (Tree.chk (0 = 0)
   (Tree.chk True
   (Tree.need True)))))))
   (Tree.both
   (Tree.every (Nat → Nat → Nat) fun c => Tree.sub
   (Tree.callf 14 [AV.agg [iv ok_, CV.v (Value.bool ob), iv on]] [(Ent.ws false (Prod.snd (Prod.snd s)) (Prod.fst s)), { own := false, box := false, ty := 40, sz := 3, m := 1, n := fun a => 1, cap := fun a => 1, f := fun a a_1 => [iv ok_, CV.v (Value.bool ob), iv on], ov := [] }, { own := false, box := false, ty := 25, sz := 15, m := 1, n := fun a => 1, cap := fun a => 1, f := fun a a_1 => [iv x.1, iv x.2, iv x.3, iv x.4, iv x.5, iv x.6, iv x.7, iv x.8, iv x.9, iv x.10, iv x.11, iv x.12, CV.sl 0 0 0 2 (List.length ws) cap, iv x.13, iv x.14], ov := [] }, { own := false, box := false, ty := 29, sz := 2, m := 1, n := fun a => 1, cap := fun a => 1, f := fun a a_1 => [iv k, iv v], ov := [] }, { own := false, box := false, ty := 42, sz := 5, m := 1, n := fun a => 1, cap := fun a => 1, f := fun a a_1 => [iv ck, iv co, iv cq, iv cw, CV.v (Value.bool cb)], ov := [] }] (newC ok_ on ob 5) fun c => Tree.some_ (Nat → Nat) fun d => Tree.chk True
   (Tree.chk (some (XV.a (AV.agg [iv ok_, iv on, iv (-1 : Int), iv (0 : Int), iv (0 : Int), iv (0 : Int), iv (0 : Int), iv (0 : Int), iv (0 : Int), iv (0 : Int), iv (0 : Int), iv (0 : Int), CV.sl 5 0 0 2 0 0, iv (-1 : Int), iv (0 : Int)])) = some (XV.a (AV.agg [iv ok_, iv on, iv (-1 : Int), iv (0 : Int), iv (0 : Int), iv (0 : Int), iv (0 : Int), iv (0 : Int), iv (0 : Int), iv (0 : Int), iv (0 : Int), iv (0 : Int), CV.sl 5 0 0 2 0 0, iv (-1 : Int), iv (0 : Int)])))
   (Tree.chk (EqH [{ own := false, box := false, ty := 37, sz := 2, m := 1, n := fun x => 0, cap := fun x => 0, f := fun x i => [iv (0 : Int), iv (0 : Int)], ov := [] }] [{ own := false, box := false, ty := 37, sz := 2, m := 1, n := fun x => 0, cap := fun x => 0, f := fun x i => [iv (0 : Int), iv (0 : Int)], ov := [] }])
   (Tree.chk (1 = 1)
   (Tree.chk (((false = true ∨ ∀ (j : Nat), 0 = 0) ∧ ∀ (j i : Nat), true = true) ∧ True)
   (Tree.need True)))))))
   (Tree.both
   (Tree.every (Nat → Nat → Nat) fun c => Tree.sub
   (Tree.chk (0 < 1 ∧ 0 < 1)
   (Tree.some_ (Nat → Nat) fun d => Tree.chk (some (XV.a (AV.agg [iv ok_, CV.v (Value.bool ob), iv on])) = some (XV.a (AV.agg [iv ok_, CV.v (Value.bool ob), iv on])))
   (Tree.chk (EqH [] [])
   (Tree.chk (0 = 0)
   (Tree.chk True
   (Tree.need True)))))))
   (Tree.both
   (Tree.every (Nat → Nat → Nat) fun c => Tree.hyp True
   (Tree.sub
   (Tree.callf 15 [AV.agg [iv ok_, CV.v (Value.bool ob), iv on]] [(Ent.ws false (Prod.snd (Prod.snd s)) (Prod.fst s)), { own := false, box := false, ty := 40, sz := 3, m := 1, n := fun a => 1, cap := fun a => 1, f := fun a a_1 => [iv ok_, CV.v (Value.bool ob), iv on], ov := [] }, { own := false, box := false, ty := 25, sz := 15, m := 1, n := fun a => 1, cap := fun a => 1, f := fun a a_1 => [iv x.1, iv x.2, iv x.3, iv x.4, iv x.5, iv x.6, iv x.7, iv x.8, iv x.9, iv x.10, iv x.11, iv x.12, CV.sl 0 0 0 2 (List.length ws) cap, iv x.13, iv x.14], ov := [] }, { own := false, box := false, ty := 29, sz := 2, m := 1, n := fun a => 1, cap := fun a => 1, f := fun a a_1 => [iv k, iv v], ov := [] }, { own := false, box := false, ty := 42, sz := 5, m := 1, n := fun a => 1, cap := fun a => 1, f := fun a a_1 => [iv ck, iv co, iv cq, iv cw, CV.v (Value.bool cb)], ov := [] }, { own := false, box := false, ty := 37, sz := 2, m := 1, n := fun a => 0, cap := fun a => 0, f := fun a a_1 => [iv (0 : Int), iv (0 : Int)], ov := [] }] (newC ok_ on ob 6) fun c => Tree.some_ (Nat → Nat) fun d => Tree.chk True
   (Tree.chk (some (XV.a (AV.agg [iv ok_, iv on, iv (-1 : Int), iv (0 : Int), iv (0 : Int), iv (0 : Int), iv (0 : Int), iv (0 : Int), iv (0 : Int), iv (0 : Int), iv (0 : Int), iv (0 : Int), CV.sl 6 0 0 2 0 0, iv (-1 : Int), iv (0 : Int)])) = some (XV.a (AV.agg [iv ok_, iv on, iv (-1 : Int), iv (0 : Int), iv (0 : Int), iv (0 : Int), iv (0 : Int), iv (0 : Int), iv (0 : Int), iv (0 : Int), iv (0 : Int), iv (0 : Int), CV.sl 6 0 0 2 0 0, iv (-1 : Int), iv (0 : Int)])))
   (Tree.chk (EqH [{ own := false, box := false, ty := 37, sz := 2, m := 1, n := fun x => 0, cap := fun x => 0, f := fun x i => [iv (0 : Int), iv (0 : Int)], ov := [] }] [{ own := false, box := false, ty := 37, sz := 2, m := 1, n := fun x => 0, cap := fun x => 0, f := fun x i => [iv (0 : Int), iv (0 : Int)], ov := [] }])
   (Tree.chk (1 = 1)
   (Tree.chk (((false = true ∨ ∀ (j : Nat), 0 = 0) ∧ ∀ (j i : Nat), true = true) ∧ True)
   (Tree.need True))))))))
   (Tree.both
   (Tree.every (Nat → Nat → Nat) fun c => Tree.hyp True
   (Tree.hyp True
   (Tree.sub
   (Tree.callf 12 [AV.agg [iv ok_, iv on, iv (-1 : Int), iv (0 : Int), iv (0 : Int), iv (0 : Int), iv (0 : Int), iv (0 : Int), iv (0 : Int), iv (0 : Int), iv (0 : Int), iv (0 : Int), CV.sl 5 0 0 2 0 0, iv (-1 : Int), iv (0 : Int)], AV.agg [iv ok_, iv on, iv (-1 : Int), iv (0 : Int), iv (0 : Int), iv (0 : Int), iv (0 : Int), iv (0 : Int), iv (0 : Int), iv (0 : Int), iv (0 : Int), iv (0 : Int), CV.sl 6 0 0 2 0 0, iv (-1 : Int), iv (0 : Int)]] [(Ent.ws false (Prod.snd (Prod.snd s)) (Prod.fst s)), { own := false, box := false, ty := 40, sz := 3, m := 1, n := fun a => 1, cap := fun a => 1, f := fun a a_1 => [iv ok_, CV.v (Value.bool ob), iv on], ov := [] }, { own := false, box := false, ty := 25, sz := 15, m := 1, n := fun a => 1, cap := fun a => 1, f := fun a a_1 => [iv x.1, iv x.2, iv x.3, iv x.4, iv x.5, iv x.6, iv x.7, iv x.8, iv x.9, iv x.10, iv x.11, iv x.12, CV.sl 0 0 0 2 (List.length ws) cap, iv x.13, iv x.14], ov := [] }, { own := false, box := false, ty := 29, sz := 2, m := 1, n := fun a => 1, cap := fun a => 1, f := fun a a_1 => [iv k, iv v], ov := [] }, { own := false, box := false, ty := 42, sz := 5, m := 1, n := fun a => 1, cap := fun a => 1, f := fun a a_1 => [iv ck, iv co, iv cq, iv cw, CV.v (Value.bool cb)], ov := [] }, { own := false, box := false, ty := 37, sz := 2, m := 1, n := fun a => 0, cap := fun a => 0, f := fun a a_1 => [iv (0 : Int), iv (0 : Int)], ov := [] }, { own := false, box := false, ty := 37, sz := 2, m := 1, n := fun a => 0, cap := fun a => 0, f := fun a a_1 => [iv (0 : Int), iv (0 : Int)], ov := [] }] (eq2C { kd := ok_, n := on, o := (-1 : Int), h := (0 : Int), r0 := (0 : Int), r1 := (0 : Int), r2 := (0 : Int), r3 := (0 : Int), r4 := (0 : Int), r5 := (0 : Int), r6 := (0 : Int), r7 := (0 : Int), f := (-1 : Int), i := (0 : Int) } { kd := ok_, n := on, o := (-1 : Int), h := (0 : Int), r0 := (0 : Int), r1 := (0 : Int), r2 := (0 : Int), r3 := (0 : Int), r4 := (0 : Int), r5 := (0 : Int), r6 := (0 : Int), r7 := (0 : Int), f := (-1 : Int), i := (0 : Int) } [] [] false false 0 0 0 0 0 0 0 0 [5, 6]) fun c => Tree.some_ (Nat → Nat) fun d => Tree.chk True
   (Tree.chk (some (XV.a (AV.c (CV.v (Value.bool (sameF { kd := ok_, n := on, o := (-1 : Int), h := (0 : Int), r0 := (0 : Int), r1 := (0 : Int), r2 := (0 : Int), r3 := (0 : Int), r4 := (0 : Int), r5 := (0 : Int), r6 := (0 : Int), r7 := (0 : Int), f := (-1 : Int), i := (0 : Int) } { kd := ok_, n := on, o := (-1 : Int), h := (0 : Int), r0 := (0 : Int), r1 := (0 : Int), r2 := (0 : Int), r3 := (0 : Int), r4 := (0 : Int), r5 := (0 : Int), r6 := (0 : Int), r7 := (0 : Int), f := (-1 : Int), i := (0 : Int) } (List.take 0 (List.drop 0 [])) (List.take 0 (List.drop 0 []))))))) = some (XV.a (AV.c (CV.v (Value.bool (sameF { kd := ok_, n := on, o := (-1 : Int), h := (0 : Int), r0 := (0 : Int), r1 := (0 : Int), r2 := (0 : Int), r3 := (0 : Int), r4 := (0 : Int), r5 := (0 : Int), r6 := (0 : Int), r7 := (0 : Int), f := (-1 : Int), i := (0 : Int) } { kd := ok_, n := on, o := (-1 : Int), h := (0 : Int), r0 := (0 : Int), r1 := (0 : Int), r2 := (0 : Int), r3 := (0 : Int), r4 := (0 : Int), r5 := (0 : Int), r6 := (0 : Int), r7 := (0 : Int), f := (-1 : Int), i := (0 : Int) } (List.take 0 (List.drop 0 [])) (List.take 0 (List.drop 0 []))))))))
   (Tree.chk (EqH [] [])
   (Tree.chk (0 = 0)
   (Tree.chk True
   (Tree.need True)))))))))
   (Tree.both
   (Tree.every (Nat → Nat → Nat) fun c => Tree.hyp True
   (Tree.hyp True
   (Tree.hyp True
   (Tree.sub
   (Tree.some_ (Nat → Nat) fun d => Tree.chk (some (XV.a (AV.c (CV.v (Value.bool !sameF { kd := ok_, n := on, o := (-1 : Int), h := (0 : Int), r0 := (0 : Int), r1 := (0 : Int), r2 := (0 : Int), r3 := (0 : Int), r4 := (0 : Int), r5 := (0 : Int), r6 := (0 : Int), r7 := (0 : Int), f := (-1 : Int), i := (0 : Int) } { kd := ok_, n := on, o := (-1 : Int), h := (0 : Int), r0 := (0 : Int), r1 := (0 : Int), r2 := (0 : Int), r3 := (0 : Int), r4 := (0 : Int), r5 := (0 : Int), r6 := (0 : Int), r7 := (0 : Int), f := (-1 : Int), i := (0 : Int) } (List.take 0 (List.drop 0 [])) (List.take 0 (List.drop 0 [])))))) = some (XV.a (AV.c (CV.v (Value.bool !sameF { kd := ok_, n := on, o := (-1 : Int), h := (0 : Int), r0 := (0 : Int), r1 := (0 : Int), r2 := (0 : Int), r3 := (0 : Int), r4 := (0 : Int), r5 := (0 : Int), r6 := (0 : Int), r7 := (0 : Int), f := (-1 : Int), i := (0 : Int) } { kd := ok_, n := on, o := (-1 : Int), h := (0 : Int), r0 := (0 : Int), r1 := (0 : Int), r2 := (0 : Int), r3 := (0 : Int), r4 := (0 : Int), r5 := (0 : Int), r6 := (0 : Int), r7 := (0 : Int), f := (-1 : Int), i := (0 : Int) } (List.take 0 (List.drop 0 [])) (List.take 0 (List.drop 0 [])))))))
   (Tree.chk (EqH [] [])
   (Tree.chk (0 = 0)
   (Tree.chk True
   (Tree.need True)))))))))
   (Tree.every (Nat → Nat → Nat) fun c => Tree.hyp True
   (Tree.hyp True
   (Tree.hyp True
   (Tree.br (!sameF { kd := ok_, n := on, o := (-1 : Int), h := (0 : Int), r0 := (0 : Int), r1 := (0 : Int), r2 := (0 : Int), r3 := (0 : Int), r4 := (0 : Int), r5 := (0 : Int), r6 := (0 : Int), r7 := (0 : Int), f := (-1 : Int), i := (0 : Int) } { kd := ok_, n := on, o := (-1 : Int), h := (0 : Int), r0 := (0 : Int), r1 := (0 : Int), r2 := (0 : Int), r3 := (0 : Int), r4 := (0 : Int), r5 := (0 : Int), r6 := (0 : Int), r7 := (0 : Int), f := (-1 : Int), i := (0 : Int) } (List.take 0 (List.drop 0 [])) (List.take 0 (List.drop 0 [])))
   (Tree.done (XV.a (AV.c (CV.v (Value.bool false)))) [(Ent.ws (Prod.fst (Prod.snd s)) (Prod.snd (Prod.snd s)) (Prod.fst s)), Ent.dead, Ent.dead, Ent.dead, Ent.dead, Ent.dead, Ent.dead])
   (Tree.some_ (List (Int × Int) × Bool × Nat) fun s_2 => Tree.callf 11 [AV.agg [iv x.1, iv x.2, iv x.3, iv x.4, iv x.5, iv x.6, iv x.7, iv x.8, iv x.9, iv x.10, iv x.11, iv x.12, CV.sl 0 0 0 2 (List.length ws) cap, iv x.13, iv x.14], AV.c (iv t), AV.agg [iv k, iv v]] [(Ent.ws (Prod.fst (Prod.snd s)) (Prod.snd (Prod.snd s)) (Prod.fst s)), (Ent.mkBox 40 [iv ok_, CV.v (Value.bool ob), iv on]), (Ent.mkBox 25 [iv x.1, iv x.2, iv x.3, iv x.4, iv x.5, iv x.6, iv x.7, iv x.8, iv x.9, iv x.10, iv x.11, iv x.12, CV.sl 0 0 0 2 (List.length ws) cap, iv x.13, iv x.14]), (Ent.mkBox 29 [iv k, iv v]), (Ent.mkBox 42 [iv ck, iv co, iv cq, iv cw, CV.v (Value.bool cb)]), { own := false, box := false, ty := 37, sz := 2, m := 1, n := fun x => 0, cap := fun x => 0, f := fun x i => [iv (0 : Int), iv (0 : Int)], ov := [] }, { own := false, box := false, ty := 37, sz := 2, m := 1, n := fun x => 0, cap := fun x => 0, f := fun x i => [iv (0 : Int), iv (0 : Int)], ov := [] }] (doC x t k v (Prod.fst s_2) (Prod.fst (Prod.snd s_2)) 0 (List.length ws) cap (Prod.snd (Prod.snd s_2)) 7 [0]) fun c => Tree.both
   (Tree.both
   (Tree.some_ (List (Int × Int) × Bool × Nat) fun s => Tree.callf 13 [AV.agg [iv x.1, iv x.2, iv x.3, iv x.4, iv x.5, iv x.6, iv x.7, iv x.8, iv x.9, iv x.10, iv x.11, iv x.12, CV.sl 0 0 0 2 (List.length ws) cap, iv x.13, iv x.14]] [(Ent.ws (Prod.fst (Prod.snd s_2)) (Prod.snd (Prod.snd s_2)) (Prod.fst s_2)), (Ent.mkBox 40 [iv ok_, CV.v (Value.bool ob), iv on]), (Ent.mkBox 25 [iv x.1, iv x.2, iv x.3, iv x.4, iv x.5, iv x.6, iv x.7, iv x.8, iv x.9, iv x.10, iv x.11, iv x.12, CV.sl 0 0 0 2 (List.length ws) cap, iv x.13, iv x.14]), (Ent.mkBox 29 [iv k, iv v]), (Ent.mkBox 42 [iv ck, iv co, iv cq, iv cw, CV.v (Value.bool cb)]), { own := false, box := false, ty := 37, sz := 2, m := 1, n := fun x => 0, cap := fun x => 0, f := fun x i => [iv (0 : Int), iv (0 : Int)], ov := [] }, { own := false, box := false, ty := 37, sz := 2, m := 1, n := fun x => 0, cap := fun x => 0, f := fun x i => [iv (0 : Int), iv (0 : Int)], ov := [] }, (Ent.ws true (c 1) (doRowF x t k v (List.take (List.length ws) (List.drop 0 (Prod.fst s_2))))), (Ent.mkBox 25 [iv (Prod.fst (doRF x t k v (List.take (List.length ws) (List.drop 0 (Prod.fst s_2))))).1, iv (Prod.fst (doRF x t k v (List.take (List.length ws) (List.drop 0 (Prod.fst s_2))))).2, iv (Prod.fst (doRF x t k v (List.take (List.length ws) (List.drop 0 (Prod.fst s_2))))).3, iv (Prod.fst (doRF x t k v (List.take (List.length ws) (List.drop 0 (Prod.fst s_2))))).4, iv (Prod.fst (doRF x t k v (List.take (List.length ws) (List.drop 0 (Prod.fst s_2))))).5, iv (Prod.fst (doRF x t k v (List.take (List.length ws) (List.drop 0 (Prod.fst s_2))))).6, iv (Prod.fst (doRF x t k v (List.take (List.length ws) (List.drop 0 (Prod.fst s_2))))).7, iv (Prod.fst (doRF x t k v (List.take (List.length ws) (List.drop 0 (Prod.fst s_2))))).8, iv (Prod.fst (doRF x t k v (List.take (List.length ws) (List.drop 0 (Prod.fst s_2))))).9, iv (Prod.fst (doRF x t k v (List.take (List.length ws) (List.drop 0 (Prod.fst s_2))))).10, iv (Prod.fst (doRF x t k v (List.take (List.length ws) (List.drop 0 (Prod.fst s_2))))).11, iv (Prod.fst (doRF x t k v (List.take (List.length ws) (List.drop 0 (Prod.fst s_2))))).12, CV.sl 7 0 (c 2) 2 (List.length (Prod.fst (Prod.snd (doRF x t k v (List.take (List.length ws) (List.drop 0 (Prod.fst s_2))))))) (c 0), iv (Prod.fst (doRF x t k v (List.take (List.length ws) (List.drop 0 (Prod.fst s_2))))).13, iv (Prod.fst (doRF x t k v (List.take (List.length ws) (List.drop 0 (Prod.fst s_2))))).14])] (copy2C x (Prod.fst s) (Prod.fst (Prod.snd s)) 0 (List.length ws) cap (Prod.snd (Prod.snd s)) 9 [0]) fun c_1 => Tree.chk (AV.agg [iv k, iv v] = AV.agg [iv k, iv v])
   (Tree.chk (AV.c (iv t) = AV.c (iv t))
   (Tree.both
   (Tree.some_ (List (Int × Int)) fun s_3 => Tree.callf 16 [AV.agg [iv x.1, iv x.2, iv x.3, iv x.4, iv x.5, iv x.6, iv x.7, iv x.8, iv x.9, iv x.10, iv x.11, iv x.12, CV.sl 9 0 0 2 (List.length (List.take (List.length ws) (List.drop 0 (Prod.fst s)))) (c_1 0), iv x.13, iv x.14], AV.c (iv t), AV.agg [iv k, iv v]] [(Ent.ws (Prod.fst (Prod.snd s)) (Prod.snd (Prod.snd s)) (Prod.fst s)), (Ent.mkBox 40 [iv ok_, CV.v (Value.bool ob), iv on]), (Ent.mkBox 25 [iv x.1, iv x.2, iv x.3, iv x.4, iv x.5, iv x.6, iv x.7, iv x.8, iv x.9, iv x.10, iv x.11, iv x.12, CV.sl 0 0 0 2 (List.length ws) cap, iv x.13, iv x.14]), (Ent.mkBox 29 [iv k, iv v]), (Ent.mkBox 42 [iv ck, iv co, iv cq, iv cw, CV.v (Value.bool cb)]), { own := false, box := false, ty := 37, sz := 2, m := 1, n := fun x => 0, cap := fun x => 0, f := fun x i => [iv (0 : Int), iv (0 : Int)], ov := [] }, { own := false, box := false, ty := 37, sz := 2, m := 1, n := fun x => 0, cap := fun x => 0, f := fun x i => [iv (0 : Int), iv (0 : Int)], ov := [] }, (Ent.ws true (c 1) (doRowF x t k v (List.take (List.length ws) (List.drop 0 (Prod.fst s_2))))), (Ent.mkBox 25 [iv (Prod.fst (doRF x t k v (List.take (List.length ws) (List.drop 0 (Prod.fst s_2))))).1, iv (Prod.fst (doRF x t k v (List.take (List.length ws) (List.drop 0 (Prod.fst s_2))))).2, iv (Prod.fst (doRF x t k v (List.take (List.length ws) (List.drop 0 (Prod.fst s_2))))).3, iv (Prod.fst (doRF x t k v (List.take (List.length ws) (List.drop 0 (Prod.fst s_2))))).4, iv (Prod.fst (doRF x t k v (List.take (List.length ws) (List.drop 0 (Prod.fst s_2))))).5, iv (Prod.fst (doRF x t k v (List.take (List.length ws) (List.drop 0 (Prod.fst s_2))))).6, iv (Prod.fst (doRF x t k v (List.take (List.length ws) (List.drop 0 (Prod.fst s_2))))).7, iv (Prod.fst (doRF x t k v (List.take (List.length ws) (List.drop 0 (Prod.fst s_2))))).8, iv (Prod.fst (doRF x t k v (List.take (List.length ws) (List.drop 0 (Prod.fst s_2))))).9, iv (Prod.fst (doRF x t k v (List.take (List.length ws) (List.drop 0 (Prod.fst s_2))))).10, iv (Prod.fst (doRF x t k v (List.take (List.length ws) (List.drop 0 (Prod.fst s_2))))).11, iv (Prod.fst (doRF x t k v (List.take (List.length ws) (List.drop 0 (Prod.fst s_2))))).12, CV.sl 7 0 (c 2) 2 (List.length (Prod.fst (Prod.snd (doRF x t k v (List.take (List.length ws) (List.drop 0 (Prod.fst s_2))))))) (c 0), iv (Prod.fst (doRF x t k v (List.take (List.length ws) (List.drop 0 (Prod.fst s_2))))).13, iv (Prod.fst (doRF x t k v (List.take (List.length ws) (List.drop 0 (Prod.fst s_2))))).14]), (Ent.ws false (c_1 0) (List.take (List.length ws) (List.drop 0 (Prod.fst s))))] (doRC x t k v s_3 (c_1 0) 10 [9]) fun c_2 => Tree.chk (AV.c (CV.v (Value.bool (Prod.snd (Prod.snd (doRF x t k v s_3))))) = AV.c (CV.v (Value.bool (Prod.snd (Prod.snd (doRF x t k v s_3))))))
   (Tree.chk (AV.agg [iv (Prod.fst (doRF x t k v s_3)).1, iv (Prod.fst (doRF x t k v s_3)).2, iv (Prod.fst (doRF x t k v s_3)).3, iv (Prod.fst (doRF x t k v s_3)).4, iv (Prod.fst (doRF x t k v s_3)).5, iv (Prod.fst (doRF x t k v s_3)).6, iv (Prod.fst (doRF x t k v s_3)).7, iv (Prod.fst (doRF x t k v s_3)).8, iv (Prod.fst (doRF x t k v s_3)).9, iv (Prod.fst (doRF x t k v s_3)).10, iv (Prod.fst (doRF x t k v s_3)).11, iv (Prod.fst (doRF x t k v s_3)).12, CV.sl 10 0 0 2 (List.length (Prod.fst (Prod.snd (doRF x t k v s_3)))) (c_2 0), iv (Prod.fst (doRF x t k v s_3)).13, iv (Prod.fst (doRF x t k v s_3)).14] = AV.agg [iv (Prod.fst (doRF x t k v s_3)).1, iv (Prod.fst (doRF x t k v s_3)).2, iv (Prod.fst (doRF x t k v s_3)).3, iv (Prod.fst (doRF x t k v s_3)).4, iv (Prod.fst (doRF x t k v s_3)).5, iv (Prod.fst (doRF x t k v s_3)).6, iv (Prod.fst (doRF x t k v s_3)).7, iv (Prod.fst (doRF x t k v s_3)).8, iv (Prod.fst (doRF x t k v s_3)).9, iv (Prod.fst (doRF x t k v s_3)).10, iv (Prod.fst (doRF x t k v s_3)).11, iv (Prod.fst (doRF x t k v s_3)).12, CV.sl 10 0 0 2 (List.length (Prod.fst (Prod.snd (doRF x t k v s_3)))) (c_2 0), iv (Prod.fst (doRF x t k v s_3)).13, iv (Prod.fst (doRF x t k v s_3)).14])
   (Tree.chk (AV.c (CV.v (Value.bool (Prod.snd (Prod.snd (doRF x t k v s_3))))) = AV.c (CV.v (Value.bool (Prod.snd (Prod.snd (doRF x t k v s_3))))))
   (Tree.some_ { p // DoesP x t k v ws p } fun s_4 => Tree.chk (XV.a (AV.c (iv t)) = XV.a (AV.c (iv t)))
   (Tree.chk (XV.a (AV.c (CV.ptr { k := 2, j := 0, i := 0, sz := 15, c := 0, d := 0, dn := 0, cu := 0 })) = XV.a (AV.c (CV.ptr { k := 2, j := 0, i := 0, sz := 15, c := 0, d := 0, dn := 0, cu := 0 })))
   (Tree.chk (XV.a (AV.c (CV.ptr { k := 4, j := 0, i := 0, sz := 5, c := 0, d := 0, dn := 0, cu := 0 })) = XV.a (AV.c (CV.ptr { k := 4, j := 0, i := 0, sz := 5, c := 0, d := 0, dn := 0, cu := 0 })))
   (Tree.chk (XV.a (AV.c (CV.v (Value.bool true))) = XV.a (AV.c (CV.v (Value.bool true))))
   (Tree.chk (XV.a (AV.c (CV.ptr { k := 8, j := 0, i := 0, sz := 15, c := 0, d := 0, dn := 0, cu := 0 })) = XV.a (AV.c (CV.ptr { k := 8, j := 0, i := 0, sz := 15, c := 0, d := 0, dn := 0, cu := 0 })))
   (Tree.chk (XV.a (AV.c (CV.v (Value.bool (Prod.snd (Prod.snd (doRF x t k v (List.take (List.length ws) (List.drop 0 (Prod.fst s_2))))))))) = XV.a (AV.c (CV.v (Value.bool (Prod.snd (Prod.snd (doRF x t k v (vF ws))))))))
   (Tree.chk (XV.a (AV.c (CV.ptr { k := 11, j := 0, i := 0, sz := 15, c := 0, d := 0, dn := 0, cu := 0 })) = XV.a (AV.c (CV.ptr { k := 11, j := 0, i := 0, sz := 15, c := 0, d := 0, dn := 0, cu := 0 })))
   (Tree.chk (XV.a (AV.c (CV.v (Value.bool (Prod.snd (Prod.snd (doRF x t k v s_3)))))) = XV.a (AV.c (CV.v (Value.bool (Prod.snd (Prod.snd (doRF x t k v (vF ws))))))))
   (Tree.chk (RnOk 1 7 12 fun a a_1 => (List.getD [0, 2, 4, 7, 8, 10, 11] a 0, a_1))
   (Tree.chk (RgAll 12 (fun a a_1 => (List.getD [0, 2, 4, 7, 8, 10, 11] a 0, a_1)) (fun a a_1 => (List.getD [0, 0, 1, 0, 2, 0, 0, 3, 4, 0, 5, 6] a 0, a_1)) [(Ent.ws (Prod.fst (Prod.snd s)) (Prod.snd (Prod.snd s)) (Prod.fst s)), (Ent.mkBox 40 [iv ok_, CV.v (Value.bool ob), iv on]), (Ent.mkBox 25 [iv x.1, iv x.2, iv x.3, iv x.4, iv x.5, iv x.6, iv x.7, iv x.8, iv x.9, iv x.10, iv x.11, iv x.12, CV.sl 0 0 0 2 (List.length ws) cap, iv x.13, iv x.14]), (Ent.mkBox 29 [iv k, iv v]), (Ent.mkBox 42 [iv ck, iv co, iv cq, iv cw, CV.v (Value.bool cb)]), { own := false, box := false, ty := 37, sz := 2, m := 1, n := fun x => 0, cap := fun x => 0, f := fun x i => [iv (0 : Int), iv (0 : Int)], ov := [] }, { own := false, box := false, ty := 37, sz := 2, m := 1, n := fun x => 0, cap := fun x => 0, f := fun x i => [iv (0 : Int), iv (0 : Int)], ov := [] }, (Ent.ws true (c 1) (doRowF x t k v (List.take (List.length ws) (List.drop 0 (Prod.fst s_2))))), (Ent.mkBox 25 [iv (Prod.fst (doRF x t k v (List.take (List.length ws) (List.drop 0 (Prod.fst s_2))))).1, iv (Prod.fst (doRF x t k v (List.take (List.length ws) (List.drop 0 (Prod.fst s_2))))).2, iv (Prod.fst (doRF x t k v (List.take (List.length ws) (List.drop 0 (Prod.fst s_2))))).3, iv (Prod.fst (doRF x t k v (List.take (List.length ws) (List.drop 0 (Prod.fst s_2))))).4, iv (Prod.fst (doRF x t k v (List.take (List.length ws) (List.drop 0 (Prod.fst s_2))))).5, iv (Prod.fst (doRF x t k v (List.take (List.length ws) (List.drop 0 (Prod.fst s_2))))).6, iv (Prod.fst (doRF x t k v (List.take (List.length ws) (List.drop 0 (Prod.fst s_2))))).7, iv (Prod.fst (doRF x t k v (List.take (List.length ws) (List.drop 0 (Prod.fst s_2))))).8, iv (Prod.fst (doRF x t k v (List.take (List.length ws) (List.drop 0 (Prod.fst s_2))))).9, iv (Prod.fst (doRF x t k v (List.take (List.length ws) (List.drop 0 (Prod.fst s_2))))).10, iv (Prod.fst (doRF x t k v (List.take (List.length ws) (List.drop 0 (Prod.fst s_2))))).11, iv (Prod.fst (doRF x t k v (List.take (List.length ws) (List.drop 0 (Prod.fst s_2))))).12, CV.sl 7 0 (c 2) 2 (List.length (Prod.fst (Prod.snd (doRF x t k v (List.take (List.length ws) (List.drop 0 (Prod.fst s_2))))))) (c 0), iv (Prod.fst (doRF x t k v (List.take (List.length ws) (List.drop 0 (Prod.fst s_2))))).13, iv (Prod.fst (doRF x t k v (List.take (List.length ws) (List.drop 0 (Prod.fst s_2))))).14]), (Ent.ws false (c_1 0) s_3), (Ent.ws false (c_2 0) (Prod.fst (Prod.snd (doRF x t k v s_3)))), (Ent.mkBox 25 [iv (Prod.fst (doRF x t k v s_3)).1, iv (Prod.fst (doRF x t k v s_3)).2, iv (Prod.fst (doRF x t k v s_3)).3, iv (Prod.fst (doRF x t k v s_3)).4, iv (Prod.fst (doRF x t k v s_3)).5, iv (Prod.fst (doRF x t k v s_3)).6, iv (Prod.fst (doRF x t k v s_3)).7, iv (Prod.fst (doRF x t k v s_3)).8, iv (Prod.fst (doRF x t k v s_3)).9, iv (Prod.fst (doRF x t k v s_3)).10, iv (Prod.fst (doRF x t k v s_3)).11, iv (Prod.fst (doRF x t k v s_3)).12, CV.sl 10 0 0 2 (List.length (Prod.fst (Prod.snd (doRF x t k v s_3)))) (c_2 0), iv (Prod.fst (doRF x t k v s_3)).13, iv (Prod.fst (doRF x t k v s_3)).14])] 7 0 [(Ent.ws false cap ws), (Ent.mkBox 25 [iv x.1, iv x.2, iv x.3, iv x.4, iv x.5, iv x.6, iv x.7, iv x.8, iv x.9, iv x.10, iv x.11, iv x.12, CV.sl 0 0 0 2 (List.length ws) cap, iv x.13, iv x.14]), (Ent.mkBox 42 [iv ck, iv co, iv cq, iv cw, CV.v (Value.bool cb)]), (Ent.ws true (Subtype.val s_4).3 (doRowF x t k v (vF ws))), (Ent.mkBox 25 [iv (Prod.fst (doRF x t k v (vF ws))).1, iv (Prod.fst (doRF x t k v (vF ws))).2, iv (Prod.fst (doRF x t k v (vF ws))).3, iv (Prod.fst (doRF x t k v (vF ws))).4, iv (Prod.fst (doRF x t k v (vF ws))).5, iv (Prod.fst (doRF x t k v (vF ws))).6, iv (Prod.fst (doRF x t k v (vF ws))).7, iv (Prod.fst (doRF x t k v (vF ws))).8, iv (Prod.fst (doRF x t k v (vF ws))).9, iv (Prod.fst (doRF x t k v (vF ws))).10, iv (Prod.fst (doRF x t k v (vF ws))).11, iv (Prod.fst (doRF x t k v (vF ws))).12, CV.sl 3 0 (Subtype.val s_4).1 2 (List.length (Prod.fst (Prod.snd (doRF x t k v (vF ws))))) (Subtype.val s_4).2, iv (Prod.fst (doRF x t k v (vF ws))).13, iv (Prod.fst (doRF x t k v (vF ws))).14]), (Ent.ws false (Subtype.val s_4).5 (Prod.fst (Prod.snd (doRF x t k v (vF ws))))), (Ent.mkBox 25 [iv (Prod.fst (doRF x t k v (vF ws))).1, iv (Prod.fst (doRF x t k v (vF ws))).2, iv (Prod.fst (doRF x t k v (vF ws))).3, iv (Prod.fst (doRF x t k v (vF ws))).4, iv (Prod.fst (doRF x t k v (vF ws))).5, iv (Prod.fst (doRF x t k v (vF ws))).6, iv (Prod.fst (doRF x t k v (vF ws))).7, iv (Prod.fst (doRF x t k v (vF ws))).8, iv (Prod.fst (doRF x t k v (vF ws))).9, iv (Prod.fst (doRF x t k v (vF ws))).10, iv (Prod.fst (doRF x t k v (vF ws))).11, iv (Prod.fst (doRF x t k v (vF ws))).12, CV.sl 5 0 0 2 (List.length (Prod.fst (Prod.snd (doRF x t k v (vF ws))))) (Subtype.val s_4).4, iv (Prod.fst (doRF x t k v (vF ws))).13, iv (Prod.fst (doRF x t k v (vF ws))).14])])
   (Tree.need True))))))))))))))
   (Tree.chk (AV.agg [iv k, iv v] = AV.agg [iv k, iv v])
   (Tree.chk (AV.c (iv t) = AV.c (iv t))
   (Tree.some_ (List (Int × Int)) fun s_3 => Tree.callf 16 [AV.agg [iv x.1, iv x.2, iv x.3, iv x.4, iv x.5, iv x.6, iv x.7, iv x.8, iv x.9, iv x.10, iv x.11, iv x.12, CV.sl 9 0 0 2 (List.length (List.take (List.length ws) (List.drop 0 (Prod.fst s)))) (c_1 0), iv x.13, iv x.14], AV.c (iv t), AV.agg [iv k, iv v]] [(Ent.ws (Prod.fst (Prod.snd s)) (Prod.snd (Prod.snd s)) (Prod.fst s)), (Ent.mkBox 40 [iv ok_, CV.v (Value.bool ob), iv on]), (Ent.mkBox 25 [iv x.1, iv x.2, iv x.3, iv x.4, iv x.5, iv x.6, iv x.7, iv x.8, iv x.9, iv x.10, iv x.11, iv x.12, CV.sl 0 0 0 2 (List.length ws) cap, iv x.13, iv x.14]), (Ent.mkBox 29 [iv k, iv v]), (Ent.mkBox 42 [iv ck, iv co, iv cq, iv cw, CV.v (Value.bool cb)]), { own := false, box := false, ty := 37, sz := 2, m := 1, n := fun x => 0, cap := fun x => 0, f := fun x i => [iv (0 : Int), iv (0 : Int)], ov := [] }, { own := false, box := false, ty := 37, sz := 2, m := 1, n := fun x => 0, cap := fun x => 0, f := fun x i => [iv (0 : Int), iv (0 : Int)], ov := [] }, (Ent.ws true (c 1) (doRowF x t k v (List.take (List.length ws) (List.drop 0 (Prod.fst s_2))))), (Ent.mkBox 25 [iv (Prod.fst (doRF x t k v (List.take (List.length ws) (List.drop 0 (Prod.fst s_2))))).1, iv (Prod.fst (doRF x t k v (List.take (List.length ws) (List.drop 0 (Prod.fst s_2))))).2, iv (Prod.fst (doRF x t k v (List.take (List.length ws) (List.drop 0 (Prod.fst s_2))))).3, iv (Prod.fst (doRF x t k v (List.take (List.length ws) (List.drop 0 (Prod.fst s_2))))).4, iv (Prod.fst (doRF x t k v (List.take (List.length ws) (List.drop 0 (Prod.fst s_2))))).5, iv (Prod.fst (doRF x t k v (List.take (List.length ws) (List.drop 0 (Prod.fst s_2))))).6, iv (Prod.fst (doRF x t k v (List.take (List.length ws) (List.drop 0 (Prod.fst s_2))))).7, iv (Prod.fst (doRF x t k v (List.take (List.length ws) (List.drop 0 (Prod.fst s_2))))).8, iv (Prod.fst (doRF x t k v (List.take (List.length ws) (List.drop 0 (Prod.fst s_2))))).9, iv (Prod.fst (doRF x t k v (List.take (List.length ws) (List.drop 0 (Prod.fst s_2))))).10, iv (Prod.fst (doRF x t k v (List.take (List.length ws) (List.drop 0 (Prod.fst s_2))))).11, iv (Prod.fst (doRF x t k v (List.take (List.length ws) (List.drop 0 (Prod.fst s_2))))).12, CV.sl 7 0 (c 2) 2 (List.length (Prod.fst (Prod.snd (doRF x t k v (List.take (List.length ws) (List.drop 0 (Prod.fst s_2))))))) (c 0), iv (Prod.fst (doRF x t k v (List.take (List.length ws) (List.drop 0 (Prod.fst s_2))))).13, iv (Prod.fst (doRF x t k v (List.take (List.length ws) (List.drop 0 (Prod.fst s_2))))).14]), (Ent.ws false (c_1 0) (List.take (List.length ws) (List.drop 0 (Prod.fst s)))), (Ent.mkBox 25 [iv (0 : Int), iv (0 : Int), iv (0 : Int), iv (0 : Int), iv (0 : Int), iv (0 : Int), iv (0 : Int), iv (0 : Int), iv (0 : Int), iv (0 : Int), iv (0 : Int), iv (0 : Int), CV.v (Value.slice none 0 0), iv (0 : Int), iv (0 : Int)])] (doRC x t k v s_3 (c_1 0) 11 [9]) fun c_2 => Tree.chk (AV.c (CV.v (Value.bool (Prod.snd (Prod.snd (doRF x t k v s_3))))) = AV.c (CV.v (Value.bool (Prod.snd (Prod.snd (doRF x t k v s_3))))))
   (Tree.some_ { p // DoesP x t k v ws p } fun s_4 => Tree.chk (XV.a (AV.c (iv t)) = XV.a (AV.c (iv t)))
   (Tree.chk (XV.a (AV.c (CV.ptr { k := 2, j := 0, i := 0, sz := 15, c := 0, d := 0, dn := 0, cu := 0 })) = XV.a (AV.c (CV.ptr { k := 2, j := 0, i := 0, sz := 15, c := 0, d := 0, dn := 0, cu := 0 })))
   (Tree.chk (XV.a (AV.c (CV.ptr { k := 4, j := 0, i := 0, sz := 5, c := 0, d := 0, dn := 0, cu := 0 })) = XV.a (AV.c (CV.ptr { k := 4, j := 0, i := 0, sz := 5, c := 0, d := 0, dn := 0, cu := 0 })))
   (Tree.chk (XV.a (AV.c (CV.v (Value.bool true))) = XV.a (AV.c (CV.v (Value.bool true))))
   (Tree.chk (XV.a (AV.c (CV.ptr { k := 8, j := 0, i := 0, sz := 15, c := 0, d := 0, dn := 0, cu := 0 })) = XV.a (AV.c (CV.ptr { k := 8, j := 0, i := 0, sz := 15, c := 0, d := 0, dn := 0, cu := 0 })))
   (Tree.chk (XV.a (AV.c (CV.v (Value.bool (Prod.snd (Prod.snd (doRF x t k v (List.take (List.length ws) (List.drop 0 (Prod.fst s_2))))))))) = XV.a (AV.c (CV.v (Value.bool (Prod.snd (Prod.snd (doRF x t k v (vF ws))))))))
   (Tree.chk (XV.a (AV.c (CV.ptr { k := 10, j := 0, i := 0, sz := 15, c := 0, d := 0, dn := 0, cu := 0 })) = XV.a (AV.c (CV.ptr { k := 10, j := 0, i := 0, sz := 15, c := 0, d := 0, dn := 0, cu := 0 })))
   (Tree.chk (XV.a (AV.c (CV.v (Value.bool (Prod.snd (Prod.snd (doRF x t k v s_3)))))) = XV.a (AV.c (CV.v (Value.bool (Prod.snd (Prod.snd (doRF x t k v (vF ws))))))))
   (Tree.chk (RnOk 1 7 12 fun a a_1 => (List.getD [0, 2, 4, 7, 8, 11, 10] a 0, a_1))
   (Tree.chk (RgAll 12 (fun a a_1 => (List.getD [0, 2, 4, 7, 8, 11, 10] a 0, a_1)) (fun a a_1 => (List.getD [0, 0, 1, 0, 2, 0, 0, 3, 4, 0, 6, 5] a 0, a_1)) [(Ent.ws (Prod.fst (Prod.snd s)) (Prod.snd (Prod.snd s)) (Prod.fst s)), (Ent.mkBox 40 [iv ok_, CV.v (Value.bool ob), iv on]), (Ent.mkBox 25 [iv x.1, iv x.2, iv x.3, iv x.4, iv x.5, iv x.6, iv x.7, iv x.8, iv x.9, iv x.10, iv x.11, iv x.12, CV.sl 0 0 0 2 (List.length ws) cap, iv x.13, iv x.14]), (Ent.mkBox 29 [iv k, iv v]), (Ent.mkBox 42 [iv ck, iv co, iv cq, iv cw, CV.v (Value.bool cb)]), { own := false, box := false, ty := 37, sz := 2, m := 1, n := fun x => 0, cap := fun x => 0, f := fun x i => [iv (0 : Int), iv (0 : Int)], ov := [] }, { own := false, box := false, ty := 37, sz := 2, m := 1, n := fun x => 0, cap := fun x => 0, f := fun x i => [iv (0 : Int), iv (0 : Int)], ov := [] }, (Ent.ws true (c 1) (doRowF x t k v (List.take (List.length ws) (List.drop 0 (Prod.fst s_2))))), (Ent.mkBox 25 [iv (Prod.fst (doRF x t k v (List.take (List.length ws) (List.drop 0 (Prod.fst s_2))))).1, iv (Prod.fst (doRF x t k v (List.take (List.length ws) (List.drop 0 (Prod.fst s_2))))).2, iv (Prod.fst (doRF x t k v (List.take (List.length ws) (List.drop 0 (Prod.fst s_2))))).3, iv (Prod.fst (doRF x t k v (List.take (List.length ws) (List.drop 0 (Prod.fst s_2))))).4, iv (Prod.fst (doRF x t k v (List.take (List.length ws) (List.drop 0 (Prod.fst s_2))))).5, iv (Prod.fst (doRF x t k v (List.take (List.length ws) (List.drop 0 (Prod.fst s_2))))).6, iv (Prod.fst (doRF x t k v (List.take (List.length ws) (List.drop 0 (Prod.fst s_2))))).7, iv (Prod.fst (doRF x t k v (List.take (List.length ws) (List.drop 0 (Prod.fst s_2))))).8, iv (Prod.fst (doRF x t k v (List.take (List.length ws) (List.drop 0 (Prod.fst s_2))))).9, iv (Prod.fst (doRF x t k v (List.take (List.length ws) (List.drop 0 (Prod.fst s_2))))).10, iv (Prod.fst (doRF x t k v (List.take (List.length ws) (List.drop 0 (Prod.fst s_2))))).11, iv (Prod.fst (doRF x t k v (List.take (List.length ws) (List.drop 0 (Prod.fst s_2))))).12, CV.sl 7 0 (c 2) 2 (List.length (Prod.fst (Prod.snd (doRF x t k v (List.take (List.length ws) (List.drop 0 (Prod.fst s_2))))))) (c 0), iv (Prod.fst (doRF x t k v (List.take (List.length ws) (List.drop 0 (Prod.fst s_2))))).13, iv (Prod.fst (doRF x t k v (List.take (List.length ws) (List.drop 0 (Prod.fst s_2))))).14]), (Ent.ws false (c_1 0) s_3), (Ent.mkBox 25 [iv (Prod.fst (doRF x t k v s_3)).1, iv (Prod.fst (doRF x t k v s_3)).2, iv (Prod.fst (doRF x t k v s_3)).3, iv (Prod.fst (doRF x t k v s_3)).4, iv (Prod.fst (doRF x t k v s_3)).5, iv (Prod.fst (doRF x t k v s_3)).6, iv (Prod.fst (doRF x t k v s_3)).7, iv (Prod.fst (doRF x t k v s_3)).8, iv (Prod.fst (doRF x t k v s_3)).9, iv (Prod.fst (doRF x t k v s_3)).10, iv (Prod.fst (doRF x t k v s_3)).11, iv (Prod.fst (doRF x t k v s_3)).12, CV.sl 11 0 0 2 (List.length (Prod.fst (Prod.snd (doRF x t k v s_3)))) (c_2 0), iv (Prod.fst (doRF x t k v s_3)).13, iv (Prod.fst (doRF x t k v s_3)).14]), (Ent.ws false (c_2 0) (Prod.fst (Prod.snd (doRF x t k v s_3))))] 7 0 [(Ent.ws false cap ws), (Ent.mkBox 25 [iv x.1, iv x.2, iv x.3, iv x.4, iv x.5, iv x.6, iv x.7, iv x.8, iv x.9, iv x.10, iv x.11, iv x.12, CV.sl 0 0 0 2 (List.length ws) cap, iv x.13, iv x.14]), (Ent.mkBox 42 [iv ck, iv co, iv cq, iv cw, CV.v (Value.bool cb)]), (Ent.ws true (Subtype.val s_4).3 (doRowF x t k v (vF ws))), (Ent.mkBox 25 [iv (Prod.fst (doRF x t k v (vF ws))).1, iv (Prod.fst (doRF x t k v (vF ws))).2, iv (Prod.fst (doRF x t k v (vF ws))).3, iv (Prod.fst (doRF x t k v (vF ws))).4, iv (Prod.fst (doRF x t k v (vF ws))).5, iv (Prod.fst (doRF x t k v (vF ws))).6, iv (Prod.fst (doRF x t k v (vF ws))).7, iv (Prod.fst (doRF x t k v (vF ws))).8, iv (Prod.fst (doRF x t k v (vF ws))).9, iv (Prod.fst (doRF x t k v (vF ws))).10, iv (Prod.fst (doRF x t k v (vF ws))).11, iv (Prod.fst (doRF x t k v (vF ws))).12, CV.sl 3 0 (Subtype.val s_4).1 2 (List.length (Prod.fst (Prod.snd (doRF x t k v (vF ws))))) (Subtype.val s_4).2, iv (Prod.fst (doRF x t k v (vF ws))).13, iv (Prod.fst (doRF x t k v (vF ws))).14]), (Ent.ws false (Subtype.val s_4).5 (Prod.fst (Prod.snd (doRF x t k v (vF ws))))), (Ent.mkBox 25 [iv (Prod.fst (doRF x t k v (vF ws))).1, iv (Prod.fst (doRF x t k v (vF ws))).2, iv (Prod.fst (doRF x t k v (vF ws))).3, iv (Prod.fst (doRF x t k v (vF ws))).4, iv (Prod.fst (doRF x t k v (vF ws))).5, iv (Prod.fst (doRF x t k v (vF ws))).6, iv (Prod.fst (doRF x t k v (vF ws))).7, iv (Prod.fst (doRF x t k v (vF ws))).8, iv (Prod.fst (doRF x t k v (vF ws))).9, iv (Prod.fst (doRF x t k v (vF ws))).10, iv (Prod.fst (doRF x t k v (vF ws))).11, iv (Prod.fst (doRF x t k v (vF ws))).12, CV.sl 5 0 0 2 (List.length (Prod.fst (Prod.snd (doRF x t k v (vF ws))))) (Subtype.val s_4).4, iv (Prod.fst (doRF x t k v (vF ws))).13, iv (Prod.fst (doRF x t k v (vF ws))).14])])
   (Tree.need True)))))))))))))))))
   (Tree.chk (AV.agg [iv k, iv v] = AV.agg [iv k, iv v])
   (Tree.chk (AV.c (iv t) = AV.c (iv t))
   (Tree.chk (AV.agg [iv x.1, iv x.2, iv x.3, iv x.4, iv x.5, iv x.6, iv x.7, iv x.8, iv x.9, iv x.10, iv x.11, iv x.12, CV.sl 0 0 0 2 (List.length ws) cap, iv x.13, iv x.14] = AV.agg [iv x.1, iv x.2, iv x.3, iv x.4, iv x.5, iv x.6, iv x.7, iv x.8, iv x.9, iv x.10, iv x.11, iv x.12, CV.sl 0 0 0 2 (List.length ws) cap, iv x.13, iv x.14])
   (Tree.some_ (List (Int × Int) × Bool × Nat) fun s => Tree.callf 13 [AV.agg [iv x.1, iv x.2, iv x.3, iv x.4, iv x.5, iv x.6, iv x.7, iv x.8, iv x.9, iv x.10, iv x.11, iv x.12, CV.sl 0 0 0 2 (List.length ws) cap, iv x.13, iv x.14]] [(Ent.ws (Prod.fst (Prod.snd s_2)) (Prod.snd (Prod.snd s_2)) (Prod.fst s_2)), (Ent.mkBox 40 [iv ok_, CV.v (Value.bool ob), iv on]), (Ent.mkBox 25 [iv x.1, iv x.2, iv x.3, iv x.4, iv x.5, iv x.6, iv x.7, iv x.8, iv x.9, iv x.10, iv x.11, iv x.12, CV.sl 0 0 0 2 (List.length ws) cap, iv x.13, iv x.14]), (Ent.mkBox 29 [iv k, iv v]), (Ent.mkBox 42 [iv ck, iv co, iv cq, iv cw, CV.v (Value.bool cb)]), { own := false, box := false, ty := 37, sz := 2, m := 1, n := fun x => 0, cap := fun x => 0, f := fun x i => [iv (0 : Int), iv (0 : Int)], ov := [] }, { own := false, box := false, ty := 37, sz := 2, m := 1, n := fun x => 0, cap := fun x => 0, f := fun x i => [iv (0 : Int), iv (0 : Int)], ov := [] }, (Ent.ws true (c 1) (doRowF x t k v (List.take (List.length ws) (List.drop 0 (Prod.fst s_2))))), (Ent.mkBox 25 [iv (Prod.fst (doRF x t k v (List.take (List.length ws) (List.drop 0 (Prod.fst s_2))))).1, iv (Prod.fst (doRF x t k v (List.take (List.length ws) (List.drop 0 (Prod.fst s_2))))).2, iv (Prod.fst (doRF x t k v (List.take (List.length ws) (List.drop 0 (Prod.fst s_2))))).3, iv (Prod.fst (doRF x t k v (List.take (List.length ws) (List.drop 0 (Prod.fst s_2))))).4, iv (Prod.fst (doRF x t k v (List.take (List.length ws) (List.drop 0 (Prod.fst s_2))))).5, iv (Prod.fst (doRF x t k v (List.take (List.length ws) (List.drop 0 (Prod.fst s_2))))).6, iv (Prod.fst (doRF x t k v (List.take (List.length ws) (List.drop 0 (Prod.fst s_2))))).7, iv (Prod.fst (doRF x t k v (List.take (List.length ws) (List.drop 0 (Prod.fst s_2))))).8, iv (Prod.fst (doRF x t k v (List.take (List.length ws) (List.drop 0 (Prod.fst s_2))))).9, iv (Prod.fst (doRF x t k v (List.take (List.length ws) (List.drop 0 (Prod.fst s_2))))).10, iv (Prod.fst (doRF x t k v (List.take (List.length ws) (List.drop 0 (Prod.fst s_2))))).11, iv (Prod.fst (doRF x t k v (List.take (List.length ws) (List.drop 0 (Prod.fst s_2))))).12, CV.sl 7 0 (c 2) 2 (List.length (Prod.fst (Prod.snd (doRF x t k v (List.take (List.length ws) (List.drop 0 (Prod.fst s_2))))))) (c 0), iv (Prod.fst (doRF x t k v (List.take (List.length ws) (List.drop 0 (Prod.fst s_2))))).13, iv (Prod.fst (doRF x t k v (List.take (List.length ws) (List.drop 0 (Prod.fst s_2))))).14]), (Ent.mkBox 25 [iv (0 : Int), iv (0 : Int), iv (0 : Int), iv (0 : Int), iv (0 : Int), iv (0 : Int), iv (0 : Int), iv (0 : Int), iv (0 : Int), iv (0 : Int), iv (0 : Int), iv (0 : Int), CV.v (Value.slice none 0 0), iv (0 : Int), iv (0 : Int)])] (copy2C x (Prod.fst s) (Prod.fst (Prod.snd s)) 0 (List.length ws) cap (Prod.snd (Prod.snd s)) 10 [0]) fun c_1 => Tree.chk (AV.agg [iv k, iv v] = AV.agg [iv k, iv v])
   (Tree.chk (AV.c (iv t) = AV.c (iv t))
   (Tree.some_ (List (Int × Int)) fun s_3 => Tree.callf 16 [AV.agg [iv x.1, iv x.2, iv x.3, iv x.4, iv x.5, iv x.6, iv x.7, iv x.8, iv x.9, iv x.10, iv x.11, iv x.12, CV.sl 10 0 0 2 (List.length (List.take (List.length ws) (List.drop 0 (Prod.fst s)))) (c_1 0), iv x.13, iv x.14], AV.c (iv t), AV.agg [iv k, iv v]] [(Ent.ws (Prod.fst (Prod.snd s)) (Prod.snd (Prod.snd s)) (Prod.fst s)), (Ent.mkBox 40 [iv ok_, CV.v (Value.bool ob), iv on]), (Ent.mkBox 25 [iv x.1, iv x.2, iv x.3, iv x.4, iv x.5, iv x.6, iv x.7, iv x.8, iv x.9, iv x.10, iv x.11, iv x.12, CV.sl 0 0 0 2 (List.length ws) cap, iv x.13, iv x.14]), (Ent.mkBox 29 [iv k, iv v]), (Ent.mkBox 42 [iv ck, iv co, iv cq, iv cw, CV.v (Value.bool cb)]), { own := false, box := false, ty := 37, sz := 2, m := 1, n := fun x => 0, cap := fun x => 0, f := fun x i => [iv (0 : Int), iv (0 : Int)], ov := [] }, { own := false, box := false, ty := 37, sz := 2, m := 1, n := fun x => 0, cap := fun x => 0, f := fun x i => [iv (0 : Int), iv (0 : Int)], ov := [] }, (Ent.ws true (c 1) (doRowF x t k v (List.take (List.length ws) (List.drop 0 (Prod.fst s_2))))), (Ent.mkBox 25 [iv (Prod.fst (doRF x t k v (List.take (List.length ws) (List.drop 0 (Prod.fst s_2))))).1, iv (Prod.fst (doRF x t k v (List.take (List.length ws) (List.drop 0 (Prod.fst s_2))))).2, iv (Prod.fst (doRF x t k v (List.take (List.length ws) (List.drop 0 (Prod.fst s_2))))).3, iv (Prod.fst (doRF x t k v (List.take (List.length ws) (List.drop 0 (Prod.fst s_2))))).4, iv (Prod.fst (doRF x t k v (List.take (List.length ws) (List.drop 0 (Prod.fst s_2))))).5, iv (Prod.fst (doRF x t k v (List.take (List.length ws) (List.drop 0 (Prod.fst s_2))))).6, iv (Prod.fst (doRF x t k v (List.take (List.length ws) (List.drop 0 (Prod.fst s_2))))).7, iv (Prod.fst (doRF x t k v (List.take (List.length ws) (List.drop 0 (Prod.fst s_2))))).8, iv (Prod.fst (doRF x t k v (List.take (List.length ws) (List.drop 0 (Prod.fst s_2))))).9, iv (Prod.fst (doRF x t k v (List.take (List.length ws) (List.drop 0 (Prod.fst s_2))))).10, iv (Prod.fst (doRF x t k v (List.take (List.length ws) (List.drop 0 (Prod.fst s_2))))).11, iv (Prod.fst (doRF x t k v (List.take (List.length ws) (List.drop 0 (Prod.fst s_2))))).12, CV.sl 7 0 (c 2) 2 (List.length (Prod.fst (Prod.snd (doRF x t k v (List.take (List.length ws) (List.drop 0 (Prod.fst s_2))))))) (c 0), iv (Prod.fst (doRF x t k v (List.take (List.length ws) (List.drop 0 (Prod.fst s_2))))).13, iv (Prod.fst (doRF x t k v (List.take (List.length ws) (List.drop 0 (Prod.fst s_2))))).14]), (Ent.mkBox 25 [iv (0 : Int), iv (0 : Int), iv (0 : Int), iv (0 : Int), iv (0 : Int), iv (0 : Int), iv (0 : Int), iv (0 : Int), iv (0 : Int), iv (0 : Int), iv (0 : Int), iv (0 : Int), CV.v (Value.slice none 0 0), iv (0 : Int), iv (0 : Int)]), (Ent.ws false (c_1 0) (List.take (List.length ws) (List.drop 0 (Prod.fst s))))] (doRC x t k v s_3 (c_1 0) 11 [10]) fun c_2 => Tree.chk (AV.c (CV.v (Value.bool (Prod.snd (Prod.snd (doRF x t k v s_3))))) = AV.c (CV.v (Value.bool (Prod.snd (Prod.snd (doRF x t k v s_3))))))
   (Tree.some_ { p // DoesP x t k v ws p } fun s_4 => Tree.chk (XV.a (AV.c (iv t)) = XV.a (AV.c (iv t)))
   (Tree.chk (XV.a (AV.c (CV.ptr { k := 2, j := 0, i := 0, sz := 15, c := 0, d := 0, dn := 0, cu := 0 })) = XV.a (AV.c (CV.ptr { k := 2, j := 0, i := 0, sz := 15, c := 0, d := 0, dn := 0, cu := 0 })))
   (Tree.chk (XV.a (AV.c (CV.ptr { k := 4, j := 0, i := 0, sz := 5, c := 0, d := 0, dn := 0, cu := 0 })) = XV.a (AV.c (CV.ptr { k := 4, j := 0, i := 0, sz := 5, c := 0, d := 0, dn := 0, cu := 0 })))
   (Tree.chk (XV.a (AV.c (CV.v (Value.bool true))) = XV.a (AV.c (CV.v (Value.bool true))))
   (Tree.chk (XV.a (AV.c (CV.ptr { k := 8, j := 0, i := 0, sz := 15, c := 0, d := 0, dn := 0, cu := 0 })) = XV.a (AV.c (CV.ptr { k := 8, j := 0, i := 0, sz := 15, c := 0, d := 0, dn := 0, cu := 0 })))
   (Tree.chk (XV.a (AV.c (CV.v (Value.bool (Prod.snd (Prod.snd (doRF x t k v (List.take (List.length ws) (List.drop 0 (Prod.fst s_2))))))))) = XV.a (AV.c (CV.v (Value.bool (Prod.snd (Prod.snd (doRF x t k v (vF ws))))))))
   (Tree.chk (XV.a (AV.c (CV.ptr { k := 9, j := 0, i := 0, sz := 15, c := 0, d := 0, dn := 0, cu := 0 })) = XV.a (AV.c (CV.ptr { k := 9, j := 0, i := 0, sz := 15, c := 0, d := 0, dn := 0, cu := 0 })))
   (Tree.chk (XV.a (AV.c (CV.v (Value.bool (Prod.snd (Prod.snd (doRF x t k v s_3)))))) = XV.a (AV.c (CV.v (Value.bool (Prod.snd (Prod.snd (doRF x t k v (vF ws))))))))
   (Tree.chk (RnOk 1 7 12 fun a a_1 => (List.getD [0, 2, 4, 7, 8, 11, 9] a 0, a_1))
   (Tree.chk (RgAll 12 (fun a a_1 => (List.getD [0, 2, 4, 7, 8, 11, 9] a 0, a_1)) (fun a a_1 => (List.getD [0, 0, 1, 0, 2, 0, 0, 3, 4, 6, 0, 5] a 0, a_1)) [(Ent.ws (Prod.fst (Prod.snd s)) (Prod.snd (Prod.snd s)) (Prod.fst s)), (Ent.mkBox 40 [iv ok_, CV.v (Value.bool ob), iv on]), (Ent.mkBox 25 [iv x.1, iv x.2, iv x.3, iv x.4, iv x.5, iv x.6, iv x.7, iv x.8, iv x.9, iv x.10, iv x.11, iv x.12, CV.sl 0 0 0 2 (List.length ws) cap, iv x.13, iv x.14]), (Ent.mkBox 29 [iv k, iv v]), (Ent.mkBox 42 [iv ck, iv co, iv cq, iv cw, CV.v (Value.bool cb)]), { own := false, box := false, ty := 37, sz := 2, m := 1, n := fun x => 0, cap := fun x => 0, f := fun x i => [iv (0 : Int), iv (0 : Int)], ov := [] }, { own := false, box := false, ty := 37, sz := 2, m := 1, n := fun x => 0, cap := fun x => 0, f := fun x i => [iv (0 : Int), iv (0 : Int)], ov := [] }, (Ent.ws true (c 1) (doRowF x t k v (List.take (List.length ws) (List.drop 0 (Prod.fst s_2))))), (Ent.mkBox 25 [iv (Prod.fst (doRF x t k v (List.take (List.length ws) (List.drop 0 (Prod.fst s_2))))).1, iv (Prod.fst (doRF x t k v (List.take (List.length ws) (List.drop 0 (Prod.fst s_2))))).2, iv (Prod.fst (doRF x t k v (List.take (List.length ws) (List.drop 0 (Prod.fst s_2))))).3, iv (Prod.fst (doRF x t k v (List.take (List.length ws) (List.drop 0 (Prod.fst s_2))))).4, iv (Prod.fst (doRF x t k v (List.take (List.length ws) (List.drop 0 (Prod.fst s_2))))).5, iv (Prod.fst (doRF x t k v (List.take (List.length ws) (List.drop 0 (Prod.fst s_2))))).6, iv (Prod.fst (doRF x t k v (List.take (List.length ws) (List.drop 0 (Prod.fst s_2))))).7, iv (Prod.fst (doRF x t k v (List.take (List.length ws) (List.drop 0 (Prod.fst s_2))))).8, iv (Prod.fst (doRF x t k v (List.take (List.length ws) (List.drop 0 (Prod.fst s_2))))).9, iv (Prod.fst (doRF x t k v (List.take (List.length ws) (List.drop 0 (Prod.fst s_2))))).10, iv (Prod.fst (doRF x t k v (List.take (List.length ws) (List.drop 0 (Prod.fst s_2))))).11, iv (Prod.fst (doRF x t k v (List.take (List.length ws) (List.drop 0 (Prod.fst s_2))))).12, CV.sl 7 0 (c 2) 2 (List.length (Prod.fst (Prod.snd (doRF x t k v (List.take (List.length ws) (List.drop 0 (Prod.fst s_2))))))) (c 0), iv (Prod.fst (doRF x t k v (List.take (List.length ws) (List.drop 0 (Prod.fst s_2))))).13, iv (Prod.fst (doRF x t k v (List.take (List.length ws) (List.drop 0 (Prod.fst s_2))))).14]), (Ent.mkBox 25 [iv (Prod.fst (doRF x t k v s_3)).1, iv (Prod.fst (doRF x t k v s_3)).2, iv (Prod.fst (doRF x t k v s_3)).3, iv (Prod.fst (doRF x t k v s_3)).4, iv (Prod.fst (doRF x t k v s_3)).5, iv (Prod.fst (doRF x t k v s_3)).6, iv (Prod.fst (doRF x t k v s_3)).7, iv (Prod.fst (doRF x t k v s_3)).8, iv (Prod.fst (doRF x t k v s_3)).9, iv (Prod.fst (doRF x t k v s_3)).10, iv (Prod.fst (doRF x t k v s_3)).11, iv (Prod.fst (doRF x t k v s_3)).12, CV.sl 11 0 0 2 (List.length (Prod.fst (Prod.snd (doRF x t k v s_3)))) (c_2 0), iv (Prod.fst (doRF x t k v s_3)).13, iv (Prod.fst (doRF x t k v s_3)).14]), (Ent.ws false (c_1 0) s_3), (Ent.ws false (c_2 0) (Prod.fst (Prod.snd (doRF x t k v s_3))))] 7 0 [(Ent.ws false cap ws), (Ent.mkBox 25 [iv x.1, iv x.2, iv x.3, iv x.4, iv x.5, iv x.6, iv x.7, iv x.8, iv x.9, iv x.10, iv x.11, iv x.12, CV.sl 0 0 0 2 (List.length ws) cap, iv x.13, iv x.14]), (Ent.mkBox 42 [iv ck, iv co, iv cq, iv cw, CV.v (Value.bool cb)]), (Ent.ws true (Subtype.val s_4).3 (doRowF x t k v (vF ws))), (Ent.mkBox 25 [iv (Prod.fst (doRF x t k v (vF ws))).1, iv (Prod.fst (doRF x t k v (vF ws))).2, iv (Prod.fst (doRF x t k v (vF ws))).3, iv (Prod.fst (doRF x t k v (vF ws))).4, iv (Prod.fst (doRF x t k v (vF ws))).5, iv (Prod.fst (doRF x t k v (vF ws))).6, iv (Prod.fst (doRF x t k v (vF ws))).7, iv (Prod.fst (doRF x t k v (vF ws))).8, iv (Prod.fst (doRF x t k v (vF ws))).9, iv (Prod.fst (doRF x t k v (vF ws))).10, iv (Prod.fst (doRF x t k v (vF ws))).11, iv (Prod.fst (doRF x t k v (vF ws))).12, CV.sl 3 0 (Subtype.val s_4).1 2 (List.length (Prod.fst (Prod.snd (doRF x t k v (vF ws))))) (Subtype.val s_4).2, iv (Prod.fst (doRF x t k v (vF ws))).13, iv (Prod.fst (doRF x t k v (vF ws))).14]), (Ent.ws false (Subtype.val s_4).5 (Prod.fst (Prod.snd (doRF x t k v (vF ws))))), (Ent.mkBox 25 [iv (Prod.fst (doRF x t k v (vF ws))).1, iv (Prod.fst (doRF x t k v (vF ws))).2, iv (Prod.fst (doRF x t k v (vF ws))).3, iv (Prod.fst (doRF x t k v (vF ws))).4, iv (Prod.fst (doRF x t k v (vF ws))).5, iv (Prod.fst (doRF x t k v (vF ws))).6, iv (Prod.fst (doRF x t k v (vF ws))).7, iv (Prod.fst (doRF x t k v (vF ws))).8, iv (Prod.fst (doRF x t k v (vF ws))).9, iv (Prod.fst (doRF x t k v (vF ws))).10, iv (Prod.fst (doRF x t k v (vF ws))).11, iv (Prod.fst (doRF x t k v (vF ws))).12, CV.sl 5 0 0 2 (List.length (Prod.fst (Prod.snd (doRF x t k v (vF ws))))) (Subtype.val s_4).4, iv (Prod.fst (doRF x t k v (vF ws))).13, iv (Prod.fst (doRF x t k v (vF ws))).14])])
   (Tree.need True))))))))))))))))))
   (Tree.every { p // DoesP x t k v ws p } fun s => Tree.br (!!Prod.snd (Prod.snd (doRF x t k v (vF ws))) == Prod.snd (Prod.snd (doRF x t k v (vF ws))))
   (Tree.chk ((!!Prod.snd (Prod.snd (doRF x t k v (vF ws))) == Prod.snd (Prod.snd (doRF x t k v (vF ws)))) = true)
   (Tree.chk ((!!Prod.snd (Prod.snd (doRF x t k v (vF ws))) == Prod.snd (Prod.snd (doRF x t k v (vF ws)))) = true)
   (Tree.some_ ((List (Int × Int) × Bool × Nat) × List (Int × Int) × Bool × Nat) fun s_3 => Tree.callf 12 [AV.agg [iv (Prod.fst (doRF x t k v (vF ws))).1, iv (Prod.fst (doRF x t k v (vF ws))).2, iv (Prod.fst (doRF x t k v (vF ws))).3, iv (Prod.fst (doRF x t k v (vF ws))).4, iv (Prod.fst (doRF x t k v (vF ws))).5, iv (Prod.fst (doRF x t k v (vF ws))).6, iv (Prod.fst (doRF x t k v (vF ws))).7, iv (Prod.fst (doRF x t k v (vF ws))).8, iv (Prod.fst (doRF x t k v (vF ws))).9, iv (Prod.fst (doRF x t k v (vF ws))).10, iv (Prod.fst (doRF x t k v (vF ws))).11, iv (Prod.fst (doRF x t k v (vF ws))).12, CV.sl 3 0 (Subtype.val s).1 2 (List.length (Prod.fst (Prod.snd (doRF x t k v (vF ws))))) (Subtype.val s).2, iv (Prod.fst (doRF x t k v (vF ws))).13, iv (Prod.fst (doRF x t k v (vF ws))).14], AV.agg [iv (Prod.fst (doRF x t k v (vF ws))).1, iv (Prod.fst (doRF x t k v (vF ws))).2, iv (Prod.fst (doRF x t k v (vF ws))).3, iv (Prod.fst (doRF x t k v (vF ws))).4, iv (Prod.fst (doRF x t k v (vF ws))).5, iv (Prod.fst (doRF x t k v (vF ws))).6, iv (Prod.fst (doRF x t k v (vF ws))).7, iv (Prod.fst (doRF x t k v (vF ws))).8, iv (Prod.fst (doRF x t k v (vF ws))).9, iv (Prod.fst (doRF x t k v (vF ws))).10, iv (Prod.fst (doRF x t k v (vF ws))).11, iv (Prod.fst (doRF x t k v (vF ws))).12, CV.sl 5 0 0 2 (List.length (Prod.fst (Prod.snd (doRF x t k v (vF ws))))) (Subtype.val s).4, iv (Prod.fst (doRF x t k v (vF ws))).13, iv (Prod.fst (doRF x t k v (vF ws))).14]] [(Ent.ws false cap ws), (Ent.mkBox 25 [iv x.1, iv x.2, iv x.3, iv x.4, iv x.5, iv x.6, iv x.7, iv x.8, iv x.9, iv x.10, iv x.11, iv x.12, CV.sl 0 0 0 2 (List.length ws) cap, iv x.13, iv x.14]), (Ent.mkBox 42 [iv ck, iv co, iv cq, iv cw, CV.v (Value.bool cb)]), (Ent.ws true (Subtype.val s).3 (doRowF x t k v (vF ws))), (Ent.mkBox 25 [iv (Prod.fst (doRF x t k v (vF ws))).1, iv (Prod.fst (doRF x t k v (vF ws))).2, iv (Prod.fst (doRF x t k v (vF ws))).3, iv (Prod.fst (doRF x t k v (vF ws))).4, iv (Prod.fst (doRF x t k v (vF ws))).5, iv (Prod.fst (doRF x t k v (vF ws))).6, iv (Prod.fst (doRF x t k v (vF ws))).7, iv (Prod.fst (doRF x t k v (vF ws))).8, iv (Prod.fst (doRF x t k v (vF ws))).9, iv (Prod.fst (doRF x t k v (vF ws))).10, iv (Prod.fst (doRF x t k v (vF ws))).11, iv (Prod.fst (doRF x t k v (vF ws))).12, CV.sl 3 0 (Subtype.val s).1 2 (List.length (Prod.fst (Prod.snd (doRF x t k v (vF ws))))) (Subtype.val s).2, iv (Prod.fst (doRF x t k v (vF ws))).13, iv (Prod.fst (doRF x t k v (vF ws))).14]), (Ent.ws false (Subtype.val s).5 (Prod.fst (Prod.snd (doRF x t k v (vF ws))))), (Ent.mkBox 25 [iv (Prod.fst (doRF x t k v (vF ws))).1, iv (Prod.fst (doRF x t k v (vF ws))).2, iv (Prod.fst (doRF x t k v (vF ws))).3, iv (Prod.fst (doRF x t k v (vF ws))).4, iv (Prod.fst (doRF x t k v (vF ws))).5, iv (Prod.fst (doRF x t k v (vF ws))).6, iv (Prod.fst (doRF x t k v (vF ws))).7, iv (Prod.fst (doRF x t k v (vF ws))).8, iv (Prod.fst (doRF x t k v (vF ws))).9, iv (Prod.fst (doRF x t k v (vF ws))).10, iv (Prod.fst (doRF x t k v (vF ws))).11, iv (Prod.fst (doRF x t k v (vF ws))).12, CV.sl 5 0 0 2 (List.length (Prod.fst (Prod.snd (doRF x t k v (vF ws))))) (Subtype.val s).4, iv (Prod.fst (doRF x t k v (vF ws))).13, iv (Prod.fst (doRF x t k v (vF ws))).14])] (eq2C (Prod.fst (doRF x t k v (vF ws))) (Prod.fst (doRF x t k v (vF ws))) (Prod.fst (Prod.fst s_3)) (Prod.fst (Prod.snd s_3)) (Prod.fst (Prod.snd (Prod.fst s_3))) (Prod.fst (Prod.snd (Prod.snd s_3))) (Subtype.val s).1 (List.length (Prod.fst (Prod.snd (doRF x t k v (vF ws))))) (Subtype.val s).2 (Prod.snd (Prod.snd (Prod.fst s_3))) 0 (List.length (Prod.fst (Prod.snd (doRF x t k v (vF ws))))) (Subtype.val s).4 (Prod.snd (Prod.snd (Prod.snd s_3))) [3, 5]) fun c => Tree.chk ((!Prod.snd (Prod.snd (doRF x t k v (vF ws))) == Prod.snd (Prod.snd (doRF x t k v (vF ws)))) = false → (!!Prod.snd (Prod.snd (doRF x t k v (vF ws))) == Prod.snd (Prod.snd (doRF x t k v (vF ws)))) = true)
   (Tree.br (bif !Prod.snd (Prod.snd (doRF x t k v (vF ws))) == Prod.snd (Prod.snd (doRF x t k v (vF ws))) then true else !sameF (Prod.fst (doRF x t k v (vF ws))) (Prod.fst (doRF x t k v (vF ws))) (List.take (List.length (Prod.fst (Prod.snd (doRF x t k v (vF ws))))) (List.drop (Subtype.val s).1 (Prod.fst (Prod.fst s_3)))) (List.take (List.length (Prod.fst (Prod.snd (doRF x t k v (vF ws))))) (List.drop 0 (Prod.fst (Prod.snd s_3)))))
   (Tree.done (XV.a (AV.c (CV.v (Value.bool false)))) [(Ent.ws false cap ws), Ent.dead, Ent.dead, Ent.dead, Ent.dead, Ent.dead, Ent.dead])
   (Tree.some_ Unit fun s_4 => Tree.both
   (Tree.every (Nat → Nat → Nat) fun c => Tree.sub
   (Tree.some_ (Nat → Nat) fun d => Tree.chk (some (XV.a (AV.c (CV.v (Value.bool true)))) = some (XV.a (AV.c (CV.v (Value.bool true)))))
   (Tree.chk (EqH [] [])
   (Tree.chk (0 = 0)
   (Tree.chk True
   (Tree.need True))))))
   (Tree.both
   (Tree.every (Nat → Nat → Nat) fun c => Tree.sub
   (Tree.some_ (Nat → Nat) fun d => Tree.chk (some (XV.a (AV.c (CV.v (Value.bool true)))) = some (XV.a (AV.c (CV.v (Value.bool true)))))
   (Tree.chk (EqH [] [])
   (Tree.chk (0 = 0)
   (Tree.chk True
   (Tree.need True))))))
   (Tree.both
   (Tree.every (Nat → Nat → Nat) fun c => Tree.sub
   (Tree.chk (true = true → 0 < 1 ∧ 0 < 1)
   (Tree.some_ (Nat → Nat) fun d => Tree.chk (some (XV.opt true (AV.agg [iv x.1, iv x.2, iv x.3, iv x.4, iv x.5, iv x.6, iv x.7, iv x.8, iv x.9, iv x.10, iv x.11, iv x.12, CV.sl 0 0 0 2 (List.length ws) cap, iv x.13, iv x.14])) = some (XV.opt true (AV.agg [iv x.1, iv x.2, iv x.3, iv x.4, iv x.5, iv x.6, iv x.7, iv x.8, iv x.9, iv x.10, iv x.11, iv x.12, CV.sl 0 0 0 2 (List.length ws) cap, iv x.13, iv x.14])))
   (Tree.chk (EqH [] [])
   (Tree.chk (0 = 0)
   (Tree.chk True
   (Tree.need True)))))))
   (Tree.both
   (Tree.every (Nat → Nat → Nat) fun c => Tree.sub
   (Tree.some_ (Nat → Nat) fun d => Tree.chk (some (XV.opt true (AV.c (iv t))) = some (XV.opt true (AV.c (iv t))))
   (Tree.chk (EqH [] [])
   (Tree.chk (0 = 0)
   (Tree.chk True
   (Tree.need True))))))
   (Tree.both
   (Tree.every (Nat → Nat → Nat) fun c => Tree.sub
   (Tree.chk (true = true → 0 < 1 ∧ 0 < 1)
   (Tree.some_ (Nat → Nat) fun d => Tree.chk (some (XV.opt true (AV.agg [iv ck, iv co, iv cq, iv cw, CV.v (Value.bool cb)])) = some (XV.opt true (AV.agg [iv ck, iv co, iv cq, iv cw, CV.v (Value.bool cb)])))
   (Tree.chk (EqH [] [])
   (Tree.chk (0 = 0)
   (Tree.chk True
   (Tree.need True)))))))
   (Tree.both
   (Tree.every (Nat → Nat → Nat) fun c => Tree.sub
   (Tree.br true
   (Tree.chk (true = true)
   (Tree.chk (true = true)
   (Tree.chk (true = true)
   (Tree.callf 17 [AV.agg [iv x.1, iv x.2, iv x.3, iv x.4, iv x.5, iv x.6, iv x.7, iv x.8, iv x.9, iv x.10, iv x.11, iv x.12, CV.sl 0 0 0 2 (List.length ws) cap, iv x.13, iv x.14], AV.c (iv t), AV.agg [iv ck, iv co, iv cq, iv cw, CV.v (Value.bool cb)]] [(Ent.ws false cap ws), { own := false, box := false, ty := 25, sz := 15, m := 1, n := fun a => 1, cap := fun a => 1, f := fun a a_1 => [iv x.1, iv x.2, iv x.3, iv x.4, iv x.5, iv x.6, iv x.7, iv x.8, iv x.9, iv x.10, iv x.11, iv x.12, CV.sl 0 0 0 2 (List.length ws) cap, iv x.13, iv x.14], ov := [] }, { own := false, box := false, ty := 42, sz := 5, m := 1, n := fun a => 1, cap := fun a => 1, f := fun a a_1 => [iv ck, iv co, iv cq, iv cw, CV.v (Value.bool cb)], ov := [] }, (Ent.ws false (Prod.snd (Prod.snd (Prod.fst s_3))) (Prod.fst (Prod.fst s_3))), { own := false, box := false, ty := 25, sz := 15, m := 1, n := fun a => 1, cap := fun a => 1, f := fun a a_1 => [iv (Prod.fst (doRF x t k v (vF ws))).1, iv (Prod.fst (doRF x t k v (vF ws))).2, iv (Prod.fst (doRF x t k v (vF ws))).3, iv (Prod.fst (doRF x t k v (vF ws))).4, iv (Prod.fst (doRF x t k v (vF ws))).5, iv (Prod.fst (doRF x t k v (vF ws))).6, iv (Prod.fst (doRF x t k v (vF ws))).7, iv (Prod.fst (doRF x t k v (vF ws))).8, iv (Prod.fst (doRF x t k v (vF ws))).9, iv (Prod.fst (doRF x t k v (vF ws))).10, iv (Prod.fst (doRF x t k v (vF ws))).11, iv (Prod.fst (doRF x t k v (vF ws))).12, CV.sl 3 0 (Subtype.val s).1 2 (List.length (Prod.fst (Prod.snd (doRF x t k v (vF ws))))) (Subtype.val s).2, iv (Prod.fst (doRF x t k v (vF ws))).13, iv (Prod.fst (doRF x t k v (vF ws))).14], ov := [] }, (Ent.ws false (Prod.snd (Prod.snd (Prod.snd s_3))) (Prod.fst (Prod.snd s_3))), { own := false, box := false, ty := 25, sz := 15, m := 1, n := fun a => 1, cap := fun a => 1, f := fun a a_1 => [iv (Prod.fst (doRF x t k v (vF ws))).1, iv (Prod.fst (doRF x t k v (vF ws))).2, iv (Prod.fst (doRF x t k v (vF ws))).3, iv (Prod.fst (doRF x t k v (vF ws))).4, iv (Prod.fst (doRF x t k v (vF ws))).5, iv (Prod.fst (doRF x t k v (vF ws))).6, iv (Prod.fst (doRF x t k v (vF ws))).7, iv (Prod.fst (doRF x t k v (vF ws))).8, iv (Prod.fst (doRF x t k v (vF ws))).9, iv (Prod.fst (doRF x t k v (vF ws))).10, iv (Prod.fst (doRF x t k v (vF ws))).11, iv (Prod.fst (doRF x t k v (vF ws))).12, CV.sl 5 0 0 2 (List.length (Prod.fst (Prod.snd (doRF x t k v (vF ws))))) (Subtype.val s).4, iv (Prod.fst (doRF x t k v (vF ws))).13, iv (Prod.fst (doRF x t k v (vF ws))).14], ov := [] }] (canC x t ck co cq cw cb ws false 0 (List.length ws) cap cap [0]) fun c => Tree.some_ (Nat → Nat) fun d => Tree.chk True
   (Tree.chk (some (XV.a (AV.c (CV.v (Value.bool (canF x t ck cq (List.take (List.length ws) (List.drop 0 ws))))))) = some (XV.a (AV.c (CV.v (Value.bool (canF x t ck cq (List.take (List.length ws) (List.drop 0 ws))))))))
   (Tree.chk (EqH [] [])
   (Tree.chk (0 = 0)
   (Tree.chk True
   (Tree.need True)))))))))
   (Tree.some_ (Nat → Nat) fun d => Tree.chk True
   (Tree.chk (some (XV.a (AV.c (CV.v (Value.tuple { toList := [] })))) = some (XV.a (AV.c (CV.v (Value.bool (canF x t ck cq (List.take (List.length ws) (List.drop 0 ws))))))))
   (Tree.chk (EqH [] [])
   (Tree.chk (0 = 0)
   (Tree.chk True
   (Tree.need True))))))))
   (Tree.both
   (Tree.every (Nat → Nat → Nat) fun c => Tree.sub
   (Tree.chk (true = true → 0 < 1 ∧ 0 < 1)
   (Tree.some_ (Nat → Nat) fun d => Tree.chk (some (XV.opt true (AV.agg [iv x.1, iv x.2, iv x.3, iv x.4, iv x.5, iv x.6, iv x.7, iv x.8, iv x.9, iv x.10, iv x.11, iv x.12, CV.sl 0 0 0 2 (List.length ws) cap, iv x.13, iv x.14])) = some (XV.opt true (AV.agg [iv x.1, iv x.2, iv x.3, iv x.4, iv x.5, iv x.6, iv x.7, iv x.8, iv x.9, iv x.10, iv x.11, iv x.12, CV.sl 0 0 0 2 (List.length ws) cap, iv x.13, iv x.14])))
   (Tree.chk (EqH [] [])
   (Tree.chk (0 = 0)
   (Tree.chk True
   (Tree.need True)))))))
   (Tree.both
   (Tree.every (Nat → Nat → Nat) fun c => Tree.sub
   (Tree.some_ (Nat → Nat) fun d => Tree.chk (some (XV.opt true (AV.c (iv t))) = some (XV.opt true (AV.c (iv t))))
   (Tree.chk (EqH [] [])
   (Tree.chk (0 = 0)
   (Tree.chk True
   (Tree.need True))))))
   (Tree.both
   (Tree.every (Nat → Nat → Nat) fun c => Tree.sub
   (Tree.chk (true = true → 0 < 1 ∧ 0 < 1)
   (Tree.some_ (Nat → Nat) fun d => Tree.chk (some (XV.opt true (AV.agg [iv ck, iv co, iv cq, iv cw, CV.v (Value.bool cb)])) = some (XV.opt true (AV.agg [iv ck, iv co, iv cq, iv cw, CV.v (Value.bool cb)])))
   (Tree.chk (EqH [] [])
   (Tree.chk (0 = 0)
   (Tree.chk True
   (Tree.need True)))))))
   (Tree.both
   (Tree.every (Nat → Nat → Nat) fun c => Tree.hyp True
   (Tree.sub
   (Tree.br true
   (Tree.chk (true = true)
   (Tree.chk (true = true)
   (Tree.chk (true = true)
   (Tree.callf 18 [AV.agg [iv x.1, iv x.2, iv x.3, iv x.4, iv x.5, iv x.6, iv x.7, iv x.8, iv x.9, iv x.10, iv x.11, iv x.12, CV.sl 0 0 0 2 (List.length ws) cap, iv x.13, iv x.14], AV.c (iv t), AV.agg [iv ck, iv co, iv cq, iv cw, CV.v (Value.bool cb)]] [(Ent.ws false cap ws), { own := false, box := false, ty := 25, sz := 15, m := 1, n := fun a => 1, cap := fun a => 1, f := fun a a_1 => [iv x.1, iv x.2, iv x.3, iv x.4, iv x.5, iv x.6, iv x.7, iv x.8, iv x.9, iv x.10, iv x.11, iv x.12, CV.sl 0 0 0 2 (List.length ws) cap, iv x.13, iv x.14], ov := [] }, { own := false, box := false, ty := 42, sz := 5, m := 1, n := fun a => 1, cap := fun a => 1, f := fun a a_1 => [iv ck, iv co, iv cq, iv cw, CV.v (Value.bool cb)], ov := [] }, (Ent.ws false (Prod.snd (Prod.snd (Prod.fst s_3))) (Prod.fst (Prod.fst s_3))), { own := false, box := false, ty := 25, sz := 15, m := 1, n := fun a => 1, cap := fun a => 1, f := fun a a_1 => [iv (Prod.fst (doRF x t k v (vF ws))).1, iv (Prod.fst (doRF x t k v (vF ws))).2, iv (Prod.fst (doRF x t k v (vF ws))).3, iv (Prod.fst (doRF x t k v (vF ws))).4, iv (Prod.fst (doRF x t k v (vF ws))).5, iv (Prod.fst (doRF x t k v (vF ws))).6, iv (Prod.fst (doRF x t k v (vF ws))).7, iv (Prod.fst (doRF x t k v (vF ws))).8, iv (Prod.fst (doRF x t k v (vF ws))).9, iv (Prod.fst (doRF x t k v (vF ws))).10, iv (Prod.fst (doRF x t k v (vF ws))).11, iv (Prod.fst (doRF x t k v (vF ws))).12, CV.sl 3 0 (Subtype.val s).1 2 (List.length (Prod.fst (Prod.snd (doRF x t k v (vF ws))))) (Subtype.val s).2, iv (Prod.fst (doRF x t k v (vF ws))).13, iv (Prod.fst (doRF x t k v (vF ws))).14], ov := [] }, (Ent.ws false (Prod.snd (Prod.snd (Prod.snd s_3))) (Prod.fst (Prod.snd s_3))), { own := false, box := false, ty := 25, sz := 15, m := 1, n := fun a => 1, cap := fun a => 1, f := fun a a_1 => [iv (Prod.fst (doRF x t k v (vF ws))).1, iv (Prod.fst (doRF x t k v (vF ws))).2, iv (Prod.fst (doRF x t k v (vF ws))).3, iv (Prod.fst (doRF x t k v (vF ws))).4, iv (Prod.fst (doRF x t k v (vF ws))).5, iv (Prod.fst (doRF x t k v (vF ws))).6, iv (Prod.fst (doRF x t k v (vF ws))).7, iv (Prod.fst (doRF x t k v (vF ws))).8, iv (Prod.fst (doRF x t k v (vF ws))).9, iv (Prod.fst (doRF x t k v (vF ws))).10, iv (Prod.fst (doRF x t k v (vF ws))).11, iv (Prod.fst (doRF x t k v (vF ws))).12, CV.sl 5 0 0 2 (List.length (Prod.fst (Prod.snd (doRF x t k v (vF ws))))) (Subtype.val s).4, iv (Prod.fst (doRF x t k v (vF ws))).13, iv (Prod.fst (doRF x t k v (vF ws))).14], ov := [] }] (canRC x t ck co cq cw cb ws cap [0]) fun c => Tree.some_ (Nat → Nat) fun d => Tree.chk True
   (Tree.chk (some (XV.a (AV.c (CV.v (Value.bool (canRF x t ck cq ws))))) = some (XV.a (AV.c (CV.v (Value.bool (canRF x t ck cq ws))))))
   (Tree.chk (EqH [] [])
   (Tree.chk (0 = 0)
   (Tree.chk True
   (Tree.need True)))))))))
   (Tree.some_ (Nat → Nat) fun d => Tree.chk True
   (Tree.chk (some (XV.a (AV.c (CV.v (Value.tuple { toList := [] })))) = some (XV.a (AV.c (CV.v (Value.bool (canRF x t ck cq ws))))))
   (Tree.chk (EqH [] [])
   (Tree.chk (0 = 0)
   (Tree.chk True
   (Tree.need True)))))))))
   (Tree.both
   (Tree.every (Nat → Nat → Nat) fun c => Tree.hyp True
   (Tree.hyp True
   (Tree.sub
   (Tree.some_ (Nat → Nat) fun d => Tree.chk (some (XV.opt true (AV.c (CV.v (Value.bool (canF x t ck cq (List.take (List.length ws) (List.drop 0 ws)) == canRF x t ck cq ws))))) = some (XV.opt true (AV.c (CV.v (Value.bool (canF x t ck cq (List.take (List.length ws) (List.drop 0 ws)) == canRF x t ck cq ws))))))
   (Tree.chk (EqH [] [])
   (Tree.chk (0 = 0)
   (Tree.chk True
   (Tree.need True))))))))
   (Tree.both
   (Tree.every (Nat → Nat → Nat) fun c => Tree.hyp True
   (Tree.hyp True
   (Tree.sub
   (Tree.chk (true = true → true = true)
   (Tree.some_ (Nat → Nat) fun d => Tree.chk (some (XV.a (AV.c (CV.v (Value.bool (bif true then canF x t ck cq (List.take (List.length ws) (List.drop (0 : Nat) ws)) == canRF x t ck cq ws else false))))) = some (XV.a (AV.c (CV.v (Value.bool (bif true then canF x t ck cq (List.take (List.length ws) (List.drop (0 : Nat) ws)) == canRF x t ck cq ws else false))))))
   (Tree.chk (EqH [] [])
   (Tree.chk (0 = 0)
   (Tree.chk True
   (Tree.need True)))))))))
   (Tree.both
   (Tree.every (Nat → Nat → Nat) fun c => Tree.hyp True
   (Tree.hyp True
   (Tree.sub
   (Tree.some_ (Nat → Nat) fun d => Tree.chk (some (XV.a (AV.c (CV.v (Value.bool (bif true then canF x t ck cq (List.take (List.length ws) (List.drop (0 : Nat) ws)) == canRF x t ck cq ws else false))))) = some (XV.a (AV.c (CV.v (Value.bool (bif true then canF x t ck cq (List.take (List.length ws) (List.drop (0 : Nat) ws)) == canRF x t ck cq ws else false))))))
   (Tree.chk (EqH [] [])
   (Tree.chk (0 = 0)
   (Tree.chk True
   (Tree.need True))))))))
   (Tree.every (Nat → Nat → Nat) fun c => Tree.hyp True
   (Tree.hyp True
   (Tree.done (XV.a (AV.c (CV.v (Value.bool (bif true then canF x t ck cq (List.take (List.length ws) (List.drop 0 ws)) == canRF x t ck cq ws else false))))) [(Ent.ws false cap ws), Ent.dead, Ent.dead, Ent.dead, Ent.dead, Ent.dead, Ent.dead]))))))))))))))))))))
   (Tree.chk ((!!Prod.snd (Prod.snd (doRF x t k v (vF ws))) == Prod.snd (Prod.snd (doRF x t k v (vF ws)))) = true → False)
   (Tree.chk ((!Prod.snd (Prod.snd (doRF x t k v (vF ws))) == Prod.snd (Prod.snd (doRF x t k v (vF ws)))) = true)
   (Tree.br true
   (Tree.done (XV.a (AV.c (CV.v (Value.bool false)))) [(Ent.ws false cap ws), Ent.dead, Ent.dead, Ent.dead, Ent.dead, Ent.dead, Ent.dead])
   (Tree.some_ Unit fun s_3 => Tree.both
   (Tree.every (Nat → Nat → Nat) fun c => Tree.sub
   (Tree.some_ (Nat → Nat) fun d => Tree.chk (some (XV.a (AV.c (CV.v (Value.bool true)))) = some (XV.a (AV.c (CV.v (Value.bool true)))))
   (Tree.chk (EqH [] [])
   (Tree.chk (0 = 0)
   (Tree.chk True
   (Tree.need True))))))
   (Tree.both
   (Tree.every (Nat → Nat → Nat) fun c => Tree.sub
   (Tree.some_ (Nat → Nat) fun d => Tree.chk (some (XV.a (AV.c (CV.v (Value.bool true)))) = some (XV.a (AV.c (CV.v (Value.bool true)))))
   (Tree.chk (EqH [] [])
   (Tree.chk (0 = 0)
   (Tree.chk True
   (Tree.need True))))))
   (Tree.both
   (Tree.every (Nat → Nat → Nat) fun c => Tree.sub
   (Tree.chk (true = true → 0 < 1 ∧ 0 < 1)
   (Tree.some_ (Nat → Nat) fun d => Tree.chk (some (XV.opt true (AV.agg [iv x.1, iv x.2, iv x.3, iv x.4, iv x.5, iv x.6, iv x.7, iv x.8, iv x.9, iv x.10, iv x.11, iv x.12, CV.sl 0 0 0 2 (List.length ws) cap, iv x.13, iv x.14])) = some (XV.opt true (AV.agg [iv x.1, iv x.2, iv x.3, iv x.4, iv x.5, iv x.6, iv x.7, iv x.8, iv x.9, iv x.10, iv x.11, iv x.12, CV.sl 0 0 0 2 (List.length ws) cap, iv x.13, iv x.14])))
   (Tree.chk (EqH [] [])
   (Tree.chk (0 = 0)
   (Tree.chk True
   (Tree.need True)))))))
   (Tree.both
   (Tree.every (Nat → Nat → Nat) fun c => Tree.sub
   (Tree.some_ (Nat → Nat) fun d => Tree.chk (some (XV.opt true (AV.c (iv t))) = some (XV.opt true (AV.c (iv t))))
   (Tree.chk (EqH [] [])
   (Tree.chk (0 = 0)
   (Tree.chk True
   (Tree.need True))))))
   (Tree.both
   (Tree.every (Nat → Nat → Nat) fun c => Tree.sub
   (Tree.chk (true = true → 0 < 1 ∧ 0 < 1)
   (Tree.some_ (Nat → Nat) fun d => Tree.chk (some (XV.opt true (AV.agg [iv ck, iv co, iv cq, iv cw, CV.v (Value.bool cb)])) = some (XV.opt true (AV.agg [iv ck, iv co, iv cq, iv cw, CV.v (Value.bool cb)])))
   (Tree.chk (EqH [] [])
   (Tree.chk (0 = 0)
   (Tree.chk True
   (Tree.need True)))))))
   (Tree.both
   (Tree.every (Nat → Nat → Nat) fun c => Tree.sub
   (Tree.br true
   (Tree.chk (true = true)
   (Tree.chk (true = true)
   (Tree.chk (true = true)
   (Tree.callf 17 [AV.agg [iv x.1, iv x.2, iv x.3, iv x.4, iv x.5, iv x.6, iv x.7, iv x.8, iv x.9, iv x.10, iv x.11, iv x.12, CV.sl 0 0 0 2 (List.length ws) cap, iv x.13, iv x.14], AV.c (iv t), AV.agg [iv ck, iv co, iv cq, iv cw, CV.v (Value.bool cb)]] [(Ent.ws false cap ws), { own := false, box := false, ty := 25, sz := 15, m := 1, n := fun a => 1, cap := fun a => 1, f := fun a a_1 => [iv x.1, iv x.2, iv x.3, iv x.4, iv x.5, iv x.6, iv x.7, iv x.8, iv x.9, iv x.10, iv x.11, iv x.12, CV.sl 0 0 0 2 (List.length ws) cap, iv x.13, iv x.14], ov := [] }, { own := false, box := false, ty := 42, sz := 5, m := 1, n := fun a => 1, cap := fun a => 1, f := fun a a_1 => [iv ck, iv co, iv cq, iv cw, CV.v (Value.bool cb)], ov := [] }, (Ent.ws false (Subtype.val s).3 (doRowF x t k v (vF ws))), { own := false, box := false, ty := 25, sz := 15, m := 1, n := fun a => 1, cap := fun a => 1, f := fun a a_1 => [iv (Prod.fst (doRF x t k v (vF ws))).1, iv (Prod.fst (doRF x t k v (vF ws))).2, iv (Prod.fst (doRF x t k v (vF ws))).3, iv (Prod.fst (doRF x t k v (vF ws))).4, iv (Prod.fst (doRF x t k v (vF ws))).5, iv (Prod.fst (doRF x t k v (vF ws))).6, iv (Prod.fst (doRF x t k v (vF ws))).7, iv (Prod.fst (doRF x t k v (vF ws))).8, iv (Prod.fst (doRF x t k v (vF ws))).9, iv (Prod.fst (doRF x t k v (vF ws))).10, iv (Prod.fst (doRF x t k v (vF ws))).11, iv (Prod.fst (doRF x t k v (vF ws))).12, CV.sl 3 0 (Subtype.val s).1 2 (List.length (Prod.fst (Prod.snd (doRF x t k v (vF ws))))) (Subtype.val s).2, iv (Prod.fst (doRF x t k v (vF ws))).13, iv (Prod.fst (doRF x t k v (vF ws))).14], ov := [] }, (Ent.ws false (Subtype.val s).5 (Prod.fst (Prod.snd (doRF x t k v (vF ws))))), { own := false, box := false, ty := 25, sz := 15, m := 1, n := fun a => 1, cap := fun a => 1, f := fun a a_1 => [iv (Prod.fst (doRF x t k v (vF ws))).1, iv (Prod.fst (doRF x t k v (vF ws))).2, iv (Prod.fst (doRF x t k v (vF ws))).3, iv (Prod.fst (doRF x t k v (vF ws))).4, iv (Prod.fst (doRF x t k v (vF ws))).5, iv (Prod.fst (doRF x t k v (vF ws))).6, iv (Prod.fst (doRF x t k v (vF ws))).7, iv (Prod.fst (doRF x t k v (vF ws))).8, iv (Prod.fst (doRF x t k v (vF ws))).9, iv (Prod.fst (doRF x t k v (vF ws))).10, iv (Prod.fst (doRF x t k v (vF ws))).11, iv (Prod.fst (doRF x t k v (vF ws))).12, CV.sl 5 0 0 2 (List.length (Prod.fst (Prod.snd (doRF x t k v (vF ws))))) (Subtype.val s).4, iv (Prod.fst (doRF x t k v (vF ws))).13, iv (Prod.fst (doRF x t k v (vF ws))).14], ov := [] }] (canC x t ck co cq cw cb ws false 0 (List.length ws) cap cap [0]) fun c => Tree.some_ (Nat → Nat) fun d => Tree.chk True
   (Tree.chk (some (XV.a (AV.c (CV.v (Value.bool (canF x t ck cq (List.take (List.length ws) (List.drop 0 ws))))))) = some (XV.a (AV.c (CV.v (Value.bool (canF x t ck cq (List.take (List.length ws) (List.drop 0 ws))))))))
   (Tree.chk (EqH [] [])
   (Tree.chk (0 = 0)
   (Tree.chk True
   (Tree.need True)))))))))
   (Tree.some_ (Nat → Nat) fun d => Tree.chk True
   (Tree.chk (some (XV.a (AV.c (CV.v (Value.tuple { toList := [] })))) = some (XV.a (AV.c (CV.v (Value.bool (canF x t ck cq (List.take (List.length ws) (List.drop 0 ws))))))))
   (Tree.chk (EqH [] [])
   (Tree.chk (0 = 0)
   (Tree.chk True
   (Tree.need True))))))))
   (Tree.both
   (Tree.every (Nat → Nat → Nat) fun c => Tree.sub
   (Tree.chk (true = true → 0 < 1 ∧ 0 < 1)
   (Tree.some_ (Nat → Nat) fun d => Tree.chk (some (XV.opt true (AV.agg [iv x.1, iv x.2, iv x.3, iv x.4, iv x.5, iv x.6, iv x.7, iv x.8, iv x.9, iv x.10, iv x.11, iv x.12, CV.sl 0 0 0 2 (List.length ws) cap, iv x.13, iv x.14])) = some (XV.opt true (AV.agg [iv x.1, iv x.2, iv x.3, iv x.4, iv x.5, iv x.6, iv x.7, iv x.8, iv x.9, iv x.10, iv x.11, iv x.12, CV.sl 0 0 0 2 (List.length ws) cap, iv x.13, iv x.14])))
   (Tree.chk (EqH [] [])
   (Tree.chk (0 = 0)
   (Tree.chk True
   (Tree.need True)))))))
   (Tree.both
   (Tree.every (Nat → Nat → Nat) fun c => Tree.sub
   (Tree.some_ (Nat → Nat) fun d => Tree.chk (some (XV.opt true (AV.c (iv t))) = some (XV.opt true (AV.c (iv t))))
   (Tree.chk (EqH [] [])
   (Tree.chk (0 = 0)
   (Tree.chk True
   (Tree.need True))))))
   (Tree.both
   (Tree.every (Nat → Nat → Nat) fun c => Tree.sub
   (Tree.chk (true = true → 0 < 1 ∧ 0 < 1)
   (Tree.some_ (Nat → Nat) fun d => Tree.chk (some (XV.opt true (AV.agg [iv ck, iv co, iv cq, iv cw, CV.v (Value.bool cb)])) = some (XV.opt true (AV.agg [iv ck, iv co, iv cq, iv cw, CV.v (Value.bool cb)])))
   (Tree.chk (EqH [] [])
   (Tree.chk (0 = 0)
   (Tree.chk True
   (Tree.need True)))))))
   (Tree.both
   (Tree.every (Nat → Nat → Nat) fun c => Tree.hyp True
   (Tree.sub
   (Tree.br true
   (Tree.chk (true = true)
   (Tree.chk (true = true)
   (Tree.chk (true = true)
   (Tree.callf 18 [AV.agg [iv x.1, iv x.2, iv x.3, iv x.4, iv x.5, iv x.6, iv x.7, iv x.8, iv x.9, iv x.10, iv x.11, iv x.12, CV.sl 0 0 0 2 (List.length ws) cap, iv x.13, iv x.14], AV.c (iv t), AV.agg [iv ck, iv co, iv cq, iv cw, CV.v (Value.bool cb)]] [(Ent.ws false cap ws), { own := false, box := false, ty := 25, sz := 15, m := 1, n := fun a => 1, cap := fun a => 1, f := fun a a_1 => [iv x.1, iv x.2, iv x.3, iv x.4, iv x.5, iv x.6, iv x.7, iv x.8, iv x.9, iv x.10, iv x.11, iv x.12, CV.sl 0 0 0 2 (List.length ws) cap, iv x.13, iv x.14], ov := [] }, { own := false, box := false, ty := 42, sz := 5, m := 1, n := fun a => 1, cap := fun a => 1, f := fun a a_1 => [iv ck, iv co, iv cq, iv cw, CV.v (Value.bool cb)], ov := [] }, (Ent.ws false (Subtype.val s).3 (doRowF x t k v (vF ws))), { own := false, box := false, ty := 25, sz := 15, m := 1, n := fun a => 1, cap := fun a => 1, f := fun a a_1 => [iv (Prod.fst (doRF x t k v (vF ws))).1, iv (Prod.fst (doRF x t k v (vF ws))).2, iv (Prod.fst (doRF x t k v (vF ws))).3, iv (Prod.fst (doRF x t k v (vF ws))).4, iv (Prod.fst (doRF x t k v (vF ws))).5, iv (Prod.fst (doRF x t k v (vF ws))).6, iv (Prod.fst (doRF x t k v (vF ws))).7, iv (Prod.fst (doRF x t k v (vF ws))).8, iv (Prod.fst (doRF x t k v (vF ws))).9, iv (Prod.fst (doRF x t k v (vF ws))).10, iv (Prod.fst (doRF x t k v (vF ws))).11, iv (Prod.fst (doRF x t k v (vF ws))).12, CV.sl 3 0 (Subtype.val s).1 2 (List.length (Prod.fst (Prod.snd (doRF x t k v (vF ws))))) (Subtype.val s).2, iv (Prod.fst (doRF x t k v (vF ws))).13, iv (Prod.fst (doRF x t k v (vF ws))).14], ov := [] }, (Ent.ws false (Subtype.val s).5 (Prod.fst (Prod.snd (doRF x t k v (vF ws))))), { own := false, box := false, ty := 25, sz := 15, m := 1, n := fun a => 1, cap := fun a => 1, f := fun a a_1 => [iv (Prod.fst (doRF x t k v (vF ws))).1, iv (Prod.fst (doRF x t k v (vF ws))).2, iv (Prod.fst (doRF x t k v (vF ws))).3, iv (Prod.fst (doRF x t k v (vF ws))).4, iv (Prod.fst (doRF x t k v (vF ws))).5, iv (Prod.fst (doRF x t k v (vF ws))).6, iv (Prod.fst (doRF x t k v (vF ws))).7, iv (Prod.fst (doRF x t k v (vF ws))).8, iv (Prod.fst (doRF x t k v (vF ws))).9, iv (Prod.fst (doRF x t k v (vF ws))).10, iv (Prod.fst (doRF x t k v (vF ws))).11, iv (Prod.fst (doRF x t k v (vF ws))).12, CV.sl 5 0 0 2 (List.length (Prod.fst (Prod.snd (doRF x t k v (vF ws))))) (Subtype.val s).4, iv (Prod.fst (doRF x t k v (vF ws))).13, iv (Prod.fst (doRF x t k v (vF ws))).14], ov := [] }] (canRC x t ck co cq cw cb ws cap [0]) fun c => Tree.some_ (Nat → Nat) fun d => Tree.chk True
   (Tree.chk (some (XV.a (AV.c (CV.v (Value.bool (canRF x t ck cq ws))))) = some (XV.a (AV.c (CV.v (Value.bool (canRF x t ck cq ws))))))
   (Tree.chk (EqH [] [])
   (Tree.chk (0 = 0)
   (Tree.chk True
   (Tree.need True)))))))))
   (Tree.some_ (Nat → Nat) fun d => Tree.chk True
   (Tree.chk (some (XV.a (AV.c (CV.v (Value.tuple { toList := [] })))) = some (XV.a (AV.c (CV.v (Value.bool (canRF x t ck cq ws))))))
   (Tree.chk (EqH [] [])
   (Tree.chk (0 = 0)
   (Tree.chk True
   (Tree.need True)))))))))
   (Tree.both
   (Tree.every (Nat → Nat → Nat) fun c => Tree.hyp True
   (Tree.hyp True
   (Tree.sub
   (Tree.some_ (Nat → Nat) fun d => Tree.chk (some (XV.opt true (AV.c (CV.v (Value.bool (canF x t ck cq (List.take (List.length ws) (List.drop 0 ws)) == canRF x t ck cq ws))))) = some (XV.opt true (AV.c (CV.v (Value.bool (canF x t ck cq (List.take (List.length ws) (List.drop 0 ws)) == canRF x t ck cq ws))))))
   (Tree.chk (EqH [] [])
   (Tree.chk (0 = 0)
   (Tree.chk True
   (Tree.need True))))))))
   (Tree.both
   (Tree.every (Nat → Nat → Nat) fun c => Tree.hyp True
   (Tree.hyp True
   (Tree.sub
   (Tree.chk (true = true → true = true)
   (Tree.some_ (Nat → Nat) fun d => Tree.chk (some (XV.a (AV.c (CV.v (Value.bool (bif true then canF x t ck cq (List.take (List.length ws) (List.drop 0 ws)) == canRF x t ck cq ws else false))))) = some (XV.a (AV.c (CV.v (Value.bool (bif true then canF x t ck cq (List.take (List.length ws) (List.drop 0 ws)) == canRF x t ck cq ws else false))))))
   (Tree.chk (EqH [] [])
   (Tree.chk (0 = 0)
   (Tree.chk True
   (Tree.need True)))))))))
   (Tree.both
   (Tree.every (Nat → Nat → Nat) fun c => Tree.hyp True
   (Tree.hyp True
   (Tree.sub
   (Tree.some_ (Nat → Nat) fun d => Tree.chk (some (XV.a (AV.c (CV.v (Value.bool (bif true then canF x t ck cq (List.take (List.length ws) (List.drop 0 ws)) == canRF x t ck cq ws else false))))) = some (XV.a (AV.c (CV.v (Value.bool (bif true then canF x t ck cq (List.take (List.length ws) (List.drop 0 ws)) == canRF x t ck cq ws else false))))))
   (Tree.chk (EqH [] [])
   (Tree.chk (0 = 0)
   (Tree.chk True
   (Tree.need True))))))))
   (Tree.every (Nat → Nat → Nat) fun c => Tree.hyp True
   (Tree.hyp True
   (Tree.done (XV.a (AV.c (CV.v (Value.bool (bif true then canF x t ck cq (List.take (List.length ws) (List.drop 0 ws)) == canRF x t ck cq ws else false))))) [(Ent.ws false cap ws), Ent.dead, Ent.dead, Ent.dead, Ent.dead, Ent.dead, Ent.dead])))))))))))))))))))))))))))))))
theorem tdoes_eq (x : Thg) (t k v ok_ on ck co cq cw : Int) (ob cb : Bool) (ws : List Wt) (cap : Nat) : xfuncZ tab lawG (doesZ x ws cap) (fun li _ _ => doesInv x t k v ck co cq cw cb ws cap li) Go.Proofs.Try.f5 [objA ok_ on ob, x.av 0 0 ws.length cap, .c (iv t), markA k v, callA ck co cq cw cb] [Ent.ws false cap ws] [0] = tdoes x t k v ok_ on ck co cq cw ob cb ws cap := by kernel_rfl
end Go.Proofs.Ytnenbngjdekegaa.X

/- The law ModelDoes: proved. -/
set_option linter.unusedVariables false
set_option linter.unusedSimpArgs false
namespace Go.Proofs.Ytnenbngjdekegaa.X
open Go Go.RowKit Go.Proofs.YtnenbngjdekegaaW.PrintWords Go.Proofs.Ytnenbngjdekegaa.Base
theorem doRq_call : Callable Try.prog 16 := ⟨_, Try.func16, by kernel_rfl, rfl⟩
theorem cond_lenD {b : Bool} {a c : Thg × List Wt × Bool} {n : Nat} (h1 : a.2.1.length ≤ n) (h2 : c.2.1.length ≤ n) : (bif b then a else c).2.1.length ≤ n := by cases b <;> assumption
theorem doR_lenD (x : Thg) (t k v : Int) (ws : List Wt) : (doRF x t k v ws).2.1.length ≤ ws.length + 1 := by
  have h1 : (woF ws 0 ws.length).length ≤ ws.length + 1 := Nat.le_succ_of_le (woT_le ws 0 ws.length)
  have h2 : (notF ws t).length ≤ ws.length + 1 := Nat.le_succ_of_le (List.length_filter_le _ _)
  have h3 : (ws ++ [(t, x.h)]).length ≤ ws.length + 1 := by simp
  have h4 : ws.length ≤ ws.length + 1 := Nat.le_succ _
  have lk : (lockrF x t k v ws).2.1.length ≤ ws.length + 1 := by
    unfold lockrF
    repeat' first | exact h1 | exact h2 | exact h3 | exact h4 | refine cond_lenD ?_ ?_
  unfold doRF
  repeat' first | exact lk | exact h4 | refine cond_lenD ?_ ?_
def doesC (x : Thg) (t k v ok_ on ck co cq cw : Int) (ob cb : Bool) (ws : List Wt) (cap : Nat) : CallSpec := rdSpec [] [objA ok_ on ob, x.av 0 0 ws.length cap, .c (iv t), markA k v, callA ck co cq cw cb] [Ent.ws false cap ws] (bi true)
theorem same_new (k n : Int) : sameF (newF k n) (newF k n) (wsub [] 0 0) (wsub [] 0 0) = true := sameF_iff.2 ⟨rfl, rfl⟩
set_option maxHeartbeats 8000000 in
theorem does_local (x : Thg) (t k v ok_ on ck co cq cw : Int) (ob cb : Bool) (ws : List Wt) (cap : Nat) : (doesC x t k v ok_ on ck co cq cw ob cb ws cap).Local Try.prog 5 := by
  refine local_ofZ Try.func5 rfl (tdoes_eq x t k v ok_ on ck co cq cw ob cb ws cap) fun ν w => ?_
  have hz : 0 + ws.length ≤ ws.length := by omega
  (refine ok_callf' up_call (fits_of rfl rfl trivial fun c _ => ⟨⟨Nat.le_refl _, rfl⟩, ⟨rfl, rfl⟩, trivial⟩) up_local fun _ _ => ?_)
  refine ok_some' (ws, false, cap) (ok_callf' light_call (fits_of rfl rfl ⟨⟨_, rfl, EntRel.ws⟩, trivial⟩ fun c _ => ⟨⟨Nat.le_refl _, rfl⟩, ⟨rfl, rfl⟩, ⟨⟨EntRel.ws, rfl, (fun h => by cases h), .inr rfl⟩, trivial⟩⟩) (light_local _ _ _ _ _ _ _ _) fun _ _ => ?_)
  refine ok_br' (fun h => ?_) fun h => ?_
  · exact ok_leaf (fun _ => 0) [] [0] trivial rfl ⟨⟨_, rfl, EntRel.ws⟩, trivial⟩ rfl
  have hP := lightF_iff.1 (show lightF x ws.length 8 = true by simpa using h)
  have hl : ws.length ≤ 1000000 := by have := hP.2; omega
  have hw : (wsub ws 0 ws.length).length = ws.length := wsub_length ws hz
  have hsn := same_new ok_ on
  refine ok_some' () ?_
  refine ok_both' (ok_every' fun c => ?_) ?_
  · (repeat (first | refine ok_hyp' (fun _ => ?_) | refine ok_sub' (fun R Rp => ?_))); (repeat' first | exact trivial | exact rfl | exact fun _ => rfl | exact ⟨Nat.one_pos, Nat.one_pos⟩ | exact fun _ => ⟨Nat.one_pos, Nat.one_pos⟩ | exact ⟨⟨.inr fun _ => rfl, fun _ _ => rfl⟩, trivial⟩ | exact ⟨⟨.inl rfl, fun _ _ => rfl⟩, trivial⟩ | refine ok_chk' ?_ ?_ | refine ok_some' (fun _ => 0) ?_)
  refine ok_both' (ok_every' fun c => ?_) ?_
  · (repeat (first | refine ok_hyp' (fun _ => ?_) | refine ok_sub' (fun R Rp => ?_))); (refine ok_callf' new_call (fits_of rfl rfl trivial fun c _ => ⟨⟨Nat.zero_le _, rfl⟩, ⟨rfl, rfl⟩, ⟨⟨EntRel.ws, rfl, (fun h => by cases h), .inr rfl⟩, trivial⟩⟩) (new_local _ _ _ _) fun c _ => ?_); (repeat' first | exact trivial | exact rfl | exact fun _ => rfl | exact ⟨Nat.one_pos, Nat.one_pos⟩ | exact fun _ => ⟨Nat.one_pos, Nat.one_pos⟩ | exact ⟨⟨.inr fun _ => rfl, fun _ _ => rfl⟩, trivial⟩ | exact ⟨⟨.inl rfl, fun _ _ => rfl⟩, trivial⟩ | refine ok_chk' ?_ ?_ | refine ok_some' (fun _ => 0) ?_)
  refine ok_both' (ok_every' fun c => ?_) ?_
  · (repeat (first | refine ok_hyp' (fun _ => ?_) | refine ok_sub' (fun R Rp => ?_))); (repeat' first | exact trivial | exact rfl | exact fun _ => rfl | exact ⟨Nat.one_pos, Nat.one_pos⟩ | exact fun _ => ⟨Nat.one_pos, Nat.one_pos⟩ | exact ⟨⟨.inr fun _ => rfl, fun _ _ => rfl⟩, trivial⟩ | exact ⟨⟨.inl rfl, fun _ _ => rfl⟩, trivial⟩ | refine ok_chk' ?_ ?_ | refine ok_some' (fun _ => 0) ?_)
  refine ok_both' (ok_every' fun c => ?_) ?_
  · (repeat (first | refine ok_hyp' (fun _ => ?_) | refine ok_sub' (fun R Rp => ?_))); (refine ok_callf' newr_call (fits_of rfl rfl trivial fun c _ => ⟨⟨Nat.zero_le _, rfl⟩, ⟨rfl, rfl⟩, ⟨⟨EntRel.ws, rfl, (fun h => by cases h), .inr rfl⟩, trivial⟩⟩) (newr_local _ _ _ _) fun c _ => ?_); (repeat' first | exact trivial | exact rfl | exact fun _ => rfl | exact ⟨Nat.one_pos, Nat.one_pos⟩ | exact fun _ => ⟨Nat.one_pos, Nat.one_pos⟩ | exact ⟨⟨.inr fun _ => rfl, fun _ _ => rfl⟩, trivial⟩ | exact ⟨⟨.inl rfl, fun _ _ => rfl⟩, trivial⟩ | refine ok_chk' ?_ ?_ | refine ok_some' (fun _ => 0) ?_)
  refine ok_both' (ok_every' fun c => ?_) ?_
  · (repeat (first | refine ok_hyp' (fun _ => ?_) | refine ok_sub' (fun R Rp => ?_)))
    refine ok_callf' eq2_call (fits_of rfl rfl ⟨⟨_, rfl, EntRel.ws (own := false) (cap := 0) (ws := [])⟩, ⟨_, rfl, EntRel.ws (own := false) (cap := 0) (ws := [])⟩, trivial⟩ fun c _ => ⟨⟨Nat.le_refl _, rfl⟩, ⟨rfl, rfl⟩, ⟨⟨EntRel.ws (own := false) (cap := 0) (ws := []), rfl, (fun h => by cases h), .inr rfl⟩, ⟨EntRel.ws (own := false) (cap := 0) (ws := []), rfl, (fun h => by cases h), .inr rfl⟩, trivial⟩⟩) (eq2_local _ _ _ _ _ _ _ _ _ _ _ _ _ _ _ (Nat.le_refl _) (Nat.le_refl _) (Nat.zero_le _)) fun c hc => ?_
    (repeat' first | exact trivial | exact rfl | exact fun _ => rfl | exact ⟨Nat.one_pos, Nat.one_pos⟩ | exact fun _ => ⟨Nat.one_pos, Nat.one_pos⟩ | exact ⟨⟨.inr fun _ => rfl, fun _ _ => rfl⟩, trivial⟩ | exact ⟨⟨.inl rfl, fun _ _ => rfl⟩, trivial⟩ | refine ok_chk' ?_ ?_ | refine ok_some' (fun _ => 0) ?_)
  refine ok_both' (ok_every' fun c => ?_) (ok_every' fun c => ?_)
  · (repeat (first | refine ok_hyp' (fun _ => ?_) | refine ok_sub' (fun R Rp => ?_))); (repeat' first | exact trivial | exact rfl | exact fun _ => rfl | exact ⟨Nat.one_pos, Nat.one_pos⟩ | exact fun _ => ⟨Nat.one_pos, Nat.one_pos⟩ | exact ⟨⟨.inr fun _ => rfl, fun _ _ => rfl⟩, trivial⟩ | exact ⟨⟨.inl rfl, fun _ _ => rfl⟩, trivial⟩ | refine ok_chk' ?_ ?_ | refine ok_some' (fun _ => 0) ?_)
  (repeat (first | refine ok_hyp' (fun _ => ?_) | refine ok_sub' (fun R Rp => ?_)))
  refine ok_br' (fun h => by have h : (!sameF (newF ok_ on) (newF ok_ on) (wsub [] 0 0) (wsub [] 0 0)) = true := h; rw [hsn] at h; cases h) fun _ => ?_
  refine ok_some' (ws, false, cap) (ok_callf' do_call (fits_of rfl rfl ⟨⟨_, rfl, EntRel.ws⟩, trivial⟩ fun c _ => ⟨⟨Nat.le_succ 1, rfl⟩, ⟨rfl, rfl⟩, ⟨⟨EntRel.ws, rfl, (fun h => by cases h), .inr rfl⟩, ⟨EntRel.ws, rfl, (fun h => by cases h), .inr rfl⟩, trivial⟩⟩) (do_local _ _ _ _ _ _ _ _ _ _ _ _ hP.1 hz hl) fun c3 hc3 => ?_)
  obtain ⟨g1, g2⟩ : doGood x t k v (wsub ws 0 ws.length) c3 := hc3
  refine ok_both' (ok_both' ?_ ?_) (ok_every' fun s => ?_)
  · repeat refine ok_chk' rfl ?_
    refine ok_some' (ws, false, cap) (ok_callf' copy_call (fits_of rfl rfl ⟨⟨_, rfl, EntRel.ws⟩, trivial⟩ fun c _ => ⟨⟨Nat.le_succ 1, rfl⟩, ⟨rfl, rfl⟩, ⟨⟨EntRel.ws, rfl, (fun h => by cases h), .inr rfl⟩, ⟨EntRel.ws, rfl, (fun h => by cases h), .inr rfl⟩, trivial⟩⟩) (copy2_local _ _ _ _ _ _ _ _ _ hz hl) fun c1 _ => ?_)
    repeat refine ok_chk' rfl ?_
    refine ok_both' ?_ ?_
    · repeat refine ok_chk' rfl ?_
      refine ok_some' (wsub ws 0 ws.length) (ok_callf' doRq_call (fits_of rfl rfl ⟨⟨_, rfl, EntRel.ws⟩, trivial⟩ fun c _ => ⟨⟨Nat.le_succ 1, rfl⟩, ⟨rfl, rfl⟩, ⟨⟨EntRel.ws, rfl, (fun h => by cases h), .inr rfl⟩, ⟨EntRel.ws, rfl, (fun h => by cases h), .inr rfl⟩, trivial⟩⟩) (doR_local _ _ _ _ _ _ _ _ (by rw [hw]; exact hl)) fun c2 _ => ?_)
      repeat refine ok_chk' rfl ?_
      refine (ok_some' ⟨⟨c3 2, c3 0, c3 1, c2 0, c2 0⟩, g1, g2⟩ ?_)
      (repeat' first | exact trivial | exact rfl | refine ok_chk' ?_ ?_ | exact RnOk.of _ rfl | exact ⟨EntRg.same rfl rfl rfl, EntRg.box rfl rfl rfl rfl rfl rfl rfl rfl, EntRg.box rfl rfl rfl rfl rfl rfl rfl rfl, EntRg.same rfl rfl rfl, EntRg.box rfl rfl rfl rfl rfl rfl rfl rfl, EntRg.same rfl rfl rfl, EntRg.box rfl rfl rfl rfl rfl rfl rfl rfl, trivial⟩)
    · repeat refine ok_chk' rfl ?_
      refine ok_some' (wsub ws 0 ws.length) (ok_callf' doRq_call (fits_of rfl rfl ⟨⟨_, rfl, EntRel.ws⟩, trivial⟩ fun c _ => ⟨⟨Nat.le_succ 1, rfl⟩, ⟨rfl, rfl⟩, ⟨⟨EntRel.ws, rfl, (fun h => by cases h), .inr rfl⟩, ⟨EntRel.ws, rfl, (fun h => by cases h), .inr rfl⟩, trivial⟩⟩) (doR_local _ _ _ _ _ _ _ _ (by rw [hw]; exact hl)) fun c2 _ => ?_)
      repeat refine ok_chk' rfl ?_
      refine (ok_some' ⟨⟨c3 2, c3 0, c3 1, c2 0, c2 0⟩, g1, g2⟩ ?_)
      (repeat' first | exact trivial | exact rfl | refine ok_chk' ?_ ?_ | exact RnOk.of _ rfl | exact ⟨EntRg.same rfl rfl rfl, EntRg.box rfl rfl rfl rfl rfl rfl rfl rfl, EntRg.box rfl rfl rfl rfl rfl rfl rfl rfl, EntRg.same rfl rfl rfl, EntRg.box rfl rfl rfl rfl rfl rfl rfl rfl, EntRg.same rfl rfl rfl, EntRg.box rfl rfl rfl rfl rfl rfl rfl rfl, trivial⟩)
  · repeat refine ok_chk' rfl ?_
    refine ok_some' (ws, false, cap) (ok_callf' copy_call (fits_of rfl rfl ⟨⟨_, rfl, EntRel.ws⟩, trivial⟩ fun c _ => ⟨⟨Nat.le_succ 1, rfl⟩, ⟨rfl, rfl⟩, ⟨⟨EntRel.ws, rfl, (fun h => by cases h), .inr rfl⟩, ⟨EntRel.ws, rfl, (fun h => by cases h), .inr rfl⟩, trivial⟩⟩) (copy2_local _ _ _ _ _ _ _ _ _ hz hl) fun c1 _ => ?_)
    repeat refine ok_chk' rfl ?_
    refine ok_some' (wsub ws 0 ws.length) (ok_callf' doRq_call (fits_of rfl rfl ⟨⟨_, rfl, EntRel.ws⟩, trivial⟩ fun c _ => ⟨⟨Nat.le_succ 1, rfl⟩, ⟨rfl, rfl⟩, ⟨⟨EntRel.ws, rfl, (fun h => by cases h), .inr rfl⟩, ⟨EntRel.ws, rfl, (fun h => by cases h), .inr rfl⟩, trivial⟩⟩) (doR_local _ _ _ _ _ _ _ _ (by rw [hw]; exact hl)) fun c2 _ => ?_)
    repeat refine ok_chk' rfl ?_
    refine (ok_some' ⟨⟨c3 2, c3 0, c3 1, c2 0, c2 0⟩, g1, g2⟩ ?_)
    (repeat' first | exact trivial | exact rfl | refine ok_chk' ?_ ?_ | exact RnOk.of _ rfl | exact ⟨EntRg.same rfl rfl rfl, EntRg.box rfl rfl rfl rfl rfl rfl rfl rfl, EntRg.box rfl rfl rfl rfl rfl rfl rfl rfl, EntRg.same rfl rfl rfl, EntRg.box rfl rfl rfl rfl rfl rfl rfl rfl, EntRg.same rfl rfl rfl, EntRg.box rfl rfl rfl rfl rfl rfl rfl rfl, trivial⟩)
  obtain ⟨p1, p2⟩ := s.2
  have hT := doR_lenD x t k v (vF ws)
  have hTl : (doRF x t k v (vF ws)).2.1.length ≤ 1000000 := by
    have hvl : (vF ws).length = ws.length := hw
    have := hP.2
    omega
  have hbb : ((doRF x t k v (vF ws)).2.2 == (doRF x t k v (vF ws)).2.2) = true := by simp
  have hz2 : 0 + (doRF x t k v (vF ws)).2.1.length ≤ (doRF x t k v (vF ws)).2.1.length := by omega
  refine ok_br' (fun h => ?_) fun h => ?_
  · repeat (first | refine ok_chk' h ?_ | refine ok_chk' (fun _ => h) ?_ | refine ok_chk' rfl ?_)
    refine ok_some' ((doRowF x t k v (vF ws), true, s.1.yrc), ((doRF x t k v (vF ws)).2.1, false, s.1.wrc)) (ok_callf' eq2_call (fits_of rfl rfl ⟨⟨_, rfl, EntRel.ws⟩, ⟨_, rfl, EntRel.ws⟩, trivial⟩ fun c _ => ⟨⟨Nat.le_refl _, rfl⟩, ⟨rfl, rfl⟩, ⟨⟨EntRel.ws, rfl, (fun h => by cases h), .inr rfl⟩, ⟨EntRel.ws, rfl, (fun h => by cases h), .inr rfl⟩, trivial⟩⟩) (eq2_local _ _ _ _ _ _ _ _ _ _ _ _ _ _ _ p1 hz2 hTl) fun _ _ => ?_)
    have hs3 : sameF (doRF x t k v (vF ws)).1 (doRF x t k v (vF ws)).1 (wsub (doRowF x t k v (vF ws)) s.1.lo (doRF x t k v (vF ws)).2.1.length) (wsub (doRF x t k v (vF ws)).2.1 0 (doRF x t k v (vF ws)).2.1.length) = true := by
      refine sameF_iff.2 ⟨rfl, ?_⟩
      rw [p2]
      exact (wsub_all _).symm
    repeat (first | refine ok_chk' h ?_ | refine ok_chk' (fun _ => h) ?_ | refine ok_chk' rfl ?_)
    refine ok_br' (fun h2 => ?_) fun h2 => ?_
    · exfalso
      have h2 : (bif !((doRF x t k v (vF ws)).2.2 == (doRF x t k v (vF ws)).2.2) then true else !sameF (doRF x t k v (vF ws)).1 (doRF x t k v (vF ws)).1 (wsub (doRowF x t k v (vF ws)) s.1.lo (doRF x t k v (vF ws)).2.1.length) (wsub (doRF x t k v (vF ws)).2.1 0 (doRF x t k v (vF ws)).2.1.length)) = true := h2
      rw [hbb, hs3] at h2
      cases h2
    refine ok_some' () ?_
    iterate 5
      refine ok_both' (ok_every' fun c => ?_) ?_
      focus ((repeat (first | refine ok_hyp' (fun _ => ?_) | refine ok_sub' (fun R Rp => ?_))); (repeat' first | exact trivial | exact rfl | exact fun _ => rfl | exact ⟨Nat.one_pos, Nat.one_pos⟩ | exact fun _ => ⟨Nat.one_pos, Nat.one_pos⟩ | exact ⟨⟨.inr fun _ => rfl, fun _ _ => rfl⟩, trivial⟩ | exact ⟨⟨.inl rfl, fun _ _ => rfl⟩, trivial⟩ | refine ok_chk' ?_ ?_ | refine ok_some' (fun _ => 0) ?_))
    refine ok_both' (ok_every' fun c => ?_) ?_
    · (repeat (first | refine ok_hyp' (fun _ => ?_) | refine ok_sub' (fun R Rp => ?_)))
      refine ok_br' (fun _ => ?_) fun h => by cases h
      repeat refine ok_chk' rfl ?_
      refine ok_callf' can_call (fits_of rfl rfl ⟨⟨_, rfl, EntRel.ws⟩, trivial⟩ fun c _ => ⟨⟨Nat.le_refl _, rfl⟩, ⟨rfl, rfl⟩, ⟨⟨EntRel.ws, rfl, (fun h => by cases h), .inr rfl⟩, trivial⟩⟩) (can_local _ _ _ _ _ _ _ _ _ _ _ _ _ _ hP.1 hz hl) fun c hc => ?_
      (repeat' first | exact trivial | exact rfl | exact fun _ => rfl | exact ⟨Nat.one_pos, Nat.one_pos⟩ | exact fun _ => ⟨Nat.one_pos, Nat.one_pos⟩ | exact ⟨⟨.inr fun _ => rfl, fun _ _ => rfl⟩, trivial⟩ | exact ⟨⟨.inl rfl, fun _ _ => rfl⟩, trivial⟩ | refine ok_chk' ?_ ?_ | refine ok_some' (fun _ => 0) ?_)
    iterate 3
      refine ok_both' (ok_every' fun c => ?_) ?_
      focus ((repeat (first | refine ok_hyp' (fun _ => ?_) | refine ok_sub' (fun R Rp => ?_))); (repeat' first | exact trivial | exact rfl | exact fun _ => rfl | exact ⟨Nat.one_pos, Nat.one_pos⟩ | exact fun _ => ⟨Nat.one_pos, Nat.one_pos⟩ | exact ⟨⟨.inr fun _ => rfl, fun _ _ => rfl⟩, trivial⟩ | exact ⟨⟨.inl rfl, fun _ _ => rfl⟩, trivial⟩ | refine ok_chk' ?_ ?_ | refine ok_some' (fun _ => 0) ?_))
    refine ok_both' (ok_every' fun c => ?_) ?_
    · (repeat (first | refine ok_hyp' (fun _ => ?_) | refine ok_sub' (fun R Rp => ?_)))
      refine ok_br' (fun _ => ?_) fun h => by cases h
      repeat refine ok_chk' rfl ?_
      refine ok_callf' canR_call (fits_of rfl rfl ⟨⟨_, rfl, EntRel.ws⟩, trivial⟩ fun c _ => ⟨⟨Nat.le_refl _, rfl⟩, ⟨rfl, rfl⟩, ⟨⟨EntRel.ws, rfl, (fun h => by cases h), .inr rfl⟩, trivial⟩⟩) (canR_local _ _ _ _ _ _ _ _ _ _ hl) fun c hc => ?_
      (repeat' first | exact trivial | exact rfl | exact fun _ => rfl | exact ⟨Nat.one_pos, Nat.one_pos⟩ | exact fun _ => ⟨Nat.one_pos, Nat.one_pos⟩ | exact ⟨⟨.inr fun _ => rfl, fun _ _ => rfl⟩, trivial⟩ | exact ⟨⟨.inl rfl, fun _ _ => rfl⟩, trivial⟩ | refine ok_chk' ?_ ?_ | refine ok_some' (fun _ => 0) ?_)
    iterate 2
      refine ok_both' (ok_every' fun c => ?_) ?_
      focus ((repeat (first | refine ok_hyp' (fun _ => ?_) | refine ok_sub' (fun R Rp => ?_))); (repeat' first | exact trivial | exact rfl | exact fun _ => rfl | exact ⟨Nat.one_pos, Nat.one_pos⟩ | exact fun _ => ⟨Nat.one_pos, Nat.one_pos⟩ | exact ⟨⟨.inr fun _ => rfl, fun _ _ => rfl⟩, trivial⟩ | exact ⟨⟨.inl rfl, fun _ _ => rfl⟩, trivial⟩ | refine ok_chk' ?_ ?_ | refine ok_some' (fun _ => 0) ?_))
    refine ok_both' (ok_every' fun c => ?_) (ok_every' fun c => ?_)
    · (repeat (first | refine ok_hyp' (fun _ => ?_) | refine ok_sub' (fun R Rp => ?_))); (repeat' first | exact trivial | exact rfl | exact fun _ => rfl | exact ⟨Nat.one_pos, Nat.one_pos⟩ | exact fun _ => ⟨Nat.one_pos, Nat.one_pos⟩ | exact ⟨⟨.inr fun _ => rfl, fun _ _ => rfl⟩, trivial⟩ | exact ⟨⟨.inl rfl, fun _ _ => rfl⟩, trivial⟩ | refine ok_chk' ?_ ?_ | refine ok_some' (fun _ => 0) ?_)
    (repeat (first | refine ok_hyp' (fun _ => ?_) | refine ok_sub' (fun R Rp => ?_)))
    refine ok_leaf (fun _ => 0) [] [0] trivial ?_ ⟨⟨_, rfl, EntRel.ws⟩, trivial⟩ rfl
    have e1 : canF x t ck cq (wsub ws 0 ws.length) = canRF x t ck cq ws := by
      rw [wsub_all]
      exact can_agree x t ck cq ws
    show XV.a (.c (.v (.bool (bif true then canF x t ck cq (wsub ws 0 ws.length) == canRF x t ck cq ws else false)))) = bi true
    rw [e1]
    simp [bi]
  · exfalso
    have h : (!!((doRF x t k v (vF ws)).2.2 == (doRF x t k v (vF ws)).2.2)) = false := h
    rw [hbb] at h
    cases h
end Go.Proofs.Ytnenbngjdekegaa.X

/- The law ModelDoes. -/
set_option linter.unusedVariables false
set_option linter.unusedSimpArgs false
namespace Go.Proofs.Ytnenbngjdekegaa.X
open Go Go.RowKit Go.Proofs.YtnenbngjdekegaaW.PrintWords Go.Proofs.Ytnenbngjdekegaa.Base Go.Proofs.Ytnenbngjdekegaa.Open
theorem does_walk (cs0 : Array Value) (x0 : Int × Bool × Int) (cs1 : Array Value) (x1 : Int × Int × Int × Int × List Int × List Wt × Int × Int) (a2 : Int) (cs3 : Array Value) (x3 : Wt) (cs4 : Array Value) (x4 : Int × Int × Int × Int × Bool) (W : World) (hK0 : kdObj.K W x0 cs0.toList) (hw0 : True) (hK1 : kdThing.K W x1 cs1.toList) (hw1 : True) (w2 : wfI a2) (hK3 : kdWt.K W x3 cs3.toList) (hw3 : wfI x3.1 ∧ wfI x3.2) (hK4 : kdCall.K W x4 cs4.toList) (hw4 : True) :
    Calls Try.prog 5 #[.agg cs0, .agg cs1, .int .i64 a2, .agg cs3, .agg cs4] W fun e w' => e = .returned (.bool true) ∧ Below W.heap.size W w' := by
  obtain ⟨A, cap, he, hH⟩ := thing_open hK1
  have := does_local (Thg.ofK x1) a2 x3.1 x3.2 x0.1 x0.2.2 x4.1 x4.2.1 x4.2.2.1 x4.2.2.2.1 x0.2.1 x4.2.2.2.2 x1.2.2.2.2.2.1 cap _ W hH
  rw [he, note_open hK3 (fun _ _ => A), obj_open hK0 (fun _ _ => A), call_open hK4 (fun _ _ => A)]
  refine this.mono ?_
  rintro e w' ⟨ν', c, -, rfl, h⟩
  exact ⟨rfl, below_of h fun k e hk => by cases k with | zero => cases hk; rfl | succ k => cases k <;> cases hk⟩
end Go.Proofs.Ytnenbngjdekegaa.X

