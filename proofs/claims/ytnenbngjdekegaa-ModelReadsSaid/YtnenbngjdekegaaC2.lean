/- A symbolic run of functions' texts, proved, and what it tells of the program's functions; no conditions. -/
import Derived.Test.YtnenbngjdekegaaC1
/- The model: who waits no more, proved. -/
set_option linter.unusedVariables false
set_option linter.unusedSimpArgs false
namespace Go.Proofs.Ytnenbngjdekegaa.X
open Go Go.RowKit Go.Proofs.YtnenbngjdekegaaW.PrintWords Go.Proofs.Ytnenbngjdekegaa.Base
theorem midF_length (ws : List Wt) (t : Int) {j : Nat} (hj : j ≤ ws.length) : (midF ws t j).length = ws.length := by
  have := keptF_le ws t j
  unfold midF
  simp only [List.length_append, List.length_drop]
  omega
theorem midF_get (ws : List Wt) (t : Int) {j i : Nat} (hi : (keptF ws t j).length ≤ i) : (midF ws t j).getD i (0, 0) = ws.getD i (0, 0) := by
  unfold midF
  rw [List.getD_eq_getElem?_getD, List.getElem?_append_right hi, List.getElem?_drop, List.getD_eq_getElem?_getD]
  congr 2
  omega
theorem midF_set (ws : List Wt) (t : Int) {j : Nat} (hj : j < ws.length) (hx : ((ws.getD j (0, 0)).1 == t) = false) (i : Nat) : (midF ws t (j + 1)).getD i (0, 0) = if i = (keptF ws t j).length then ws.getD j (0, 0) else (midF ws t j).getD i (0, 0) := by
  have hk : keptF ws t (j + 1) = keptF ws t j ++ [ws.getD j (0, 0)] := by rw [keptF_succ ws t hj, hx]; try rfl
  unfold midF
  rw [hk]
  simp only [List.getD_eq_getElem?_getD, List.length_append, List.length_singleton, List.append_assoc]
  by_cases h1 : i < (keptF ws t j).length
  · rw [if_neg (by omega), List.getElem?_append_left h1, List.getElem?_append_left h1]
  · by_cases h2 : i = (keptF ws t j).length
    · subst h2
      rw [if_pos rfl, List.getElem?_append_right (Nat.le_refl _), Nat.sub_self]
      rfl
    · rw [if_neg h2, List.getElem?_append_right (by omega), List.getElem?_append_right (by simp; omega), List.getElem?_append_right (by omega)]
      simp only [List.getElem?_drop, List.length_singleton]
      congr 2
      omega
theorem delF_get (ws : List Wt) (t : Int) {i : Nat} : (delF ws t).getD i (0, 0) = if i < (notF ws t).length then (notF ws t).getD i (0, 0) else (0, 0) := by
  unfold delF
  by_cases h : i < (notF ws t).length
  · rw [if_pos h, List.getD_eq_getElem?_getD, List.getElem?_append_left h, ← List.getD_eq_getElem?_getD]
  · rw [if_neg h, List.getD_eq_getElem?_getD, List.getElem?_append_right (by omega), List.getElem?_replicate]
    split <;> rfl
theorem delF_length (ws : List Wt) (t : Int) : (delF ws t).length = ws.length := by
  have : (notF ws t).length ≤ ws.length := List.length_filter_le _ _
  unfold delF
  simp
  omega
theorem keptF_all (ws : List Wt) (t : Int) : keptF ws t ws.length = notF ws t := by unfold keptF; rw [List.take_length]
def deleteC (ws : List Wt) (t : Int) (cap fid : Nat) (ρ : List Nat) : CallSpec := ⟨[], ρ, [.c (.sl 0 0 0 2 ws.length cap), .c (.fn fid [bref 1 1])], [Ent.ws true cap ws, Ent.ibox t], fun _ => True, fun _ => .a (.c (.sl 0 0 0 2 (notF ws t).length cap)), fun _ => [Ent.ws true cap (delF ws t), Ent.ibox t], fun _ => .a (.c (.sl (ρ.getD 0 0) 0 0 2 (notF ws t).length cap)), fun _ => [Ent.ws true cap (delF ws t), Ent.ibox t], [], []⟩
theorem index_call : Callable Try.prog 42 := ⟨_, Try.func42, by kernel_rfl, rfl⟩
theorem delete_local (ws : List Wt) (t : Int) (cap fid : Nat) (ρ : List Nat) (hl : ws.length ≤ 1000000) (hc : ws.length ≤ cap) (hf : Same t fid) : (deleteC ws t cap fid ρ).Local Try.prog 40 := by
  refine local_of Try.func40 rfl (tdelete_eq ws t cap fid) fun ν w => ?_
  refine ok_callf' index_call (fits_of rfl rfl ⟨⟨_, rfl, EntRel.ws⟩, ⟨_, rfl, EntRel.box' rfl rfl rfl rfl rfl⟩, trivial⟩ fun c _ => ⟨⟨Nat.le_refl _, rfl⟩, ⟨rfl, rfl⟩, ⟨⟨EntRel.ws, rfl, (fun h => by cases h), .inr rfl⟩, ⟨EntRel.box' rfl rfl rfl rfl rfl, rfl, (fun _ => ⟨rfl, rfl⟩), .inr rfl⟩, trivial⟩⟩) (index_local ws t true cap fid _ (by omega) hf) fun c _ => ok_br' (fun h => ?_) fun h => ?_
  · rcases placeF_spec t ws 0 with ⟨h1, h2⟩ | ⟨k, h1, h2, h3, h4⟩
    · have hn : notF ws t = ws := List.filter_eq_self.2 fun x hx => by simp [bne, h2 x hx]
      have hd : delF ws t = ws := by unfold delF; rw [hn]; simp
      refine ok_leaf (fun _ => 0) [] [0, 1] trivial ?_ ⟨⟨_, rfl, EntRel.rw (by rw [hd]) rfl (fun i _ => by rw [hd]; try rfl) fun i _ => wrow_plain _ i⟩, ⟨_, rfl, EntRel.box' rfl rfl rfl rfl rfl⟩, trivial⟩ rfl
      show XV.a (.c (.sl 0 0 0 2 ws.length cap)) = .a (.c (.sl 0 0 0 2 (notF ws t).length cap))
      rw [hn]
    · rw [h2] at h
      simp at h
  · have hk : ∃ k, k < ws.length ∧ placeF ws t 0 = (k : Int) ∧ keptF ws t k = ws.take k ∧ ((ws.getD k (0, 0)).1 == t) = true := by
      rcases placeF_spec t ws 0 with ⟨h1, -⟩ | ⟨k, h1, h2, h3, h4⟩
      · rw [h1] at h; cases h
      · exact ⟨k, h1, by rw [h2]; simp, h3, h4⟩
    obtain ⟨k, k1, k2, k3, k4⟩ := hk
    have hk1 : keptF ws t (k + 1) = ws.take k := by rw [keptF_succ ws t k1, if_pos k4, k3]
    have hmid : midF ws t (k + 1) = ws := by
      unfold midF
      rw [hk1, List.length_take, Nat.min_eq_left (by omega), List.take_append_drop]
    refine ok_both' ?_ (ok_every' fun s => ?_)
    · have e1 : (placeF ws t 0).toNat + 1 = k + 1 := by rw [k2]; simp
      refine ok_chk' ?_ (ok_chk' ?_ ?_)
      · rw [e1, hk1, k2, List.length_take, Nat.min_eq_left (by omega)]
      · rw [e1, k2, wrap64 (by omega) (by omega)]; try rfl
      · repeat' first | exact rfl | exact EntRel.box' rfl rfl rfl rfl rfl | exact trivial | refine ok_chk' ?_ ?_
        exact EntRel.rw (by rw [e1, hmid]) rfl (fun i _ => by rw [e1, hmid]) fun i _ => wrow_plain _ i
    · obtain ⟨s1, s2, s3⟩ : 0 < s.1 ∧ s.1 ≤ ws.length ∧ (keptF ws t s.1).length < s.1 := by
        rcases s.2 with hs | hs
        · rw [k2] at hs; omega
        · exact hs
      have hml := midF_length ws t s2
      refine ok_br' (fun h2 => ?_) fun h2 => ?_
      · have hj : s.1 < ws.length := by simp only [decide_eq_true_eq] at h2; omega
        have hkl := keptF_le ws t (s.1 + 1)
        have hg : (midF ws t s.1).getD ((s.1 : Int)).toNat (0, 0) = ws.getD s.1 (0, 0) := by rw [Int.toNat_natCast]; exact midF_get ws t (by omega)
        refine ok_chk' ⟨by omega, by omega, by omega, by omega⟩ (ok_chk' ⟨by omega, by omega⟩ ?_)
        refine ok_callf' hf.1 (fits_of rfl rfl ⟨⟨_, rfl, EntRel.box' rfl rfl rfl rfl rfl⟩, trivial⟩ fun c _ => ⟨⟨Nat.le_refl _, rfl⟩, ⟨rfl, rfl⟩, ⟨⟨EntRel.box' rfl rfl rfl rfl rfl, rfl, (fun _ => ⟨rfl, rfl⟩), .inr rfl⟩, trivial⟩⟩) (hf.2 _ _ _) fun c _ => ok_br' (fun h3 => ?_) fun h3 => ?_
        all_goals rw [hg] at h3
        · have h3 : ((ws.getD s.1 (0, 0)).1 == t) = false := by simpa using h3
          have hk2 : keptF ws t (s.1 + 1) = keptF ws t s.1 ++ [ws.getD s.1 (0, 0)] := by rw [keptF_succ ws t hj, h3]; try rfl
          refine ok_chk' ⟨by omega, by omega, by omega, by omega⟩ (ok_chk' ⟨by omega, by omega⟩ ?_)
          refine ok_some' ⟨s.1 + 1, .inr ⟨Nat.succ_pos _, hj, by rw [hk2]; simp; omega⟩⟩ (ok_chk' (Nat.sub_lt_sub_left hj (Nat.lt_succ_self _)) (ok_chk' ?_ (ok_chk' ?_ ?_)))
          · show XV.a (.c (.v (.int .i64 (IntKind.wrap .i64 (((keptF ws t s.1).length : Int) + 1))))) = ia ((keptF ws t (s.1 + 1)).length : Int)
            rw [hk2, wrap64 (by omega) (by omega), List.length_append]; try rfl
          · (rw [wrap64 (by omega) (by omega)]; try rfl)
          · repeat' first | exact rfl | exact EntRel.box' rfl rfl rfl rfl rfl | exact trivial | refine ok_chk' ?_ ?_
            refine EntRel.plain rfl rfl rfl rfl (fun h => by cases h) (fun _ _ => ⟨(midF_length ws t hj).trans hml.symm, rfl⟩) fun j' hj' i _ => ⟨?_, wrow_plain _ i⟩
            have hj0 : j' = 0 := Nat.lt_one_iff.1 hj'
            show (if j' = 0 ∧ i = ((keptF ws t s.1).length : Int).toNat then wc ((midF ws t s.1).getD ((s.1 : Int)).toNat (0, 0)) else wc ((midF ws t s.1).getD i (0, 0))) = wc ((midF ws t (s.1 + 1)).getD i (0, 0))
            rw [hg, midF_set ws t hj h3 i, Int.toNat_natCast]
            by_cases hi : i = (keptF ws t s.1).length
            · rw [if_pos ⟨hj0, hi⟩, if_pos hi]
            · rw [if_neg (fun hh => hi hh.2), if_neg hi]
        · have h3 : ((ws.getD s.1 (0, 0)).1 == t) = true := by simpa using h3
          have hk2 : keptF ws t (s.1 + 1) = keptF ws t s.1 := by rw [keptF_succ ws t hj, if_pos h3]
          have hm2 : midF ws t (s.1 + 1) = midF ws t s.1 := by unfold midF; rw [hk2]
          refine ok_some' ⟨s.1 + 1, .inr ⟨Nat.succ_pos _, hj, by rw [hk2]; omega⟩⟩ (ok_chk' (Nat.sub_lt_sub_left hj (Nat.lt_succ_self _)) (ok_chk' ?_ (ok_chk' ?_ ?_)))
          · show ia ((keptF ws t s.1).length : Int) = ia ((keptF ws t (s.1 + 1)).length : Int)
            rw [hk2]
          · (rw [wrap64 (by omega) (by omega)]; try rfl)
          · repeat' first | exact rfl | exact EntRel.box' rfl rfl rfl rfl rfl | exact trivial | refine ok_chk' ?_ ?_
            exact EntRel.rw (congrArg List.length hm2) rfl (fun i _ => by show wrow (midF ws t s.1) i = wrow (midF ws t (s.1 + 1)) i; rw [hm2]) fun i _ => wrow_plain _ i
      · have hj : s.1 = ws.length := by simp only [decide_eq_false_iff_not] at h2; omega
        have hkn : keptF ws t s.1 = notF ws t := by rw [hj]; exact keptF_all ws t
        have hle : (notF ws t).length ≤ ws.length := List.length_filter_le _ _
        have hx : XV.a (.c (.sl 0 0 0 2 ((keptF ws t s.1).length : Int).toNat cap)) = .a (.c (.sl 0 0 0 2 (notF ws t).length cap)) := by rw [hkn, Int.toNat_natCast]
        have hrow : ∀ i lo, i < ws.length → lo = (notF ws t).length ∨ (lo = 0 ∧ cap = (notF ws t).length) → (if (0 : Nat) = 0 ∧ lo ≤ i ∧ i < lo + (((ws.length : Int)).toNat - ((keptF ws t s.1).length : Int).toNat) then wc (0, 0) else wc ((midF ws t s.1).getD i (0, 0))) = wc ((delF ws t).getD i (0, 0)) := fun i lo hi hlo => by
          rw [hkn, Int.toNat_natCast, Int.toNat_natCast, delF_get]
          by_cases h5 : i < (notF ws t).length
          · rw [if_neg (by omega), if_pos h5]
            unfold midF
            rw [hkn, List.getD_eq_getElem?_getD, List.getElem?_append_left h5, ← List.getD_eq_getElem?_getD]
          · rw [if_pos (by omega), if_neg h5]
        refine ok_chk' ⟨by omega, by omega⟩ (ok_chk' ⟨by omega, by rw [hkn]; omega⟩ (ok_br' (fun h5 => ?_) fun h5 => ?_))
        · have h5 : cap = (notF ws t).length := by simp only [decide_eq_true_eq, hkn, Int.toNat_natCast] at h5; exact h5
          refine ok_chk' ⟨by omega, by rw [hml]; omega⟩ (ok_chk' ⟨by omega, by rw [hkn]; omega⟩ ?_)
          exact ok_leaf (fun _ => 0) [] [0, 1] trivial hx ⟨⟨_, rfl, EntRel.plain rfl rfl rfl rfl (fun h => by cases h) (fun _ _ => ⟨(delF_length ws t).trans hml.symm, rfl⟩) fun j' hj' i hi => ⟨(Nat.lt_one_iff.1 hj') ▸ hrow i 0 (hml ▸ hi) (.inr ⟨rfl, h5⟩), wrow_plain _ i⟩⟩, ⟨_, rfl, EntRel.box' rfl rfl rfl rfl rfl⟩, trivial⟩ rfl
        · refine ok_chk' ⟨by omega, by rw [hml, hkn]; omega⟩ (ok_chk' ⟨by omega, by rw [hkn]; omega⟩ ?_)
          exact ok_leaf (fun _ => 0) [] [0, 1] trivial hx ⟨⟨_, rfl, EntRel.plain rfl rfl rfl rfl (fun h => by cases h) (fun _ _ => ⟨(delF_length ws t).trans hml.symm, rfl⟩) fun j' hj' i hi => ⟨(Nat.lt_one_iff.1 hj') ▸ hrow i _ (hml ▸ hi) (.inl (by rw [hkn, Int.toNat_natCast])), wrow_plain _ i⟩⟩, ⟨_, rfl, EntRel.box' rfl rfl rfl rfl rfl⟩, trivial⟩ rfl
end Go.Proofs.Ytnenbngjdekegaa.X

/- The model: signals, locks: trees. -/
set_option linter.unusedVariables false
set_option linter.unusedSimpArgs false
namespace Go.Proofs.Ytnenbngjdekegaa.X
open Go Go.RowKit Go.Proofs.YtnenbngjdekegaaW.PrintWords Go.Proofs.Ytnenbngjdekegaa.Base
def slLN : List CV → Nat × Nat
  | [_, _, _, _, _, _, _, _, _, _, _, _, .sl _ _ lo _ n _, _, _] => (lo, n)
  | _ => (0, 0)
abbrev SigT : Type := Thg × (Nat × Nat) × Bool
def thgL : XV → SigT
  | .tup [.agg l, .c (.v (.bool b))] => (thgOf l, slLN l, b)
  | _ => (thgOf [], (0, 0), false)
def signalG (ws : List Wt) (t : Int) : Ctr := fun f args H => match args with
  | [.agg l, .c (.v (.int _ t))] => some (waitsC (thgOf l) ws t true (slCap l) [slK l])
  | [.c (.sl k _ _ _ _ cap), .c (.fn fid [r])] => some (deleteC ws t cap fid [k, r.k])
  | _ => none
def tsignal (x : Thg) (t k v : Int) (ws : List Wt) (cap : Nat) : Tree :=
  Tree.br (k == (11 : Int))
   (Tree.chk ((!!x.3 == t) = true → (!!x.3 == t) = true)
   (Tree.chk ((!!x.3 == t) = true → (!!x.3 == t) = true)
   (Tree.chk ((!!x.3 == t) = true → (!!x.3 == t) = true)
   (Tree.chk ((!x.3 == t) = false → (!!x.3 == t) = true)
   (Tree.chk ((!bif !x.3 == t then true else (↑(List.length ws) : Int) == (0 : Int)) = true → (!bif !x.3 == t then true else (↑(List.length ws) : Int) == (0 : Int)) = true)
   (Tree.chk ((!bif !x.3 == t then true else (↑(List.length ws) : Int) == (0 : Int)) = true → (!bif !x.3 == t then true else (↑(List.length ws) : Int) == (0 : Int)) = true)
   (Tree.chk ((!bif !x.3 == t then true else (↑(List.length ws) : Int) == (0 : Int)) = true → (0 : Int) ≤ (0 : Int) ∧ (0 : Int) < (↑(List.length ws) : Int) ∧ Int.toNat (0 : Int) < List.length ws ∧ 0 < 1)
   (Tree.chk ((!bif !x.3 == t then true else (↑(List.length ws) : Int) == (0 : Int)) = true → (!bif !x.3 == t then true else (↑(List.length ws) : Int) == (0 : Int)) = true)
   (Tree.chk ((!bif !x.3 == t then true else (↑(List.length ws) : Int) == (0 : Int)) = true → (!bif !x.3 == t then true else (↑(List.length ws) : Int) == (0 : Int)) = true)
   (Tree.chk ((!bif !x.3 == t then true else (↑(List.length ws) : Int) == (0 : Int)) = true → 0 < 1 ∧ Int.toNat (0 : Int) < List.length ws)
   (Tree.chk ((!bif !x.3 == t then true else (↑(List.length ws) : Int) == (0 : Int)) = true → (!bif !x.3 == t then true else (↑(List.length ws) : Int) == (0 : Int)) = true)
   (Tree.chk ((!bif !x.3 == t then true else (↑(List.length ws) : Int) == (0 : Int)) = true → (!bif !x.3 == t then true else (↑(List.length ws) : Int) == (0 : Int)) = true)
   (Tree.chk ((!bif !x.3 == t then true else (↑(List.length ws) : Int) == (0 : Int)) = true → (!bif !x.3 == t then true else (↑(List.length ws) : Int) == (0 : Int)) = true)
   (Tree.chk ((bif !x.3 == t then true else (↑(List.length ws) : Int) == (0 : Int)) = false → (!bif !x.3 == t then true else (↑(List.length ws) : Int) == (0 : Int)) = true)
   (Tree.br (bif bif !x.3 == t then true else (↑(List.length ws) : Int) == (0 : Int) then true else Prod.fst (List.getD ws (Int.toNat (0 : Int)) ((0 : Int), (0 : Int))) != v)
   (Tree.done (XV.tup [AV.agg [iv x.1, iv x.2, iv x.3, iv x.4, iv x.5, iv x.6, iv x.7, iv x.8, iv x.9, iv x.10, iv x.11, iv x.12, CV.sl 0 0 0 2 (List.length ws) cap, iv x.13, iv x.14], AV.c (CV.v (Value.bool false))]) [(Ent.ws true cap ws), Ent.dead, Ent.dead, Ent.dead, Ent.dead])
   (Tree.chk ((0 : Int) ≤ (↑(List.length ws) : Int) ∧ (↑(List.length ws) : Int) ≤ (↑cap : Int))
   (Tree.chk ((0 : Int) ≤ (1 : Int) ∧ (1 : Int) ≤ (↑(List.length ws) : Int))
   (Tree.br (decide (cap = Int.toNat (1 : Int)))
   (Tree.done (XV.tup [AV.agg [iv x.1, iv x.2, iv x.3, iv x.4, iv x.5, iv x.6, iv x.7, iv x.8, iv x.9, iv x.10, iv x.11, iv x.12, CV.sl 0 0 0 2 (Int.toNat (↑(List.length ws) : Int) - Int.toNat (1 : Int)) (cap - Int.toNat (1 : Int)), iv x.13, iv x.14], AV.c (CV.v (Value.bool true))]) [(Ent.ws true cap ws), Ent.dead, Ent.dead, Ent.dead, Ent.dead])
   (Tree.done (XV.tup [AV.agg [iv x.1, iv x.2, iv x.3, iv x.4, iv x.5, iv x.6, iv x.7, iv x.8, iv x.9, iv x.10, iv x.11, iv x.12, CV.sl 0 0 1 2 (Int.toNat (↑(List.length ws) : Int) - Int.toNat (1 : Int)) (cap - Int.toNat (1 : Int)), iv x.13, iv x.14], AV.c (CV.v (Value.bool true))]) [(Ent.ws true cap ws), Ent.dead, Ent.dead, Ent.dead, Ent.dead])))))))))))))))))))
   (Tree.br (k == (12 : Int))
   (Tree.chk ((x.3 == t) = true → (x.3 == t) = true)
   (Tree.chk ((x.3 == t) = true → (x.3 == t) = true)
   (Tree.chk ((x.3 == t) = true → (x.3 == t) = true)
   (Tree.chk ((x.3 == t) = true → (x.3 == t) = true)
   (Tree.chk ((bif x.3 == t then (↑(List.length ws) : Int) == (0 : Int) else false) = true → (bif x.3 == t then (↑(List.length ws) : Int) == (0 : Int) else false) = true)
   (Tree.chk ((bif x.3 == t then (↑(List.length ws) : Int) == (0 : Int) else false) = true → (bif x.3 == t then (↑(List.length ws) : Int) == (0 : Int) else false) = true)
   (Tree.chk ((bif x.3 == t then (↑(List.length ws) : Int) == (0 : Int) else false) = true → (bif x.3 == t then (↑(List.length ws) : Int) == (0 : Int) else false) = true)
   (Tree.chk ((bif x.3 == t then (↑(List.length ws) : Int) == (0 : Int) else false) = true → (bif x.3 == t then (↑(List.length ws) : Int) == (0 : Int) else false) = true)
   (Tree.chk (AV.c (CV.v (Value.bool (bif bif x.3 == t then (↑(List.length ws) : Int) == (0 : Int) else false then v == (0 : Int) else false))) = AV.c (CV.v (Value.bool (bif bif x.3 == t then (↑(List.length ws) : Int) == (0 : Int) else false then v == (0 : Int) else false))))
   (Tree.chk ((bif x.3 == t then (↑(List.length ws) : Int) == (0 : Int) else false) = true → (bif x.3 == t then (↑(List.length ws) : Int) == (0 : Int) else false) = true)
   (Tree.chk ((bif x.3 == t then (↑(List.length ws) : Int) == (0 : Int) else false) = true → AV.c (CV.v (Value.bool (v == (0 : Int)))) = AV.c (CV.v (Value.bool (v == (0 : Int)))))
   (Tree.chk ((bif x.3 == t then (↑(List.length ws) : Int) == (0 : Int) else false) = true → (bif x.3 == t then (↑(List.length ws) : Int) == (0 : Int) else false) = true)
   (Tree.chk ((bif x.3 == t then (↑(List.length ws) : Int) == (0 : Int) else false) = true → AV.c (iv v) = AV.c (iv v))
   (Tree.chk ((bif x.3 == t then (↑(List.length ws) : Int) == (0 : Int) else false) = true → AV.c (CV.ptr { k := 3, j := 0, i := 0, sz := 2, c := 1, d := 0, dn := 0, cu := 0 }) = AV.c (CV.ptr { k := 3, j := 0, i := 0, sz := 2, c := 1, d := 0, dn := 0, cu := 0 }))
   (Tree.done (XV.tup [AV.agg [iv x.1, iv x.2, iv x.3, iv x.4, iv x.5, iv x.6, iv x.7, iv x.8, iv x.9, iv x.10, iv x.11, iv x.12, CV.sl 0 0 0 2 (List.length ws) cap, iv x.13, iv x.14], AV.c (CV.v (Value.bool (bif bif x.3 == t then (↑(List.length ws) : Int) == (0 : Int) else false then v == (0 : Int) else false)))]) [(Ent.ws true cap ws), Ent.dead, Ent.dead, Ent.dead, Ent.dead])))))))))))))))
   (Tree.br (k == (13 : Int))
   (Tree.callf 34 [AV.agg [iv x.1, iv x.2, iv x.3, iv x.4, iv x.5, iv x.6, iv x.7, iv x.8, iv x.9, iv x.10, iv x.11, iv x.12, CV.sl 0 0 0 2 (List.length ws) cap, iv x.13, iv x.14], AV.c (iv t)] [(Ent.ws true cap ws), (Ent.mkBox 25 [iv x.1, iv x.2, iv x.3, iv x.4, iv x.5, iv x.6, iv x.7, iv x.8, iv x.9, iv x.10, iv x.11, iv x.12, CV.sl 0 0 0 2 (List.length ws) cap, iv x.13, iv x.14]), (Ent.mkBox 3 [iv t]), (Ent.mkBox 29 [iv k, iv v]), (Ent.mkBox 25 [iv (0 : Int), iv (0 : Int), iv (0 : Int), iv (0 : Int), iv (0 : Int), iv (0 : Int), iv (0 : Int), iv (0 : Int), iv (0 : Int), iv (0 : Int), iv (0 : Int), iv (0 : Int), CV.v (Value.slice none 0 0), iv (0 : Int), iv (0 : Int)])] (waitsC x ws t true cap [0]) fun c => Tree.chk (decide (placeF ws t 0 ≥ (0 : Int)) = true → decide (placeF ws t 0 ≥ (0 : Int)) = true)
   (Tree.chk (decide (placeF ws t 0 ≥ (0 : Int)) = true → decide (placeF ws t 0 ≥ (0 : Int)) = true)
   (Tree.chk (decide (placeF ws t 0 ≥ (0 : Int)) = true → decide (placeF ws t 0 ≥ (0 : Int)) = true)
   (Tree.callf 40 [AV.c (CV.sl 0 0 0 2 (List.length ws) cap), AV.c (CV.fn 41 [{ k := 2, j := 0, i := 0, sz := 1, c := 0, d := 0, dn := 0, cu := 0 }])] [(Ent.ws true cap ws), (Ent.mkBox 25 [iv x.1, iv x.2, iv x.3, iv x.4, iv x.5, iv x.6, iv x.7, iv x.8, iv x.9, iv x.10, iv x.11, iv x.12, CV.sl 0 0 0 2 (List.length ws) cap, iv x.13, iv x.14]), (Ent.mkBox 3 [iv t]), (Ent.mkBox 29 [iv k, iv v]), (Ent.mkBox 25 [iv (0 : Int), iv (0 : Int), iv (0 : Int), iv (0 : Int), iv (0 : Int), iv (0 : Int), iv (0 : Int), iv (0 : Int), iv (0 : Int), iv (0 : Int), iv (0 : Int), iv (0 : Int), CV.v (Value.slice none 0 0), iv (0 : Int), iv (0 : Int)])] (deleteC ws t cap 41 [0, 2]) fun c => Tree.done (XV.tup [AV.agg [iv x.1, iv x.2, iv x.3, iv x.4, iv x.5, iv x.6, iv x.7, iv x.8, iv x.9, iv x.10, iv x.11, iv x.12, CV.sl 0 0 0 2 (List.length (notF ws t)) cap, iv x.13, iv x.14], AV.c (CV.v (Value.bool (bif decide (placeF ws t 0 ≥ (0 : Int)) then v == (0 : Int) else false)))]) [(Ent.ws true cap (delF ws t)), Ent.dead, Ent.dead, Ent.dead, Ent.dead]))))
   (Tree.done (XV.tup [AV.agg [iv x.1, iv x.2, iv x.3, iv x.4, iv x.5, iv x.6, iv x.7, iv x.8, iv x.9, iv x.10, iv x.11, iv x.12, CV.sl 0 0 0 2 (List.length ws) cap, iv x.13, iv x.14], AV.c (CV.v (Value.bool false))]) [(Ent.ws true cap ws), Ent.dead, Ent.dead, Ent.dead, Ent.dead])))
theorem tsignal_eq (x : Thg) (t k v : Int) (ws : List Wt) (cap : Nat) : xfunc tab (signalG ws t) noInv Go.Proofs.Try.f36 [x.av 0 0 ws.length cap, .c (iv t), markA k v] [Ent.ws true cap ws] [0] = tsignal x t k v ws cap := by kernel_rfl
end Go.Proofs.Ytnenbngjdekegaa.X

/- The model: signals, proved. -/
set_option linter.unusedVariables false
set_option linter.unusedSimpArgs false
namespace Go.Proofs.Ytnenbngjdekegaa.X
open Go Go.RowKit Go.Proofs.YtnenbngjdekegaaW.PrintWords Go.Proofs.Ytnenbngjdekegaa.Base
def signalS (x : Thg) (t k v : Int) (ws : List Wt) (cap : Nat) : SigT :=
  bif k == (11 : Int) then bif bif bif !x.3 == t then true else (↑(List.length ws) : Int) == (0 : Int) then true else Prod.fst (List.getD ws (Int.toNat (0 : Int)) ((0 : Int), (0 : Int))) != v then (x, (0, List.length ws), false) else bif decide (cap = Int.toNat (1 : Int)) then (x, (0, Int.toNat (↑(List.length ws) : Int) - Int.toNat (1 : Int)), true) else (x, (1, Int.toNat (↑(List.length ws) : Int) - Int.toNat (1 : Int)), true)
  else bif k == (12 : Int) then (x, (0, List.length ws), bif bif x.3 == t then (↑(List.length ws) : Int) == (0 : Int) else false then v == (0 : Int) else false) else bif k == (13 : Int) then (x, (0, List.length (notF ws t)), bif decide (placeF ws t 0 ≥ (0 : Int)) then v == (0 : Int) else false) else (x, (0, List.length ws), false)
def sigRowF (ws : List Wt) (t k : Int) : List Wt := bif k == 11 then ws else bif k == 12 then ws else bif k == 13 then delF ws t else ws
def signalC (x : Thg) (t k v : Int) (ws : List Wt) (cap n : Nat) (ρ : List Nat) : CallSpec := rowSpec ρ n [x.av 0 0 ws.length cap, .c (iv t), markA k v] [Ent.ws true cap ws] (fun _ => True)
  (fun c => .tup [(signalS x t k v ws cap).1.av 1 (signalS x t k v ws cap).2.1.1 (signalS x t k v ws cap).2.1.2 (c 0), .c (.v (.bool (signalS x t k v ws cap).2.2))]) fun _ => [Ent.dead, Ent.ws true cap (sigRowF ws t k)]
theorem waits_call : Callable Try.prog 34 := ⟨_, Try.func34, by kernel_rfl, rfl⟩
theorem delete_call : Callable Try.prog 40 := ⟨_, Try.func40, by kernel_rfl, rfl⟩
theorem row_of {n0 : Nat} {ρ : List Nat} {N cap : Nat} {ws ws2 : List Wt} (h : ws2 = ws) : EntRel n0 ρ N (Ent.ws true cap ws) (Ent.ws true cap ws2) := by subst h; exact EntRel.ws
set_option maxHeartbeats 2000000 in
theorem signal_local (x : Thg) (t k v : Int) (ws : List Wt) (cap n : Nat) (ρ : List Nat) (hl : ws.length ≤ 1000000) (hc : ws.length ≤ cap) : (signalC x t k v ws cap n ρ).Local Try.prog 36 := by
  refine local_of Try.func36 rfl (tsignal_eq x t k v ws cap) fun ν w => ?_
  repeat' first
    | refine ok_br' (fun h => ?_) (fun h => ?_)
    | (refine ok_callf' waits_call (fits_of rfl rfl ⟨⟨_, rfl, EntRel.ws⟩, trivial⟩ fun c _ => ⟨⟨Nat.le_refl _, rfl⟩, ⟨rfl, rfl⟩, ⟨⟨EntRel.ws, rfl, (fun h => by cases h), .inr rfl⟩, trivial⟩⟩) (waits_local _ _ _ _ _ _ (by omega)) fun c _ => ?_)
    | (refine ok_callf' delete_call (fits_of rfl rfl ⟨⟨_, rfl, EntRel.ws⟩, ⟨_, rfl, EntRel.box' rfl rfl rfl rfl rfl⟩, trivial⟩ fun c _ => ⟨⟨Nat.le_refl _, rfl⟩, ⟨rfl, rfl⟩, ⟨⟨EntRel.ws, rfl, (fun h => by cases h), .inl rfl⟩, ⟨EntRel.box' rfl rfl rfl rfl rfl, rfl, (fun _ => ⟨rfl, rfl⟩), .inr rfl⟩, trivial⟩⟩) (delete_local _ _ _ _ _ hl hc (same2 t)) fun c _ => ?_)
    | (refine ok_chk' ?_ ?_; focus (first | exact fun h => h | (simp; done) | (simp; omega) | (simp_all; done) | (simp_all; omega) | (generalize ws.length = L at *; simp; omega) | (generalize ws.length = L at *; simp_all; omega)))
    | (refine ok_leaf2 (fun _ => cap) [] [0, 0] trivial ?_ ⟨.inl rfl, .inr ⟨_, rfl, row_of ?_⟩, trivial⟩ rfl <;> first | (simp only [sigRowF, *, cond_true, cond_false]; done) | (show XV.tup _ = XV.nilz _ (XV.ren _ (XV.tup [(signalS x t k v ws cap).1.av 1 (signalS x t k v ws cap).2.1.1 (signalS x t k v ws cap).2.1.2 (cap), .c (.v (.bool (signalS x t k v ws cap).2.2))])); simp only [signalS, *, cond_true, cond_false]; first | done | rfl))
    | (refine ok_leaf2 (fun _ => cap - Int.toNat 1) [] [0, 0] trivial ?_ ⟨.inl rfl, .inr ⟨_, rfl, row_of ?_⟩, trivial⟩ rfl <;> first | (simp only [sigRowF, *, cond_true, cond_false]; done) | (show XV.tup _ = XV.nilz _ (XV.ren _ (XV.tup [(signalS x t k v ws cap).1.av 1 (signalS x t k v ws cap).2.1.1 (signalS x t k v ws cap).2.1.2 (cap - Int.toNat 1), .c (.v (.bool (signalS x t k v ws cap).2.2))])); simp only [signalS, *, cond_true, cond_false]; first | done | rfl))
end Go.Proofs.Ytnenbngjdekegaa.X

/- The model: locks: trees. -/
set_option linter.unusedVariables false
set_option linter.unusedSimpArgs false
namespace Go.Proofs.Ytnenbngjdekegaa.X
open Go Go.RowKit Go.Proofs.YtnenbngjdekegaaW.PrintWords Go.Proofs.Ytnenbngjdekegaa.Base
def lockG (ws : List Wt) : Ctr := fun f args H => match args with
  | [.agg l] => some (freeC (thgOf l) ws true (slCap l) [slK l])
  | [.agg l, .c (.v (.int _ t))] => some (waitsC (thgOf l) ws t true (slCap l) [slK l])
  | [.agg l, .c (.v (.int _ t)), .agg [.v (.int _ k), .v (.int _ v)]] => some (signalC (thgOf l) t k v ws (slCap l) H.length [slK l])
  | _ => none
def tlock (x : Thg) (t k v : Int) (ws : List Wt) (cap : Nat) : Tree :=
  Tree.br (k == (1 : Int))
   (Tree.chk ((x.3 == (-1 : Int)) = true → (x.3 == (-1 : Int)) = true)
   (Tree.chk ((x.3 == (-1 : Int)) = true → (x.3 == (-1 : Int)) = true)
   (Tree.chk ((bif x.3 == (-1 : Int) then decide (v ≥ (1 : Int)) else false) = true → (bif x.3 == (-1 : Int) then decide (v ≥ (1 : Int)) else false) = true)
   (Tree.chk ((bif x.3 == (-1 : Int) then decide (v ≥ (1 : Int)) else false) = true → (bif x.3 == (-1 : Int) then decide (v ≥ (1 : Int)) else false) = true)
   (Tree.br (bif bif x.3 == (-1 : Int) then decide (v ≥ (1 : Int)) else false then decide (v ≤ (1000 : Int)) else false)
   (Tree.chk ((bif bif x.3 == (-1 : Int) then decide (v ≥ (1 : Int)) else false then decide (v ≤ (1000 : Int)) else false) = true)
   (Tree.chk ((bif bif x.3 == (-1 : Int) then decide (v ≥ (1 : Int)) else false then decide (v ≤ (1000 : Int)) else false) = true)
   (Tree.callf 34 [AV.agg [iv x.1, iv x.2, iv x.3, iv x.4, iv x.5, iv x.6, iv x.7, iv x.8, iv x.9, iv x.10, iv x.11, iv x.12, CV.sl 0 0 0 2 (List.length ws) cap, iv x.13, iv x.14], AV.c (iv t)] [(Ent.ws true cap ws), (Ent.mkBox 25 [iv x.1, iv x.2, iv x.3, iv x.4, iv x.5, iv x.6, iv x.7, iv x.8, iv x.9, iv x.10, iv x.11, iv x.12, CV.sl 0 0 0 2 (List.length ws) cap, iv x.13, iv x.14]), (Ent.mkBox 29 [iv k, iv v]), (Ent.mkBox 25 [iv (0 : Int), iv (0 : Int), iv (0 : Int), iv (0 : Int), iv (0 : Int), iv (0 : Int), iv (0 : Int), iv (0 : Int), iv (0 : Int), iv (0 : Int), iv (0 : Int), iv (0 : Int), CV.v (Value.slice none 0 0), iv (0 : Int), iv (0 : Int)])] (waitsC x ws t true cap [0]) fun c => Tree.chk ((bif bif x.3 == (-1 : Int) then decide (v ≥ (1 : Int)) else false then decide (v ≤ (1000 : Int)) else false) = true → (bif bif x.3 == (-1 : Int) then decide (v ≥ (1 : Int)) else false then decide (v ≤ (1000 : Int)) else false) = true)
   (Tree.br (bif bif bif x.3 == (-1 : Int) then decide (v ≥ (1 : Int)) else false then decide (v ≤ (1000 : Int)) else false then !decide (placeF ws t 0 ≥ (0 : Int)) else false)
   (Tree.done (XV.tup [AV.agg [iv x.1, iv x.2, iv t, iv v, iv x.5, iv x.6, iv x.7, iv x.8, iv x.9, iv x.10, iv x.11, iv x.12, CV.sl 0 0 0 2 (List.length ws) cap, iv x.13, iv x.14], AV.c (CV.v (Value.bool true))]) [(Ent.ws true cap ws), (Ent.mkBox 25 [iv x.1, iv x.2, iv t, iv v, iv x.5, iv x.6, iv x.7, iv x.8, iv x.9, iv x.10, iv x.11, iv x.12, CV.sl 0 0 0 2 (List.length ws) cap, iv x.13, iv x.14]), (Ent.mkBox 29 [iv k, iv v]), (Ent.mkBox 25 [iv x.1, iv x.2, iv t, iv v, iv x.5, iv x.6, iv x.7, iv x.8, iv x.9, iv x.10, iv x.11, iv x.12, CV.sl 0 0 0 2 (List.length ws) cap, iv x.13, iv x.14])])
   (Tree.chk ((x.3 == t) = true → (x.3 == t) = true)
   (Tree.chk ((x.3 == t) = true → (x.3 == t) = true)
   (Tree.chk ((bif x.3 == t then v == (1 : Int) else false) = true → (bif x.3 == t then v == (1 : Int) else false) = true)
   (Tree.chk ((bif x.3 == t then v == (1 : Int) else false) = true → (bif x.3 == t then v == (1 : Int) else false) = true)
   (Tree.chk ((bif x.3 == t then v == (1 : Int) else false) = true → (bif x.3 == t then v == (1 : Int) else false) = true)
   (Tree.chk ((bif x.3 == t then v == (1 : Int) else false) = true → (bif x.3 == t then v == (1 : Int) else false) = true)
   (Tree.chk (AV.c (CV.v (Value.bool (bif bif x.3 == t then v == (1 : Int) else false then decide (IntKind.wrap IntKind.i64 (x.4 + (1 : Int)) ≤ (1000 : Int)) else false))) = AV.c (CV.v (Value.bool (bif bif x.3 == t then v == (1 : Int) else false then decide (IntKind.wrap IntKind.i64 (x.4 + (1 : Int)) ≤ (1000 : Int)) else false))))
   (Tree.chk ((bif x.3 == t then v == (1 : Int) else false) = true → (bif x.3 == t then v == (1 : Int) else false) = true)
   (Tree.chk ((bif x.3 == t then v == (1 : Int) else false) = true → AV.c (CV.v (Value.bool (decide (IntKind.wrap IntKind.i64 (x.4 + (1 : Int)) ≤ (1000 : Int))))) = AV.c (CV.v (Value.bool (decide (IntKind.wrap IntKind.i64 (x.4 + (1 : Int)) ≤ (1000 : Int))))))
   (Tree.chk ((bif x.3 == t then v == (1 : Int) else false) = true → (bif x.3 == t then v == (1 : Int) else false) = true)
   (Tree.chk ((bif x.3 == t then v == (1 : Int) else false) = true → AV.c (iv (IntKind.wrap IntKind.i64 (x.4 + (1 : Int)))) = AV.c (iv (IntKind.wrap IntKind.i64 (x.4 + (1 : Int)))))
   (Tree.chk ((bif x.3 == t then v == (1 : Int) else false) = true → AV.c (CV.ptr { k := 1, j := 0, i := 0, sz := 15, c := 3, d := 0, dn := 0, cu := 0 }) = AV.c (CV.ptr { k := 1, j := 0, i := 0, sz := 15, c := 3, d := 0, dn := 0, cu := 0 }))
   (Tree.done (XV.tup [AV.agg [iv x.1, iv x.2, iv x.3, iv (IntKind.wrap IntKind.i64 (x.4 + (1 : Int))), iv x.5, iv x.6, iv x.7, iv x.8, iv x.9, iv x.10, iv x.11, iv x.12, CV.sl 0 0 0 2 (List.length ws) cap, iv x.13, iv x.14], AV.c (CV.v (Value.bool (bif bif x.3 == t then v == (1 : Int) else false then decide (IntKind.wrap IntKind.i64 (x.4 + (1 : Int)) ≤ (1000 : Int)) else false)))]) [(Ent.ws true cap ws), (Ent.mkBox 25 [iv x.1, iv x.2, iv x.3, iv (IntKind.wrap IntKind.i64 (x.4 + (1 : Int))), iv x.5, iv x.6, iv x.7, iv x.8, iv x.9, iv x.10, iv x.11, iv x.12, CV.sl 0 0 0 2 (List.length ws) cap, iv x.13, iv x.14]), (Ent.mkBox 29 [iv k, iv v]), (Ent.mkBox 25 [iv x.1, iv x.2, iv x.3, iv (IntKind.wrap IntKind.i64 (x.4 + (1 : Int))), iv x.5, iv x.6, iv x.7, iv x.8, iv x.9, iv x.10, iv x.11, iv x.12, CV.sl 0 0 0 2 (List.length ws) cap, iv x.13, iv x.14])])))))))))))))))))
   (Tree.chk ((bif bif x.3 == (-1 : Int) then decide (v ≥ (1 : Int)) else false then decide (v ≤ (1000 : Int)) else false) = true → False)
   (Tree.chk ((bif bif x.3 == (-1 : Int) then decide (v ≥ (1 : Int)) else false then decide (v ≤ (1000 : Int)) else false) = false)
   (Tree.br false
   (Tree.done (XV.tup [AV.agg [iv x.1, iv x.2, iv t, iv v, iv x.5, iv x.6, iv x.7, iv x.8, iv x.9, iv x.10, iv x.11, iv x.12, CV.sl 0 0 0 2 (List.length ws) cap, iv x.13, iv x.14], AV.c (CV.v (Value.bool true))]) [(Ent.ws true cap ws), (Ent.mkBox 25 [iv x.1, iv x.2, iv t, iv v, iv x.5, iv x.6, iv x.7, iv x.8, iv x.9, iv x.10, iv x.11, iv x.12, CV.sl 0 0 0 2 (List.length ws) cap, iv x.13, iv x.14]), (Ent.mkBox 29 [iv k, iv v]), (Ent.mkBox 25 [iv x.1, iv x.2, iv t, iv v, iv x.5, iv x.6, iv x.7, iv x.8, iv x.9, iv x.10, iv x.11, iv x.12, CV.sl 0 0 0 2 (List.length ws) cap, iv x.13, iv x.14])])
   (Tree.chk ((x.3 == t) = true → (x.3 == t) = true)
   (Tree.chk ((x.3 == t) = true → (x.3 == t) = true)
   (Tree.chk ((bif x.3 == t then v == (1 : Int) else false) = true → (bif x.3 == t then v == (1 : Int) else false) = true)
   (Tree.chk ((bif x.3 == t then v == (1 : Int) else false) = true → (bif x.3 == t then v == (1 : Int) else false) = true)
   (Tree.chk ((bif x.3 == t then v == (1 : Int) else false) = true → (bif x.3 == t then v == (1 : Int) else false) = true)
   (Tree.chk ((bif x.3 == t then v == (1 : Int) else false) = true → (bif x.3 == t then v == (1 : Int) else false) = true)
   (Tree.chk (AV.c (CV.v (Value.bool (bif bif x.3 == t then v == (1 : Int) else false then decide (IntKind.wrap IntKind.i64 (x.4 + (1 : Int)) ≤ (1000 : Int)) else false))) = AV.c (CV.v (Value.bool (bif bif x.3 == t then v == (1 : Int) else false then decide (IntKind.wrap IntKind.i64 (x.4 + (1 : Int)) ≤ (1000 : Int)) else false))))
   (Tree.chk ((bif x.3 == t then v == (1 : Int) else false) = true → (bif x.3 == t then v == (1 : Int) else false) = true)
   (Tree.chk ((bif x.3 == t then v == (1 : Int) else false) = true → AV.c (CV.v (Value.bool (decide (IntKind.wrap IntKind.i64 (x.4 + (1 : Int)) ≤ (1000 : Int))))) = AV.c (CV.v (Value.bool (decide (IntKind.wrap IntKind.i64 (x.4 + (1 : Int)) ≤ (1000 : Int))))))
   (Tree.chk ((bif x.3 == t then v == (1 : Int) else false) = true → (bif x.3 == t then v == (1 : Int) else false) = true)
   (Tree.chk ((bif x.3 == t then v == (1 : Int) else false) = true → AV.c (iv (IntKind.wrap IntKind.i64 (x.4 + (1 : Int)))) = AV.c (iv (IntKind.wrap IntKind.i64 (x.4 + (1 : Int)))))
   (Tree.chk ((bif x.3 == t then v == (1 : Int) else false) = true → AV.c (CV.ptr { k := 1, j := 0, i := 0, sz := 15, c := 3, d := 0, dn := 0, cu := 0 }) = AV.c (CV.ptr { k := 1, j := 0, i := 0, sz := 15, c := 3, d := 0, dn := 0, cu := 0 }))
   (Tree.done (XV.tup [AV.agg [iv x.1, iv x.2, iv x.3, iv (IntKind.wrap IntKind.i64 (x.4 + (1 : Int))), iv x.5, iv x.6, iv x.7, iv x.8, iv x.9, iv x.10, iv x.11, iv x.12, CV.sl 0 0 0 2 (List.length ws) cap, iv x.13, iv x.14], AV.c (CV.v (Value.bool (bif bif x.3 == t then v == (1 : Int) else false then decide (IntKind.wrap IntKind.i64 (x.4 + (1 : Int)) ≤ (1000 : Int)) else false)))]) [(Ent.ws true cap ws), (Ent.mkBox 25 [iv x.1, iv x.2, iv x.3, iv (IntKind.wrap IntKind.i64 (x.4 + (1 : Int))), iv x.5, iv x.6, iv x.7, iv x.8, iv x.9, iv x.10, iv x.11, iv x.12, CV.sl 0 0 0 2 (List.length ws) cap, iv x.13, iv x.14]), (Ent.mkBox 29 [iv k, iv v]), (Ent.mkBox 25 [iv x.1, iv x.2, iv x.3, iv (IntKind.wrap IntKind.i64 (x.4 + (1 : Int))), iv x.5, iv x.6, iv x.7, iv x.8, iv x.9, iv x.10, iv x.11, iv x.12, CV.sl 0 0 0 2 (List.length ws) cap, iv x.13, iv x.14])])))))))))))))))))))))
   (Tree.br (k == (3 : Int))
   (Tree.callf 35 [AV.agg [iv x.1, iv x.2, iv x.3, iv x.4, iv x.5, iv x.6, iv x.7, iv x.8, iv x.9, iv x.10, iv x.11, iv x.12, CV.sl 0 0 0 2 (List.length ws) cap, iv x.13, iv x.14]] [(Ent.ws true cap ws), (Ent.mkBox 25 [iv x.1, iv x.2, iv x.3, iv x.4, iv x.5, iv x.6, iv x.7, iv x.8, iv x.9, iv x.10, iv x.11, iv x.12, CV.sl 0 0 0 2 (List.length ws) cap, iv x.13, iv x.14]), (Ent.mkBox 29 [iv k, iv v]), (Ent.mkBox 25 [iv (0 : Int), iv (0 : Int), iv (0 : Int), iv (0 : Int), iv (0 : Int), iv (0 : Int), iv (0 : Int), iv (0 : Int), iv (0 : Int), iv (0 : Int), iv (0 : Int), iv (0 : Int), CV.v (Value.slice none 0 0), iv (0 : Int), iv (0 : Int)])] (freeC x ws true cap [0]) fun c => Tree.chk ((x.3 == t) = true → (x.3 == t) = true)
   (Tree.chk ((x.3 == t) = true → (x.3 == t) = true)
   (Tree.done (XV.tup [AV.agg [iv (freeS x).1, iv (freeS x).2, iv (freeS x).3, iv (freeS x).4, iv (freeS x).5, iv (freeS x).6, iv (freeS x).7, iv (freeS x).8, iv (freeS x).9, iv (freeS x).10, iv (freeS x).11, iv (freeS x).12, CV.sl 0 0 0 2 (List.length ws) cap, iv (freeS x).13, iv (freeS x).14], AV.c (CV.v (Value.bool (bif x.3 == t then v == (0 : Int) else false)))]) [(Ent.ws true cap ws), (Ent.mkBox 25 [iv x.1, iv x.2, iv x.3, iv x.4, iv x.5, iv x.6, iv x.7, iv x.8, iv x.9, iv x.10, iv x.11, iv x.12, CV.sl 0 0 0 2 (List.length ws) cap, iv x.13, iv x.14]), (Ent.mkBox 29 [iv k, iv v]), (Ent.mkBox 25 [iv (freeS x).1, iv (freeS x).2, iv (freeS x).3, iv (freeS x).4, iv (freeS x).5, iv (freeS x).6, iv (freeS x).7, iv (freeS x).8, iv (freeS x).9, iv (freeS x).10, iv (freeS x).11, iv (freeS x).12, CV.sl 0 0 0 2 (List.length ws) cap, iv (freeS x).13, iv (freeS x).14])])))
   (Tree.br (k == (5 : Int))
   (Tree.chk ((x.3 != (-1 : Int)) = true → (x.3 != (-1 : Int)) = true)
   (Tree.chk ((x.3 != (-1 : Int)) = true → (x.3 != (-1 : Int)) = true)
   (Tree.chk ((bif x.3 != (-1 : Int) then !x.3 == t else false) = true → (bif x.3 != (-1 : Int) then !x.3 == t else false) = true)
   (Tree.chk ((bif x.3 != (-1 : Int) then !x.3 == t else false) = true → (bif x.3 != (-1 : Int) then !x.3 == t else false) = true)
   (Tree.done (XV.tup [AV.agg [iv x.1, iv x.2, iv x.3, iv x.4, iv x.5, iv x.6, iv x.7, iv x.8, iv x.9, iv x.10, iv x.11, iv x.12, CV.sl 0 0 0 2 (List.length ws) cap, iv x.13, iv x.14], AV.c (CV.v (Value.bool (bif bif x.3 != (-1 : Int) then !x.3 == t else false then v == (0 : Int) else false)))]) [(Ent.ws true cap ws), (Ent.mkBox 25 [iv x.1, iv x.2, iv x.3, iv x.4, iv x.5, iv x.6, iv x.7, iv x.8, iv x.9, iv x.10, iv x.11, iv x.12, CV.sl 0 0 0 2 (List.length ws) cap, iv x.13, iv x.14]), (Ent.mkBox 29 [iv k, iv v]), (Ent.mkBox 25 [iv x.1, iv x.2, iv x.3, iv x.4, iv x.5, iv x.6, iv x.7, iv x.8, iv x.9, iv x.10, iv x.11, iv x.12, CV.sl 0 0 0 2 (List.length ws) cap, iv x.13, iv x.14])])))))
   (Tree.br (k == (6 : Int))
   (Tree.chk ((!x.3 == t) = true → (!x.3 == t) = true)
   (Tree.chk ((!x.3 == t) = true → (!x.3 == t) = true)
   (Tree.done (XV.tup [AV.agg [iv x.1, iv x.2, iv x.3, iv x.4, iv x.5, iv x.6, iv x.7, iv x.8, iv x.9, iv x.10, iv x.11, iv x.12, CV.sl 0 0 0 2 (List.length ws) cap, iv x.13, iv x.14], AV.c (CV.v (Value.bool (bif !x.3 == t then v == (0 : Int) else false)))]) [(Ent.ws true cap ws), (Ent.mkBox 25 [iv x.1, iv x.2, iv x.3, iv x.4, iv x.5, iv x.6, iv x.7, iv x.8, iv x.9, iv x.10, iv x.11, iv x.12, CV.sl 0 0 0 2 (List.length ws) cap, iv x.13, iv x.14]), (Ent.mkBox 29 [iv k, iv v]), (Ent.mkBox 25 [iv x.1, iv x.2, iv x.3, iv x.4, iv x.5, iv x.6, iv x.7, iv x.8, iv x.9, iv x.10, iv x.11, iv x.12, CV.sl 0 0 0 2 (List.length ws) cap, iv x.13, iv x.14])])))
   (Tree.br (k == (7 : Int))
   (Tree.chk ((x.3 == t) = true → (x.3 == t) = true)
   (Tree.chk ((x.3 == t) = true → (x.3 == t) = true)
   (Tree.chk ((x.3 == t) = true → (x.3 == t) = true)
   (Tree.chk ((bif x.3 == t then x.4 == (1000 : Int) else false) = true → (bif x.3 == t then x.4 == (1000 : Int) else false) = true)
   (Tree.chk ((bif x.3 == t then x.4 == (1000 : Int) else false) = true → (bif x.3 == t then x.4 == (1000 : Int) else false) = true)
   (Tree.done (XV.tup [AV.agg [iv x.1, iv x.2, iv x.3, iv x.4, iv x.5, iv x.6, iv x.7, iv x.8, iv x.9, iv x.10, iv x.11, iv x.12, CV.sl 0 0 0 2 (List.length ws) cap, iv x.13, iv x.14], AV.c (CV.v (Value.bool (bif bif x.3 == t then x.4 == (1000 : Int) else false then v == (0 : Int) else false)))]) [(Ent.ws true cap ws), (Ent.mkBox 25 [iv x.1, iv x.2, iv x.3, iv x.4, iv x.5, iv x.6, iv x.7, iv x.8, iv x.9, iv x.10, iv x.11, iv x.12, CV.sl 0 0 0 2 (List.length ws) cap, iv x.13, iv x.14]), (Ent.mkBox 29 [iv k, iv v]), (Ent.mkBox 25 [iv x.1, iv x.2, iv x.3, iv x.4, iv x.5, iv x.6, iv x.7, iv x.8, iv x.9, iv x.10, iv x.11, iv x.12, CV.sl 0 0 0 2 (List.length ws) cap, iv x.13, iv x.14])]))))))
   (Tree.br (k == (10 : Int))
   (Tree.chk ((x.3 == t) = true → (x.3 == t) = true)
   (Tree.chk ((x.3 == t) = true → (x.3 == t) = true)
   (Tree.chk ((x.3 == t) = true → (x.3 == t) = true)
   (Tree.chk ((x.3 == t) = true → (x.3 == t) = true)
   (Tree.chk ((List.length ws + 1) * 16 ≤ 140737488355328)
   (Tree.chk (0 < 1 ∧ 1 ≤ 1)
   (Tree.chk (List.length ws = List.length ws ∧ cap = cap)
   (Tree.all (fun c => List.length ws + 1 ≤ c 0 ∧ c 0 ≤ maxLen) fun c => Tree.done (XV.tup [AV.agg [iv x.1, iv x.2, iv (-1 : Int), iv (0 : Int), iv x.5, iv x.6, iv x.7, iv x.8, iv x.9, iv x.10, iv x.11, iv x.12, CV.sl 5 0 0 2 (List.length ws + 1) (c 0), iv x.13, iv x.14], AV.c (CV.v (Value.bool (bif x.3 == t then x.4 == v else false)))]) [Ent.dead, (Ent.mkBox 25 [iv x.1, iv x.2, iv (-1 : Int), iv (0 : Int), iv x.5, iv x.6, iv x.7, iv x.8, iv x.9, iv x.10, iv x.11, iv x.12, CV.sl 5 0 0 2 (List.length ws + 1) (c 0), iv x.13, iv x.14]), (Ent.mkBox 29 [iv k, iv v]), (Ent.mkBox 25 [iv x.1, iv x.2, iv (-1 : Int), iv (0 : Int), iv x.5, iv x.6, iv x.7, iv x.8, iv x.9, iv x.10, iv x.11, iv x.12, CV.sl 5 0 0 2 (List.length ws + 1) (c 0), iv x.13, iv x.14]), { own := true, box := false, ty := 37, sz := 2, m := 1, n := fun x => 1, cap := fun x => 1, f := fun x_1 i => [iv t, iv x.4], ov := [] }, { own := true, box := false, ty := 37, sz := 2, m := 1, n := fun x => List.length ws + 1, cap := fun x => c 0, f := fun x_1 i => if i < List.length ws then [iv (Prod.fst (List.getD ws i ((0 : Int), (0 : Int)))), iv (Prod.snd (List.getD ws i ((0 : Int), (0 : Int))))] else [iv t, iv x.4], ov := [] }]))))))))
   (Tree.callf 36 [AV.agg [iv x.1, iv x.2, iv x.3, iv x.4, iv x.5, iv x.6, iv x.7, iv x.8, iv x.9, iv x.10, iv x.11, iv x.12, CV.sl 0 0 0 2 (List.length ws) cap, iv x.13, iv x.14], AV.c (iv t), AV.agg [iv k, iv v]] [(Ent.ws true cap ws), (Ent.mkBox 25 [iv x.1, iv x.2, iv x.3, iv x.4, iv x.5, iv x.6, iv x.7, iv x.8, iv x.9, iv x.10, iv x.11, iv x.12, CV.sl 0 0 0 2 (List.length ws) cap, iv x.13, iv x.14]), (Ent.mkBox 29 [iv k, iv v]), (Ent.mkBox 25 [iv (0 : Int), iv (0 : Int), iv (0 : Int), iv (0 : Int), iv (0 : Int), iv (0 : Int), iv (0 : Int), iv (0 : Int), iv (0 : Int), iv (0 : Int), iv (0 : Int), iv (0 : Int), CV.v (Value.slice none 0 0), iv (0 : Int), iv (0 : Int)])] (signalC x t k v ws cap 4 [0]) fun c => Tree.done (XV.tup [AV.agg [iv (Prod.fst (signalS x t k v ws cap)).1, iv (Prod.fst (signalS x t k v ws cap)).2, iv (Prod.fst (signalS x t k v ws cap)).3, iv (Prod.fst (signalS x t k v ws cap)).4, iv (Prod.fst (signalS x t k v ws cap)).5, iv (Prod.fst (signalS x t k v ws cap)).6, iv (Prod.fst (signalS x t k v ws cap)).7, iv (Prod.fst (signalS x t k v ws cap)).8, iv (Prod.fst (signalS x t k v ws cap)).9, iv (Prod.fst (signalS x t k v ws cap)).10, iv (Prod.fst (signalS x t k v ws cap)).11, iv (Prod.fst (signalS x t k v ws cap)).12, CV.sl 4 0 (Prod.fst (Prod.fst (Prod.snd (signalS x t k v ws cap)))) 2 (Prod.snd (Prod.fst (Prod.snd (signalS x t k v ws cap)))) (c 0), iv (Prod.fst (signalS x t k v ws cap)).13, iv (Prod.fst (signalS x t k v ws cap)).14], AV.c (CV.v (Value.bool (Prod.snd (Prod.snd (signalS x t k v ws cap)))))]) [Ent.dead, (Ent.mkBox 25 [iv x.1, iv x.2, iv x.3, iv x.4, iv x.5, iv x.6, iv x.7, iv x.8, iv x.9, iv x.10, iv x.11, iv x.12, CV.sl 0 0 0 2 (List.length ws) cap, iv x.13, iv x.14]), (Ent.mkBox 29 [iv k, iv v]), (Ent.mkBox 25 [iv (Prod.fst (signalS x t k v ws cap)).1, iv (Prod.fst (signalS x t k v ws cap)).2, iv (Prod.fst (signalS x t k v ws cap)).3, iv (Prod.fst (signalS x t k v ws cap)).4, iv (Prod.fst (signalS x t k v ws cap)).5, iv (Prod.fst (signalS x t k v ws cap)).6, iv (Prod.fst (signalS x t k v ws cap)).7, iv (Prod.fst (signalS x t k v ws cap)).8, iv (Prod.fst (signalS x t k v ws cap)).9, iv (Prod.fst (signalS x t k v ws cap)).10, iv (Prod.fst (signalS x t k v ws cap)).11, iv (Prod.fst (signalS x t k v ws cap)).12, CV.sl 4 0 (Prod.fst (Prod.fst (Prod.snd (signalS x t k v ws cap)))) 2 (Prod.snd (Prod.fst (Prod.snd (signalS x t k v ws cap)))) (c 0), iv (Prod.fst (signalS x t k v ws cap)).13, iv (Prod.fst (signalS x t k v ws cap)).14]), (Ent.ws true cap (sigRowF ws t k))]))))))
theorem tlock_eq (x : Thg) (t k v : Int) (ws : List Wt) (cap : Nat) : xfunc tab (lockG ws) noInv Go.Proofs.Try.f25 [x.av 0 0 ws.length cap, .c (iv t), markA k v] [Ent.ws true cap ws] [0, 1, 2, 3, 4, 5, 6, 7] = tlock x t k v ws cap := by kernel_rfl
end Go.Proofs.Ytnenbngjdekegaa.X

/- The model: locks, proved. -/
set_option linter.unusedVariables false
set_option linter.unusedSimpArgs false
namespace Go.Proofs.Ytnenbngjdekegaa.X
open Go Go.RowKit Go.Proofs.YtnenbngjdekegaaW.PrintWords Go.Proofs.Ytnenbngjdekegaa.Base
def lockS (x : Thg) (t k v : Int) (ws : List Wt) (cap : Nat) : SigT :=
  bif k == (1 : Int) then bif bif bif x.3 == (-1 : Int) then decide (v ≥ (1 : Int)) else false then decide (v ≤ (1000 : Int)) else false then bif bif bif bif x.3 == (-1 : Int) then decide (v ≥ (1 : Int)) else false then decide (v ≤ (1000 : Int)) else false then !decide (placeF ws t 0 ≥ (0 : Int)) else false then ({ kd := x.1, n := x.2, o := t, h := v, r0 := x.5, r1 := x.6, r2 := x.7, r3 := x.8, r4 := x.9, r5 := x.10, r6 := x.11, r7 := x.12, f := x.13, i := x.14 }, (0, List.length ws), true) else ({ kd := x.1, n := x.2, o := x.3, h := IntKind.wrap IntKind.i64 (x.4 + (1 : Int)), r0 := x.5, r1 := x.6, r2 := x.7, r3 := x.8, r4 := x.9, r5 := x.10, r6 := x.11, r7 := x.12, f := x.13, i := x.14 }, (0, List.length ws), bif bif x.3 == t then v == (1 : Int) else false then decide (IntKind.wrap IntKind.i64 (x.4 + (1 : Int)) ≤ (1000 : Int)) else false) else bif false then ({ kd := x.1, n := x.2, o := t, h := v, r0 := x.5, r1 := x.6, r2 := x.7, r3 := x.8, r4 := x.9, r5 := x.10, r6 := x.11, r7 := x.12, f := x.13, i := x.14 }, (0, List.length ws), true) else ({ kd := x.1, n := x.2, o := x.3, h := IntKind.wrap IntKind.i64 (x.4 + (1 : Int)), r0 := x.5, r1 := x.6, r2 := x.7, r3 := x.8, r4 := x.9, r5 := x.10, r6 := x.11, r7 := x.12, f := x.13, i := x.14 }, (0, List.length ws), bif bif x.3 == t then v == (1 : Int) else false then decide (IntKind.wrap IntKind.i64 (x.4 + (1 : Int)) ≤ (1000 : Int)) else false)
  else bif k == (3 : Int) then (freeS x, (0, List.length ws), bif x.3 == t then v == (0 : Int) else false) else bif k == (5 : Int) then (x, (0, List.length ws), bif bif x.3 != (-1 : Int) then !x.3 == t else false then v == (0 : Int) else false) else bif k == (6 : Int) then (x, (0, List.length ws), bif !x.3 == t then v == (0 : Int) else false) else bif k == (7 : Int) then (x, (0, List.length ws), bif bif x.3 == t then x.4 == (1000 : Int) else false then v == (0 : Int) else false) else bif k == (10 : Int) then ({ kd := x.1, n := x.2, o := (-1 : Int), h := (0 : Int), r0 := x.5, r1 := x.6, r2 := x.7, r3 := x.8, r4 := x.9, r5 := x.10, r6 := x.11, r7 := x.12, f := x.13, i := x.14 }, (0, List.length ws + 1), bif x.3 == t then x.4 == v else false) else signalS x t k v ws cap
def lockRowF (x : Thg) (ws : List Wt) (t k : Int) : List Wt := bif k == 1 then ws else bif k == 3 then ws else bif k == 5 then ws else bif k == 6 then ws else bif k == 7 then ws else bif k == 10 then ws ++ [(t, x.h)] else sigRowF ws t k
end Go.Proofs.Ytnenbngjdekegaa.X

/- The model: locks, proved. -/
set_option linter.unusedVariables false
set_option linter.unusedSimpArgs false
namespace Go.Proofs.Ytnenbngjdekegaa.X
open Go Go.RowKit Go.Proofs.YtnenbngjdekegaaW.PrintWords Go.Proofs.Ytnenbngjdekegaa.Base
def sigR (S : SigT) (c : Nat) : XV := .tup [S.1.av 1 S.2.1.1 S.2.1.2 c, .c (.v (.bool S.2.2))]
def lockC (x : Thg) (t k v : Int) (ws : List Wt) (cap n : Nat) (ρ : List Nat) : CallSpec := rowSpec ρ n [x.av 0 0 ws.length cap, .c (iv t), markA k v] [Ent.ws true cap ws] (fun _ => True)
  (fun c => sigR (lockS x t k v ws cap) (c 0)) fun c => [Ent.dead, Ent.ws true (c 1) (lockRowF x ws t k)]
theorem signal_call : Callable Try.prog 36 := ⟨_, Try.func36, by kernel_rfl, rfl⟩
theorem EntRel.app {n0 : Nat} {ρ : List Nat} {N c : Nat} {ws : List Wt} {x : Wt} : EntRel n0 ρ N (Ent.mkRow WT 2 (ws.length + 1) c fun i => if i < ws.length then wrow ws i else wc x) (Ent.ws true c (ws ++ [x])) :=
  EntRel.rw (own := true) (by simp) rfl (fun i hi => by
    have hi : i < ws.length + 1 := hi
    unfold wrow
    by_cases h : i < ws.length
    · rw [if_pos h, List.getD_eq_getElem?_getD, List.getD_eq_getElem?_getD, List.getElem?_append_left h]
    · obtain rfl : i = ws.length := by omega
      rw [if_neg h, List.getD_eq_getElem?_getD (l := _ ++ _), List.getElem?_append_right (Nat.le_refl _), Nat.sub_self]
      rfl) fun i _ => wrow_plain _ i
set_option maxHeartbeats 4000000 in
theorem lock_local (x : Thg) (t k v : Int) (ws : List Wt) (cap n : Nat) (ρ : List Nat) (hl : ws.length ≤ 1000000) (hc : ws.length ≤ cap) : (lockC x t k v ws cap n ρ).Local Try.prog 25 := by
  refine local_of Try.func25 rfl (tlock_eq x t k v ws cap) fun ν w => ?_
  repeat' first
    | refine ok_br' (fun h => ?_) (fun h => ?_)
    | (refine ok_callf' waits_call (fits_of rfl rfl ⟨⟨_, rfl, EntRel.ws⟩, trivial⟩ fun c _ => ⟨⟨Nat.le_refl _, rfl⟩, ⟨rfl, rfl⟩, ⟨⟨EntRel.ws, rfl, (fun h => by cases h), .inr rfl⟩, trivial⟩⟩) (waits_local _ _ _ _ _ _ (by omega)) fun c _ => ?_)
    | (refine ok_callf' free_call (fits_of rfl rfl ⟨⟨_, rfl, EntRel.ws⟩, trivial⟩ fun c _ => ⟨⟨Nat.le_refl _, rfl⟩, ⟨rfl, rfl⟩, ⟨⟨EntRel.ws, rfl, (fun h => by cases h), .inr rfl⟩, trivial⟩⟩) (free_local _ _ _ _ _) fun c _ => ?_)
    | (refine ok_chk' ?_ ?_; focus (first | exact fun h => h | (simp; done) | (simp; omega) | (simp_all; done) | (simp_all; omega) | (generalize ws.length = L at *; simp; omega) | (generalize ws.length = L at *; simp_all; omega)))
    | refine ok_both' ?_ ?_
    | refine ok_all' fun c hc => ?_
    | (refine ok_leaf2 (fun _ => cap) [] [0, 0] trivial ?_ ⟨.inl rfl, .inr ⟨_, rfl, row_of ?_⟩, trivial⟩ rfl <;> first | (simp only [lockRowF, *, cond_true, cond_false]; done) | (show XV.tup _ = XV.nilz _ (XV.ren _ (sigR (lockS x t k v ws cap) cap)); simp only [lockS, *, cond_true, cond_false]; first | done | rfl) | (simp_all [lockRowF]; done) | (show XV.tup _ = XV.nilz _ (XV.ren _ (sigR (lockS x t k v ws cap) cap)); unfold lockS; simp_all only [cond_true, cond_false]; first | done | rfl))
  · refine ok_leaf2 (fun _ => c 0) [] [0, 5] trivial ?_ ⟨.inl rfl, .inr ⟨_, rfl, ?_⟩, trivial⟩ rfl
    · show XV.tup _ = XV.nilz _ (XV.ren _ (sigR (lockS x t k v ws cap) (c 0)))
      simp only [lockS, *, cond_true, cond_false]
      rfl
    · rw [show lockRowF x ws t k = ws ++ [(t, x.h)] by simp only [lockRowF, *, cond_true, cond_false]]
      exact EntRel.app (ws := ws) (x := (t, x.h)) (c := c 0)
  · refine ok_callf' signal_call (fits_of rfl rfl ⟨⟨_, rfl, EntRel.ws⟩, trivial⟩ fun c _ => ⟨⟨Nat.le_succ 1, rfl⟩, ⟨rfl, rfl⟩, ⟨⟨EntRel.dead, rfl, (fun h => by cases h), .inl rfl⟩, ⟨EntRel.ws, rfl, (fun h => by cases h), .inl rfl⟩, trivial⟩⟩) (signal_local _ _ _ _ _ _ _ _ hl hc) fun c _ => ?_
    refine ok_leaf2 (fun i => if i = 0 then c 0 else cap) [] [0, 4] trivial ?_ ⟨.inl rfl, .inr ⟨_, rfl, row_of ?_⟩, trivial⟩ rfl
    · show XV.tup _ = XV.nilz _ (XV.ren _ (sigR (lockS x t k v ws cap) (c 0)))
      simp only [lockS, *, cond_true, cond_false]
      rfl
    · simp only [lockRowF, *, cond_true, cond_false]
end Go.Proofs.Ytnenbngjdekegaa.X

/- The model: the document's locks: trees. -/
set_option linter.unusedVariables false
set_option linter.unusedSimpArgs false
namespace Go.Proofs.Ytnenbngjdekegaa.X
open Go Go.RowKit Go.Proofs.YtnenbngjdekegaaW.PrintWords Go.Proofs.Ytnenbngjdekegaa.Base
def ptrK : Option XV → Nat
  | some (.a (.c (.ptr r))) => r.k
  | _ => 0
def boxC : Option Ent → List CV
  | some e => e.f 0 0
  | none => []
def refσ (ws0 : List Wt) (t : Int) : Type := {p : List Wt × Nat // notF p.1 t = notF ws0 t ∧ p.1.length ≤ ws0.length}
abbrev TT : Nat := 25
def Thg.zero : Thg := ⟨0, 0, 0, 0, 0, 0, 0, 0, 0, 0, 0, 0, 0, 0⟩
def refInv (x : Thg) (ws0 : List Wt) (cap0 : Nat) (t : Int) : LoopInv :=
  ⟨refσ ws0 t, fun p => ([(11, ia (placeF p.1.1 t 0)), (1, ia t), (4, .a (.c (.ptr (bref 1 15)))), (8, .a (.c (.ptr (bref 2 15))))], [Ent.ws false cap0 ws0, Ent.mkBox TT (x.cv (.sl 3 0 0 2 p.1.1.length p.1.2)), Ent.mkBox TT (Thg.zero.cv (.v (.slice none 0 0))), Ent.ws false p.1.2 p.1.1]),
   fun p => p.1.1.length, some ⟨(ws0, cap0), rfl, Nat.le_refl _⟩, [], Rm.of [0, 1, 2, 0] 3, [], fun tm' H' => Rm.of [0, 1, 2, slK (boxC (H'.get 1))] H'.length⟩
def lockrG : Ctr := fun f args H => match args with
  | [.agg l] => some (.ex (List Wt) fun ws => freeC (thgOf l) ws false (slCap l) [slK l])
  | [.agg l, .c (.v (.int _ t))] => some (.ex (List Wt × Bool) fun p => placeC (thgOf l) t p.1 p.2 (slCap l) [slK l])
  | [.c (.sl k _ _ _ _ cap), .c (.v (.int _ a))] => some (.ex (List Wt) fun ws => withoutC ws a false cap H.length [k])
  | _ => none
def tlockr (x : Thg) (t k v : Int) (ws : List Wt) (cap : Nat) : Tree :=
  Tree.br (k == (1 : Int))
   (Tree.chk ((x.3 == (-1 : Int)) = true → (x.3 == (-1 : Int)) = true)
   (Tree.chk ((x.3 == (-1 : Int)) = true → (x.3 == (-1 : Int)) = true)
   (Tree.chk ((bif x.3 == (-1 : Int) then decide (v ≥ (1 : Int)) else false) = true → (bif x.3 == (-1 : Int) then decide (v ≥ (1 : Int)) else false) = true)
   (Tree.chk ((bif x.3 == (-1 : Int) then decide (v ≥ (1 : Int)) else false) = true → (bif x.3 == (-1 : Int) then decide (v ≥ (1 : Int)) else false) = true)
   (Tree.br (bif bif x.3 == (-1 : Int) then decide (v ≥ (1 : Int)) else false then decide (v ≤ (1000 : Int)) else false)
   (Tree.chk ((bif bif x.3 == (-1 : Int) then decide (v ≥ (1 : Int)) else false then decide (v ≤ (1000 : Int)) else false) = true)
   (Tree.chk ((bif bif x.3 == (-1 : Int) then decide (v ≥ (1 : Int)) else false then decide (v ≤ (1000 : Int)) else false) = true)
   (Tree.some_ (List (Int × Int) × Bool) fun s => Tree.callf 30 [AV.agg [iv x.1, iv x.2, iv x.3, iv x.4, iv x.5, iv x.6, iv x.7, iv x.8, iv x.9, iv x.10, iv x.11, iv x.12, CV.sl 0 0 0 2 (List.length ws) cap, iv x.13, iv x.14], AV.c (iv t)] [(Ent.ws false cap ws), (Ent.mkBox 25 [iv x.1, iv x.2, iv x.3, iv x.4, iv x.5, iv x.6, iv x.7, iv x.8, iv x.9, iv x.10, iv x.11, iv x.12, CV.sl 0 0 0 2 (List.length ws) cap, iv x.13, iv x.14]), (Ent.mkBox 25 [iv (0 : Int), iv (0 : Int), iv (0 : Int), iv (0 : Int), iv (0 : Int), iv (0 : Int), iv (0 : Int), iv (0 : Int), iv (0 : Int), iv (0 : Int), iv (0 : Int), iv (0 : Int), CV.v (Value.slice none 0 0), iv (0 : Int), iv (0 : Int)])] (placeC x t (Prod.fst s) (Prod.snd s) cap [0]) fun c => Tree.chk ((bif bif x.3 == (-1 : Int) then decide (v ≥ (1 : Int)) else false then decide (v ≤ (1000 : Int)) else false) = true → (bif bif x.3 == (-1 : Int) then decide (v ≥ (1 : Int)) else false then decide (v ≤ (1000 : Int)) else false) = true)
   (Tree.br (bif bif bif x.3 == (-1 : Int) then decide (v ≥ (1 : Int)) else false then decide (v ≤ (1000 : Int)) else false then decide (placeF (Prod.fst s) t 0 < (0 : Int)) else false)
   (Tree.done (XV.tup [AV.agg [iv x.1, iv x.2, iv t, iv v, iv x.5, iv x.6, iv x.7, iv x.8, iv x.9, iv x.10, iv x.11, iv x.12, CV.sl 0 0 0 2 (List.length ws) cap, iv x.13, iv x.14], AV.c (CV.v (Value.bool true))]) [(Ent.ws (Prod.snd s) cap (Prod.fst s)), (Ent.mkBox 25 [iv x.1, iv x.2, iv t, iv v, iv x.5, iv x.6, iv x.7, iv x.8, iv x.9, iv x.10, iv x.11, iv x.12, CV.sl 0 0 0 2 (List.length ws) cap, iv x.13, iv x.14]), (Ent.mkBox 25 [iv x.1, iv x.2, iv t, iv v, iv x.5, iv x.6, iv x.7, iv x.8, iv x.9, iv x.10, iv x.11, iv x.12, CV.sl 0 0 0 2 (List.length ws) cap, iv x.13, iv x.14])])
   (Tree.chk ((x.3 == t) = true → (x.3 == t) = true)
   (Tree.chk ((x.3 == t) = true → (x.3 == t) = true)
   (Tree.chk ((bif x.3 == t then v == (1 : Int) else false) = true → (bif x.3 == t then v == (1 : Int) else false) = true)
   (Tree.chk ((bif x.3 == t then v == (1 : Int) else false) = true → (bif x.3 == t then v == (1 : Int) else false) = true)
   (Tree.chk ((bif x.3 == t then v == (1 : Int) else false) = true → (bif x.3 == t then v == (1 : Int) else false) = true)
   (Tree.br (bif bif x.3 == t then v == (1 : Int) else false then decide (x.4 < (1000 : Int)) else false)
   (Tree.done (XV.tup [AV.agg [iv x.1, iv x.2, iv x.3, iv (IntKind.wrap IntKind.i64 (x.4 + (1 : Int))), iv x.5, iv x.6, iv x.7, iv x.8, iv x.9, iv x.10, iv x.11, iv x.12, CV.sl 0 0 0 2 (List.length ws) cap, iv x.13, iv x.14], AV.c (CV.v (Value.bool true))]) [(Ent.ws (Prod.snd s) cap (Prod.fst s)), (Ent.mkBox 25 [iv x.1, iv x.2, iv x.3, iv (IntKind.wrap IntKind.i64 (x.4 + (1 : Int))), iv x.5, iv x.6, iv x.7, iv x.8, iv x.9, iv x.10, iv x.11, iv x.12, CV.sl 0 0 0 2 (List.length ws) cap, iv x.13, iv x.14]), (Ent.mkBox 25 [iv x.1, iv x.2, iv x.3, iv (IntKind.wrap IntKind.i64 (x.4 + (1 : Int))), iv x.5, iv x.6, iv x.7, iv x.8, iv x.9, iv x.10, iv x.11, iv x.12, CV.sl 0 0 0 2 (List.length ws) cap, iv x.13, iv x.14])])
   (Tree.done (XV.tup [AV.agg [iv x.1, iv x.2, iv x.3, iv x.4, iv x.5, iv x.6, iv x.7, iv x.8, iv x.9, iv x.10, iv x.11, iv x.12, CV.sl 0 0 0 2 (List.length ws) cap, iv x.13, iv x.14], AV.c (CV.v (Value.bool false))]) [(Ent.ws (Prod.snd s) cap (Prod.fst s)), (Ent.mkBox 25 [iv x.1, iv x.2, iv x.3, iv x.4, iv x.5, iv x.6, iv x.7, iv x.8, iv x.9, iv x.10, iv x.11, iv x.12, CV.sl 0 0 0 2 (List.length ws) cap, iv x.13, iv x.14]), (Ent.mkBox 25 [iv x.1, iv x.2, iv x.3, iv x.4, iv x.5, iv x.6, iv x.7, iv x.8, iv x.9, iv x.10, iv x.11, iv x.12, CV.sl 0 0 0 2 (List.length ws) cap, iv x.13, iv x.14])])))))))))))
   (Tree.chk ((bif bif x.3 == (-1 : Int) then decide (v ≥ (1 : Int)) else false then decide (v ≤ (1000 : Int)) else false) = true → False)
   (Tree.chk ((bif bif x.3 == (-1 : Int) then decide (v ≥ (1 : Int)) else false then decide (v ≤ (1000 : Int)) else false) = false)
   (Tree.br false
   (Tree.done (XV.tup [AV.agg [iv x.1, iv x.2, iv t, iv v, iv x.5, iv x.6, iv x.7, iv x.8, iv x.9, iv x.10, iv x.11, iv x.12, CV.sl 0 0 0 2 (List.length ws) cap, iv x.13, iv x.14], AV.c (CV.v (Value.bool true))]) [(Ent.ws false cap ws), (Ent.mkBox 25 [iv x.1, iv x.2, iv t, iv v, iv x.5, iv x.6, iv x.7, iv x.8, iv x.9, iv x.10, iv x.11, iv x.12, CV.sl 0 0 0 2 (List.length ws) cap, iv x.13, iv x.14]), (Ent.mkBox 25 [iv x.1, iv x.2, iv t, iv v, iv x.5, iv x.6, iv x.7, iv x.8, iv x.9, iv x.10, iv x.11, iv x.12, CV.sl 0 0 0 2 (List.length ws) cap, iv x.13, iv x.14])])
   (Tree.chk ((x.3 == t) = true → (x.3 == t) = true)
   (Tree.chk ((x.3 == t) = true → (x.3 == t) = true)
   (Tree.chk ((bif x.3 == t then v == (1 : Int) else false) = true → (bif x.3 == t then v == (1 : Int) else false) = true)
   (Tree.chk ((bif x.3 == t then v == (1 : Int) else false) = true → (bif x.3 == t then v == (1 : Int) else false) = true)
   (Tree.chk ((bif x.3 == t then v == (1 : Int) else false) = true → (bif x.3 == t then v == (1 : Int) else false) = true)
   (Tree.br (bif bif x.3 == t then v == (1 : Int) else false then decide (x.4 < (1000 : Int)) else false)
   (Tree.done (XV.tup [AV.agg [iv x.1, iv x.2, iv x.3, iv (IntKind.wrap IntKind.i64 (x.4 + (1 : Int))), iv x.5, iv x.6, iv x.7, iv x.8, iv x.9, iv x.10, iv x.11, iv x.12, CV.sl 0 0 0 2 (List.length ws) cap, iv x.13, iv x.14], AV.c (CV.v (Value.bool true))]) [(Ent.ws false cap ws), (Ent.mkBox 25 [iv x.1, iv x.2, iv x.3, iv (IntKind.wrap IntKind.i64 (x.4 + (1 : Int))), iv x.5, iv x.6, iv x.7, iv x.8, iv x.9, iv x.10, iv x.11, iv x.12, CV.sl 0 0 0 2 (List.length ws) cap, iv x.13, iv x.14]), (Ent.mkBox 25 [iv x.1, iv x.2, iv x.3, iv (IntKind.wrap IntKind.i64 (x.4 + (1 : Int))), iv x.5, iv x.6, iv x.7, iv x.8, iv x.9, iv x.10, iv x.11, iv x.12, CV.sl 0 0 0 2 (List.length ws) cap, iv x.13, iv x.14])])
   (Tree.done (XV.tup [AV.agg [iv x.1, iv x.2, iv x.3, iv x.4, iv x.5, iv x.6, iv x.7, iv x.8, iv x.9, iv x.10, iv x.11, iv x.12, CV.sl 0 0 0 2 (List.length ws) cap, iv x.13, iv x.14], AV.c (CV.v (Value.bool false))]) [(Ent.ws false cap ws), (Ent.mkBox 25 [iv x.1, iv x.2, iv x.3, iv x.4, iv x.5, iv x.6, iv x.7, iv x.8, iv x.9, iv x.10, iv x.11, iv x.12, CV.sl 0 0 0 2 (List.length ws) cap, iv x.13, iv x.14]), (Ent.mkBox 25 [iv x.1, iv x.2, iv x.3, iv x.4, iv x.5, iv x.6, iv x.7, iv x.8, iv x.9, iv x.10, iv x.11, iv x.12, CV.sl 0 0 0 2 (List.length ws) cap, iv x.13, iv x.14])])))))))))))))))
   (Tree.br (k == (3 : Int))
   (Tree.chk ((x.3 == t) = true → (x.3 == t) = true)
   (Tree.chk ((x.3 == t) = true → (x.3 == t) = true)
   (Tree.br (bif x.3 == t then v == (0 : Int) else false)
   (Tree.some_ (List (Int × Int)) fun s => Tree.callf 31 [AV.agg [iv x.1, iv x.2, iv x.3, iv x.4, iv x.5, iv x.6, iv x.7, iv x.8, iv x.9, iv x.10, iv x.11, iv x.12, CV.sl 0 0 0 2 (List.length ws) cap, iv x.13, iv x.14]] [(Ent.ws false cap ws), (Ent.mkBox 25 [iv x.1, iv x.2, iv x.3, iv x.4, iv x.5, iv x.6, iv x.7, iv x.8, iv x.9, iv x.10, iv x.11, iv x.12, CV.sl 0 0 0 2 (List.length ws) cap, iv x.13, iv x.14]), (Ent.mkBox 25 [iv (0 : Int), iv (0 : Int), iv (0 : Int), iv (0 : Int), iv (0 : Int), iv (0 : Int), iv (0 : Int), iv (0 : Int), iv (0 : Int), iv (0 : Int), iv (0 : Int), iv (0 : Int), CV.v (Value.slice none 0 0), iv (0 : Int), iv (0 : Int)])] (freeC x s false cap [0]) fun c => Tree.done (XV.tup [AV.agg [iv (freeS x).1, iv (freeS x).2, iv (freeS x).3, iv (freeS x).4, iv (freeS x).5, iv (freeS x).6, iv (freeS x).7, iv (freeS x).8, iv (freeS x).9, iv (freeS x).10, iv (freeS x).11, iv (freeS x).12, CV.sl 0 0 0 2 (List.length s) cap, iv (freeS x).13, iv (freeS x).14], AV.c (CV.v (Value.bool true))]) [(Ent.ws false cap s), (Ent.mkBox 25 [iv x.1, iv x.2, iv x.3, iv x.4, iv x.5, iv x.6, iv x.7, iv x.8, iv x.9, iv x.10, iv x.11, iv x.12, CV.sl 0 0 0 2 (List.length ws) cap, iv x.13, iv x.14]), (Ent.mkBox 25 [iv (freeS x).1, iv (freeS x).2, iv (freeS x).3, iv (freeS x).4, iv (freeS x).5, iv (freeS x).6, iv (freeS x).7, iv (freeS x).8, iv (freeS x).9, iv (freeS x).10, iv (freeS x).11, iv (freeS x).12, CV.sl 0 0 0 2 (List.length s) cap, iv (freeS x).13, iv (freeS x).14])])
   (Tree.done (XV.tup [AV.agg [iv x.1, iv x.2, iv x.3, iv x.4, iv x.5, iv x.6, iv x.7, iv x.8, iv x.9, iv x.10, iv x.11, iv x.12, CV.sl 0 0 0 2 (List.length ws) cap, iv x.13, iv x.14], AV.c (CV.v (Value.bool false))]) [(Ent.ws false cap ws), (Ent.mkBox 25 [iv x.1, iv x.2, iv x.3, iv x.4, iv x.5, iv x.6, iv x.7, iv x.8, iv x.9, iv x.10, iv x.11, iv x.12, CV.sl 0 0 0 2 (List.length ws) cap, iv x.13, iv x.14]), (Ent.mkBox 25 [iv x.1, iv x.2, iv x.3, iv x.4, iv x.5, iv x.6, iv x.7, iv x.8, iv x.9, iv x.10, iv x.11, iv x.12, CV.sl 0 0 0 2 (List.length ws) cap, iv x.13, iv x.14])]))))
   (Tree.br (k == (5 : Int))
   (Tree.chk ((x.3 != (-1 : Int)) = true → (x.3 != (-1 : Int)) = true)
   (Tree.chk ((x.3 != (-1 : Int)) = true → (x.3 != (-1 : Int)) = true)
   (Tree.chk ((bif x.3 != (-1 : Int) then !x.3 == t else false) = true → (bif x.3 != (-1 : Int) then !x.3 == t else false) = true)
   (Tree.chk ((bif x.3 != (-1 : Int) then !x.3 == t else false) = true → (bif x.3 != (-1 : Int) then !x.3 == t else false) = true)
   (Tree.done (XV.tup [AV.agg [iv x.1, iv x.2, iv x.3, iv x.4, iv x.5, iv x.6, iv x.7, iv x.8, iv x.9, iv x.10, iv x.11, iv x.12, CV.sl 0 0 0 2 (List.length ws) cap, iv x.13, iv x.14], AV.c (CV.v (Value.bool (bif bif x.3 != (-1 : Int) then !x.3 == t else false then v == (0 : Int) else false)))]) [(Ent.ws false cap ws), (Ent.mkBox 25 [iv x.1, iv x.2, iv x.3, iv x.4, iv x.5, iv x.6, iv x.7, iv x.8, iv x.9, iv x.10, iv x.11, iv x.12, CV.sl 0 0 0 2 (List.length ws) cap, iv x.13, iv x.14]), (Ent.mkBox 25 [iv x.1, iv x.2, iv x.3, iv x.4, iv x.5, iv x.6, iv x.7, iv x.8, iv x.9, iv x.10, iv x.11, iv x.12, CV.sl 0 0 0 2 (List.length ws) cap, iv x.13, iv x.14])])))))
   (Tree.br (k == (6 : Int))
   (Tree.chk ((!x.3 == t) = true → (!x.3 == t) = true)
   (Tree.chk ((!x.3 == t) = true → (!x.3 == t) = true)
   (Tree.done (XV.tup [AV.agg [iv x.1, iv x.2, iv x.3, iv x.4, iv x.5, iv x.6, iv x.7, iv x.8, iv x.9, iv x.10, iv x.11, iv x.12, CV.sl 0 0 0 2 (List.length ws) cap, iv x.13, iv x.14], AV.c (CV.v (Value.bool (bif !x.3 == t then v == (0 : Int) else false)))]) [(Ent.ws false cap ws), (Ent.mkBox 25 [iv x.1, iv x.2, iv x.3, iv x.4, iv x.5, iv x.6, iv x.7, iv x.8, iv x.9, iv x.10, iv x.11, iv x.12, CV.sl 0 0 0 2 (List.length ws) cap, iv x.13, iv x.14]), (Ent.mkBox 25 [iv x.1, iv x.2, iv x.3, iv x.4, iv x.5, iv x.6, iv x.7, iv x.8, iv x.9, iv x.10, iv x.11, iv x.12, CV.sl 0 0 0 2 (List.length ws) cap, iv x.13, iv x.14])])))
   (Tree.br (k == (7 : Int))
   (Tree.chk ((x.3 == t) = true → (x.3 == t) = true)
   (Tree.chk ((x.3 == t) = true → (x.3 == t) = true)
   (Tree.chk ((x.3 == t) = true → (x.3 == t) = true)
   (Tree.chk ((bif x.3 == t then x.4 == (1000 : Int) else false) = true → (bif x.3 == t then x.4 == (1000 : Int) else false) = true)
   (Tree.chk ((bif x.3 == t then x.4 == (1000 : Int) else false) = true → (bif x.3 == t then x.4 == (1000 : Int) else false) = true)
   (Tree.done (XV.tup [AV.agg [iv x.1, iv x.2, iv x.3, iv x.4, iv x.5, iv x.6, iv x.7, iv x.8, iv x.9, iv x.10, iv x.11, iv x.12, CV.sl 0 0 0 2 (List.length ws) cap, iv x.13, iv x.14], AV.c (CV.v (Value.bool (bif bif x.3 == t then x.4 == (1000 : Int) else false then v == (0 : Int) else false)))]) [(Ent.ws false cap ws), (Ent.mkBox 25 [iv x.1, iv x.2, iv x.3, iv x.4, iv x.5, iv x.6, iv x.7, iv x.8, iv x.9, iv x.10, iv x.11, iv x.12, CV.sl 0 0 0 2 (List.length ws) cap, iv x.13, iv x.14]), (Ent.mkBox 25 [iv x.1, iv x.2, iv x.3, iv x.4, iv x.5, iv x.6, iv x.7, iv x.8, iv x.9, iv x.10, iv x.11, iv x.12, CV.sl 0 0 0 2 (List.length ws) cap, iv x.13, iv x.14])]))))))
   (Tree.br (k == (10 : Int))
   (Tree.chk ((x.3 == t) = true → (x.3 == t) = true)
   (Tree.chk ((x.3 == t) = true → (x.3 == t) = true)
   (Tree.chk ((x.3 == t) = true → (x.3 == t) = true)
   (Tree.chk ((x.3 == t) = true → (x.3 == t) = true)
   (Tree.br (bif x.3 == t then v == x.4 else false)
   (Tree.both
   (Tree.chk (AV.agg [iv t, iv x.4] = AV.agg [iv t, iv x.4])
   (Tree.chk (AV.c (iv x.4) = AV.c (iv x.4))
   (Tree.chk (AV.c (CV.ptr { k := 1, j := 0, i := 0, sz := 15, c := 3, d := 0, dn := 0, cu := 0 }) = AV.c (CV.ptr { k := 1, j := 0, i := 0, sz := 15, c := 3, d := 0, dn := 0, cu := 0 }))
   (Tree.chk (AV.c (iv t) = AV.c (iv t))
   (Tree.chk (AV.c (CV.sl 0 0 0 2 (List.length ws) cap) = AV.c (CV.sl 0 0 0 2 (List.length ws) cap))
   (Tree.chk (AV.c (CV.ptr { k := 1, j := 0, i := 0, sz := 15, c := 12, d := 0, dn := 0, cu := 0 }) = AV.c (CV.ptr { k := 1, j := 0, i := 0, sz := 15, c := 12, d := 0, dn := 0, cu := 0 }))
   (Tree.both
   (Tree.chk ((0 + List.length ws) * 16 ≤ 140737488355328)
   (Tree.chk (0 < 1 ∧ 0 + List.length ws ≤ List.length ws)
   (Tree.chk (0 = 0 ∧ 0 = 0)
   (Tree.all (fun c => 0 + List.length ws ≤ c 0 ∧ c 0 ≤ maxLen) fun c => Tree.chk (AV.agg [iv t, iv x.4] = AV.agg [iv t, iv x.4])
   (Tree.chk (AV.c (iv x.4) = AV.c (iv x.4))
   (Tree.chk (AV.c (CV.ptr { k := 1, j := 0, i := 0, sz := 15, c := 3, d := 0, dn := 0, cu := 0 }) = AV.c (CV.ptr { k := 1, j := 0, i := 0, sz := 15, c := 3, d := 0, dn := 0, cu := 0 }))
   (Tree.chk (AV.c (iv t) = AV.c (iv t))
   (Tree.chk ((0 + List.length ws + 1) * 16 ≤ 140737488355328)
   (Tree.chk (0 < 1 ∧ 1 ≤ 1)
   (Tree.chk (0 + List.length ws = 0 + List.length ws ∧ c 0 = c 0)
   (Tree.all (fun c => 0 + List.length ws + 1 ≤ c 0 ∧ c 0 ≤ maxLen) fun c => Tree.done (XV.tup [AV.agg [iv x.1, iv x.2, iv (-1 : Int), iv (0 : Int), iv x.5, iv x.6, iv x.7, iv x.8, iv x.9, iv x.10, iv x.11, iv x.12, CV.sl 6 0 0 2 (0 + List.length ws + 1) (c 0), iv x.13, iv x.14], AV.c (CV.v (Value.bool true))]) [(Ent.ws false cap ws), (Ent.mkBox 25 [iv x.1, iv x.2, iv (-1 : Int), iv (0 : Int), iv x.5, iv x.6, iv x.7, iv x.8, iv x.9, iv x.10, iv x.11, iv x.12, CV.sl 6 0 0 2 (0 + List.length ws + 1) (c 0), iv x.13, iv x.14]), (Ent.mkBox 25 [iv x.1, iv x.2, iv (-1 : Int), iv (0 : Int), iv x.5, iv x.6, iv x.7, iv x.8, iv x.9, iv x.10, iv x.11, iv x.12, CV.sl 6 0 0 2 (0 + List.length ws + 1) (c 0), iv x.13, iv x.14]), Ent.dead, Ent.dead, { own := true, box := false, ty := 37, sz := 2, m := 1, n := fun x => 1, cap := fun x => 1, f := fun x_1 i => [iv t, iv x.4], ov := [] }, { own := true, box := false, ty := 37, sz := 2, m := 1, n := fun x => 0 + List.length ws + 1, cap := fun x => c 0, f := fun x_1 i => if i < 0 + List.length ws then if i < 0 then List.getD (List.replicate 0 (List.map CV.v [Value.int IntKind.i64 (0 : Int), Value.int IntKind.i64 (0 : Int)])) i [] else [iv (Prod.fst (List.getD ws (i - 0) ((0 : Int), (0 : Int)))), iv (Prod.snd (List.getD ws (i - 0) ((0 : Int), (0 : Int))))] else [iv t, iv x.4], ov := [] }])))))))))))
   (Tree.chk (AV.c (CV.sl 0 0 0 2 (List.length ws) cap) = AV.c (CV.sl 0 0 0 2 (List.length ws) cap))
   (Tree.chk (AV.c (CV.ptr { k := 1, j := 0, i := 0, sz := 15, c := 12, d := 0, dn := 0, cu := 0 }) = AV.c (CV.ptr { k := 1, j := 0, i := 0, sz := 15, c := 12, d := 0, dn := 0, cu := 0 }))
   (Tree.chk ((0 + List.length ws) * 16 ≤ 140737488355328)
   (Tree.chk (0 < 1 ∧ 0 + List.length ws ≤ List.length ws)
   (Tree.chk (0 = 0 ∧ 0 = 0)
   (Tree.all (fun c => 0 + List.length ws ≤ c 0 ∧ c 0 ≤ maxLen) fun c => Tree.chk ((0 + List.length ws + 1) * 16 ≤ 140737488355328)
   (Tree.chk (0 < 1 ∧ 1 ≤ 1)
   (Tree.chk (0 + List.length ws = 0 + List.length ws ∧ c 0 = c 0)
   (Tree.all (fun c => 0 + List.length ws + 1 ≤ c 0 ∧ c 0 ≤ maxLen) fun c => Tree.done (XV.tup [AV.agg [iv x.1, iv x.2, iv (-1 : Int), iv (0 : Int), iv x.5, iv x.6, iv x.7, iv x.8, iv x.9, iv x.10, iv x.11, iv x.12, CV.sl 6 0 0 2 (0 + List.length ws + 1) (c 0), iv x.13, iv x.14], AV.c (CV.v (Value.bool true))]) [(Ent.ws false cap ws), (Ent.mkBox 25 [iv x.1, iv x.2, iv (-1 : Int), iv (0 : Int), iv x.5, iv x.6, iv x.7, iv x.8, iv x.9, iv x.10, iv x.11, iv x.12, CV.sl 6 0 0 2 (0 + List.length ws + 1) (c 0), iv x.13, iv x.14]), (Ent.mkBox 25 [iv x.1, iv x.2, iv (-1 : Int), iv (0 : Int), iv x.5, iv x.6, iv x.7, iv x.8, iv x.9, iv x.10, iv x.11, iv x.12, CV.sl 6 0 0 2 (0 + List.length ws + 1) (c 0), iv x.13, iv x.14]), Ent.dead, { own := true, box := false, ty := 37, sz := 2, m := 1, n := fun x => 1, cap := fun x => 1, f := fun x_1 i => [iv t, iv x.4], ov := [] }, Ent.dead, { own := true, box := false, ty := 37, sz := 2, m := 1, n := fun x => 0 + List.length ws + 1, cap := fun x => c 0, f := fun x_1 i => if i < 0 + List.length ws then if i < 0 then List.getD (List.replicate 0 (List.map CV.v [Value.int IntKind.i64 (0 : Int), Value.int IntKind.i64 (0 : Int)])) i [] else [iv (Prod.fst (List.getD ws (i - 0) ((0 : Int), (0 : Int)))), iv (Prod.snd (List.getD ws (i - 0) ((0 : Int), (0 : Int))))] else [iv t, iv x.4], ov := [] }]))))))))))))))))
   (Tree.chk (AV.c (CV.sl 0 0 0 2 (List.length ws) cap) = AV.c (CV.sl 0 0 0 2 (List.length ws) cap))
   (Tree.chk (AV.c (CV.ptr { k := 1, j := 0, i := 0, sz := 15, c := 12, d := 0, dn := 0, cu := 0 }) = AV.c (CV.ptr { k := 1, j := 0, i := 0, sz := 15, c := 12, d := 0, dn := 0, cu := 0 }))
   (Tree.chk (AV.c (CV.sl 0 0 0 2 (List.length ws) cap) = AV.c (CV.sl 0 0 0 2 (List.length ws) cap))
   (Tree.chk (AV.c (CV.ptr { k := 1, j := 0, i := 0, sz := 15, c := 12, d := 0, dn := 0, cu := 0 }) = AV.c (CV.ptr { k := 1, j := 0, i := 0, sz := 15, c := 12, d := 0, dn := 0, cu := 0 }))
   (Tree.chk ((0 + List.length ws) * 16 ≤ 140737488355328)
   (Tree.chk (0 < 1 ∧ 0 + List.length ws ≤ List.length ws)
   (Tree.chk (0 = 0 ∧ 0 = 0)
   (Tree.all (fun c => 0 + List.length ws ≤ c 0 ∧ c 0 ≤ maxLen) fun c => Tree.chk ((0 + List.length ws + 1) * 16 ≤ 140737488355328)
   (Tree.chk (0 < 1 ∧ 1 ≤ 1)
   (Tree.chk (0 + List.length ws = 0 + List.length ws ∧ c 0 = c 0)
   (Tree.all (fun c => 0 + List.length ws + 1 ≤ c 0 ∧ c 0 ≤ maxLen) fun c => Tree.done (XV.tup [AV.agg [iv x.1, iv x.2, iv (-1 : Int), iv (0 : Int), iv x.5, iv x.6, iv x.7, iv x.8, iv x.9, iv x.10, iv x.11, iv x.12, CV.sl 6 0 0 2 (0 + List.length ws + 1) (c 0), iv x.13, iv x.14], AV.c (CV.v (Value.bool true))]) [(Ent.ws false cap ws), (Ent.mkBox 25 [iv x.1, iv x.2, iv (-1 : Int), iv (0 : Int), iv x.5, iv x.6, iv x.7, iv x.8, iv x.9, iv x.10, iv x.11, iv x.12, CV.sl 6 0 0 2 (0 + List.length ws + 1) (c 0), iv x.13, iv x.14]), (Ent.mkBox 25 [iv x.1, iv x.2, iv (-1 : Int), iv (0 : Int), iv x.5, iv x.6, iv x.7, iv x.8, iv x.9, iv x.10, iv x.11, iv x.12, CV.sl 6 0 0 2 (0 + List.length ws + 1) (c 0), iv x.13, iv x.14]), { own := true, box := false, ty := 37, sz := 2, m := 1, n := fun x => 1, cap := fun x => 1, f := fun x_1 i => [iv t, iv x.4], ov := [] }, Ent.dead, Ent.dead, { own := true, box := false, ty := 37, sz := 2, m := 1, n := fun x => 0 + List.length ws + 1, cap := fun x => c 0, f := fun x_1 i => if i < 0 + List.length ws then if i < 0 then List.getD (List.replicate 0 (List.map CV.v [Value.int IntKind.i64 (0 : Int), Value.int IntKind.i64 (0 : Int)])) i [] else [iv (Prod.fst (List.getD ws (i - 0) ((0 : Int), (0 : Int)))), iv (Prod.snd (List.getD ws (i - 0) ((0 : Int), (0 : Int))))] else [iv t, iv x.4], ov := [] }]))))))))))))
   (Tree.done (XV.tup [AV.agg [iv x.1, iv x.2, iv x.3, iv x.4, iv x.5, iv x.6, iv x.7, iv x.8, iv x.9, iv x.10, iv x.11, iv x.12, CV.sl 0 0 0 2 (List.length ws) cap, iv x.13, iv x.14], AV.c (CV.v (Value.bool false))]) [(Ent.ws false cap ws), (Ent.mkBox 25 [iv x.1, iv x.2, iv x.3, iv x.4, iv x.5, iv x.6, iv x.7, iv x.8, iv x.9, iv x.10, iv x.11, iv x.12, CV.sl 0 0 0 2 (List.length ws) cap, iv x.13, iv x.14]), (Ent.mkBox 25 [iv x.1, iv x.2, iv x.3, iv x.4, iv x.5, iv x.6, iv x.7, iv x.8, iv x.9, iv x.10, iv x.11, iv x.12, CV.sl 0 0 0 2 (List.length ws) cap, iv x.13, iv x.14])]))))))
   (Tree.br (k == (11 : Int))
   (Tree.chk ((x.3 == t) = true → (x.3 == t) = true)
   (Tree.chk ((x.3 == t) = true → (x.3 == t) = true)
   (Tree.chk ((x.3 == t) = true → (x.3 == t) = true)
   (Tree.chk ((x.3 == t) = true → (x.3 == t) = true)
   (Tree.chk ((bif x.3 == t then decide ((↑(List.length ws) : Int) > (0 : Int)) else false) = true → (bif x.3 == t then decide ((↑(List.length ws) : Int) > (0 : Int)) else false) = true)
   (Tree.chk ((bif x.3 == t then decide ((↑(List.length ws) : Int) > (0 : Int)) else false) = true → (bif x.3 == t then decide ((↑(List.length ws) : Int) > (0 : Int)) else false) = true)
   (Tree.chk ((bif x.3 == t then decide ((↑(List.length ws) : Int) > (0 : Int)) else false) = true → (0 : Int) ≤ (0 : Int) ∧ (0 : Int) < (↑(List.length ws) : Int) ∧ Int.toNat (0 : Int) < List.length ws ∧ 0 < 1)
   (Tree.chk ((bif x.3 == t then decide ((↑(List.length ws) : Int) > (0 : Int)) else false) = true → (bif x.3 == t then decide ((↑(List.length ws) : Int) > (0 : Int)) else false) = true)
   (Tree.chk ((bif x.3 == t then decide ((↑(List.length ws) : Int) > (0 : Int)) else false) = true → (bif x.3 == t then decide ((↑(List.length ws) : Int) > (0 : Int)) else false) = true)
   (Tree.chk ((bif x.3 == t then decide ((↑(List.length ws) : Int) > (0 : Int)) else false) = true → 0 < 1 ∧ Int.toNat (0 : Int) < List.length ws)
   (Tree.chk ((bif x.3 == t then decide ((↑(List.length ws) : Int) > (0 : Int)) else false) = true → (bif x.3 == t then decide ((↑(List.length ws) : Int) > (0 : Int)) else false) = true)
   (Tree.chk ((bif x.3 == t then decide ((↑(List.length ws) : Int) > (0 : Int)) else false) = true → (bif x.3 == t then decide ((↑(List.length ws) : Int) > (0 : Int)) else false) = true)
   (Tree.chk ((bif x.3 == t then decide ((↑(List.length ws) : Int) > (0 : Int)) else false) = true → (bif x.3 == t then decide ((↑(List.length ws) : Int) > (0 : Int)) else false) = true)
   (Tree.br (bif bif x.3 == t then decide ((↑(List.length ws) : Int) > (0 : Int)) else false then v == Prod.fst (List.getD ws (Int.toNat (0 : Int)) ((0 : Int), (0 : Int))) else false)
   (Tree.some_ (List (Int × Int)) fun s => Tree.callf 32 [AV.c (CV.sl 0 0 0 2 (List.length ws) cap), AV.c (iv (0 : Int))] [(Ent.ws false cap ws), (Ent.mkBox 25 [iv x.1, iv x.2, iv x.3, iv x.4, iv x.5, iv x.6, iv x.7, iv x.8, iv x.9, iv x.10, iv x.11, iv x.12, CV.sl 0 0 0 2 (List.length ws) cap, iv x.13, iv x.14]), (Ent.mkBox 25 [iv (0 : Int), iv (0 : Int), iv (0 : Int), iv (0 : Int), iv (0 : Int), iv (0 : Int), iv (0 : Int), iv (0 : Int), iv (0 : Int), iv (0 : Int), iv (0 : Int), iv (0 : Int), CV.v (Value.slice none 0 0), iv (0 : Int), iv (0 : Int)])] (withoutC s (0 : Int) false cap 3 [0]) fun c => Tree.done (XV.tup [AV.agg [iv x.1, iv x.2, iv x.3, iv x.4, iv x.5, iv x.6, iv x.7, iv x.8, iv x.9, iv x.10, iv x.11, iv x.12, CV.sl 3 0 0 2 (List.length (woF s (0 : Int) (List.length s))) (c 0), iv x.13, iv x.14], AV.c (CV.v (Value.bool true))]) [(Ent.ws false cap s), (Ent.mkBox 25 [iv x.1, iv x.2, iv x.3, iv x.4, iv x.5, iv x.6, iv x.7, iv x.8, iv x.9, iv x.10, iv x.11, iv x.12, CV.sl 3 0 0 2 (List.length (woF s (0 : Int) (List.length s))) (c 0), iv x.13, iv x.14]), (Ent.mkBox 25 [iv x.1, iv x.2, iv x.3, iv x.4, iv x.5, iv x.6, iv x.7, iv x.8, iv x.9, iv x.10, iv x.11, iv x.12, CV.sl 3 0 0 2 (List.length (woF s (0 : Int) (List.length s))) (c 0), iv x.13, iv x.14]), (Ent.ws true (c 0) (woF s (0 : Int) (List.length s)))])
   (Tree.done (XV.tup [AV.agg [iv x.1, iv x.2, iv x.3, iv x.4, iv x.5, iv x.6, iv x.7, iv x.8, iv x.9, iv x.10, iv x.11, iv x.12, CV.sl 0 0 0 2 (List.length ws) cap, iv x.13, iv x.14], AV.c (CV.v (Value.bool false))]) [(Ent.ws false cap ws), (Ent.mkBox 25 [iv x.1, iv x.2, iv x.3, iv x.4, iv x.5, iv x.6, iv x.7, iv x.8, iv x.9, iv x.10, iv x.11, iv x.12, CV.sl 0 0 0 2 (List.length ws) cap, iv x.13, iv x.14]), (Ent.mkBox 25 [iv x.1, iv x.2, iv x.3, iv x.4, iv x.5, iv x.6, iv x.7, iv x.8, iv x.9, iv x.10, iv x.11, iv x.12, CV.sl 0 0 0 2 (List.length ws) cap, iv x.13, iv x.14])])))))))))))))))
   (Tree.br (k == (12 : Int))
   (Tree.chk ((x.3 == t) = true → (x.3 == t) = true)
   (Tree.chk ((x.3 == t) = true → (x.3 == t) = true)
   (Tree.chk ((x.3 == t) = true → (x.3 == t) = true)
   (Tree.chk ((x.3 == t) = true → (x.3 == t) = true)
   (Tree.chk ((bif x.3 == t then (↑(List.length ws) : Int) == (0 : Int) else false) = true → (bif x.3 == t then (↑(List.length ws) : Int) == (0 : Int) else false) = true)
   (Tree.chk ((bif x.3 == t then (↑(List.length ws) : Int) == (0 : Int) else false) = true → (bif x.3 == t then (↑(List.length ws) : Int) == (0 : Int) else false) = true)
   (Tree.done (XV.tup [AV.agg [iv x.1, iv x.2, iv x.3, iv x.4, iv x.5, iv x.6, iv x.7, iv x.8, iv x.9, iv x.10, iv x.11, iv x.12, CV.sl 0 0 0 2 (List.length ws) cap, iv x.13, iv x.14], AV.c (CV.v (Value.bool (bif bif x.3 == t then (↑(List.length ws) : Int) == (0 : Int) else false then v == (0 : Int) else false)))]) [(Ent.ws false cap ws), (Ent.mkBox 25 [iv x.1, iv x.2, iv x.3, iv x.4, iv x.5, iv x.6, iv x.7, iv x.8, iv x.9, iv x.10, iv x.11, iv x.12, CV.sl 0 0 0 2 (List.length ws) cap, iv x.13, iv x.14]), (Ent.mkBox 25 [iv x.1, iv x.2, iv x.3, iv x.4, iv x.5, iv x.6, iv x.7, iv x.8, iv x.9, iv x.10, iv x.11, iv x.12, CV.sl 0 0 0 2 (List.length ws) cap, iv x.13, iv x.14])])))))))
   (Tree.br (k == (13 : Int))
   (Tree.some_ (List (Int × Int) × Bool) fun s => Tree.callf 30 [AV.agg [iv x.1, iv x.2, iv x.3, iv x.4, iv x.5, iv x.6, iv x.7, iv x.8, iv x.9, iv x.10, iv x.11, iv x.12, CV.sl 0 0 0 2 (List.length ws) cap, iv x.13, iv x.14], AV.c (iv t)] [(Ent.ws false cap ws), (Ent.mkBox 25 [iv x.1, iv x.2, iv x.3, iv x.4, iv x.5, iv x.6, iv x.7, iv x.8, iv x.9, iv x.10, iv x.11, iv x.12, CV.sl 0 0 0 2 (List.length ws) cap, iv x.13, iv x.14]), (Ent.mkBox 25 [iv (0 : Int), iv (0 : Int), iv (0 : Int), iv (0 : Int), iv (0 : Int), iv (0 : Int), iv (0 : Int), iv (0 : Int), iv (0 : Int), iv (0 : Int), iv (0 : Int), iv (0 : Int), CV.v (Value.slice none 0 0), iv (0 : Int), iv (0 : Int)])] (placeC x t (Prod.fst s) (Prod.snd s) cap [0]) fun c => Tree.chk (decide (placeF (Prod.fst s) t 0 ≥ (0 : Int)) = true → decide (placeF (Prod.fst s) t 0 ≥ (0 : Int)) = true)
   (Tree.chk (decide (placeF (Prod.fst s) t 0 ≥ (0 : Int)) = true → decide (placeF (Prod.fst s) t 0 ≥ (0 : Int)) = true)
   (Tree.br (bif decide (placeF (Prod.fst s) t 0 ≥ (0 : Int)) then v == (0 : Int) else false)
   (Tree.both
   (Tree.chk (XV.a (AV.c (iv (placeF (Prod.fst s) t 0))) = XV.a (AV.c (iv (placeF ws t 0))))
   (Tree.chk (XV.a (AV.c (iv t)) = XV.a (AV.c (iv t)))
   (Tree.chk (XV.a (AV.c (CV.ptr { k := 1, j := 0, i := 0, sz := 15, c := 0, d := 0, dn := 0, cu := 0 })) = XV.a (AV.c (CV.ptr { k := 1, j := 0, i := 0, sz := 15, c := 0, d := 0, dn := 0, cu := 0 })))
   (Tree.chk (XV.a (AV.c (CV.ptr { k := 2, j := 0, i := 0, sz := 15, c := 0, d := 0, dn := 0, cu := 0 })) = XV.a (AV.c (CV.ptr { k := 2, j := 0, i := 0, sz := 15, c := 0, d := 0, dn := 0, cu := 0 })))
   (Tree.chk (RnOk 1 4 3 fun a a_1 => (List.getD [0, 1, 2, 0] a 0, a_1))
   (Tree.chk (RgAll 3 (fun a a_1 => (List.getD [0, 1, 2, 0] a 0, a_1)) (fun a a_1 => (List.getD [3, 1, 2] a 0, a_1)) [(Ent.ws (Prod.snd s) cap (Prod.fst s)), (Ent.mkBox 25 [iv x.1, iv x.2, iv x.3, iv x.4, iv x.5, iv x.6, iv x.7, iv x.8, iv x.9, iv x.10, iv x.11, iv x.12, CV.sl 0 0 0 2 (List.length ws) cap, iv x.13, iv x.14]), (Ent.mkBox 25 [iv (0 : Int), iv (0 : Int), iv (0 : Int), iv (0 : Int), iv (0 : Int), iv (0 : Int), iv (0 : Int), iv (0 : Int), iv (0 : Int), iv (0 : Int), iv (0 : Int), iv (0 : Int), CV.v (Value.slice none 0 0), iv (0 : Int), iv (0 : Int)])] 4 0 [(Ent.ws false cap ws), (Ent.mkBox 25 [iv x.1, iv x.2, iv x.3, iv x.4, iv x.5, iv x.6, iv x.7, iv x.8, iv x.9, iv x.10, iv x.11, iv x.12, CV.sl 3 0 0 2 (List.length ws) cap, iv x.13, iv x.14]), (Ent.mkBox 25 [iv (0 : Int), iv (0 : Int), iv (0 : Int), iv (0 : Int), iv (0 : Int), iv (0 : Int), iv (0 : Int), iv (0 : Int), iv (0 : Int), iv (0 : Int), iv (0 : Int), iv (0 : Int), CV.v (Value.slice none 0 0), iv (0 : Int), iv (0 : Int)]), (Ent.ws false cap ws)])
   (Tree.need True)))))))
   (Tree.every { p // notF (Prod.fst p) t = notF ws t ∧ List.length (Prod.fst p) ≤ List.length ws } fun s => Tree.br (decide (placeF (Prod.fst (Subtype.val s)) t 0 ≥ (0 : Int)))
   (Tree.some_ (List (Int × Int)) fun s_1 => Tree.callf 32 [AV.c (CV.sl 3 0 0 2 (List.length (Prod.fst (Subtype.val s))) (Prod.snd (Subtype.val s))), AV.c (iv (placeF (Prod.fst (Subtype.val s)) t 0))] [(Ent.ws false cap ws), (Ent.mkBox 25 [iv x.1, iv x.2, iv x.3, iv x.4, iv x.5, iv x.6, iv x.7, iv x.8, iv x.9, iv x.10, iv x.11, iv x.12, CV.sl 3 0 0 2 (List.length (Prod.fst (Subtype.val s))) (Prod.snd (Subtype.val s)), iv x.13, iv x.14]), (Ent.mkBox 25 [iv (0 : Int), iv (0 : Int), iv (0 : Int), iv (0 : Int), iv (0 : Int), iv (0 : Int), iv (0 : Int), iv (0 : Int), iv (0 : Int), iv (0 : Int), iv (0 : Int), iv (0 : Int), CV.v (Value.slice none 0 0), iv (0 : Int), iv (0 : Int)]), (Ent.ws false (Prod.snd (Subtype.val s)) (Prod.fst (Subtype.val s)))] (withoutC s_1 (placeF (Prod.fst (Subtype.val s)) t 0) false (Prod.snd (Subtype.val s)) 4 [3]) fun c => Tree.some_ (List (Int × Int) × Bool) fun s_2 => Tree.callf 30 [AV.agg [iv x.1, iv x.2, iv x.3, iv x.4, iv x.5, iv x.6, iv x.7, iv x.8, iv x.9, iv x.10, iv x.11, iv x.12, CV.sl 4 0 0 2 (List.length (woF s_1 (placeF (Prod.fst (Subtype.val s)) t 0) (List.length s_1))) (c 0), iv x.13, iv x.14], AV.c (iv t)] [(Ent.ws false cap ws), (Ent.mkBox 25 [iv x.1, iv x.2, iv x.3, iv x.4, iv x.5, iv x.6, iv x.7, iv x.8, iv x.9, iv x.10, iv x.11, iv x.12, CV.sl 4 0 0 2 (List.length (woF s_1 (placeF (Prod.fst (Subtype.val s)) t 0) (List.length s_1))) (c 0), iv x.13, iv x.14]), (Ent.mkBox 25 [iv (0 : Int), iv (0 : Int), iv (0 : Int), iv (0 : Int), iv (0 : Int), iv (0 : Int), iv (0 : Int), iv (0 : Int), iv (0 : Int), iv (0 : Int), iv (0 : Int), iv (0 : Int), CV.v (Value.slice none 0 0), iv (0 : Int), iv (0 : Int)]), (Ent.ws false (Prod.snd (Subtype.val s)) s_1), (Ent.ws true (c 0) (woF s_1 (placeF (Prod.fst (Subtype.val s)) t 0) (List.length s_1)))] (placeC x t (Prod.fst s_2) (Prod.snd s_2) (c 0) [4]) fun c_1 => Tree.some_ { p // notF (Prod.fst p) t = notF ws t ∧ List.length (Prod.fst p) ≤ List.length ws } fun s' => Tree.chk (List.length (Prod.fst (Subtype.val s')) < List.length (Prod.fst (Subtype.val s)))
   (Tree.chk (XV.a (AV.c (iv (placeF (Prod.fst s_2) t 0))) = XV.a (AV.c (iv (placeF (Prod.fst (Subtype.val s')) t 0))))
   (Tree.chk (XV.a (AV.c (iv t)) = XV.a (AV.c (iv t)))
   (Tree.chk (XV.a (AV.c (CV.ptr { k := 1, j := 0, i := 0, sz := 15, c := 0, d := 0, dn := 0, cu := 0 })) = XV.a (AV.c (CV.ptr { k := 1, j := 0, i := 0, sz := 15, c := 0, d := 0, dn := 0, cu := 0 })))
   (Tree.chk (XV.a (AV.c (CV.ptr { k := 2, j := 0, i := 0, sz := 15, c := 0, d := 0, dn := 0, cu := 0 })) = XV.a (AV.c (CV.ptr { k := 2, j := 0, i := 0, sz := 15, c := 0, d := 0, dn := 0, cu := 0 })))
   (Tree.chk (RnOk 1 4 5 fun a a_1 => (List.getD [0, 1, 2, 4] a 0, a_1))
   (Tree.chk (RgAll 5 (fun a a_1 => (List.getD [0, 1, 2, 4] a 0, a_1)) (fun a a_1 => (List.getD [0, 1, 2, 0, 3] a 0, a_1)) [(Ent.ws false cap ws), (Ent.mkBox 25 [iv x.1, iv x.2, iv x.3, iv x.4, iv x.5, iv x.6, iv x.7, iv x.8, iv x.9, iv x.10, iv x.11, iv x.12, CV.sl 4 0 0 2 (List.length (woF s_1 (placeF (Prod.fst (Subtype.val s)) t 0) (List.length s_1))) (c 0), iv x.13, iv x.14]), (Ent.mkBox 25 [iv (0 : Int), iv (0 : Int), iv (0 : Int), iv (0 : Int), iv (0 : Int), iv (0 : Int), iv (0 : Int), iv (0 : Int), iv (0 : Int), iv (0 : Int), iv (0 : Int), iv (0 : Int), CV.v (Value.slice none 0 0), iv (0 : Int), iv (0 : Int)]), (Ent.ws false (Prod.snd (Subtype.val s)) s_1), (Ent.ws (Prod.snd s_2) (c 0) (Prod.fst s_2))] 4 0 [(Ent.ws false cap ws), (Ent.mkBox 25 [iv x.1, iv x.2, iv x.3, iv x.4, iv x.5, iv x.6, iv x.7, iv x.8, iv x.9, iv x.10, iv x.11, iv x.12, CV.sl 3 0 0 2 (List.length (Prod.fst (Subtype.val s'))) (Prod.snd (Subtype.val s')), iv x.13, iv x.14]), (Ent.mkBox 25 [iv (0 : Int), iv (0 : Int), iv (0 : Int), iv (0 : Int), iv (0 : Int), iv (0 : Int), iv (0 : Int), iv (0 : Int), iv (0 : Int), iv (0 : Int), iv (0 : Int), iv (0 : Int), CV.v (Value.slice none 0 0), iv (0 : Int), iv (0 : Int)]), (Ent.ws false (Prod.snd (Subtype.val s')) (Prod.fst (Subtype.val s')))])
   (Tree.need True))))))))
   (Tree.done (XV.tup [AV.agg [iv x.1, iv x.2, iv x.3, iv x.4, iv x.5, iv x.6, iv x.7, iv x.8, iv x.9, iv x.10, iv x.11, iv x.12, CV.sl 3 0 0 2 (List.length (Prod.fst (Subtype.val s))) (Prod.snd (Subtype.val s)), iv x.13, iv x.14], AV.c (CV.v (Value.bool true))]) [(Ent.ws false cap ws), (Ent.mkBox 25 [iv x.1, iv x.2, iv x.3, iv x.4, iv x.5, iv x.6, iv x.7, iv x.8, iv x.9, iv x.10, iv x.11, iv x.12, CV.sl 3 0 0 2 (List.length (Prod.fst (Subtype.val s))) (Prod.snd (Subtype.val s)), iv x.13, iv x.14]), (Ent.mkBox 25 [iv x.1, iv x.2, iv x.3, iv x.4, iv x.5, iv x.6, iv x.7, iv x.8, iv x.9, iv x.10, iv x.11, iv x.12, CV.sl 3 0 0 2 (List.length (Prod.fst (Subtype.val s))) (Prod.snd (Subtype.val s)), iv x.13, iv x.14]), (Ent.ws false (Prod.snd (Subtype.val s)) (Prod.fst (Subtype.val s)))])))
   (Tree.done (XV.tup [AV.agg [iv x.1, iv x.2, iv x.3, iv x.4, iv x.5, iv x.6, iv x.7, iv x.8, iv x.9, iv x.10, iv x.11, iv x.12, CV.sl 0 0 0 2 (List.length ws) cap, iv x.13, iv x.14], AV.c (CV.v (Value.bool false))]) [(Ent.ws (Prod.snd s) cap (Prod.fst s)), (Ent.mkBox 25 [iv x.1, iv x.2, iv x.3, iv x.4, iv x.5, iv x.6, iv x.7, iv x.8, iv x.9, iv x.10, iv x.11, iv x.12, CV.sl 0 0 0 2 (List.length ws) cap, iv x.13, iv x.14]), (Ent.mkBox 25 [iv x.1, iv x.2, iv x.3, iv x.4, iv x.5, iv x.6, iv x.7, iv x.8, iv x.9, iv x.10, iv x.11, iv x.12, CV.sl 0 0 0 2 (List.length ws) cap, iv x.13, iv x.14])]))))
   (Tree.done (XV.tup [AV.agg [iv x.1, iv x.2, iv x.3, iv x.4, iv x.5, iv x.6, iv x.7, iv x.8, iv x.9, iv x.10, iv x.11, iv x.12, CV.sl 0 0 0 2 (List.length ws) cap, iv x.13, iv x.14], AV.c (CV.v (Value.bool false))]) [(Ent.ws false cap ws), (Ent.mkBox 25 [iv x.1, iv x.2, iv x.3, iv x.4, iv x.5, iv x.6, iv x.7, iv x.8, iv x.9, iv x.10, iv x.11, iv x.12, CV.sl 0 0 0 2 (List.length ws) cap, iv x.13, iv x.14]), (Ent.mkBox 25 [iv x.1, iv x.2, iv x.3, iv x.4, iv x.5, iv x.6, iv x.7, iv x.8, iv x.9, iv x.10, iv x.11, iv x.12, CV.sl 0 0 0 2 (List.length ws) cap, iv x.13, iv x.14])])))))))))
theorem tlockr_eq (x : Thg) (t k v : Int) (ws : List Wt) (cap : Nat) : xfunc tab lockrG (lpI fun _ tm H => (refInv x ws cap t)) Go.Proofs.Try.f21 [x.av 0 0 ws.length cap, .c (iv t), .c (iv k), .c (iv v)] [Ent.ws false cap ws] [0, 1, 2, 3, 4, 5, 6, 7, 8, 9] = tlockr x t k v ws cap := by kernel_rfl
end Go.Proofs.Ytnenbngjdekegaa.X

/- The model: the document's locks, proved. -/
set_option linter.unusedVariables false
set_option linter.unusedSimpArgs false
namespace Go.Proofs.Ytnenbngjdekegaa.X
open Go Go.RowKit Go.Proofs.YtnenbngjdekegaaW.PrintWords Go.Proofs.Ytnenbngjdekegaa.Base
def lockrF (x : Thg) (t k v : Int) (ws : List Wt) : Thg × List Wt × Bool :=
  bif k == 1 then
    (bif (bif (bif (bif x.o == -1 then decide (v ≥ 1) else false) then decide (v ≤ 1000) else false) then decide (placeF ws t 0 < 0) else false) then ({ x with o := t, h := v }, ws, true)
     else bif (bif (bif x.o == t then v == 1 else false) then decide (x.h < 1000) else false) then ({ x with h := IntKind.wrap .i64 (x.h + 1) }, ws, true) else (x, ws, false))
  else bif k == 3 then (bif (bif x.o == t then v == 0 else false) then (freeS x, ws, true) else (x, ws, false))
  else bif k == 5 then (x, ws, bif (bif x.o != -1 then !(x.o == t) else false) then v == 0 else false)
  else bif k == 6 then (x, ws, bif !(x.o == t) then v == 0 else false)
  else bif k == 7 then (x, ws, bif (bif x.o == t then x.h == 1000 else false) then v == 0 else false)
  else bif k == 10 then (bif (bif x.o == t then v == x.h else false) then ({ x with o := -1, h := 0 }, ws ++ [(t, x.h)], true) else (x, ws, false))
  else bif k == 11 then (bif (bif (bif x.o == t then decide ((ws.length : Int) > 0) else false) then v == (ws.getD (Int.toNat 0) (0, 0)).1 else false) then (x, woF ws 0 ws.length, true) else (x, ws, false))
  else bif k == 12 then (x, ws, bif (bif x.o == t then (ws.length : Int) == 0 else false) then v == 0 else false)
  else bif k == 13 then (bif (bif decide (placeF ws t 0 ≥ 0) then v == 0 else false) then (x, notF ws t, true) else (x, ws, false))
  else (x, ws, false)
def rowR (S : Thg × List Wt × Bool) (c : Nat) : XV := .tup [S.1.av 1 0 S.2.1.length c, .c (.v (.bool S.2.2))]
def lockrC (x : Thg) (t k v : Int) (ws : List Wt) (cap n : Nat) (ρ : List Nat) : CallSpec := rowSpec ρ n [x.av 0 0 ws.length cap, .c (iv t), .c (iv k), .c (iv v)] [Ent.ws false cap ws] (fun _ => True)
  (fun c => rowR (lockrF x t k v ws) (c 0)) fun c => [Ent.ws false cap ws, Ent.ws false (c 0) (lockrF x t k v ws).2.1]
theorem place_call : Callable Try.prog 30 := ⟨_, Try.func30, by kernel_rfl, rfl⟩
theorem without_call : Callable Try.prog 32 := ⟨_, Try.func32, by kernel_rfl, rfl⟩
theorem RnOk.of {N0 N L : Nat} (l : List Nat) (h : (Nat.ble N0 N && headId l 0 N0 && (List.range N).all (fun k => Nat.blt (l.getD k 0) L)) = true) : RnOk N0 N L (lr l) := by
  simp only [Bool.and_eq_true] at h
  obtain ⟨⟨h1, h2⟩, h3⟩ := h
  exact ⟨Nat.le_of_ble_eq_true h1, fun k hk j => by show (l.getD k 0, j) = (k, j); rw [take_id h2 k hk], fun k hk j => Nat.blt_eq.mp (List.all_eq_true.1 h3 k (List.mem_range.2 hk))⟩
theorem EntRg.ws {n0 : Nat} {ρ σ : Rn} {U : Hp} {N k cap : Nat} {own : Bool} {ws : List Wt} (hu : U.get (ρ k 0).1 = some (Ent.ws own cap ws)) (h0 : (ρ k 0).2 = 0) (hσ : σ (ρ k 0).1 (ρ k 0).2 = (k, 0) ∨ own = false) : EntRg n0 ρ σ U N k (Ent.ws false cap ws) :=
  EntRg.rw hu (by rw [h0]; exact Nat.one_pos) (fun h => by cases h) (.inr (by decide)) rfl rfl rfl rfl (fun _ _ => rfl) (fun i _ => wrow_plain ws i) (hσ.imp id fun h => ⟨rfl, .inl h⟩)
theorem EntRg.app {n0 : Nat} {ρ σ : Rn} {U : Hp} {N k c n : Nat} {own : Bool} {ws : List Wt} {x : Wt} {f : Nat → List CV} (hu : U.get (ρ k 0).1 = some (Ent.mkRow WT 2 n c f)) (h0 : (ρ k 0).2 = 0) (hσ : σ (ρ k 0).1 (ρ k 0).2 = (k, 0)) (hn : n = ws.length + 1) (hf : ∀ i, i < ws.length → f i = wrow ws i) (hx : f ws.length = wc x) : EntRg n0 ρ σ U N k (Ent.ws own c (ws ++ [x])) :=
  EntRg.rw hu (by rw [h0]; exact Nat.one_pos) (fun _ => rfl) (.inr (by decide)) rfl rfl (by rw [h0]; simp [hn, Ent.mkRow]) (by rw [h0]; try rfl) (fun i hi => by
    have hi : i < ws.length + 1 := by simpa using hi
    show f i = _
    unfold wrow
    by_cases h : i < ws.length
    · rw [hf i h, wrow, List.getD_eq_getElem?_getD, List.getD_eq_getElem?_getD, List.getElem?_append_left h]
    · obtain rfl : i = ws.length := by omega
      rw [hx, List.getD_eq_getElem?_getD (l := _ ++ _), List.getElem?_append_right (Nat.le_refl _), Nat.sub_self]
      rfl) (fun i _ => wrow_plain _ i) (.inl hσ)
theorem EntRg.wsE {n0 : Nat} {ρ σ : Rn} {U : Hp} {N k cap : Nat} {own : Bool} {ws ws2 : List Wt} (he : ws2 = ws) (hu : U.get (ρ k 0).1 = some (Ent.ws own cap ws)) (h0 : (ρ k 0).2 = 0) (hσ : σ (ρ k 0).1 (ρ k 0).2 = (k, 0) ∨ own = false) : EntRg n0 ρ σ U N k (Ent.ws false cap ws2) := by subst he; exact EntRg.ws hu h0 hσ
theorem woF_erase (ws : List Wt) (k : Nat) : ∀ i, i ≤ ws.length → woF ws k i = (ws.take i).eraseIdx k
  | 0, _ => by simp [woF]
  | i + 1, h => by
    have ih := woF_erase ws k i (by omega)
    have hl : (ws.take i).length = i := by simp; omega
    rw [take_getD ws (by omega), woF, ih]
    by_cases hk : i = k
    · subst hk
      rw [show ((i : Int) != (i : Int)) = false by simp, cond_false, List.eraseIdx_of_length_le (by omega), List.eraseIdx_append_of_length_le (by omega), hl, Nat.sub_self]
      simp
    · rw [show ((i : Int) != (k : Int)) = true by simp; omega, cond_true]
      rcases Nat.lt_or_gt_of_ne hk with h1 | h1
      · rw [List.eraseIdx_of_length_le (by omega), List.eraseIdx_of_length_le (by simp; omega)]
      · rw [List.eraseIdx_append_of_lt_length (by omega)]
theorem woF_not (ws : List Wt) (t : Int) {k : Nat} (hk : k < ws.length) (hx : ((ws.getD k (0, 0)).1 == t) = true) : (woF ws k ws.length).length < ws.length ∧ notF (woF ws k ws.length) t = notF ws t := by
  rw [woF_erase ws k _ (Nat.le_refl _), List.take_length]
  refine ⟨by rw [List.length_eraseIdx_of_lt hk]; omega, ?_⟩
  rw [List.eraseIdx_eq_take_drop_succ]
  conv => rhs; rw [← List.take_append_drop k ws, List.drop_eq_getElem_cons hk]
  unfold notF
  rw [List.filter_append, List.filter_append, List.filter_cons]
  have : (ws[k].1 != t) = false := by
    rw [List.getD_eq_getElem?_getD, List.getElem?_eq_getElem hk, Option.getD_some] at hx
    simp [bne, hx]
  rw [this]
  rfl
set_option maxHeartbeats 4000000 in
theorem lockr_local (x : Thg) (t k v : Int) (ws : List Wt) (cap n : Nat) (ρ : List Nat) (hl : ws.length ≤ 1000000) : (lockrC x t k v ws cap n ρ).Local Try.prog 21 := by
  refine local_of Try.func21 rfl (tlockr_eq x t k v ws cap) fun ν w => ?_
  have hl' : ws.length ≤ 9223372036854775806 := by omega
  refine ok_br' (fun h => ?_) fun h => ok_br' (fun h => ?_) fun h => ok_br' (fun h => ?_) fun h => ok_br' (fun h => ?_) fun h => ok_br' (fun h => ?_) fun h => ok_br' (fun h => ?_) fun h => ok_br' (fun h => ?_) fun h => ok_br' (fun h => ?_) fun h => ok_br' (fun h => ?_) fun h => ?_
  · repeat' first | refine ok_br' (fun h => ?_) (fun h => ?_) | (refine ok_some' (ws, false) (ok_callf' place_call (fits_of rfl rfl ⟨⟨_, rfl, EntRel.ws⟩, trivial⟩ fun c _ => ⟨⟨Nat.le_refl _, rfl⟩, ⟨rfl, rfl⟩, ⟨⟨EntRel.ws, rfl, (fun h => by cases h), .inr rfl⟩, trivial⟩⟩) (place_local _ _ _ _ _ _ (by omega)) fun c _ => ?_)) | (refine ok_chk' ?_ ?_; focus (first | exact fun h => h | (simp; done) | (simp; omega) | (simp_all; done) | (simp_all; omega) | (generalize ws.length = L at *; simp; omega) | (generalize ws.length = L at *; simp_all; omega))) | (refine ok_leafG (fun _ => cap) [] (lr [0, 0]) (lr []) trivial ?_ rfl (RnOk.of [0, 0] rfl) ⟨EntRg.ws rfl rfl (.inr rfl), EntRg.wsE ?_ rfl rfl (.inr rfl), trivial⟩ <;> first | (simp only [lockrF, *, cond_true, cond_false]; done) | (show XV.tup _ = XV.nilz _ (XV.rg _ (rowR (lockrF x t k v ws) cap)); simp only [lockrF, *, cond_true, cond_false]; first | done | rfl) | (simp_all only [lockrF, cond_true, cond_false]; done) | (show XV.tup _ = XV.nilz _ (XV.rg _ (rowR (lockrF x t k v ws) cap)); unfold lockrF; simp_all only [cond_true, cond_false]; first | done | rfl)) | (exact absurd ‹false = true› Bool.false_ne_true)
  · repeat (refine ok_chk' (fun h => h) ?_)
    refine ok_br' (fun h => ?_) (fun h => ?_)
    · refine ok_some' ws (ok_callf' freed_call (fits_of rfl rfl ⟨⟨_, rfl, EntRel.ws⟩, trivial⟩ fun c _ => ⟨⟨Nat.le_refl _, rfl⟩, ⟨rfl, rfl⟩, ⟨⟨EntRel.ws, rfl, (fun h => by cases h), .inr rfl⟩, trivial⟩⟩) (freed_local _ _ _ _ _) fun c _ => ?_)
      (refine ok_leafG (fun _ => cap) [] (lr [0, 0]) (lr []) trivial ?_ rfl (RnOk.of [0, 0] rfl) ⟨EntRg.ws rfl rfl (.inr rfl), EntRg.wsE ?_ rfl rfl (.inr rfl), trivial⟩ <;> first | (simp only [lockrF, *, cond_true, cond_false]; done) | (show XV.tup _ = XV.nilz _ (XV.rg _ (rowR (lockrF x t k v ws) cap)); simp only [lockrF, *, cond_true, cond_false]; first | done | rfl) | (simp_all only [lockrF, cond_true, cond_false]; done) | (show XV.tup _ = XV.nilz _ (XV.rg _ (rowR (lockrF x t k v ws) cap)); unfold lockrF; simp_all only [cond_true, cond_false]; first | done | rfl))
    · (refine ok_leafG (fun _ => cap) [] (lr [0, 0]) (lr []) trivial ?_ rfl (RnOk.of [0, 0] rfl) ⟨EntRg.ws rfl rfl (.inr rfl), EntRg.wsE ?_ rfl rfl (.inr rfl), trivial⟩ <;> first | (simp only [lockrF, *, cond_true, cond_false]; done) | (show XV.tup _ = XV.nilz _ (XV.rg _ (rowR (lockrF x t k v ws) cap)); simp only [lockrF, *, cond_true, cond_false]; first | done | rfl) | (simp_all only [lockrF, cond_true, cond_false]; done) | (show XV.tup _ = XV.nilz _ (XV.rg _ (rowR (lockrF x t k v ws) cap)); unfold lockrF; simp_all only [cond_true, cond_false]; first | done | rfl))
  · repeat' first | (refine ok_chk' ?_ ?_; focus (first | exact fun h => h | (simp; done) | (simp; omega) | (simp_all; done) | (simp_all; omega) | (generalize ws.length = L at *; simp; omega) | (generalize ws.length = L at *; simp_all; omega))) | (refine ok_leafG (fun _ => cap) [] (lr [0, 0]) (lr []) trivial ?_ rfl (RnOk.of [0, 0] rfl) ⟨EntRg.ws rfl rfl (.inr rfl), EntRg.wsE ?_ rfl rfl (.inr rfl), trivial⟩ <;> first | (simp only [lockrF, *, cond_true, cond_false]; done) | (show XV.tup _ = XV.nilz _ (XV.rg _ (rowR (lockrF x t k v ws) cap)); simp only [lockrF, *, cond_true, cond_false]; first | done | rfl) | (simp_all only [lockrF, cond_true, cond_false]; done) | (show XV.tup _ = XV.nilz _ (XV.rg _ (rowR (lockrF x t k v ws) cap)); unfold lockrF; simp_all only [cond_true, cond_false]; first | done | rfl))
  · repeat' first | (refine ok_chk' ?_ ?_; focus (first | exact fun h => h | (simp; done) | (simp; omega) | (simp_all; done) | (simp_all; omega) | (generalize ws.length = L at *; simp; omega) | (generalize ws.length = L at *; simp_all; omega))) | (refine ok_leafG (fun _ => cap) [] (lr [0, 0]) (lr []) trivial ?_ rfl (RnOk.of [0, 0] rfl) ⟨EntRg.ws rfl rfl (.inr rfl), EntRg.wsE ?_ rfl rfl (.inr rfl), trivial⟩ <;> first | (simp only [lockrF, *, cond_true, cond_false]; done) | (show XV.tup _ = XV.nilz _ (XV.rg _ (rowR (lockrF x t k v ws) cap)); simp only [lockrF, *, cond_true, cond_false]; first | done | rfl) | (simp_all only [lockrF, cond_true, cond_false]; done) | (show XV.tup _ = XV.nilz _ (XV.rg _ (rowR (lockrF x t k v ws) cap)); unfold lockrF; simp_all only [cond_true, cond_false]; first | done | rfl))
  · repeat' first | (refine ok_chk' ?_ ?_; focus (first | exact fun h => h | (simp; done) | (simp; omega) | (simp_all; done) | (simp_all; omega) | (generalize ws.length = L at *; simp; omega) | (generalize ws.length = L at *; simp_all; omega))) | (refine ok_leafG (fun _ => cap) [] (lr [0, 0]) (lr []) trivial ?_ rfl (RnOk.of [0, 0] rfl) ⟨EntRg.ws rfl rfl (.inr rfl), EntRg.wsE ?_ rfl rfl (.inr rfl), trivial⟩ <;> first | (simp only [lockrF, *, cond_true, cond_false]; done) | (show XV.tup _ = XV.nilz _ (XV.rg _ (rowR (lockrF x t k v ws) cap)); simp only [lockrF, *, cond_true, cond_false]; first | done | rfl) | (simp_all only [lockrF, cond_true, cond_false]; done) | (show XV.tup _ = XV.nilz _ (XV.rg _ (rowR (lockrF x t k v ws) cap)); unfold lockrF; simp_all only [cond_true, cond_false]; first | done | rfl))
  · repeat (refine ok_chk' (fun h => h) ?_)
    refine ok_br' (fun h => ?_) (fun h => ?_)
    · have hrow : lockrF x t k v ws = ({ x with o := -1, h := 0 }, ws ++ [(t, x.h)], true) := by simp only [lockrF, *, cond_true, cond_false]
      repeat' first | refine ok_both' ?_ ?_ | refine ok_chk' rfl ?_ | refine ok_chk' (by omega) ?_ | refine ok_chk' ⟨by omega, by omega⟩ ?_ | refine ok_all' fun c hc => ?_
      all_goals
        refine ok_leafG c [] (lr [0, 6]) (lr [0, 0, 0, 0, 0, 0, 1]) trivial ?_ rfl (RnOk.of [0, 6] rfl) ⟨EntRg.ws rfl rfl (.inr rfl), ?_, trivial⟩
        · show XV.tup _ = XV.nilz _ (XV.rg _ (rowR (lockrF x t k v ws) (c 0)))
          rw [hrow, rowR, List.length_append, Nat.zero_add]
          rfl
        · show EntRg _ _ _ _ _ _ (Ent.ws false (c 0) (lockrF x t k v ws).2.1)
          rw [hrow]
          refine EntRg.app (x := (t, x.h)) (c := c 0) rfl rfl rfl (by omega) (fun i hi => ?_) ?_
          · show (if i < 0 + ws.length then _ else _) = _
            rw [if_pos (by omega)]
            rfl
          · show (if ws.length < 0 + ws.length then _ else _) = _
            rw [if_neg (by omega)]
            rfl
    · (refine ok_leafG (fun _ => cap) [] (lr [0, 0]) (lr []) trivial ?_ rfl (RnOk.of [0, 0] rfl) ⟨EntRg.ws rfl rfl (.inr rfl), EntRg.wsE ?_ rfl rfl (.inr rfl), trivial⟩ <;> first | (simp only [lockrF, *, cond_true, cond_false]; done) | (show XV.tup _ = XV.nilz _ (XV.rg _ (rowR (lockrF x t k v ws) cap)); simp only [lockrF, *, cond_true, cond_false]; first | done | rfl) | (simp_all only [lockrF, cond_true, cond_false]; done) | (show XV.tup _ = XV.nilz _ (XV.rg _ (rowR (lockrF x t k v ws) cap)); unfold lockrF; simp_all only [cond_true, cond_false]; first | done | rfl))
  · repeat (refine ok_chk' (fun h => h) ?_)
    refine ok_chk' (fun h => ?_) ?_
    · cases hx : x.o == t <;> simp [hx] at h <;> simp <;> omega
    repeat (refine ok_chk' (fun h => h) ?_)
    refine ok_chk' (fun h => ?_) ?_
    · cases hx : x.o == t <;> simp [hx] at h <;> simp <;> omega
    repeat (refine ok_chk' (fun h => h) ?_)
    refine ok_br' (fun h => ?_) fun h => ?_
    · refine ok_some' ws (ok_callf' without_call (fits_of rfl rfl ⟨⟨_, rfl, EntRel.ws⟩, trivial⟩ fun c _ => ⟨⟨Nat.le_succ 1, rfl⟩, ⟨rfl, rfl⟩, ⟨⟨EntRel.ws, rfl, (fun h => by cases h), .inr rfl⟩, ⟨EntRel.ws, rfl, (fun h => by cases h), .inl rfl⟩, trivial⟩⟩) (without_local _ _ _ _ _ _ hl) fun c hc => ?_)
      have hrow : lockrF x t k v ws = (x, woF ws 0 ws.length, true) := by simp only [lockrF, *, cond_true, cond_false]
      refine ok_leafG c [] (lr [0, 3]) (lr [0, 0, 0, 1]) trivial ?_ rfl (RnOk.of [0, 3] rfl) ⟨EntRg.ws rfl rfl (.inr rfl), EntRg.wsE ?_ rfl rfl (.inl rfl), trivial⟩
      · show XV.tup _ = XV.nilz _ (XV.rg _ (rowR (lockrF x t k v ws) (c 0)))
        rw [hrow]; try rfl
      · rw [hrow]
    · (refine ok_leafG (fun _ => cap) [] (lr [0, 0]) (lr []) trivial ?_ rfl (RnOk.of [0, 0] rfl) ⟨EntRg.ws rfl rfl (.inr rfl), EntRg.wsE ?_ rfl rfl (.inr rfl), trivial⟩ <;> first | (simp only [lockrF, *, cond_true, cond_false]; done) | (show XV.tup _ = XV.nilz _ (XV.rg _ (rowR (lockrF x t k v ws) cap)); simp only [lockrF, *, cond_true, cond_false]; first | done | rfl) | (simp_all only [lockrF, cond_true, cond_false]; done) | (show XV.tup _ = XV.nilz _ (XV.rg _ (rowR (lockrF x t k v ws) cap)); unfold lockrF; simp_all only [cond_true, cond_false]; first | done | rfl))
  · repeat' first | (refine ok_chk' ?_ ?_; focus (first | exact fun h => h | (simp; done) | (simp; omega) | (simp_all; done) | (simp_all; omega) | (generalize ws.length = L at *; simp; omega) | (generalize ws.length = L at *; simp_all; omega))) | (refine ok_leafG (fun _ => cap) [] (lr [0, 0]) (lr []) trivial ?_ rfl (RnOk.of [0, 0] rfl) ⟨EntRg.ws rfl rfl (.inr rfl), EntRg.wsE ?_ rfl rfl (.inr rfl), trivial⟩ <;> first | (simp only [lockrF, *, cond_true, cond_false]; done) | (show XV.tup _ = XV.nilz _ (XV.rg _ (rowR (lockrF x t k v ws) cap)); simp only [lockrF, *, cond_true, cond_false]; first | done | rfl) | (simp_all only [lockrF, cond_true, cond_false]; done) | (show XV.tup _ = XV.nilz _ (XV.rg _ (rowR (lockrF x t k v ws) cap)); unfold lockrF; simp_all only [cond_true, cond_false]; first | done | rfl))
  · (refine ok_some' (ws, false) (ok_callf' place_call (fits_of rfl rfl ⟨⟨_, rfl, EntRel.ws⟩, trivial⟩ fun c _ => ⟨⟨Nat.le_refl _, rfl⟩, ⟨rfl, rfl⟩, ⟨⟨EntRel.ws, rfl, (fun h => by cases h), .inr rfl⟩, trivial⟩⟩) (place_local _ _ _ _ _ _ (by omega)) fun c _ => ?_))
    repeat (refine ok_chk' (fun h => h) ?_)
    refine ok_br' (fun h => ?_) fun h => ?_
    · have hrow : lockrF x t k v ws = (x, notF ws t, true) := by simp only [lockrF, *, cond_true, cond_false]
      refine ok_both' ?_ (ok_every' fun s => ok_br' (fun h => ?_) fun h => ?_)
      · repeat' first | exact trivial | refine ok_chk' rfl ?_ | refine ok_chk' (RnOk.of [0, 1, 2, 0] rfl) ?_
        exact ok_chk' ⟨EntRg.ws rfl rfl (.inr rfl), EntRg.box rfl rfl rfl rfl rfl rfl rfl rfl, EntRg.box rfl rfl rfl rfl rfl rfl rfl rfl, EntRg.ws rfl rfl (.inr rfl), trivial⟩ trivial
      · obtain ⟨⟨ws', cap'⟩, s1, s2⟩ := s
        have h : decide (placeF ws' t 0 ≥ 0) = true := h
        have hk : ∃ k, k < ws'.length ∧ placeF ws' t 0 = (k : Int) ∧ ((ws'.getD k (0, 0)).1 == t) = true := by
          rcases placeF_spec t ws' 0 with ⟨h1, -⟩ | ⟨k, h1, h2, h3, h4⟩
          · rw [h1] at h; cases h
          · exact ⟨k, h1, by rw [h2]; simp, h4⟩
        obtain ⟨k, k1, k2, k3⟩ := hk
        obtain ⟨w1, w2⟩ := woF_not ws' t k1 k3
        have s2 : ws'.length ≤ ws.length := s2
        have s1 : notF ws' t = notF ws t := s1
        refine ok_some' ws' (ok_callf' without_call (fits_of rfl rfl ⟨⟨_, rfl, EntRel.ws⟩, trivial⟩ fun c _ => ⟨⟨Nat.le_succ 1, rfl⟩, ⟨rfl, rfl⟩, ⟨⟨EntRel.ws, rfl, (fun h => by cases h), .inr rfl⟩, ⟨EntRel.ws, rfl, (fun h => by cases h), .inl rfl⟩, trivial⟩⟩) (without_local _ _ _ _ _ _ (by omega)) fun c hc => ?_)
        refine ok_some' (woF ws' (placeF ws' t 0) ws'.length, true) (ok_callf' place_call (fits_of rfl rfl ⟨⟨_, rfl, EntRel.ws⟩, trivial⟩ fun c _ => ⟨⟨Nat.le_refl _, rfl⟩, ⟨rfl, rfl⟩, ⟨⟨EntRel.ws, rfl, (fun h => by cases h), .inr rfl⟩, trivial⟩⟩) (place_local _ _ _ _ _ _ (by show (woF ws' (placeF ws' t 0) ws'.length).length ≤ _; rw [k2]; omega)) fun c2 _ => ?_)
        refine ok_some' ⟨(woF ws' (placeF ws' t 0) ws'.length, c 0), by rw [k2]; exact w2.trans s1, by rw [k2]; show (woF ws' k ws'.length).length ≤ _; omega⟩ (ok_chk' (by show (woF ws' (placeF ws' t 0) ws'.length).length < ws'.length; rw [k2]; exact w1) ?_)
        repeat' first | exact trivial | refine ok_chk' rfl ?_ | refine ok_chk' (RnOk.of [0, 1, 2, 4] rfl) ?_
        exact ok_chk' ⟨EntRg.ws rfl rfl (.inr rfl), EntRg.box rfl rfl rfl rfl rfl rfl rfl rfl, EntRg.box rfl rfl rfl rfl rfl rfl rfl rfl, EntRg.ws rfl rfl (.inl rfl), trivial⟩ trivial
      · obtain ⟨⟨ws', cap'⟩, s1, s2⟩ := s
        have h : decide (placeF ws' t 0 ≥ 0) = false := h
        have s1 : notF ws' t = notF ws t := s1
        have hn : ws' = notF ws t := by
          rcases placeF_spec t ws' 0 with ⟨h1, h2⟩ | ⟨k, h1, h2, h3, h4⟩
          · rw [← s1]
            exact (List.filter_eq_self.2 fun x hx => by simp [bne, h2 x hx]).symm
          · rw [h2] at h
            simp at h
        subst hn
        refine ok_leafG (fun _ => cap') [] (lr [0, 3]) (lr [0, 0, 0, 1]) trivial ?_ rfl (RnOk.of [0, 3] rfl) ⟨EntRg.ws rfl rfl (.inr rfl), EntRg.wsE ?_ rfl rfl (.inr rfl), trivial⟩
        · show XV.tup _ = XV.nilz _ (XV.rg _ (rowR (lockrF x t k v ws) cap'))
          rw [hrow]; try rfl
        · rw [hrow]
    · (refine ok_leafG (fun _ => cap) [] (lr [0, 0]) (lr []) trivial ?_ rfl (RnOk.of [0, 0] rfl) ⟨EntRg.ws rfl rfl (.inr rfl), EntRg.wsE ?_ rfl rfl (.inr rfl), trivial⟩ <;> first | (simp only [lockrF, *, cond_true, cond_false]; done) | (show XV.tup _ = XV.nilz _ (XV.rg _ (rowR (lockrF x t k v ws) cap)); simp only [lockrF, *, cond_true, cond_false]; first | done | rfl) | (simp_all only [lockrF, cond_true, cond_false]; done) | (show XV.tup _ = XV.nilz _ (XV.rg _ (rowR (lockrF x t k v ws) cap)); unfold lockrF; simp_all only [cond_true, cond_false]; first | done | rfl))
  · (refine ok_leafG (fun _ => cap) [] (lr [0, 0]) (lr []) trivial ?_ rfl (RnOk.of [0, 0] rfl) ⟨EntRg.ws rfl rfl (.inr rfl), EntRg.wsE ?_ rfl rfl (.inr rfl), trivial⟩ <;> first | (simp only [lockrF, *, cond_true, cond_false]; done) | (show XV.tup _ = XV.nilz _ (XV.rg _ (rowR (lockrF x t k v ws) cap)); simp only [lockrF, *, cond_true, cond_false]; first | done | rfl) | (simp_all only [lockrF, cond_true, cond_false]; done) | (show XV.tup _ = XV.nilz _ (XV.rg _ (rowR (lockrF x t k v ws) cap)); unfold lockrF; simp_all only [cond_true, cond_false]; first | done | rfl))
end Go.Proofs.Ytnenbngjdekegaa.X

/- The model: rows copied, from any place on; things at first: trees. -/
set_option linter.unusedVariables false
set_option linter.unusedSimpArgs false
namespace Go.Proofs.Ytnenbngjdekegaa.X
open Go Go.RowKit Go.Proofs.YtnenbngjdekegaaW.PrintWords Go.Proofs.Ytnenbngjdekegaa.Base
def wsub (ws : List Wt) (lo n : Nat) : List Wt := (ws.drop lo).take n
def tclone2 (ws : List Wt) (own : Bool) (lo n cap rc : Nat) : Tree :=
  Tree.chk (0 < 1)
   (Tree.every Bool fun b => Tree.br (!(b && Nat.blt 0 (List.length ws)))
   (Tree.br b
   (Tree.done (XV.a (AV.c (CV.v (Value.slice none 0 0)))) [(Ent.ws own rc ws)])
   (Tree.chk ((0 + n) * 16 ≤ 140737488355328)
   (Tree.chk (0 < 1 ∧ lo + n ≤ List.length ws)
   (Tree.chk (0 = 0 ∧ 0 = 0)
   (Tree.all (fun c => 0 + n ≤ c 0 ∧ c 0 ≤ maxLen) fun c => Tree.done (XV.a (AV.c (CV.sl 2 0 0 2 (0 + n) (c 0)))) [(Ent.ws own rc ws), Ent.dead, { own := true, box := false, ty := 37, sz := 2, m := 1, n := fun x => 0 + n, cap := fun x => c 0, f := fun x i => [iv (Prod.fst (List.getD ws (Nat.rec (i - 0) (fun n n_ih => n + 1 + (i - 0)) lo) ((0 : Int), (0 : Int)))), iv (Prod.snd (List.getD ws (Nat.rec (i - 0) (fun n n_ih => n + 1 + (i - 0)) lo) ((0 : Int), (0 : Int))))], ov := [] }])))))
   (Tree.need True))
theorem tclone2_eq (ws : List Wt) (own : Bool) (lo n cap rc : Nat) : xfunc tab noCtr noInv Go.Proofs.Try.f19 [.c (.sl 0 0 lo 2 n cap)] [Ent.ws own rc ws] [0, 1, 2, 3] = tclone2 ws own lo n cap rc := by kernel_rfl
def tcopy2 (x : Thg) (ws : List Wt) (own : Bool) (lo n cap rc : Nat) : Tree :=
  Tree.chk ((0 + n) * 16 ≤ 140737488355328)
   (Tree.chk (0 < 1 ∧ lo + n ≤ List.length ws)
   (Tree.chk (0 = 0 ∧ 0 = 0)
   (Tree.all (fun c => 0 + n ≤ c 0 ∧ c 0 ≤ maxLen) fun c => Tree.done (XV.a (AV.agg [iv x.1, iv x.2, iv x.3, iv x.4, iv x.5, iv x.6, iv x.7, iv x.8, iv x.9, iv x.10, iv x.11, iv x.12, CV.sl 4 0 0 2 (0 + n) (c 0), iv x.13, iv x.14])) [(Ent.ws own rc ws), (Ent.mkBox 25 [iv x.1, iv x.2, iv x.3, iv x.4, iv x.5, iv x.6, iv x.7, iv x.8, iv x.9, iv x.10, iv x.11, iv x.12, CV.sl 4 0 0 2 (0 + n) (c 0), iv x.13, iv x.14]), (Ent.mkBox 25 [iv x.1, iv x.2, iv x.3, iv x.4, iv x.5, iv x.6, iv x.7, iv x.8, iv x.9, iv x.10, iv x.11, iv x.12, CV.sl 4 0 0 2 (0 + n) (c 0), iv x.13, iv x.14]), Ent.dead, { own := true, box := false, ty := 37, sz := 2, m := 1, n := fun x => 0 + n, cap := fun x => c 0, f := fun x i => [iv (Prod.fst (List.getD ws (Nat.rec (i - 0) (fun n n_ih => n + 1 + (i - 0)) lo) ((0 : Int), (0 : Int)))), iv (Prod.snd (List.getD ws (Nat.rec (i - 0) (fun n n_ih => n + 1 + (i - 0)) lo) ((0 : Int), (0 : Int))))], ov := [] }])))
theorem tcopy2_eq (x : Thg) (ws : List Wt) (own : Bool) (lo n cap rc : Nat) : xfunc tab noCtr noInv Go.Proofs.Try.f13 [x.av 0 lo n cap] [Ent.ws own rc ws] [0, 1, 2, 3, 4] = tcopy2 x ws own lo n cap rc := by kernel_rfl
def tnew (k n : Int) (b : Bool) : Tree :=
  Tree.done (XV.a (AV.agg [iv k, iv n, iv (-1 : Int), iv (0 : Int), iv (0 : Int), iv (0 : Int), iv (0 : Int), iv (0 : Int), iv (0 : Int), iv (0 : Int), iv (0 : Int), iv (0 : Int), CV.v (Value.slice none 0 0), iv (-1 : Int), iv (0 : Int)])) [Ent.dead, Ent.dead]
theorem tnew_eq (k n : Int) (b : Bool) : xfunc tab noCtr noInv Go.Proofs.Try.f14 [.agg [iv k, .v (.bool b), iv n]] [] [] = tnew k n b := by kernel_rfl
def tnewr (k n : Int) (b : Bool) : Tree :=
  Tree.done (XV.a (AV.agg [iv k, iv n, iv (-1 : Int), iv (0 : Int), iv (0 : Int), iv (0 : Int), iv (0 : Int), iv (0 : Int), iv (0 : Int), iv (0 : Int), iv (0 : Int), iv (0 : Int), CV.v (Value.slice none 0 0), iv (-1 : Int), iv (0 : Int)])) [Ent.dead, Ent.dead]
theorem tnewr_eq (k n : Int) (b : Bool) : xfunc tab noCtr noInv Go.Proofs.Try.f15 [.agg [iv k, .v (.bool b), iv n]] [] [] = tnewr k n b := by kernel_rfl
end Go.Proofs.Ytnenbngjdekegaa.X

/- The model: rows copied, from any place on; things at first: proved. -/
set_option linter.unusedVariables false
set_option linter.unusedSimpArgs false
namespace Go.Proofs.Ytnenbngjdekegaa.X
open Go Go.RowKit Go.Proofs.YtnenbngjdekegaaW.PrintWords Go.Proofs.Ytnenbngjdekegaa.Base
theorem wsub_length (ws : List Wt) {lo n : Nat} (h : lo + n ≤ ws.length) : (wsub ws lo n).length = n := by unfold wsub; simp; omega
theorem wsub_get (ws : List Wt) {lo n i : Nat} (hi : i < n) : (wsub ws lo n).getD i (0, 0) = ws.getD (lo + i) (0, 0) := by
  unfold wsub
  simp only [List.getD_eq_getElem?_getD]
  rw [List.getElem?_take_of_lt hi, List.getElem?_drop]
theorem wsub_all (ws : List Wt) : wsub ws 0 ws.length = ws := by unfold wsub; simp
theorem rec_plus (b a : Nat) : (Nat.rec (motive := fun _ => Nat) b (fun n _ => n + 1 + b) a : Nat) = a + b := by
  cases a with
  | zero => exact (Nat.zero_add b).symm
  | succ a => rfl
theorem row_plus (ws : List Wt) {lo n i : Nat} (hi : i < n) : [CV.v (.int .i64 (ws.getD (Nat.rec (motive := fun _ => Nat) (i - 0) (fun n _ => n + 1 + (i - 0)) lo) (0, 0)).fst), CV.v (.int .i64 (ws.getD (Nat.rec (motive := fun _ => Nat) (i - 0) (fun n _ => n + 1 + (i - 0)) lo) (0, 0)).snd)] = wrow (wsub ws lo n) i := by
  rw [rec_plus, wrow, wsub_get ws hi]
  rfl
def clone2C (ws : List Wt) (own : Bool) (lo n cap rc k : Nat) (ρ : List Nat) : CallSpec := rowSpec ρ k [.c (.sl 0 0 lo 2 n cap)] [Ent.ws own rc ws] (fitsC n) (fun c => .a (.c (.sl 1 0 0 2 (wsub ws lo n).length (c 0)))) fun c => [Ent.ws own rc ws, Ent.ws true (c 0) (wsub ws lo n)]
theorem clone2_local (ws : List Wt) (own : Bool) (lo n cap rc k : Nat) (ρ : List Nat) (hn : lo + n ≤ ws.length) (hl : n ≤ 1000000) (hz : ws.length = 0 → n = 0) : (clone2C ws own lo n cap rc k ρ).Local Try.prog 19 := by
  refine local_of Try.func19 rfl (tclone2_eq ws own lo n cap rc) fun ν w => ?_
  have hw := wsub_length ws hn
  refine ok_chk' Nat.one_pos (ok_every' fun b => ok_br' (fun h => ok_br' (fun hb => ?_) fun hb => ?_) fun h => trivial)
  · have h0 : ws.length = 0 := by
      rw [hb] at h
      rcases Nat.eq_zero_or_pos ws.length with h0 | h0
      · exact h0
      · rw [Nat.blt_eq.mpr h0] at h; cases h
    have hn0 := hz h0
    have he : wsub ws lo n = [] := List.eq_nil_of_length_eq_zero (hw.trans hn0)
    refine ok_leaf (fun _ => 0) [(WT, 2)] [0, 1] ⟨by omega, Nat.zero_le _⟩ ?_ ⟨⟨_, rfl, EntRel.ws⟩, ⟨_, rfl, EntRel.rw (by rw [he]; try rfl) rfl (fun i hi => absurd hi (Nat.not_lt_zero _)) fun i hi => absurd hi (Nat.not_lt_zero _)⟩, trivial⟩ rfl
    show _ = XV.nilz _ (XV.ren _ (.a (.c (.sl 1 0 0 2 (wsub ws lo n).length 0))))
    rw [he]; try rfl
  · refine ok_chk' (by omega) (ok_chk' ⟨by omega, hn⟩ (ok_chk' ⟨rfl, rfl⟩ (ok_all' fun c hc => ?_)))
    refine ok_leaf c [] [0, 2] ⟨by have := hc.1; omega, hc.2⟩ (by show XV.a (.c (.sl 2 0 0 2 (0 + n) (c 0))) = XV.a (.c (.sl 2 0 0 2 (wsub ws lo n).length (c 0))); rw [hw, Nat.zero_add]) ⟨⟨_, rfl, EntRel.ws⟩, ⟨_, rfl, EntRel.rw (by rw [hw, Nat.zero_add]) rfl (fun i hi => ?_) fun i _ => wrow_plain _ i⟩, trivial⟩ rfl
    exact row_plus ws (by omega)
/-- A copy, that is but read. -/
def copy2C (x : Thg) (ws : List Wt) (own : Bool) (lo n cap rc k : Nat) (ρ : List Nat) : CallSpec := rowSpec ρ k [x.av 0 lo n cap] [Ent.ws own rc ws] (fun _ => True) (fun c => .a (x.av 1 0 (wsub ws lo n).length (c 0))) fun c => [Ent.ws own rc ws, Ent.ws false (c 0) (wsub ws lo n)]
theorem EntRg.same {n0 : Nat} {ρ σ : Rn} {U : Hp} {N k cap : Nat} {own : Bool} {ws : List Wt} (hu : U.get (ρ k 0).1 = some (Ent.ws own cap ws)) (h0 : (ρ k 0).2 = 0) (hσ : σ (ρ k 0).1 (ρ k 0).2 = (k, 0)) : EntRg n0 ρ σ U N k (Ent.ws own cap ws) :=
  EntRg.rw hu (by rw [h0]; exact Nat.one_pos) (fun h => h) (.inr (by decide)) rfl rfl rfl rfl (fun _ _ => rfl) (fun i _ => wrow_plain ws i) (.inl hσ)
theorem copy2_local (x : Thg) (ws : List Wt) (own : Bool) (lo n cap rc k : Nat) (ρ : List Nat) (hn : lo + n ≤ ws.length) (hl : n ≤ 1000000) : (copy2C x ws own lo n cap rc k ρ).Local Try.prog 13 := by
  refine local_of Try.func13 rfl (tcopy2_eq x ws own lo n cap rc) fun ν w => ?_
  have hw := wsub_length ws hn
  refine ok_chk' (by omega) (ok_chk' ⟨by omega, hn⟩ (ok_chk' ⟨rfl, rfl⟩ (ok_all' fun c hc => ?_)))
  refine ok_leafG c [] (lr [0, 4]) (lr [0, 0, 0, 0, 1]) trivial ?_ rfl (RnOk.of [0, 4] rfl) ⟨EntRg.same rfl rfl rfl, ?_, trivial⟩
  · show _ = XV.nilz _ (XV.rg _ (.a (x.av 1 0 (wsub ws lo n).length (c 0))))
    rw [hw, Nat.zero_add]; try rfl
  · refine EntRg.rw rfl Nat.one_pos (fun h => by cases h) (.inr (by decide)) rfl rfl (by rw [hw]; exact (Nat.zero_add n).symm) rfl (fun i hi => ?_) (fun i _ => wrow_plain _ i) (.inl rfl)
    exact row_plus ws (by omega)
/-- A thing at first: nobody waits. -/
def newF (k n : Int) : Thg := ⟨k, n, -1, 0, 0, 0, 0, 0, 0, 0, 0, 0, -1, 0⟩
def objA (k n : Int) (b : Bool) : AV := .agg [iv k, .v (.bool b), iv n]
def newC (k n : Int) (b : Bool) (kk : Nat) : CallSpec := rowSpec [] kk [objA k n b] [] (fun _ => True) (fun c => .a ((newF k n).av 0 0 0 0)) fun c => [Ent.ws false 0 []]
theorem new_local (k n : Int) (b : Bool) (kk : Nat) : (newC k n b kk).Local Try.prog 14 := by
  refine local_of Try.func14 rfl (tnew_eq k n b) fun ν w => ?_
  refine ok_leafG (fun _ => 0) [(WT, 2)] (lr [2]) (lr [0, 0, 0]) trivial rfl rfl (RnOk.of [2] rfl) ⟨EntRg.rw (e := ⟨true, false, WT, 2, 1, fun _ => 0, fun _ => 0, fun _ _ => [], []⟩) rfl Nat.one_pos (fun h => by cases h) (.inr (by decide)) rfl rfl rfl rfl (fun i hi => absurd hi (Nat.not_lt_zero _)) (fun i hi => absurd hi (Nat.not_lt_zero _)) (.inl rfl), trivial⟩
theorem newr_local (k n : Int) (b : Bool) (kk : Nat) : (newC k n b kk).Local Try.prog 15 := by
  refine local_of Try.func15 rfl (tnewr_eq k n b) fun ν w => ?_
  refine ok_leafG (fun _ => 0) [(WT, 2)] (lr [2]) (lr [0, 0, 0]) trivial rfl rfl (RnOk.of [2] rfl) ⟨EntRg.rw (e := ⟨true, false, WT, 2, 1, fun _ => 0, fun _ => 0, fun _ _ => [], []⟩) rfl Nat.one_pos (fun h => by cases h) (.inr (by decide)) rfl rfl rfl rfl (fun i hi => absurd hi (Nat.not_lt_zero _)) (fun i hi => absurd hi (Nat.not_lt_zero _)) (.inl rfl), trivial⟩
end Go.Proofs.Ytnenbngjdekegaa.X

/- The model: done: trees. -/
set_option linter.unusedVariables false
set_option linter.unusedSimpArgs false
namespace Go.Proofs.Ytnenbngjdekegaa.X
open Go Go.RowKit Go.Proofs.YtnenbngjdekegaaW.PrintWords Go.Proofs.Ytnenbngjdekegaa.Base
def doneG (ws : List Wt) : Ctr := fun f args H => match args with
  | [.agg l, .c (.v (.int _ t)), .agg [.v (.int _ k), .v (.int _ v)]] =>
    if f = 25 then some (lockC (thgOf l) t k v ws (slCap l) H.length [slK l])
    else if f = 28 then some (rwC (thgOf l) t k v ws true (slCap l) [slK l])
    else some (swapC (thgOf l) t k v ws true (slCap l) [slK l])
  | [.agg l, .agg [.v (.int _ k), .v (.int _ v)]] => if f = 26 then some (semaC (thgOf l) k v ws true (slCap l) [slK l]) else some (latchC (thgOf l) k v ws true (slCap l) [slK l])
  | _ => none
def tdone (x : Thg) (t k v : Int) (ws : List Wt) (cap : Nat) : Tree :=
  Tree.br (x.1 == (1 : Int))
   (Tree.callf 25 [AV.agg [iv x.1, iv x.2, iv x.3, iv x.4, iv x.5, iv x.6, iv x.7, iv x.8, iv x.9, iv x.10, iv x.11, iv x.12, CV.sl 0 0 0 2 (List.length ws) cap, iv x.13, iv x.14], AV.c (iv t), AV.agg [iv k, iv v]] [(Ent.ws true cap ws), (Ent.mkBox 25 [iv x.1, iv x.2, iv x.3, iv x.4, iv x.5, iv x.6, iv x.7, iv x.8, iv x.9, iv x.10, iv x.11, iv x.12, CV.sl 0 0 0 2 (List.length ws) cap, iv x.13, iv x.14]), (Ent.mkBox 29 [iv k, iv v]), (Ent.mkBox 25 [iv (0 : Int), iv (0 : Int), iv (0 : Int), iv (0 : Int), iv (0 : Int), iv (0 : Int), iv (0 : Int), iv (0 : Int), iv (0 : Int), iv (0 : Int), iv (0 : Int), iv (0 : Int), CV.v (Value.slice none 0 0), iv (0 : Int), iv (0 : Int)])] (lockC x t k v ws cap 4 [0]) fun c => Tree.done (XV.tup [AV.agg [iv (Prod.fst (lockS x t k v ws cap)).1, iv (Prod.fst (lockS x t k v ws cap)).2, iv (Prod.fst (lockS x t k v ws cap)).3, iv (Prod.fst (lockS x t k v ws cap)).4, iv (Prod.fst (lockS x t k v ws cap)).5, iv (Prod.fst (lockS x t k v ws cap)).6, iv (Prod.fst (lockS x t k v ws cap)).7, iv (Prod.fst (lockS x t k v ws cap)).8, iv (Prod.fst (lockS x t k v ws cap)).9, iv (Prod.fst (lockS x t k v ws cap)).10, iv (Prod.fst (lockS x t k v ws cap)).11, iv (Prod.fst (lockS x t k v ws cap)).12, CV.sl 4 0 (Prod.fst (Prod.fst (Prod.snd (lockS x t k v ws cap)))) 2 (Prod.snd (Prod.fst (Prod.snd (lockS x t k v ws cap)))) (c 0), iv (Prod.fst (lockS x t k v ws cap)).13, iv (Prod.fst (lockS x t k v ws cap)).14], AV.c (CV.v (Value.bool (Prod.snd (Prod.snd (lockS x t k v ws cap)))))]) [Ent.dead, (Ent.mkBox 25 [iv x.1, iv x.2, iv x.3, iv x.4, iv x.5, iv x.6, iv x.7, iv x.8, iv x.9, iv x.10, iv x.11, iv x.12, CV.sl 0 0 0 2 (List.length ws) cap, iv x.13, iv x.14]), (Ent.mkBox 29 [iv k, iv v]), (Ent.mkBox 25 [iv (Prod.fst (lockS x t k v ws cap)).1, iv (Prod.fst (lockS x t k v ws cap)).2, iv (Prod.fst (lockS x t k v ws cap)).3, iv (Prod.fst (lockS x t k v ws cap)).4, iv (Prod.fst (lockS x t k v ws cap)).5, iv (Prod.fst (lockS x t k v ws cap)).6, iv (Prod.fst (lockS x t k v ws cap)).7, iv (Prod.fst (lockS x t k v ws cap)).8, iv (Prod.fst (lockS x t k v ws cap)).9, iv (Prod.fst (lockS x t k v ws cap)).10, iv (Prod.fst (lockS x t k v ws cap)).11, iv (Prod.fst (lockS x t k v ws cap)).12, CV.sl 4 0 (Prod.fst (Prod.fst (Prod.snd (lockS x t k v ws cap)))) 2 (Prod.snd (Prod.fst (Prod.snd (lockS x t k v ws cap)))) (c 0), iv (Prod.fst (lockS x t k v ws cap)).13, iv (Prod.fst (lockS x t k v ws cap)).14]), (Ent.ws true (c 1) (lockRowF x ws t k))])
   (Tree.br (x.1 == (2 : Int))
   (Tree.callf 26 [AV.agg [iv x.1, iv x.2, iv x.3, iv x.4, iv x.5, iv x.6, iv x.7, iv x.8, iv x.9, iv x.10, iv x.11, iv x.12, CV.sl 0 0 0 2 (List.length ws) cap, iv x.13, iv x.14], AV.agg [iv k, iv v]] [(Ent.ws true cap ws), (Ent.mkBox 25 [iv x.1, iv x.2, iv x.3, iv x.4, iv x.5, iv x.6, iv x.7, iv x.8, iv x.9, iv x.10, iv x.11, iv x.12, CV.sl 0 0 0 2 (List.length ws) cap, iv x.13, iv x.14]), (Ent.mkBox 29 [iv k, iv v]), (Ent.mkBox 25 [iv (0 : Int), iv (0 : Int), iv (0 : Int), iv (0 : Int), iv (0 : Int), iv (0 : Int), iv (0 : Int), iv (0 : Int), iv (0 : Int), iv (0 : Int), iv (0 : Int), iv (0 : Int), CV.v (Value.slice none 0 0), iv (0 : Int), iv (0 : Int)])] (semaC x k v ws true cap [0]) fun c => Tree.done (XV.tup [AV.agg [iv (Prod.fst (semaS x k v)).1, iv (Prod.fst (semaS x k v)).2, iv (Prod.fst (semaS x k v)).3, iv (Prod.fst (semaS x k v)).4, iv (Prod.fst (semaS x k v)).5, iv (Prod.fst (semaS x k v)).6, iv (Prod.fst (semaS x k v)).7, iv (Prod.fst (semaS x k v)).8, iv (Prod.fst (semaS x k v)).9, iv (Prod.fst (semaS x k v)).10, iv (Prod.fst (semaS x k v)).11, iv (Prod.fst (semaS x k v)).12, CV.sl 0 0 0 2 (List.length ws) cap, iv (Prod.fst (semaS x k v)).13, iv (Prod.fst (semaS x k v)).14], AV.c (CV.v (Value.bool (Prod.snd (semaS x k v))))]) [(Ent.ws true cap ws), (Ent.mkBox 25 [iv x.1, iv x.2, iv x.3, iv x.4, iv x.5, iv x.6, iv x.7, iv x.8, iv x.9, iv x.10, iv x.11, iv x.12, CV.sl 0 0 0 2 (List.length ws) cap, iv x.13, iv x.14]), (Ent.mkBox 29 [iv k, iv v]), (Ent.mkBox 25 [iv (Prod.fst (semaS x k v)).1, iv (Prod.fst (semaS x k v)).2, iv (Prod.fst (semaS x k v)).3, iv (Prod.fst (semaS x k v)).4, iv (Prod.fst (semaS x k v)).5, iv (Prod.fst (semaS x k v)).6, iv (Prod.fst (semaS x k v)).7, iv (Prod.fst (semaS x k v)).8, iv (Prod.fst (semaS x k v)).9, iv (Prod.fst (semaS x k v)).10, iv (Prod.fst (semaS x k v)).11, iv (Prod.fst (semaS x k v)).12, CV.sl 0 0 0 2 (List.length ws) cap, iv (Prod.fst (semaS x k v)).13, iv (Prod.fst (semaS x k v)).14])])
   (Tree.br (x.1 == (3 : Int))
   (Tree.callf 27 [AV.agg [iv x.1, iv x.2, iv x.3, iv x.4, iv x.5, iv x.6, iv x.7, iv x.8, iv x.9, iv x.10, iv x.11, iv x.12, CV.sl 0 0 0 2 (List.length ws) cap, iv x.13, iv x.14], AV.agg [iv k, iv v]] [(Ent.ws true cap ws), (Ent.mkBox 25 [iv x.1, iv x.2, iv x.3, iv x.4, iv x.5, iv x.6, iv x.7, iv x.8, iv x.9, iv x.10, iv x.11, iv x.12, CV.sl 0 0 0 2 (List.length ws) cap, iv x.13, iv x.14]), (Ent.mkBox 29 [iv k, iv v]), (Ent.mkBox 25 [iv (0 : Int), iv (0 : Int), iv (0 : Int), iv (0 : Int), iv (0 : Int), iv (0 : Int), iv (0 : Int), iv (0 : Int), iv (0 : Int), iv (0 : Int), iv (0 : Int), iv (0 : Int), CV.v (Value.slice none 0 0), iv (0 : Int), iv (0 : Int)])] (latchC x k v ws true cap [0]) fun c => Tree.done (XV.tup [AV.agg [iv (Prod.fst (latchS x k v)).1, iv (Prod.fst (latchS x k v)).2, iv (Prod.fst (latchS x k v)).3, iv (Prod.fst (latchS x k v)).4, iv (Prod.fst (latchS x k v)).5, iv (Prod.fst (latchS x k v)).6, iv (Prod.fst (latchS x k v)).7, iv (Prod.fst (latchS x k v)).8, iv (Prod.fst (latchS x k v)).9, iv (Prod.fst (latchS x k v)).10, iv (Prod.fst (latchS x k v)).11, iv (Prod.fst (latchS x k v)).12, CV.sl 0 0 0 2 (List.length ws) cap, iv (Prod.fst (latchS x k v)).13, iv (Prod.fst (latchS x k v)).14], AV.c (CV.v (Value.bool (Prod.snd (latchS x k v))))]) [(Ent.ws true cap ws), (Ent.mkBox 25 [iv x.1, iv x.2, iv x.3, iv x.4, iv x.5, iv x.6, iv x.7, iv x.8, iv x.9, iv x.10, iv x.11, iv x.12, CV.sl 0 0 0 2 (List.length ws) cap, iv x.13, iv x.14]), (Ent.mkBox 29 [iv k, iv v]), (Ent.mkBox 25 [iv (Prod.fst (latchS x k v)).1, iv (Prod.fst (latchS x k v)).2, iv (Prod.fst (latchS x k v)).3, iv (Prod.fst (latchS x k v)).4, iv (Prod.fst (latchS x k v)).5, iv (Prod.fst (latchS x k v)).6, iv (Prod.fst (latchS x k v)).7, iv (Prod.fst (latchS x k v)).8, iv (Prod.fst (latchS x k v)).9, iv (Prod.fst (latchS x k v)).10, iv (Prod.fst (latchS x k v)).11, iv (Prod.fst (latchS x k v)).12, CV.sl 0 0 0 2 (List.length ws) cap, iv (Prod.fst (latchS x k v)).13, iv (Prod.fst (latchS x k v)).14])])
   (Tree.br (x.1 == (4 : Int))
   (Tree.callf 28 [AV.agg [iv x.1, iv x.2, iv x.3, iv x.4, iv x.5, iv x.6, iv x.7, iv x.8, iv x.9, iv x.10, iv x.11, iv x.12, CV.sl 0 0 0 2 (List.length ws) cap, iv x.13, iv x.14], AV.c (iv t), AV.agg [iv k, iv v]] [(Ent.ws true cap ws), (Ent.mkBox 25 [iv x.1, iv x.2, iv x.3, iv x.4, iv x.5, iv x.6, iv x.7, iv x.8, iv x.9, iv x.10, iv x.11, iv x.12, CV.sl 0 0 0 2 (List.length ws) cap, iv x.13, iv x.14]), (Ent.mkBox 29 [iv k, iv v]), (Ent.mkBox 25 [iv (0 : Int), iv (0 : Int), iv (0 : Int), iv (0 : Int), iv (0 : Int), iv (0 : Int), iv (0 : Int), iv (0 : Int), iv (0 : Int), iv (0 : Int), iv (0 : Int), iv (0 : Int), CV.v (Value.slice none 0 0), iv (0 : Int), iv (0 : Int)])] (rwC x t k v ws true cap [0]) fun c => Tree.done (XV.tup [AV.agg [iv (Prod.fst (rwS x t k v)).1, iv (Prod.fst (rwS x t k v)).2, iv (Prod.fst (rwS x t k v)).3, iv (Prod.fst (rwS x t k v)).4, iv (Prod.fst (rwS x t k v)).5, iv (Prod.fst (rwS x t k v)).6, iv (Prod.fst (rwS x t k v)).7, iv (Prod.fst (rwS x t k v)).8, iv (Prod.fst (rwS x t k v)).9, iv (Prod.fst (rwS x t k v)).10, iv (Prod.fst (rwS x t k v)).11, iv (Prod.fst (rwS x t k v)).12, CV.sl 0 0 0 2 (List.length ws) cap, iv (Prod.fst (rwS x t k v)).13, iv (Prod.fst (rwS x t k v)).14], AV.c (CV.v (Value.bool (Prod.snd (rwS x t k v))))]) [(Ent.ws true cap ws), (Ent.mkBox 25 [iv x.1, iv x.2, iv x.3, iv x.4, iv x.5, iv x.6, iv x.7, iv x.8, iv x.9, iv x.10, iv x.11, iv x.12, CV.sl 0 0 0 2 (List.length ws) cap, iv x.13, iv x.14]), (Ent.mkBox 29 [iv k, iv v]), (Ent.mkBox 25 [iv (Prod.fst (rwS x t k v)).1, iv (Prod.fst (rwS x t k v)).2, iv (Prod.fst (rwS x t k v)).3, iv (Prod.fst (rwS x t k v)).4, iv (Prod.fst (rwS x t k v)).5, iv (Prod.fst (rwS x t k v)).6, iv (Prod.fst (rwS x t k v)).7, iv (Prod.fst (rwS x t k v)).8, iv (Prod.fst (rwS x t k v)).9, iv (Prod.fst (rwS x t k v)).10, iv (Prod.fst (rwS x t k v)).11, iv (Prod.fst (rwS x t k v)).12, CV.sl 0 0 0 2 (List.length ws) cap, iv (Prod.fst (rwS x t k v)).13, iv (Prod.fst (rwS x t k v)).14])])
   (Tree.br (x.1 == (5 : Int))
   (Tree.callf 29 [AV.agg [iv x.1, iv x.2, iv x.3, iv x.4, iv x.5, iv x.6, iv x.7, iv x.8, iv x.9, iv x.10, iv x.11, iv x.12, CV.sl 0 0 0 2 (List.length ws) cap, iv x.13, iv x.14], AV.c (iv t), AV.agg [iv k, iv v]] [(Ent.ws true cap ws), (Ent.mkBox 25 [iv x.1, iv x.2, iv x.3, iv x.4, iv x.5, iv x.6, iv x.7, iv x.8, iv x.9, iv x.10, iv x.11, iv x.12, CV.sl 0 0 0 2 (List.length ws) cap, iv x.13, iv x.14]), (Ent.mkBox 29 [iv k, iv v]), (Ent.mkBox 25 [iv (0 : Int), iv (0 : Int), iv (0 : Int), iv (0 : Int), iv (0 : Int), iv (0 : Int), iv (0 : Int), iv (0 : Int), iv (0 : Int), iv (0 : Int), iv (0 : Int), iv (0 : Int), CV.v (Value.slice none 0 0), iv (0 : Int), iv (0 : Int)])] (swapC x t k v ws true cap [0]) fun c => Tree.done (XV.tup [AV.agg [iv (Prod.fst (swapS x t k v)).1, iv (Prod.fst (swapS x t k v)).2, iv (Prod.fst (swapS x t k v)).3, iv (Prod.fst (swapS x t k v)).4, iv (Prod.fst (swapS x t k v)).5, iv (Prod.fst (swapS x t k v)).6, iv (Prod.fst (swapS x t k v)).7, iv (Prod.fst (swapS x t k v)).8, iv (Prod.fst (swapS x t k v)).9, iv (Prod.fst (swapS x t k v)).10, iv (Prod.fst (swapS x t k v)).11, iv (Prod.fst (swapS x t k v)).12, CV.sl 0 0 0 2 (List.length ws) cap, iv (Prod.fst (swapS x t k v)).13, iv (Prod.fst (swapS x t k v)).14], AV.c (CV.v (Value.bool (Prod.snd (swapS x t k v))))]) [(Ent.ws true cap ws), (Ent.mkBox 25 [iv x.1, iv x.2, iv x.3, iv x.4, iv x.5, iv x.6, iv x.7, iv x.8, iv x.9, iv x.10, iv x.11, iv x.12, CV.sl 0 0 0 2 (List.length ws) cap, iv x.13, iv x.14]), (Ent.mkBox 29 [iv k, iv v]), (Ent.mkBox 25 [iv (Prod.fst (swapS x t k v)).1, iv (Prod.fst (swapS x t k v)).2, iv (Prod.fst (swapS x t k v)).3, iv (Prod.fst (swapS x t k v)).4, iv (Prod.fst (swapS x t k v)).5, iv (Prod.fst (swapS x t k v)).6, iv (Prod.fst (swapS x t k v)).7, iv (Prod.fst (swapS x t k v)).8, iv (Prod.fst (swapS x t k v)).9, iv (Prod.fst (swapS x t k v)).10, iv (Prod.fst (swapS x t k v)).11, iv (Prod.fst (swapS x t k v)).12, CV.sl 0 0 0 2 (List.length ws) cap, iv (Prod.fst (swapS x t k v)).13, iv (Prod.fst (swapS x t k v)).14])])
   (Tree.done (XV.tup [AV.agg [iv x.1, iv x.2, iv x.3, iv x.4, iv x.5, iv x.6, iv x.7, iv x.8, iv x.9, iv x.10, iv x.11, iv x.12, CV.sl 0 0 0 2 (List.length ws) cap, iv x.13, iv x.14], AV.c (CV.v (Value.bool false))]) [(Ent.ws true cap ws), (Ent.mkBox 25 [iv x.1, iv x.2, iv x.3, iv x.4, iv x.5, iv x.6, iv x.7, iv x.8, iv x.9, iv x.10, iv x.11, iv x.12, CV.sl 0 0 0 2 (List.length ws) cap, iv x.13, iv x.14]), (Ent.mkBox 29 [iv k, iv v]), (Ent.mkBox 25 [iv x.1, iv x.2, iv x.3, iv x.4, iv x.5, iv x.6, iv x.7, iv x.8, iv x.9, iv x.10, iv x.11, iv x.12, CV.sl 0 0 0 2 (List.length ws) cap, iv x.13, iv x.14])])))))
theorem tdone_eq (x : Thg) (t k v : Int) (ws : List Wt) (cap : Nat) : xfunc tab (doneG ws) noInv Go.Proofs.Try.f20 [x.av 0 0 ws.length cap, .c (iv t), markA k v] [Ent.ws true cap ws] [0, 1, 2, 3, 4, 5] = tdone x t k v ws cap := by kernel_rfl
end Go.Proofs.Ytnenbngjdekegaa.X

/- The model: done, proved. -/
set_option linter.unusedVariables false
set_option linter.unusedSimpArgs false
namespace Go.Proofs.Ytnenbngjdekegaa.X
open Go Go.RowKit Go.Proofs.YtnenbngjdekegaaW.PrintWords Go.Proofs.Ytnenbngjdekegaa.Base
def doneS (x : Thg) (t k v : Int) (ws : List Wt) (cap : Nat) : SigT :=
  bif x.kd == 1 then lockS x t k v ws cap
  else bif x.kd == 2 then ((semaS x k v).1, (0, ws.length), (semaS x k v).2)
  else bif x.kd == 3 then ((latchS x k v).1, (0, ws.length), (latchS x k v).2)
  else bif x.kd == 4 then ((rwS x t k v).1, (0, ws.length), (rwS x t k v).2)
  else bif x.kd == 5 then ((swapS x t k v).1, (0, ws.length), (swapS x t k v).2) else (x, (0, ws.length), false)
def doneRowF (x : Thg) (ws : List Wt) (t k : Int) : List Wt := bif x.kd == 1 then lockRowF x ws t k else ws
def doneC (x : Thg) (t k v : Int) (ws : List Wt) (cap n : Nat) (ρ : List Nat) : CallSpec := rowSpec ρ n [x.av 0 0 ws.length cap, .c (iv t), markA k v] [Ent.ws true cap ws] (fun _ => True)
  (fun c => sigR (doneS x t k v ws cap) (c 0)) fun c => [Ent.dead, Ent.ws true (c 1) (doneRowF x ws t k)]
theorem lock_call : Callable Try.prog 25 := ⟨_, Try.func25, by kernel_rfl, rfl⟩
theorem sema_call : Callable Try.prog 26 := ⟨_, Try.func26, by kernel_rfl, rfl⟩
theorem latch_call : Callable Try.prog 27 := ⟨_, Try.func27, by kernel_rfl, rfl⟩
theorem rw_call : Callable Try.prog 28 := ⟨_, Try.func28, by kernel_rfl, rfl⟩
theorem swap_call : Callable Try.prog 29 := ⟨_, Try.func29, by kernel_rfl, rfl⟩
theorem done_local (x : Thg) (t k v : Int) (ws : List Wt) (cap n : Nat) (ρ : List Nat) (hl : ws.length ≤ 1000000) (hc : ws.length ≤ cap) (t0 : 0 ≤ t) (t8 : t < 8) : (doneC x t k v ws cap n ρ).Local Try.prog 20 := by
  refine local_of Try.func20 rfl (tdone_eq x t k v ws cap) fun ν w => ?_
  refine ok_br' (fun h => ?_) fun h => ok_br' (fun h => ?_) fun h => ok_br' (fun h => ?_) fun h => ok_br' (fun h => ?_) fun h => ok_br' (fun h => ?_) fun h => ?_
  · refine ok_callf' lock_call (fits_of rfl rfl ⟨⟨_, rfl, EntRel.ws⟩, trivial⟩ fun c _ => ⟨⟨Nat.le_succ 1, rfl⟩, ⟨rfl, rfl⟩, ⟨⟨EntRel.dead, rfl, (fun h => by cases h), .inl rfl⟩, ⟨EntRel.ws, rfl, (fun h => by cases h), .inl rfl⟩, trivial⟩⟩) (lock_local _ _ _ _ _ _ _ _ hl hc) fun c _ => ?_
    refine ok_leaf2 c [] [0, 4] trivial ?_ ⟨.inl rfl, .inr ⟨_, rfl, row_of ?_⟩, trivial⟩ rfl
    · show XV.tup _ = XV.nilz _ (XV.ren _ (sigR (doneS x t k v ws cap) (c 0)))
      simp only [doneS, *, cond_true, cond_false]
      rfl
    · simp only [doneRowF, *, cond_true, cond_false]
  · refine ok_callf' sema_call (fits_of rfl rfl ⟨⟨_, rfl, EntRel.ws⟩, trivial⟩ fun c _ => ⟨⟨Nat.le_refl _, rfl⟩, ⟨rfl, rfl⟩, ⟨⟨EntRel.ws, rfl, (fun h => by cases h), .inr rfl⟩, trivial⟩⟩) (sema_local _ _ _ _ _ _ _) fun c _ => ?_
    (refine ok_leaf2 (fun _ => cap) [] [0, 0] trivial ?_ ⟨.inl rfl, .inr ⟨_, rfl, row_of ?_⟩, trivial⟩ rfl <;> first | (simp only [doneRowF, *, cond_true, cond_false]; done) | (show XV.tup _ = XV.nilz _ (XV.ren _ (sigR (doneS x t k v ws cap) cap)); simp only [doneS, *, cond_true, cond_false]; first | done | rfl))
  · refine ok_callf' latch_call (fits_of rfl rfl ⟨⟨_, rfl, EntRel.ws⟩, trivial⟩ fun c _ => ⟨⟨Nat.le_refl _, rfl⟩, ⟨rfl, rfl⟩, ⟨⟨EntRel.ws, rfl, (fun h => by cases h), .inr rfl⟩, trivial⟩⟩) (latch_local _ _ _ _ _ _ _) fun c _ => ?_
    (refine ok_leaf2 (fun _ => cap) [] [0, 0] trivial ?_ ⟨.inl rfl, .inr ⟨_, rfl, row_of ?_⟩, trivial⟩ rfl <;> first | (simp only [doneRowF, *, cond_true, cond_false]; done) | (show XV.tup _ = XV.nilz _ (XV.ren _ (sigR (doneS x t k v ws cap) cap)); simp only [doneS, *, cond_true, cond_false]; first | done | rfl))
  · refine ok_callf' rw_call (fits_of rfl rfl ⟨⟨_, rfl, EntRel.ws⟩, trivial⟩ fun c _ => ⟨⟨Nat.le_refl _, rfl⟩, ⟨rfl, rfl⟩, ⟨⟨EntRel.ws, rfl, (fun h => by cases h), .inr rfl⟩, trivial⟩⟩) (rw_local _ _ _ _ _ _ _ _ t0 t8) fun c _ => ?_
    (refine ok_leaf2 (fun _ => cap) [] [0, 0] trivial ?_ ⟨.inl rfl, .inr ⟨_, rfl, row_of ?_⟩, trivial⟩ rfl <;> first | (simp only [doneRowF, *, cond_true, cond_false]; done) | (show XV.tup _ = XV.nilz _ (XV.ren _ (sigR (doneS x t k v ws cap) cap)); simp only [doneS, *, cond_true, cond_false]; first | done | rfl))
  · refine ok_callf' swap_call (fits_of rfl rfl ⟨⟨_, rfl, EntRel.ws⟩, trivial⟩ fun c _ => ⟨⟨Nat.le_refl _, rfl⟩, ⟨rfl, rfl⟩, ⟨⟨EntRel.ws, rfl, (fun h => by cases h), .inr rfl⟩, trivial⟩⟩) (swap_local _ _ _ _ _ _ _ _) fun c _ => ?_
    (refine ok_leaf2 (fun _ => cap) [] [0, 0] trivial ?_ ⟨.inl rfl, .inr ⟨_, rfl, row_of ?_⟩, trivial⟩ rfl <;> first | (simp only [doneRowF, *, cond_true, cond_false]; done) | (show XV.tup _ = XV.nilz _ (XV.ren _ (sigR (doneS x t k v ws cap) cap)); simp only [doneS, *, cond_true, cond_false]; first | done | rfl))
  · (refine ok_leaf2 (fun _ => cap) [] [0, 0] trivial ?_ ⟨.inl rfl, .inr ⟨_, rfl, row_of ?_⟩, trivial⟩ rfl <;> first | (simp only [doneRowF, *, cond_true, cond_false]; done) | (show XV.tup _ = XV.nilz _ (XV.ren _ (sigR (doneS x t k v ws cap) cap)); simp only [doneS, *, cond_true, cond_false]; first | done | rfl))
end Go.Proofs.Ytnenbngjdekegaa.X

/- The model: Do: tree. -/
set_option linter.unusedVariables false
set_option linter.unusedSimpArgs false
namespace Go.Proofs.Ytnenbngjdekegaa.X
open Go Go.RowKit Go.Proofs.YtnenbngjdekegaaW.PrintWords Go.Proofs.Ytnenbngjdekegaa.Base
def doG (ws : List Wt) (own : Bool) (lo n rc : Nat) : Ctr := fun f args H => match args with
  | [.c (.sl k _ _ _ _ cap)] => some (clone2C ws own lo n cap rc H.length [k])
  | [.agg l, .c (.v (.int _ t)), .agg [.v (.int _ k), .v (.int _ v)]] => some (doneC (thgOf l) t k v (wsub ws lo n) (slCap l) H.length [slK l])
  | _ => none
def tdo (x : Thg) (t k v : Int) (ws : List Wt) (own : Bool) (lo n cap rc : Nat) : Tree :=
  Tree.callf 19 [AV.c (CV.sl 0 0 lo 2 n cap)] [(Ent.ws own rc ws), (Ent.mkBox 25 [iv x.1, iv x.2, iv x.3, iv x.4, iv x.5, iv x.6, iv x.7, iv x.8, iv x.9, iv x.10, iv x.11, iv x.12, CV.sl 0 0 lo 2 n cap, iv x.13, iv x.14]), (Ent.mkBox 29 [iv k, iv v]), (Ent.mkBox 25 [iv (0 : Int), iv (0 : Int), iv (0 : Int), iv (0 : Int), iv (0 : Int), iv (0 : Int), iv (0 : Int), iv (0 : Int), iv (0 : Int), iv (0 : Int), iv (0 : Int), iv (0 : Int), CV.v (Value.slice none 0 0), iv (0 : Int), iv (0 : Int)]), (Ent.mkBox 25 [iv x.1, iv x.2, iv x.3, iv x.4, iv x.5, iv x.6, iv x.7, iv x.8, iv x.9, iv x.10, iv x.11, iv x.12, CV.sl 0 0 lo 2 n cap, iv x.13, iv x.14])] (clone2C ws own lo n cap rc 5 [0]) fun c => Tree.chk (AV.c (CV.sl 0 0 lo 2 n cap) = AV.c (CV.sl 0 0 lo 2 n cap))
   (Tree.chk (AV.c (CV.ptr { k := 1, j := 0, i := 0, sz := 15, c := 12, d := 0, dn := 0, cu := 0 }) = AV.c (CV.ptr { k := 1, j := 0, i := 0, sz := 15, c := 12, d := 0, dn := 0, cu := 0 }))
   (Tree.callf 19 [AV.c (CV.sl 0 0 lo 2 n cap)] [(Ent.ws own rc ws), (Ent.mkBox 25 [iv x.1, iv x.2, iv x.3, iv x.4, iv x.5, iv x.6, iv x.7, iv x.8, iv x.9, iv x.10, iv x.11, iv x.12, CV.sl 0 0 lo 2 n cap, iv x.13, iv x.14]), (Ent.mkBox 29 [iv k, iv v]), (Ent.mkBox 25 [iv (0 : Int), iv (0 : Int), iv (0 : Int), iv (0 : Int), iv (0 : Int), iv (0 : Int), iv (0 : Int), iv (0 : Int), iv (0 : Int), iv (0 : Int), iv (0 : Int), iv (0 : Int), CV.v (Value.slice none 0 0), iv (0 : Int), iv (0 : Int)]), (Ent.mkBox 25 [iv x.1, iv x.2, iv x.3, iv x.4, iv x.5, iv x.6, iv x.7, iv x.8, iv x.9, iv x.10, iv x.11, iv x.12, CV.sl 0 0 lo 2 n cap, iv x.13, iv x.14]), (Ent.ws true (c 0) (List.take n (List.drop lo ws)))] (clone2C ws own lo n cap rc 6 [0]) fun c_1 => Tree.chk (AV.c (CV.ptr { k := 4, j := 0, i := 0, sz := 15, c := 12, d := 0, dn := 0, cu := 0 }) = AV.c (CV.ptr { k := 4, j := 0, i := 0, sz := 15, c := 12, d := 0, dn := 0, cu := 0 }))
   (Tree.chk ((!decide (t < (0 : Int))) = true → (!decide (t < (0 : Int))) = true)
   (Tree.chk (decide (t < (0 : Int)) = false → (!decide (t < (0 : Int))) = true)
   (Tree.br (bif decide (t < (0 : Int)) then true else decide (t ≥ (8 : Int)))
   (Tree.done (XV.tup [AV.agg [iv x.1, iv x.2, iv x.3, iv x.4, iv x.5, iv x.6, iv x.7, iv x.8, iv x.9, iv x.10, iv x.11, iv x.12, CV.sl 5 0 0 2 (List.length (List.take n (List.drop lo ws))) (c 0), iv x.13, iv x.14], AV.c (CV.v (Value.bool false))]) [(Ent.ws own rc ws), (Ent.mkBox 25 [iv x.1, iv x.2, iv x.3, iv x.4, iv x.5, iv x.6, iv x.7, iv x.8, iv x.9, iv x.10, iv x.11, iv x.12, CV.sl 6 0 0 2 (List.length (List.take n (List.drop lo ws))) (c_1 0), iv x.13, iv x.14]), (Ent.mkBox 29 [iv k, iv v]), (Ent.mkBox 25 [iv x.1, iv x.2, iv x.3, iv x.4, iv x.5, iv x.6, iv x.7, iv x.8, iv x.9, iv x.10, iv x.11, iv x.12, CV.sl 5 0 0 2 (List.length (List.take n (List.drop lo ws))) (c 0), iv x.13, iv x.14]), (Ent.mkBox 25 [iv x.1, iv x.2, iv x.3, iv x.4, iv x.5, iv x.6, iv x.7, iv x.8, iv x.9, iv x.10, iv x.11, iv x.12, CV.sl 5 0 0 2 (List.length (List.take n (List.drop lo ws))) (c 0), iv x.13, iv x.14]), (Ent.ws true (c 0) (List.take n (List.drop lo ws))), (Ent.ws true (c_1 0) (List.take n (List.drop lo ws)))])
   (Tree.br (k == (17 : Int))
   (Tree.chk ((v == (0 : Int)) = true → (v == (0 : Int)) = true)
   (Tree.chk ((v == (0 : Int)) = true → (v == (0 : Int)) = true)
   (Tree.chk ((v == (0 : Int)) = true → (v == (0 : Int)) = true)
   (Tree.chk ((bif v == (0 : Int) then decide (x.1 ≥ (1 : Int)) else false) = true → (bif v == (0 : Int) then decide (x.1 ≥ (1 : Int)) else false) = true)
   (Tree.chk ((bif v == (0 : Int) then decide (x.1 ≥ (1 : Int)) else false) = true → (bif v == (0 : Int) then decide (x.1 ≥ (1 : Int)) else false) = true)
   (Tree.chk ((bif v == (0 : Int) then decide (x.1 ≥ (1 : Int)) else false) = true → (bif v == (0 : Int) then decide (x.1 ≥ (1 : Int)) else false) = true)
   (Tree.chk ((bif v == (0 : Int) then decide (x.1 ≥ (1 : Int)) else false) = true → (bif v == (0 : Int) then decide (x.1 ≥ (1 : Int)) else false) = true)
   (Tree.chk (AV.c (CV.v (Value.bool (bif bif v == (0 : Int) then decide (x.1 ≥ (1 : Int)) else false then decide (x.1 ≤ (5 : Int)) else false))) = AV.c (CV.v (Value.bool (bif bif v == (0 : Int) then decide (x.1 ≥ (1 : Int)) else false then decide (x.1 ≤ (5 : Int)) else false))))
   (Tree.chk ((bif v == (0 : Int) then decide (x.1 ≥ (1 : Int)) else false) = true → (bif v == (0 : Int) then decide (x.1 ≥ (1 : Int)) else false) = true)
   (Tree.chk ((bif v == (0 : Int) then decide (x.1 ≥ (1 : Int)) else false) = true → AV.c (CV.v (Value.bool (decide (x.1 ≤ (5 : Int))))) = AV.c (CV.v (Value.bool (decide (x.1 ≤ (5 : Int))))))
   (Tree.chk ((bif v == (0 : Int) then decide (x.1 ≥ (1 : Int)) else false) = true → (bif v == (0 : Int) then decide (x.1 ≥ (1 : Int)) else false) = true)
   (Tree.chk ((bif v == (0 : Int) then decide (x.1 ≥ (1 : Int)) else false) = true → AV.c (iv x.1) = AV.c (iv x.1))
   (Tree.chk ((bif v == (0 : Int) then decide (x.1 ≥ (1 : Int)) else false) = true → AV.c (CV.ptr { k := 1, j := 0, i := 0, sz := 15, c := 0, d := 0, dn := 0, cu := 0 }) = AV.c (CV.ptr { k := 1, j := 0, i := 0, sz := 15, c := 0, d := 0, dn := 0, cu := 0 }))
   (Tree.done (XV.tup [AV.agg [iv x.1, iv x.2, iv x.3, iv x.4, iv x.5, iv x.6, iv x.7, iv x.8, iv x.9, iv x.10, iv x.11, iv x.12, CV.sl 5 0 0 2 (List.length (List.take n (List.drop lo ws))) (c 0), iv x.13, iv x.14], AV.c (CV.v (Value.bool (bif bif v == (0 : Int) then decide (x.1 ≥ (1 : Int)) else false then decide (x.1 ≤ (5 : Int)) else false)))]) [(Ent.ws own rc ws), (Ent.mkBox 25 [iv x.1, iv x.2, iv x.3, iv x.4, iv x.5, iv x.6, iv x.7, iv x.8, iv x.9, iv x.10, iv x.11, iv x.12, CV.sl 6 0 0 2 (List.length (List.take n (List.drop lo ws))) (c_1 0), iv x.13, iv x.14]), (Ent.mkBox 29 [iv k, iv v]), (Ent.mkBox 25 [iv x.1, iv x.2, iv x.3, iv x.4, iv x.5, iv x.6, iv x.7, iv x.8, iv x.9, iv x.10, iv x.11, iv x.12, CV.sl 5 0 0 2 (List.length (List.take n (List.drop lo ws))) (c 0), iv x.13, iv x.14]), (Ent.mkBox 25 [iv x.1, iv x.2, iv x.3, iv x.4, iv x.5, iv x.6, iv x.7, iv x.8, iv x.9, iv x.10, iv x.11, iv x.12, CV.sl 5 0 0 2 (List.length (List.take n (List.drop lo ws))) (c 0), iv x.13, iv x.14]), (Ent.ws true (c 0) (List.take n (List.drop lo ws))), (Ent.ws true (c_1 0) (List.take n (List.drop lo ws)))]))))))))))))))
   (Tree.callf 20 [AV.agg [iv x.1, iv x.2, iv x.3, iv x.4, iv x.5, iv x.6, iv x.7, iv x.8, iv x.9, iv x.10, iv x.11, iv x.12, CV.sl 6 0 0 2 (List.length (List.take n (List.drop lo ws))) (c_1 0), iv x.13, iv x.14], AV.c (iv t), AV.agg [iv k, iv v]] [(Ent.ws own rc ws), (Ent.mkBox 25 [iv x.1, iv x.2, iv x.3, iv x.4, iv x.5, iv x.6, iv x.7, iv x.8, iv x.9, iv x.10, iv x.11, iv x.12, CV.sl 6 0 0 2 (List.length (List.take n (List.drop lo ws))) (c_1 0), iv x.13, iv x.14]), (Ent.mkBox 29 [iv k, iv v]), (Ent.mkBox 25 [iv (0 : Int), iv (0 : Int), iv (0 : Int), iv (0 : Int), iv (0 : Int), iv (0 : Int), iv (0 : Int), iv (0 : Int), iv (0 : Int), iv (0 : Int), iv (0 : Int), iv (0 : Int), CV.v (Value.slice none 0 0), iv (0 : Int), iv (0 : Int)]), (Ent.mkBox 25 [iv x.1, iv x.2, iv x.3, iv x.4, iv x.5, iv x.6, iv x.7, iv x.8, iv x.9, iv x.10, iv x.11, iv x.12, CV.sl 5 0 0 2 (List.length (List.take n (List.drop lo ws))) (c 0), iv x.13, iv x.14]), (Ent.ws true (c 0) (List.take n (List.drop lo ws))), (Ent.ws true (c_1 0) (List.take n (List.drop lo ws)))] (doneC x t k v (List.take n (List.drop lo ws)) (c_1 0) 7 [6]) fun c_2 => Tree.br (Prod.snd (Prod.snd (doneS x t k v (List.take n (List.drop lo ws)) (c_1 0))))
   (Tree.done (XV.tup [AV.agg [iv (Prod.fst (doneS x t k v (List.take n (List.drop lo ws)) (c_1 0))).1, iv (Prod.fst (doneS x t k v (List.take n (List.drop lo ws)) (c_1 0))).2, iv (Prod.fst (doneS x t k v (List.take n (List.drop lo ws)) (c_1 0))).3, iv (Prod.fst (doneS x t k v (List.take n (List.drop lo ws)) (c_1 0))).4, iv (Prod.fst (doneS x t k v (List.take n (List.drop lo ws)) (c_1 0))).5, iv (Prod.fst (doneS x t k v (List.take n (List.drop lo ws)) (c_1 0))).6, iv (Prod.fst (doneS x t k v (List.take n (List.drop lo ws)) (c_1 0))).7, iv (Prod.fst (doneS x t k v (List.take n (List.drop lo ws)) (c_1 0))).8, iv (Prod.fst (doneS x t k v (List.take n (List.drop lo ws)) (c_1 0))).9, iv (Prod.fst (doneS x t k v (List.take n (List.drop lo ws)) (c_1 0))).10, iv (Prod.fst (doneS x t k v (List.take n (List.drop lo ws)) (c_1 0))).11, iv (Prod.fst (doneS x t k v (List.take n (List.drop lo ws)) (c_1 0))).12, CV.sl 7 0 (Prod.fst (Prod.fst (Prod.snd (doneS x t k v (List.take n (List.drop lo ws)) (c_1 0))))) 2 (Prod.snd (Prod.fst (Prod.snd (doneS x t k v (List.take n (List.drop lo ws)) (c_1 0))))) (c_2 0), iv (Prod.fst (doneS x t k v (List.take n (List.drop lo ws)) (c_1 0))).13, iv (Prod.fst (doneS x t k v (List.take n (List.drop lo ws)) (c_1 0))).14], AV.c (CV.v (Value.bool true))]) [(Ent.ws own rc ws), (Ent.mkBox 25 [iv x.1, iv x.2, iv x.3, iv x.4, iv x.5, iv x.6, iv x.7, iv x.8, iv x.9, iv x.10, iv x.11, iv x.12, CV.sl 6 0 0 2 (List.length (List.take n (List.drop lo ws))) (c_1 0), iv x.13, iv x.14]), (Ent.mkBox 29 [iv k, iv v]), (Ent.mkBox 25 [iv (Prod.fst (doneS x t k v (List.take n (List.drop lo ws)) (c_1 0))).1, iv (Prod.fst (doneS x t k v (List.take n (List.drop lo ws)) (c_1 0))).2, iv (Prod.fst (doneS x t k v (List.take n (List.drop lo ws)) (c_1 0))).3, iv (Prod.fst (doneS x t k v (List.take n (List.drop lo ws)) (c_1 0))).4, iv (Prod.fst (doneS x t k v (List.take n (List.drop lo ws)) (c_1 0))).5, iv (Prod.fst (doneS x t k v (List.take n (List.drop lo ws)) (c_1 0))).6, iv (Prod.fst (doneS x t k v (List.take n (List.drop lo ws)) (c_1 0))).7, iv (Prod.fst (doneS x t k v (List.take n (List.drop lo ws)) (c_1 0))).8, iv (Prod.fst (doneS x t k v (List.take n (List.drop lo ws)) (c_1 0))).9, iv (Prod.fst (doneS x t k v (List.take n (List.drop lo ws)) (c_1 0))).10, iv (Prod.fst (doneS x t k v (List.take n (List.drop lo ws)) (c_1 0))).11, iv (Prod.fst (doneS x t k v (List.take n (List.drop lo ws)) (c_1 0))).12, CV.sl 7 0 (Prod.fst (Prod.fst (Prod.snd (doneS x t k v (List.take n (List.drop lo ws)) (c_1 0))))) 2 (Prod.snd (Prod.fst (Prod.snd (doneS x t k v (List.take n (List.drop lo ws)) (c_1 0))))) (c_2 0), iv (Prod.fst (doneS x t k v (List.take n (List.drop lo ws)) (c_1 0))).13, iv (Prod.fst (doneS x t k v (List.take n (List.drop lo ws)) (c_1 0))).14]), (Ent.mkBox 25 [iv x.1, iv x.2, iv x.3, iv x.4, iv x.5, iv x.6, iv x.7, iv x.8, iv x.9, iv x.10, iv x.11, iv x.12, CV.sl 5 0 0 2 (List.length (List.take n (List.drop lo ws))) (c 0), iv x.13, iv x.14]), (Ent.ws true (c 0) (List.take n (List.drop lo ws))), Ent.dead, (Ent.ws true (c_2 1) (doneRowF x (List.take n (List.drop lo ws)) t k)), (Ent.mkBox 25 [iv (Prod.fst (doneS x t k v (List.take n (List.drop lo ws)) (c_1 0))).1, iv (Prod.fst (doneS x t k v (List.take n (List.drop lo ws)) (c_1 0))).2, iv (Prod.fst (doneS x t k v (List.take n (List.drop lo ws)) (c_1 0))).3, iv (Prod.fst (doneS x t k v (List.take n (List.drop lo ws)) (c_1 0))).4, iv (Prod.fst (doneS x t k v (List.take n (List.drop lo ws)) (c_1 0))).5, iv (Prod.fst (doneS x t k v (List.take n (List.drop lo ws)) (c_1 0))).6, iv (Prod.fst (doneS x t k v (List.take n (List.drop lo ws)) (c_1 0))).7, iv (Prod.fst (doneS x t k v (List.take n (List.drop lo ws)) (c_1 0))).8, iv (Prod.fst (doneS x t k v (List.take n (List.drop lo ws)) (c_1 0))).9, iv (Prod.fst (doneS x t k v (List.take n (List.drop lo ws)) (c_1 0))).10, iv (Prod.fst (doneS x t k v (List.take n (List.drop lo ws)) (c_1 0))).11, iv (Prod.fst (doneS x t k v (List.take n (List.drop lo ws)) (c_1 0))).12, CV.sl 7 0 (Prod.fst (Prod.fst (Prod.snd (doneS x t k v (List.take n (List.drop lo ws)) (c_1 0))))) 2 (Prod.snd (Prod.fst (Prod.snd (doneS x t k v (List.take n (List.drop lo ws)) (c_1 0))))) (c_2 0), iv (Prod.fst (doneS x t k v (List.take n (List.drop lo ws)) (c_1 0))).13, iv (Prod.fst (doneS x t k v (List.take n (List.drop lo ws)) (c_1 0))).14])])
   (Tree.done (XV.tup [AV.agg [iv x.1, iv x.2, iv x.3, iv x.4, iv x.5, iv x.6, iv x.7, iv x.8, iv x.9, iv x.10, iv x.11, iv x.12, CV.sl 5 0 0 2 (List.length (List.take n (List.drop lo ws))) (c 0), iv x.13, iv x.14], AV.c (CV.v (Value.bool false))]) [(Ent.ws own rc ws), (Ent.mkBox 25 [iv x.1, iv x.2, iv x.3, iv x.4, iv x.5, iv x.6, iv x.7, iv x.8, iv x.9, iv x.10, iv x.11, iv x.12, CV.sl 6 0 0 2 (List.length (List.take n (List.drop lo ws))) (c_1 0), iv x.13, iv x.14]), (Ent.mkBox 29 [iv k, iv v]), (Ent.mkBox 25 [iv x.1, iv x.2, iv x.3, iv x.4, iv x.5, iv x.6, iv x.7, iv x.8, iv x.9, iv x.10, iv x.11, iv x.12, CV.sl 5 0 0 2 (List.length (List.take n (List.drop lo ws))) (c 0), iv x.13, iv x.14]), (Ent.mkBox 25 [iv x.1, iv x.2, iv x.3, iv x.4, iv x.5, iv x.6, iv x.7, iv x.8, iv x.9, iv x.10, iv x.11, iv x.12, CV.sl 5 0 0 2 (List.length (List.take n (List.drop lo ws))) (c 0), iv x.13, iv x.14]), (Ent.ws true (c 0) (List.take n (List.drop lo ws))), Ent.dead, (Ent.ws true (c_2 1) (doneRowF x (List.take n (List.drop lo ws)) t k)), (Ent.mkBox 25 [iv (Prod.fst (doneS x t k v (List.take n (List.drop lo ws)) (c_1 0))).1, iv (Prod.fst (doneS x t k v (List.take n (List.drop lo ws)) (c_1 0))).2, iv (Prod.fst (doneS x t k v (List.take n (List.drop lo ws)) (c_1 0))).3, iv (Prod.fst (doneS x t k v (List.take n (List.drop lo ws)) (c_1 0))).4, iv (Prod.fst (doneS x t k v (List.take n (List.drop lo ws)) (c_1 0))).5, iv (Prod.fst (doneS x t k v (List.take n (List.drop lo ws)) (c_1 0))).6, iv (Prod.fst (doneS x t k v (List.take n (List.drop lo ws)) (c_1 0))).7, iv (Prod.fst (doneS x t k v (List.take n (List.drop lo ws)) (c_1 0))).8, iv (Prod.fst (doneS x t k v (List.take n (List.drop lo ws)) (c_1 0))).9, iv (Prod.fst (doneS x t k v (List.take n (List.drop lo ws)) (c_1 0))).10, iv (Prod.fst (doneS x t k v (List.take n (List.drop lo ws)) (c_1 0))).11, iv (Prod.fst (doneS x t k v (List.take n (List.drop lo ws)) (c_1 0))).12, CV.sl 7 0 (Prod.fst (Prod.fst (Prod.snd (doneS x t k v (List.take n (List.drop lo ws)) (c_1 0))))) 2 (Prod.snd (Prod.fst (Prod.snd (doneS x t k v (List.take n (List.drop lo ws)) (c_1 0))))) (c_2 0), iv (Prod.fst (doneS x t k v (List.take n (List.drop lo ws)) (c_1 0))).13, iv (Prod.fst (doneS x t k v (List.take n (List.drop lo ws)) (c_1 0))).14])]))))))))
theorem tdo_eq (x : Thg) (t k v : Int) (ws : List Wt) (own : Bool) (lo n cap rc : Nat) : xfunc tab (doG ws own lo n rc) noInv Go.Proofs.Try.f11 [x.av 0 lo n cap, .c (iv t), markA k v] [Ent.ws own rc ws] [0, 1, 2, 3, 4, 5, 6, 7, 8] = tdo x t k v ws own lo n cap rc := by kernel_rfl
end Go.Proofs.Ytnenbngjdekegaa.X

/- The model: the document's Do: trees. -/
set_option linter.unusedVariables false
set_option linter.unusedSimpArgs false
namespace Go.Proofs.Ytnenbngjdekegaa.X
open Go Go.RowKit Go.Proofs.YtnenbngjdekegaaW.PrintWords Go.Proofs.Ytnenbngjdekegaa.Base
def doneRG (ws : List Wt) : Ctr := fun f args H => match args with
  | [.agg l, .c (.v (.int _ t)), .c (.v (.int _ k)), .c (.v (.int _ v))] =>
    if f = 21 then some (lockrC (thgOf l) t k v ws (slCap l) H.length [slK l])
    else if f = 23 then some (rdSpec [slK l] [(thgOf l).av 0 0 ws.length (slCap l), .c (iv t), .c (iv k), .c (iv v)] [Ent.ws false (slCap l) ws] (thgR (rwrS (thgOf l) t k v) ws.length (slCap l)))
    else some (swaprC (thgOf l) t k v ws false (slCap l) [slK l])
  | [.agg l, .c (.v (.int _ k)), .c (.v (.int _ v))] => some (semarC (thgOf l) k v ws false (slCap l) [slK l])
  | _ => none
def tdor (x : Thg) (t k v : Int) (ws : List Wt) (cap : Nat) : Tree :=
  Tree.chk ((!decide (t < (0 : Int))) = true → (!decide (t < (0 : Int))) = true)
   (Tree.chk (decide (t < (0 : Int)) = false → (!decide (t < (0 : Int))) = true)
   (Tree.chk ((!bif decide (t < (0 : Int)) then true else decide (t > (7 : Int))) = true → (!bif decide (t < (0 : Int)) then true else decide (t > (7 : Int))) = true)
   (Tree.chk ((!bif decide (t < (0 : Int)) then true else decide (t > (7 : Int))) = true → (!bif decide (t < (0 : Int)) then true else decide (t > (7 : Int))) = true)
   (Tree.chk ((bif decide (t < (0 : Int)) then true else decide (t > (7 : Int))) = false → (!bif decide (t < (0 : Int)) then true else decide (t > (7 : Int))) = true)
   (Tree.chk ((!bif bif decide (t < (0 : Int)) then true else decide (t > (7 : Int)) then true else decide (x.1 < (1 : Int))) = true → (!bif bif decide (t < (0 : Int)) then true else decide (t > (7 : Int)) then true else decide (x.1 < (1 : Int))) = true)
   (Tree.chk ((!bif bif decide (t < (0 : Int)) then true else decide (t > (7 : Int)) then true else decide (x.1 < (1 : Int))) = true → (!bif bif decide (t < (0 : Int)) then true else decide (t > (7 : Int)) then true else decide (x.1 < (1 : Int))) = true)
   (Tree.chk ((bif bif decide (t < (0 : Int)) then true else decide (t > (7 : Int)) then true else decide (x.1 < (1 : Int))) = false → (!bif bif decide (t < (0 : Int)) then true else decide (t > (7 : Int)) then true else decide (x.1 < (1 : Int))) = true)
   (Tree.br (bif bif bif decide (t < (0 : Int)) then true else decide (t > (7 : Int)) then true else decide (x.1 < (1 : Int)) then true else decide (x.1 > (5 : Int)))
   (Tree.done (XV.tup [AV.agg [iv x.1, iv x.2, iv x.3, iv x.4, iv x.5, iv x.6, iv x.7, iv x.8, iv x.9, iv x.10, iv x.11, iv x.12, CV.sl 0 0 0 2 (List.length ws) cap, iv x.13, iv x.14], AV.c (CV.v (Value.bool false))]) [(Ent.ws false cap ws), (Ent.mkBox 25 [iv x.1, iv x.2, iv x.3, iv x.4, iv x.5, iv x.6, iv x.7, iv x.8, iv x.9, iv x.10, iv x.11, iv x.12, CV.sl 0 0 0 2 (List.length ws) cap, iv x.13, iv x.14]), (Ent.mkBox 29 [iv k, iv v]), (Ent.mkBox 25 [iv x.1, iv x.2, iv x.3, iv x.4, iv x.5, iv x.6, iv x.7, iv x.8, iv x.9, iv x.10, iv x.11, iv x.12, CV.sl 0 0 0 2 (List.length ws) cap, iv x.13, iv x.14])])
   (Tree.br (k == (17 : Int))
   (Tree.chk (AV.c (CV.v (Value.bool (v == (0 : Int)))) = AV.c (CV.v (Value.bool (v == (0 : Int)))))
   (Tree.chk (AV.c (iv v) = AV.c (iv v))
   (Tree.chk (AV.c (CV.ptr { k := 2, j := 0, i := 0, sz := 2, c := 1, d := 0, dn := 0, cu := 0 }) = AV.c (CV.ptr { k := 2, j := 0, i := 0, sz := 2, c := 1, d := 0, dn := 0, cu := 0 }))
   (Tree.done (XV.tup [AV.agg [iv x.1, iv x.2, iv x.3, iv x.4, iv x.5, iv x.6, iv x.7, iv x.8, iv x.9, iv x.10, iv x.11, iv x.12, CV.sl 0 0 0 2 (List.length ws) cap, iv x.13, iv x.14], AV.c (CV.v (Value.bool (v == (0 : Int))))]) [(Ent.ws false cap ws), (Ent.mkBox 25 [iv x.1, iv x.2, iv x.3, iv x.4, iv x.5, iv x.6, iv x.7, iv x.8, iv x.9, iv x.10, iv x.11, iv x.12, CV.sl 0 0 0 2 (List.length ws) cap, iv x.13, iv x.14]), (Ent.mkBox 29 [iv k, iv v]), (Ent.mkBox 25 [iv x.1, iv x.2, iv x.3, iv x.4, iv x.5, iv x.6, iv x.7, iv x.8, iv x.9, iv x.10, iv x.11, iv x.12, CV.sl 0 0 0 2 (List.length ws) cap, iv x.13, iv x.14])]))))
   (Tree.br (x.1 == (1 : Int))
   (Tree.callf 21 [AV.agg [iv x.1, iv x.2, iv x.3, iv x.4, iv x.5, iv x.6, iv x.7, iv x.8, iv x.9, iv x.10, iv x.11, iv x.12, CV.sl 0 0 0 2 (List.length ws) cap, iv x.13, iv x.14], AV.c (iv t), AV.c (iv k), AV.c (iv v)] [(Ent.ws false cap ws), (Ent.mkBox 25 [iv x.1, iv x.2, iv x.3, iv x.4, iv x.5, iv x.6, iv x.7, iv x.8, iv x.9, iv x.10, iv x.11, iv x.12, CV.sl 0 0 0 2 (List.length ws) cap, iv x.13, iv x.14]), (Ent.mkBox 29 [iv k, iv v]), (Ent.mkBox 25 [iv (0 : Int), iv (0 : Int), iv (0 : Int), iv (0 : Int), iv (0 : Int), iv (0 : Int), iv (0 : Int), iv (0 : Int), iv (0 : Int), iv (0 : Int), iv (0 : Int), iv (0 : Int), CV.v (Value.slice none 0 0), iv (0 : Int), iv (0 : Int)])] (lockrC x t k v ws cap 4 [0]) fun c => Tree.done (XV.tup [AV.agg [iv (Prod.fst (lockrF x t k v ws)).1, iv (Prod.fst (lockrF x t k v ws)).2, iv (Prod.fst (lockrF x t k v ws)).3, iv (Prod.fst (lockrF x t k v ws)).4, iv (Prod.fst (lockrF x t k v ws)).5, iv (Prod.fst (lockrF x t k v ws)).6, iv (Prod.fst (lockrF x t k v ws)).7, iv (Prod.fst (lockrF x t k v ws)).8, iv (Prod.fst (lockrF x t k v ws)).9, iv (Prod.fst (lockrF x t k v ws)).10, iv (Prod.fst (lockrF x t k v ws)).11, iv (Prod.fst (lockrF x t k v ws)).12, CV.sl 4 0 0 2 (List.length (Prod.fst (Prod.snd (lockrF x t k v ws)))) (c 0), iv (Prod.fst (lockrF x t k v ws)).13, iv (Prod.fst (lockrF x t k v ws)).14], AV.c (CV.v (Value.bool (Prod.snd (Prod.snd (lockrF x t k v ws)))))]) [(Ent.ws false cap ws), (Ent.mkBox 25 [iv x.1, iv x.2, iv x.3, iv x.4, iv x.5, iv x.6, iv x.7, iv x.8, iv x.9, iv x.10, iv x.11, iv x.12, CV.sl 0 0 0 2 (List.length ws) cap, iv x.13, iv x.14]), (Ent.mkBox 29 [iv k, iv v]), (Ent.mkBox 25 [iv (Prod.fst (lockrF x t k v ws)).1, iv (Prod.fst (lockrF x t k v ws)).2, iv (Prod.fst (lockrF x t k v ws)).3, iv (Prod.fst (lockrF x t k v ws)).4, iv (Prod.fst (lockrF x t k v ws)).5, iv (Prod.fst (lockrF x t k v ws)).6, iv (Prod.fst (lockrF x t k v ws)).7, iv (Prod.fst (lockrF x t k v ws)).8, iv (Prod.fst (lockrF x t k v ws)).9, iv (Prod.fst (lockrF x t k v ws)).10, iv (Prod.fst (lockrF x t k v ws)).11, iv (Prod.fst (lockrF x t k v ws)).12, CV.sl 4 0 0 2 (List.length (Prod.fst (Prod.snd (lockrF x t k v ws)))) (c 0), iv (Prod.fst (lockrF x t k v ws)).13, iv (Prod.fst (lockrF x t k v ws)).14]), (Ent.ws false (c 0) (Prod.fst (Prod.snd (lockrF x t k v ws))))])
   (Tree.br (x.1 == (2 : Int))
   (Tree.callf 22 [AV.agg [iv x.1, iv x.2, iv x.3, iv x.4, iv x.5, iv x.6, iv x.7, iv x.8, iv x.9, iv x.10, iv x.11, iv x.12, CV.sl 0 0 0 2 (List.length ws) cap, iv x.13, iv x.14], AV.c (iv k), AV.c (iv v)] [(Ent.ws false cap ws), (Ent.mkBox 25 [iv x.1, iv x.2, iv x.3, iv x.4, iv x.5, iv x.6, iv x.7, iv x.8, iv x.9, iv x.10, iv x.11, iv x.12, CV.sl 0 0 0 2 (List.length ws) cap, iv x.13, iv x.14]), (Ent.mkBox 29 [iv k, iv v]), (Ent.mkBox 25 [iv (0 : Int), iv (0 : Int), iv (0 : Int), iv (0 : Int), iv (0 : Int), iv (0 : Int), iv (0 : Int), iv (0 : Int), iv (0 : Int), iv (0 : Int), iv (0 : Int), iv (0 : Int), CV.v (Value.slice none 0 0), iv (0 : Int), iv (0 : Int)])] (semarC x k v ws false cap [0]) fun c => Tree.done (XV.tup [AV.agg [iv (Prod.fst (semarS x k v)).1, iv (Prod.fst (semarS x k v)).2, iv (Prod.fst (semarS x k v)).3, iv (Prod.fst (semarS x k v)).4, iv (Prod.fst (semarS x k v)).5, iv (Prod.fst (semarS x k v)).6, iv (Prod.fst (semarS x k v)).7, iv (Prod.fst (semarS x k v)).8, iv (Prod.fst (semarS x k v)).9, iv (Prod.fst (semarS x k v)).10, iv (Prod.fst (semarS x k v)).11, iv (Prod.fst (semarS x k v)).12, CV.sl 0 0 0 2 (List.length ws) cap, iv (Prod.fst (semarS x k v)).13, iv (Prod.fst (semarS x k v)).14], AV.c (CV.v (Value.bool (Prod.snd (semarS x k v))))]) [(Ent.ws false cap ws), (Ent.mkBox 25 [iv x.1, iv x.2, iv x.3, iv x.4, iv x.5, iv x.6, iv x.7, iv x.8, iv x.9, iv x.10, iv x.11, iv x.12, CV.sl 0 0 0 2 (List.length ws) cap, iv x.13, iv x.14]), (Ent.mkBox 29 [iv k, iv v]), (Ent.mkBox 25 [iv (Prod.fst (semarS x k v)).1, iv (Prod.fst (semarS x k v)).2, iv (Prod.fst (semarS x k v)).3, iv (Prod.fst (semarS x k v)).4, iv (Prod.fst (semarS x k v)).5, iv (Prod.fst (semarS x k v)).6, iv (Prod.fst (semarS x k v)).7, iv (Prod.fst (semarS x k v)).8, iv (Prod.fst (semarS x k v)).9, iv (Prod.fst (semarS x k v)).10, iv (Prod.fst (semarS x k v)).11, iv (Prod.fst (semarS x k v)).12, CV.sl 0 0 0 2 (List.length ws) cap, iv (Prod.fst (semarS x k v)).13, iv (Prod.fst (semarS x k v)).14])])
   (Tree.br (x.1 == (3 : Int))
   (Tree.br (k == (1 : Int))
   (Tree.chk ((x.2 == (0 : Int)) = true → (x.2 == (0 : Int)) = true)
   (Tree.chk ((x.2 == (0 : Int)) = true → (x.2 == (0 : Int)) = true)
   (Tree.chk ((x.2 == (0 : Int)) = true → (x.2 == (0 : Int)) = true)
   (Tree.chk ((x.2 == (0 : Int)) = true → (x.2 == (0 : Int)) = true)
   (Tree.chk (AV.c (CV.v (Value.bool (bif x.2 == (0 : Int) then v == (0 : Int) else false))) = AV.c (CV.v (Value.bool (bif x.2 == (0 : Int) then v == (0 : Int) else false))))
   (Tree.chk ((x.2 == (0 : Int)) = true → (x.2 == (0 : Int)) = true)
   (Tree.chk ((x.2 == (0 : Int)) = true → AV.c (CV.v (Value.bool (v == (0 : Int)))) = AV.c (CV.v (Value.bool (v == (0 : Int)))))
   (Tree.chk ((x.2 == (0 : Int)) = true → (x.2 == (0 : Int)) = true)
   (Tree.chk ((x.2 == (0 : Int)) = true → AV.c (iv v) = AV.c (iv v))
   (Tree.chk ((x.2 == (0 : Int)) = true → AV.c (CV.ptr { k := 2, j := 0, i := 0, sz := 2, c := 1, d := 0, dn := 0, cu := 0 }) = AV.c (CV.ptr { k := 2, j := 0, i := 0, sz := 2, c := 1, d := 0, dn := 0, cu := 0 }))
   (Tree.done (XV.tup [AV.agg [iv x.1, iv x.2, iv x.3, iv x.4, iv x.5, iv x.6, iv x.7, iv x.8, iv x.9, iv x.10, iv x.11, iv x.12, CV.sl 0 0 0 2 (List.length ws) cap, iv x.13, iv x.14], AV.c (CV.v (Value.bool (bif x.2 == (0 : Int) then v == (0 : Int) else false)))]) [(Ent.ws false cap ws), (Ent.mkBox 25 [iv x.1, iv x.2, iv x.3, iv x.4, iv x.5, iv x.6, iv x.7, iv x.8, iv x.9, iv x.10, iv x.11, iv x.12, CV.sl 0 0 0 2 (List.length ws) cap, iv x.13, iv x.14]), (Ent.mkBox 29 [iv k, iv v]), (Ent.mkBox 25 [iv x.1, iv x.2, iv x.3, iv x.4, iv x.5, iv x.6, iv x.7, iv x.8, iv x.9, iv x.10, iv x.11, iv x.12, CV.sl 0 0 0 2 (List.length ws) cap, iv x.13, iv x.14])])))))))))))
   (Tree.chk ((k == (8 : Int)) = true → (k == (8 : Int)) = true)
   (Tree.chk ((k == (8 : Int)) = true → (k == (8 : Int)) = true)
   (Tree.chk ((k == (8 : Int)) = true → (k == (8 : Int)) = true)
   (Tree.chk ((k == (8 : Int) && v == (1 : Int)) = true → (k == (8 : Int) && v == (1 : Int)) = true)
   (Tree.chk ((k == (8 : Int) && v == (1 : Int)) = true → (k == (8 : Int) && v == (1 : Int)) = true)
   (Tree.chk ((k == (8 : Int)) = true → (k == (8 : Int)) = true)
   (Tree.chk ((k == (8 : Int)) = true → (v == (1 : Int)) = true → (k == (8 : Int) && v == (1 : Int)) = true)
   (Tree.chk ((k == (8 : Int)) = true → (k == (8 : Int)) = true)
   (Tree.chk ((k == (8 : Int) && !bif v == (1 : Int) then decide (x.2 > (0 : Int)) else false) = true → (k == (8 : Int) && !bif v == (1 : Int) then decide (x.2 > (0 : Int)) else false) = true)
   (Tree.chk ((k == (8 : Int) && !bif v == (1 : Int) then decide (x.2 > (0 : Int)) else false) = true → (k == (8 : Int) && !bif v == (1 : Int) then decide (x.2 > (0 : Int)) else false) = true)
   (Tree.chk ((k == (8 : Int) && !bif v == (1 : Int) then decide (x.2 > (0 : Int)) else false) = true → (k == (8 : Int) && !bif v == (1 : Int) then decide (x.2 > (0 : Int)) else false) = true)
   (Tree.chk (((k == (8 : Int) && !bif v == (1 : Int) then decide (x.2 > (0 : Int)) else false) && v == (0 : Int)) = true → ((k == (8 : Int) && !bif v == (1 : Int) then decide (x.2 > (0 : Int)) else false) && v == (0 : Int)) = true)
   (Tree.chk (((k == (8 : Int) && !bif v == (1 : Int) then decide (x.2 > (0 : Int)) else false) && v == (0 : Int)) = true → ((k == (8 : Int) && !bif v == (1 : Int) then decide (x.2 > (0 : Int)) else false) && v == (0 : Int)) = true)
   (Tree.chk ((k == (8 : Int) && !bif v == (1 : Int) then decide (x.2 > (0 : Int)) else false) = true → (k == (8 : Int) && !bif v == (1 : Int) then decide (x.2 > (0 : Int)) else false) = true)
   (Tree.chk ((k == (8 : Int) && !bif v == (1 : Int) then decide (x.2 > (0 : Int)) else false) = true → (v == (0 : Int)) = true → ((k == (8 : Int) && !bif v == (1 : Int) then decide (x.2 > (0 : Int)) else false) && v == (0 : Int)) = true)
   (Tree.chk ((k == (8 : Int)) = true → (k == (8 : Int)) = true)
   (Tree.chk ((k == (8 : Int)) = true → (bif v == (1 : Int) then decide (x.2 > (0 : Int)) else false) = false → (k == (8 : Int) && !bif v == (1 : Int) then decide (x.2 > (0 : Int)) else false) = true)
   (Tree.chk ((k == (8 : Int)) = true → (k == (8 : Int)) = true)
   (Tree.br (bif k == (8 : Int) then bif bif v == (1 : Int) then decide (x.2 > (0 : Int)) else false then true else bif v == (0 : Int) then x.2 == (0 : Int) else false else false)
   (Tree.done (XV.tup [AV.agg [iv x.1, iv (IntKind.wrap IntKind.i64 (x.2 - v)), iv x.3, iv x.4, iv x.5, iv x.6, iv x.7, iv x.8, iv x.9, iv x.10, iv x.11, iv x.12, CV.sl 0 0 0 2 (List.length ws) cap, iv x.13, iv x.14], AV.c (CV.v (Value.bool true))]) [(Ent.ws false cap ws), (Ent.mkBox 25 [iv x.1, iv (IntKind.wrap IntKind.i64 (x.2 - v)), iv x.3, iv x.4, iv x.5, iv x.6, iv x.7, iv x.8, iv x.9, iv x.10, iv x.11, iv x.12, CV.sl 0 0 0 2 (List.length ws) cap, iv x.13, iv x.14]), (Ent.mkBox 29 [iv k, iv v]), (Ent.mkBox 25 [iv x.1, iv (IntKind.wrap IntKind.i64 (x.2 - v)), iv x.3, iv x.4, iv x.5, iv x.6, iv x.7, iv x.8, iv x.9, iv x.10, iv x.11, iv x.12, CV.sl 0 0 0 2 (List.length ws) cap, iv x.13, iv x.14])])
   (Tree.done (XV.tup [AV.agg [iv x.1, iv x.2, iv x.3, iv x.4, iv x.5, iv x.6, iv x.7, iv x.8, iv x.9, iv x.10, iv x.11, iv x.12, CV.sl 0 0 0 2 (List.length ws) cap, iv x.13, iv x.14], AV.c (CV.v (Value.bool false))]) [(Ent.ws false cap ws), (Ent.mkBox 25 [iv x.1, iv x.2, iv x.3, iv x.4, iv x.5, iv x.6, iv x.7, iv x.8, iv x.9, iv x.10, iv x.11, iv x.12, CV.sl 0 0 0 2 (List.length ws) cap, iv x.13, iv x.14]), (Ent.mkBox 29 [iv k, iv v]), (Ent.mkBox 25 [iv x.1, iv x.2, iv x.3, iv x.4, iv x.5, iv x.6, iv x.7, iv x.8, iv x.9, iv x.10, iv x.11, iv x.12, CV.sl 0 0 0 2 (List.length ws) cap, iv x.13, iv x.14])])))))))))))))))))))))
   (Tree.br (x.1 == (4 : Int))
   (Tree.callf 23 [AV.agg [iv x.1, iv x.2, iv x.3, iv x.4, iv x.5, iv x.6, iv x.7, iv x.8, iv x.9, iv x.10, iv x.11, iv x.12, CV.sl 0 0 0 2 (List.length ws) cap, iv x.13, iv x.14], AV.c (iv t), AV.c (iv k), AV.c (iv v)] [(Ent.ws false cap ws), (Ent.mkBox 25 [iv x.1, iv x.2, iv x.3, iv x.4, iv x.5, iv x.6, iv x.7, iv x.8, iv x.9, iv x.10, iv x.11, iv x.12, CV.sl 0 0 0 2 (List.length ws) cap, iv x.13, iv x.14]), (Ent.mkBox 29 [iv k, iv v]), (Ent.mkBox 25 [iv (0 : Int), iv (0 : Int), iv (0 : Int), iv (0 : Int), iv (0 : Int), iv (0 : Int), iv (0 : Int), iv (0 : Int), iv (0 : Int), iv (0 : Int), iv (0 : Int), iv (0 : Int), CV.v (Value.slice none 0 0), iv (0 : Int), iv (0 : Int)])] (rdSpec [0] [AV.agg [iv x.1, iv x.2, iv x.3, iv x.4, iv x.5, iv x.6, iv x.7, iv x.8, iv x.9, iv x.10, iv x.11, iv x.12, CV.sl 0 0 0 2 (List.length ws) cap, iv x.13, iv x.14], AV.c (iv t), AV.c (iv k), AV.c (iv v)] [(Ent.ws false cap ws)] (XV.tup [AV.agg [iv (Prod.fst (rwrS x t k v)).1, iv (Prod.fst (rwrS x t k v)).2, iv (Prod.fst (rwrS x t k v)).3, iv (Prod.fst (rwrS x t k v)).4, iv (Prod.fst (rwrS x t k v)).5, iv (Prod.fst (rwrS x t k v)).6, iv (Prod.fst (rwrS x t k v)).7, iv (Prod.fst (rwrS x t k v)).8, iv (Prod.fst (rwrS x t k v)).9, iv (Prod.fst (rwrS x t k v)).10, iv (Prod.fst (rwrS x t k v)).11, iv (Prod.fst (rwrS x t k v)).12, CV.sl 0 0 0 2 (List.length ws) cap, iv (Prod.fst (rwrS x t k v)).13, iv (Prod.fst (rwrS x t k v)).14], AV.c (CV.v (Value.bool (Prod.snd (rwrS x t k v))))])) fun c => Tree.done (XV.tup [AV.agg [iv (Prod.fst (rwrS x t k v)).1, iv (Prod.fst (rwrS x t k v)).2, iv (Prod.fst (rwrS x t k v)).3, iv (Prod.fst (rwrS x t k v)).4, iv (Prod.fst (rwrS x t k v)).5, iv (Prod.fst (rwrS x t k v)).6, iv (Prod.fst (rwrS x t k v)).7, iv (Prod.fst (rwrS x t k v)).8, iv (Prod.fst (rwrS x t k v)).9, iv (Prod.fst (rwrS x t k v)).10, iv (Prod.fst (rwrS x t k v)).11, iv (Prod.fst (rwrS x t k v)).12, CV.sl 0 0 0 2 (List.length ws) cap, iv (Prod.fst (rwrS x t k v)).13, iv (Prod.fst (rwrS x t k v)).14], AV.c (CV.v (Value.bool (Prod.snd (rwrS x t k v))))]) [(Ent.ws false cap ws), (Ent.mkBox 25 [iv x.1, iv x.2, iv x.3, iv x.4, iv x.5, iv x.6, iv x.7, iv x.8, iv x.9, iv x.10, iv x.11, iv x.12, CV.sl 0 0 0 2 (List.length ws) cap, iv x.13, iv x.14]), (Ent.mkBox 29 [iv k, iv v]), (Ent.mkBox 25 [iv (Prod.fst (rwrS x t k v)).1, iv (Prod.fst (rwrS x t k v)).2, iv (Prod.fst (rwrS x t k v)).3, iv (Prod.fst (rwrS x t k v)).4, iv (Prod.fst (rwrS x t k v)).5, iv (Prod.fst (rwrS x t k v)).6, iv (Prod.fst (rwrS x t k v)).7, iv (Prod.fst (rwrS x t k v)).8, iv (Prod.fst (rwrS x t k v)).9, iv (Prod.fst (rwrS x t k v)).10, iv (Prod.fst (rwrS x t k v)).11, iv (Prod.fst (rwrS x t k v)).12, CV.sl 0 0 0 2 (List.length ws) cap, iv (Prod.fst (rwrS x t k v)).13, iv (Prod.fst (rwrS x t k v)).14])])
   (Tree.callf 24 [AV.agg [iv x.1, iv x.2, iv x.3, iv x.4, iv x.5, iv x.6, iv x.7, iv x.8, iv x.9, iv x.10, iv x.11, iv x.12, CV.sl 0 0 0 2 (List.length ws) cap, iv x.13, iv x.14], AV.c (iv t), AV.c (iv k), AV.c (iv v)] [(Ent.ws false cap ws), (Ent.mkBox 25 [iv x.1, iv x.2, iv x.3, iv x.4, iv x.5, iv x.6, iv x.7, iv x.8, iv x.9, iv x.10, iv x.11, iv x.12, CV.sl 0 0 0 2 (List.length ws) cap, iv x.13, iv x.14]), (Ent.mkBox 29 [iv k, iv v]), (Ent.mkBox 25 [iv (0 : Int), iv (0 : Int), iv (0 : Int), iv (0 : Int), iv (0 : Int), iv (0 : Int), iv (0 : Int), iv (0 : Int), iv (0 : Int), iv (0 : Int), iv (0 : Int), iv (0 : Int), CV.v (Value.slice none 0 0), iv (0 : Int), iv (0 : Int)])] (swaprC x t k v ws false cap [0]) fun c => Tree.done (XV.tup [AV.agg [iv (Prod.fst (swaprS x t k v)).1, iv (Prod.fst (swaprS x t k v)).2, iv (Prod.fst (swaprS x t k v)).3, iv (Prod.fst (swaprS x t k v)).4, iv (Prod.fst (swaprS x t k v)).5, iv (Prod.fst (swaprS x t k v)).6, iv (Prod.fst (swaprS x t k v)).7, iv (Prod.fst (swaprS x t k v)).8, iv (Prod.fst (swaprS x t k v)).9, iv (Prod.fst (swaprS x t k v)).10, iv (Prod.fst (swaprS x t k v)).11, iv (Prod.fst (swaprS x t k v)).12, CV.sl 0 0 0 2 (List.length ws) cap, iv (Prod.fst (swaprS x t k v)).13, iv (Prod.fst (swaprS x t k v)).14], AV.c (CV.v (Value.bool (Prod.snd (swaprS x t k v))))]) [(Ent.ws false cap ws), (Ent.mkBox 25 [iv x.1, iv x.2, iv x.3, iv x.4, iv x.5, iv x.6, iv x.7, iv x.8, iv x.9, iv x.10, iv x.11, iv x.12, CV.sl 0 0 0 2 (List.length ws) cap, iv x.13, iv x.14]), (Ent.mkBox 29 [iv k, iv v]), (Ent.mkBox 25 [iv (Prod.fst (swaprS x t k v)).1, iv (Prod.fst (swaprS x t k v)).2, iv (Prod.fst (swaprS x t k v)).3, iv (Prod.fst (swaprS x t k v)).4, iv (Prod.fst (swaprS x t k v)).5, iv (Prod.fst (swaprS x t k v)).6, iv (Prod.fst (swaprS x t k v)).7, iv (Prod.fst (swaprS x t k v)).8, iv (Prod.fst (swaprS x t k v)).9, iv (Prod.fst (swaprS x t k v)).10, iv (Prod.fst (swaprS x t k v)).11, iv (Prod.fst (swaprS x t k v)).12, CV.sl 0 0 0 2 (List.length ws) cap, iv (Prod.fst (swaprS x t k v)).13, iv (Prod.fst (swaprS x t k v)).14])]))))))))))))))
theorem tdor_eq (x : Thg) (t k v : Int) (ws : List Wt) (cap : Nat) : xfunc tab (doneRG ws) noInv Go.Proofs.Try.f16 [x.av 0 0 ws.length cap, .c (iv t), markA k v] [Ent.ws false cap ws] [0, 1, 2, 3, 4, 5, 6] = tdor x t k v ws cap := by kernel_rfl
end Go.Proofs.Ytnenbngjdekegaa.X

/- The model: the document's Do, proved. -/
set_option linter.unusedVariables false
set_option linter.unusedSimpArgs false
namespace Go.Proofs.Ytnenbngjdekegaa.X
open Go Go.RowKit Go.Proofs.YtnenbngjdekegaaW.PrintWords Go.Proofs.Ytnenbngjdekegaa.Base
def doRF (x : Thg) (t k v : Int) (ws : List Wt) : Thg × List Wt × Bool :=
  bif (bif (bif (bif decide (t < 0) then true else decide (t > 7)) then true else decide (x.kd < 1)) then true else decide (x.kd > 5)) then (x, ws, false)
  else bif k == 17 then (x, ws, v == 0)
  else bif x.kd == 1 then lockrF x t k v ws
  else bif x.kd == 2 then ((semarS x k v).1, ws, (semarS x k v).2)
  else bif x.kd == 3 then (bif k == 1 then (x, ws, bif x.n == 0 then v == 0 else false)
    else bif (bif k == 8 then (bif (bif v == 1 then decide (x.n > 0) else false) then true else (bif v == 0 then x.n == 0 else false)) else false) then ({ x with n := IntKind.wrap .i64 (x.n - v) }, ws, true) else (x, ws, false))
  else bif x.kd == 4 then ((rwrS x t k v).1, ws, (rwrS x t k v).2)
  else ((swaprS x t k v).1, ws, (swaprS x t k v).2)
def doRC (x : Thg) (t k v : Int) (ws : List Wt) (cap n : Nat) (ρ : List Nat) : CallSpec := rowSpec ρ n [x.av 0 0 ws.length cap, .c (iv t), markA k v] [Ent.ws false cap ws] (fun _ => True)
  (fun c => rowR (doRF x t k v ws) (c 0)) fun c => [Ent.ws false cap ws, Ent.ws false (c 0) (doRF x t k v ws).2.1]
theorem lockr_call : Callable Try.prog 21 := ⟨_, Try.func21, by kernel_rfl, rfl⟩
theorem semar_call : Callable Try.prog 22 := ⟨_, Try.func22, by kernel_rfl, rfl⟩
theorem rwr_call : Callable Try.prog 23 := ⟨_, Try.func23, by kernel_rfl, rfl⟩
theorem swapr_call : Callable Try.prog 24 := ⟨_, Try.func24, by kernel_rfl, rfl⟩
theorem guard8 {t k : Int} (h : (bif (bif (bif decide (t < 0) then true else decide (t > 7)) then true else decide (k < 1)) then true else decide (k > 5)) = false) : 0 ≤ t ∧ t < 8 := by
  by_cases h1 : t < 0 <;> by_cases h2 : t > 7 <;> simp [h1, h2] at h <;> omega
set_option maxHeartbeats 4000000 in
theorem doR_local (x : Thg) (t k v : Int) (ws : List Wt) (cap n : Nat) (ρ : List Nat) (hl : ws.length ≤ 1000000) : (doRC x t k v ws cap n ρ).Local Try.prog 16 := by
  refine local_of Try.func16 rfl (tdor_eq x t k v ws cap) fun ν w => ?_
  repeat' first
    | refine ok_chk' (fun h => h) ?_
    | (refine ok_chk' ?_ ?_; focus (first | exact fun h => h | (simp; done) | (simp; omega) | (simp_all; done) | (simp_all; omega) | (generalize ws.length = L at *; simp; omega) | (generalize ws.length = L at *; simp_all; omega)))
    | refine ok_br' (fun h => ?_) (fun h => ?_)
    | (refine ok_leafG (fun _ => cap) [] (lr [0, 0]) (lr []) trivial ?_ rfl (RnOk.of [0, 0] rfl) ⟨EntRg.ws rfl rfl (.inr rfl), EntRg.wsE ?_ rfl rfl (.inr rfl), trivial⟩ <;> first | (simp only [doRF, *, cond_true, cond_false]; done) | (show XV.tup _ = XV.nilz _ (XV.rg _ (rowR (doRF x t k v ws) cap)); simp only [doRF, *, cond_true, cond_false]; first | done | rfl) | (simp_all only [doRF, cond_true, cond_false]; done) | (show XV.tup _ = XV.nilz _ (XV.rg _ (rowR (doRF x t k v ws) cap)); unfold doRF; simp_all only [cond_true, cond_false]; first | done | rfl))
    | (refine ok_callf' semar_call (fits_of rfl rfl ⟨⟨_, rfl, EntRel.ws⟩, trivial⟩ fun c _ => ⟨⟨Nat.le_refl _, rfl⟩, ⟨rfl, rfl⟩, ⟨⟨EntRel.ws, rfl, (fun h => by cases h), .inr rfl⟩, trivial⟩⟩) (semar_local _ _ _ _ _ _ _) fun c _ => ?_)
    | (refine ok_callf' swapr_call (fits_of rfl rfl ⟨⟨_, rfl, EntRel.ws⟩, trivial⟩ fun c _ => ⟨⟨Nat.le_refl _, rfl⟩, ⟨rfl, rfl⟩, ⟨⟨EntRel.ws, rfl, (fun h => by cases h), .inr rfl⟩, trivial⟩⟩) (swapr_local _ _ _ _ _ _ _ _) fun c _ => ?_)
    | (refine ok_callf' rwr_call (fits_of rfl rfl ⟨⟨_, rfl, EntRel.ws⟩, trivial⟩ fun c _ => ⟨⟨Nat.le_refl _, rfl⟩, ⟨rfl, rfl⟩, ⟨⟨EntRel.ws, rfl, (fun h => by cases h), .inr rfl⟩, trivial⟩⟩) (rwr_local _ _ _ _ _ _ _ _ (guard8 (by assumption)).1 (guard8 (by assumption)).2) fun c _ => ?_)
    | (refine ok_callf' lockr_call (fits_of rfl rfl ⟨⟨_, rfl, EntRel.ws⟩, trivial⟩ fun c _ => ⟨⟨Nat.le_succ 1, rfl⟩, ⟨rfl, rfl⟩, ⟨⟨EntRel.ws, rfl, (fun h => by cases h), .inr rfl⟩, ⟨EntRel.ws, rfl, (fun h => by cases h), .inr rfl⟩, trivial⟩⟩) (lockr_local _ _ _ _ _ _ _ _ hl) fun c _ => ?_)
    | (refine ok_leafG c [] (lr [0, 4]) (lr [0, 0, 0, 0, 1]) trivial ?_ rfl (RnOk.of [0, 4] rfl) ⟨EntRg.ws rfl rfl (.inr rfl), EntRg.wsE ?_ rfl rfl (.inr rfl), trivial⟩ <;> first | (show XV.tup _ = XV.nilz _ (XV.rg _ (rowR (doRF x t k v ws) (c 0))); simp only [doRF, *, cond_true, cond_false]; rfl) | (simp only [doRF, *, cond_true, cond_false]; done))
end Go.Proofs.Ytnenbngjdekegaa.X

/- The model: what is done, and what the document says: they agree. -/
set_option linter.unusedVariables false
set_option linter.unusedSimpArgs false
namespace Go.Proofs.Ytnenbngjdekegaa.X
open Go Go.RowKit Go.Proofs.YtnenbngjdekegaaW.PrintWords Go.Proofs.Ytnenbngjdekegaa.Base
/-- Counts that don't go round. -/
def lightP (x : Thg) : Prop := (-1000000 ≤ x.n ∧ x.n ≤ 1000000) ∧ (-1000000 ≤ x.h ∧ x.h ≤ 1000000) ∧ ∀ r ∈ x.rs, -1000000 ≤ r ∧ r ≤ 1000000
/-- Of a row, those from lo on, n of them: what a call came to. -/
def Agree (S : SigT) (row : List Wt) (T : Thg × List Wt × Bool) : Prop := S.2.2 = T.2.2 ∧ (T.2.2 = true → S.1 = T.1 ∧ S.2.1.1 + S.2.1.2 ≤ row.length ∧ wsub row S.2.1.1 S.2.1.2 = T.2.1)
theorem wsub_app (a b : List Wt) : wsub (a ++ b) 0 a.length = a := by simp [wsub]
theorem beqF {a b : Int} (h : a ≠ b) : (a == b) = false := by simpa using h
theorem signal_agree (x : Thg) (t k v : Int) (ws : List Wt) (cap : Nat) (hc : ws.length ≤ cap) (h1 : (k == 1) = false) (h3 : (k == 3) = false) (h5 : (k == 5) = false) (h6 : (k == 6) = false) (h7 : (k == 7) = false) (h10 : (k == 10) = false) : Agree (signalS x t k v ws cap) (sigRowF ws t k) (lockrF x t k v ws) := by
  unfold Agree signalS sigRowF lockrF
  simp only [h1, h3, h5, h6, h7, h10, cond_false]
  cases h11 : (k == 11) with
  | true =>
    simp only [cond_true]
    cases ws with
    | nil => cases ho : (x.o == t) <;> simp
    | cons a r =>
      cases ho : (x.o == t) with
      | false => simp
      | true =>
        have hl : ((((a :: r).length : Nat) : Int) == 0) = false := beqF (by simp only [List.length_cons]; omega)
        have hl2 : decide ((((a :: r).length : Nat) : Int) > 0) = true := by simp only [List.length_cons, decide_eq_true_eq]; omega
        have hg : ((a :: r).getD (Int.toNat 0) (0, 0)) = a := rfl
        simp only [hl, hl2, hg, cond_true, cond_false, Bool.not_true]
        cases hv : (v == a.1) with
        | false =>
          have hv2 : (a.1 != v) = true := by
            have : v ≠ a.1 := by simpa using hv
            simp [Ne.symm this]
          simp only [hv2, cond_true, cond_false]
          simp
        | true =>
          have hv2 : (a.1 != v) = false := by
            have : v = a.1 := by simpa using hv
            simp [this]
          have hw : woF (a :: r) 0 (a :: r).length = r := by
            have := woF_erase (a :: r) 0 _ (Nat.le_refl _)
            simpa using this
          simp only [hv2, cond_true, cond_false]
          by_cases hcap : cap = Int.toNat 1
          · have : r = [] := List.eq_nil_of_length_eq_zero (by rw [hcap] at hc; simp only [List.length_cons, show Int.toNat 1 = 1 from rfl] at hc; omega)
            subst this
            simp only [hcap, decide_true, cond_true]
            refine ⟨by simp, fun _ => ⟨by simp, by simp, ?_⟩⟩
            rw [hw]; rfl
          · simp only [hcap, decide_false, cond_false]
            refine ⟨by simp, fun _ => ⟨by simp, by show 1 + (Int.toNat ((r.length + 1 : Nat) : Int) - 1) ≤ r.length + 1; rw [Int.toNat_natCast]; omega, ?_⟩⟩
            rw [hw]
            simp [wsub]
  | false =>
    simp only [cond_false]
    cases h12 : (k == 12) with
    | true => simp [wsub]
    | false =>
      simp only [cond_false]
      cases h13 : (k == 13) with
      | true =>
        simp only [cond_true]
        have hle : (notF ws t).length ≤ ws.length := List.length_filter_le _ _
        cases hb : (bif decide (placeF ws t 0 ≥ 0) then v == 0 else false) with
        | false => simp
        | true =>
          simp only [cond_true]
          refine ⟨by simp, fun _ => ⟨by simp, by rw [delF_length]; simpa using hle, ?_⟩⟩
          simp [wsub, delF]
      | false => simp [wsub]
theorem wrapL {x : Int} (h1 : -9000000000000000000 ≤ x) (h2 : x ≤ 9000000000000000000) : IntKind.wrap .i64 x = x := wrap64 (by omega) (by omega)
theorem lock_agree (x : Thg) (t k v : Int) (ws : List Wt) (cap : Nat) (hc : ws.length ≤ cap) (hx : lightP x) : Agree (lockS x t k v ws cap) (lockRowF x ws t k) (lockrF x t k v ws) := by
  obtain ⟨-, ⟨a1, a2⟩, -⟩ := hx
  have hw : IntKind.wrap .i64 (x.h + 1) = x.h + 1 := wrapL (by omega) (by omega)
  have hd : decide (x.h + 1 ≤ 1000) = decide (x.h < 1000) := by
    by_cases h : x.h < 1000
    · simp [h]; omega
    · simp [h]; omega
  have hp : (!decide (placeF ws t 0 ≥ 0)) = decide (placeF ws t 0 < 0) := by
    by_cases h : placeF ws t 0 < 0
    · simp [h]
    · simp [h]; omega
  cases h1 : (k == 1) with
  | true =>
    unfold Agree lockS lockRowF lockrF
    simp only [h1, cond_true, hw, hd, hp]
    cases hA : (bif (bif x.o == -1 then decide (v ≥ 1) else false) then decide (v ≤ 1000) else false) <;> simp only [cond_true, cond_false]
    · cases hB : (bif (bif x.o == t then v == 1 else false) then decide (x.h < 1000) else false) <;> simp [wsub]
    · cases hP : decide (placeF ws t 0 < 0) <;> simp only [cond_true, cond_false]
      · cases hB : (bif (bif x.o == t then v == 1 else false) then decide (x.h < 1000) else false) <;> simp [wsub]
      · simp [wsub]
  | false =>
    cases h3 : (k == 3) with
    | true =>
      unfold Agree lockS lockRowF lockrF
      simp only [h1, h3, cond_true, cond_false]
      cases hB : (bif x.o == t then v == 0 else false) <;> simp [wsub]
    | false =>
      cases h5 : (k == 5) with
      | true => unfold Agree lockS lockRowF lockrF; simp only [h1, h3, h5, cond_true, cond_false]; simp [wsub]
      | false =>
        cases h6 : (k == 6) with
        | true => unfold Agree lockS lockRowF lockrF; simp only [h1, h3, h5, h6, cond_true, cond_false]; simp [wsub]
        | false =>
          cases h7 : (k == 7) with
          | true => unfold Agree lockS lockRowF lockrF; simp only [h1, h3, h5, h6, h7, cond_true, cond_false]; simp [wsub]
          | false =>
            cases h10 : (k == 10) with
            | true =>
              unfold Agree lockS lockRowF lockrF
              simp only [h1, h3, h5, h6, h7, h10, cond_true, cond_false]
              have hcomm : (x.h == v) = (v == x.h) := BEq.comm
              rw [hcomm]
              cases hB : (bif x.o == t then v == x.h else false) <;> simp [wsub, List.take_of_length_le]
            | false =>
              have := signal_agree x t k v ws cap hc h1 h3 h5 h6 h7 h10
              unfold lockS lockRowF
              simp only [h1, h3, h5, h6, h7, h10, cond_false]
              exact this
theorem decLe (a b : Int) : decide (a ≤ b) = !decide (a > b) := by by_cases h : a ≤ b <;> simp [h] <;> omega
theorem decGe (a b : Int) : decide (a ≥ b) = !decide (a < b) := by by_cases h : a ≥ b <;> simp [h] <;> omega
/-- What has no row of its own. -/
def Agree2 (S T : Thg × Bool) : Prop := S.2 = T.2 ∧ (T.2 = true → S.1 = T.1)
theorem sema_agree (x : Thg) (k v : Int) (hx : lightP x) : Agree2 (semaS x k v) (semarS x k v) := by
  unfold Agree2 semaS semarS
  cases h1 : (k == 1) <;> simp only [cond_true, cond_false]
  · cases h3 : (k == 3) <;> simp only [cond_true, cond_false]
    · cases h7 : (k == 7) <;> simp only [cond_true, cond_false]
      · cases h5 : (k == 5) <;> simp only [cond_true, cond_false]
        · cases h9 : (k == 9) <;> simp only [cond_true, cond_false]
          · simp
          · cases hv : (v == x.n) <;> simp
        · simp
      · cases h5 : (k == 5) <;> simp only [cond_true, cond_false]
        · simp
        · have e7 : k = 7 := by simpa using h7
          rw [e7] at h5
          cases h5
    · rw [decLe v (IntKind.wrap .i64 (1000 - x.n))]
      cases decide (v ≥ 1) <;> cases decide (v > IntKind.wrap .i64 (1000 - x.n)) <;> simp
  · rw [decLe v x.n]
    cases decide (v ≥ 1) <;> cases decide (v > x.n) <;> simp
theorem swap_agree (x : Thg) (t k v : Int) : Agree2 (swapS x t k v) (swaprS x t k v) := by
  unfold Agree2 swapS swaprS
  cases h15 : (k == 15) <;> simp only [cond_true, cond_false]
  · cases h14 : (k == 14) <;> simp only [cond_true, cond_false]
    · cases h16 : (k == 16) <;> simp only [cond_true, cond_false]
      · simp
      · cases hB : (bif x.f == t then v == 0 else false) <;> simp
    · cases hB : (bif (bif x.f != -1 then x.f != t else false) then v == x.f else false) <;> simp
  · rw [decLe v 1000, decGe v 0, show (x.f != -1) = !(x.f == -1) from rfl]
    cases (x.f == -1) <;> cases decide (v < 0) <;> cases decide (v > 1000) <;> simp
theorem rw_agree (x : Thg) (t k v : Int) (hx : lightP x) (t0 : 0 ≤ t) (t8 : t < 8) : Agree2 (rwS x t k v) (rwrS x t k v) := by
  obtain ⟨-, -, hr⟩ := hx
  unfold Agree2
  by_cases h1 : k = 1
  · subst h1
    simp only [rwS, rwrS, show ((1 : Int) == 1) = true from rfl, cond_true]
    cases hB : (bif v == 1 then (bif (bif x.o == -1 then allW [x.r0, x.r1, x.r2, x.r3, x.r4, x.r5, x.r6, x.r7] 8 == 0 else false) then true else (bif x.o == t then decide (x.h < 1000) else false)) else false) <;> simp
  · have b1 : (k == 1) = false := beqF h1
    by_cases h3 : k = 3
    · subst h3
      simp only [rwS, rwrS, b1, show ((3 : Int) == 3) = true from rfl, show ((3 : Int) == 2) = false from rfl, cond_true, cond_false]
      cases hB : (bif x.o == t then v == 0 else false) <;> simp
    · have b3 : (k == 3) = false := beqF h3
      by_cases h2 : k = 2
      · subst h2
        simp only [rwS, rwrS, b1, b3, show ((2 : Int) == 2) = true from rfl, cond_true, cond_false]
        cases hB : (bif (bif v == 0 then (bif x.o == -1 then true else x.o == t) else false) then decide (allW [x.r0, x.r1, x.r2, x.r3, x.r4, x.r5, x.r6, x.r7] 8 < 1000) else false) <;> simp
      · have b2 : (k == 2) = false := beqF h2
        by_cases h4 : k = 4
        · subst h4
          have key : ∀ r ∈ x.rs, decide (IntKind.wrap .i64 (r - 1) ≥ 0) = decide (r > 0) := fun r hm => by
            obtain ⟨q1, q2⟩ := hr r hm
            rw [wrapL (by omega) (by omega)]
            by_cases h : r > 0 <;> simp [h] <;> omega
          have k0 := key x.r0 (by simp [Thg.rs])
          have k1 := key x.r1 (by simp [Thg.rs])
          have k2 := key x.r2 (by simp [Thg.rs])
          have k3 := key x.r3 (by simp [Thg.rs])
          have k4 := key x.r4 (by simp [Thg.rs])
          have k5 := key x.r5 (by simp [Thg.rs])
          have k6 := key x.r6 (by simp [Thg.rs])
          have k7 := key x.r7 (by simp [Thg.rs])
          have ht : t = 0 ∨ t = 1 ∨ t = 2 ∨ t = 3 ∨ t = 4 ∨ t = 5 ∨ t = 6 ∨ t = 7 := by omega
          simp only [rwS, rwrS, b1, b2, b3, show ((4 : Int) == 4) = true from rfl, cond_true, cond_false]
          rcases ht with rfl | rfl | rfl | rfl | rfl | rfl | rfl | rfl
          · simp only [show Int.toNat 0 = 0 from rfl, List.getD_cons_zero, List.getD_cons_succ, if_pos, k0]
            cases hB : (bif v == 0 then decide (x.r0 > 0) else false) <;> simp
          · simp only [show Int.toNat 1 = 1 from rfl, List.getD_cons_zero, List.getD_cons_succ, if_pos, k1]
            cases hB : (bif v == 0 then decide (x.r1 > 0) else false) <;> simp
          · simp only [show Int.toNat 2 = 2 from rfl, List.getD_cons_zero, List.getD_cons_succ, if_pos, k2]
            cases hB : (bif v == 0 then decide (x.r2 > 0) else false) <;> simp
          · simp only [show Int.toNat 3 = 3 from rfl, List.getD_cons_zero, List.getD_cons_succ, if_pos, k3]
            cases hB : (bif v == 0 then decide (x.r3 > 0) else false) <;> simp
          · simp only [show Int.toNat 4 = 4 from rfl, List.getD_cons_zero, List.getD_cons_succ, if_pos, k4]
            cases hB : (bif v == 0 then decide (x.r4 > 0) else false) <;> simp
          · simp only [show Int.toNat 5 = 5 from rfl, List.getD_cons_zero, List.getD_cons_succ, if_pos, k5]
            cases hB : (bif v == 0 then decide (x.r5 > 0) else false) <;> simp
          · simp only [show Int.toNat 6 = 6 from rfl, List.getD_cons_zero, List.getD_cons_succ, if_pos, k6]
            cases hB : (bif v == 0 then decide (x.r6 > 0) else false) <;> simp
          · simp only [show Int.toNat 7 = 7 from rfl, List.getD_cons_zero, List.getD_cons_succ, if_pos, k7]
            cases hB : (bif v == 0 then decide (x.r7 > 0) else false) <;> simp
        · have b4 : (k == 4) = false := beqF h4
          simp only [rwS, rwrS, b1, b2, b3, b4, cond_false]
          exact ⟨by first | rfl | trivial, fun _ => by cases (k == 5) <;> cases (k == 6) <;> cases (k == 7) <;> first | rfl | trivial⟩
theorem latch_agree (x : Thg) (k v : Int) (ws : List Wt) : Agree ((latchS x k v).1, (0, ws.length), (latchS x k v).2) ws (bif k == 1 then (x, ws, bif x.n == 0 then v == 0 else false)
    else bif (bif k == 8 then (bif (bif v == 1 then decide (x.n > 0) else false) then true else (bif v == 0 then x.n == 0 else false)) else false) then ({ x with n := IntKind.wrap .i64 (x.n - v) }, ws, true) else (x, ws, false)) := by
  unfold Agree latchS
  by_cases h1 : k = 1
  · subst h1
    simp only [show ((1 : Int) == 1) = true from rfl, cond_true]
    exact ⟨by first | rfl | trivial, fun _ => ⟨by first | rfl | trivial, by simp, by simp [wsub]⟩⟩
  · have b1 : (k == 1) = false := beqF h1
    by_cases h8 : k = 8
    · subst h8
      simp only [b1, show ((8 : Int) == 8) = true from rfl, cond_true, cond_false]
      cases hB : (bif (bif v == 1 then decide (x.n > 0) else false) then true else (bif v == 0 then x.n == 0 else false)) with
      | false => simp
      | true =>
        have hv : bitsI .and .i64 v 1 = v := by
          cases hv1 : (v == 1) with
          | true => have : v = 1 := by simpa using hv1
                    subst this; rfl
          | false =>
            cases hv0 : (v == 0) with
            | true => have : v = 0 := by simpa using hv0
                      subst this; rfl
            | false => rw [hv1, hv0] at hB; cases hB
        simp only [cond_true, hv]
        exact ⟨by first | rfl | trivial, fun _ => ⟨by first | rfl | trivial, by simp, by simp [wsub]⟩⟩
    · simp [b1, beqF h8]
/-- All of it. -/
theorem done_agree (x : Thg) (t k v : Int) (ws : List Wt) (cap : Nat) (hc : ws.length ≤ cap) (hx : lightP x) (t0 : 0 ≤ t) (t8 : t < 8) (hk : k ≠ 17) : Agree (doneS x t k v ws cap) (doneRowF x ws t k) (doRF x t k v ws) := by
  have of2 : ∀ {S T : Thg × Bool}, Agree2 S T → Agree (S.1, (0, ws.length), S.2) ws (T.1, ws, T.2) := fun h => ⟨h.1, fun hb => ⟨h.2 hb, by simp, by simp [wsub]⟩⟩
  unfold doRF doneS doneRowF
  have hk : (k == 17) = false := beqF hk
  have ht : (bif decide (t < 0) then true else decide (t > 7)) = false := by simp; omega
  simp only [ht, hk, cond_false]
  have hg : 1 ≤ x.kd → x.kd ≤ 5 → (bif (bif decide (x.kd < 1) then true else decide (x.kd > 5)) then true else false) = false := fun h1 h2 => by simp; omega
  have hg2 : ∀ h1 : 1 ≤ x.kd, ∀ h2 : x.kd ≤ 5, decide (x.kd < 1) = false ∧ decide (x.kd > 5) = false := fun h1 h2 => by simp; omega
  by_cases h1 : x.kd = 1
  · obtain ⟨g1, g2⟩ := hg2 (by omega) (by omega)
    have b1 : (x.kd == 1) = true := by simp [h1]
    simp only [b1, g1, g2, cond_true, cond_false]
    exact lock_agree x t k v ws cap hc hx
  · by_cases h2 : x.kd = 2
    · obtain ⟨g1, g2⟩ := hg2 (by omega) (by omega)
      have b2 : (x.kd == 2) = true := by simp [h2]
      simp only [beqF h1, b2, g1, g2, cond_true, cond_false]
      exact of2 (sema_agree x k v hx)
    · by_cases h3 : x.kd = 3
      · obtain ⟨g1, g2⟩ := hg2 (by omega) (by omega)
        have b3 : (x.kd == 3) = true := by simp [h3]
        simp only [beqF h1, beqF h2, b3, g1, g2, cond_true, cond_false]
        exact latch_agree x k v ws
      · by_cases h4 : x.kd = 4
        · obtain ⟨g1, g2⟩ := hg2 (by omega) (by omega)
          have b4 : (x.kd == 4) = true := by simp [h4]
          simp only [beqF h1, beqF h2, beqF h3, b4, g1, g2, cond_true, cond_false]
          exact of2 (rw_agree x t k v hx t0 t8)
        · by_cases h5 : x.kd = 5
          · obtain ⟨g1, g2⟩ := hg2 (by omega) (by omega)
            have b5 : (x.kd == 5) = true := by simp [h5]
            simp only [beqF h1, beqF h2, beqF h3, beqF h4, b5, g1, g2, cond_true, cond_false]
            exact of2 (swap_agree x t k v)
          · simp only [beqF h1, beqF h2, beqF h3, beqF h4, beqF h5, cond_false]
            have : (bif decide (x.kd < 1) then true else decide (x.kd > 5)) = true := by simp; omega
            simp only [this, cond_true]
            exact ⟨by first | rfl | trivial, fun h => by simp at h⟩
end Go.Proofs.Ytnenbngjdekegaa.X

/- The model: Do, proved. -/
set_option linter.unusedVariables false
set_option linter.unusedSimpArgs false
namespace Go.Proofs.Ytnenbngjdekegaa.X
open Go Go.RowKit Go.Proofs.YtnenbngjdekegaaW.PrintWords Go.Proofs.Ytnenbngjdekegaa.Base
theorem semar_false (x : Thg) (k v : Int) : (semarS x k v).2 = false → (semarS x k v).1 = x := by
  unfold semarS
  simp only [cond_eq_ite]
  (repeat' split) <;> simp
theorem swapr_false (x : Thg) (t k v : Int) : (swaprS x t k v).2 = false → (swaprS x t k v).1 = x := by
  unfold swaprS
  simp only [cond_eq_ite]
  (repeat' split) <;> simp
theorem rwr_false (x : Thg) (t k v : Int) : (rwrS x t k v).2 = false → (rwrS x t k v).1 = x := by
  unfold rwrS
  cases (k == 1) <;> simp only [cond_true, cond_false]
  · cases (k == 2) <;> simp only [cond_true, cond_false]
    · cases (k == 3) <;> simp only [cond_true, cond_false]
      · cases (k == 4) <;> simp only [cond_true, cond_false]
        · cases (k == 5) <;> cases (k == 6) <;> cases (k == 7) <;> simp
        · cases (bif v == 0 then decide (List.getD [x.r0, x.r1, x.r2, x.r3, x.r4, x.r5, x.r6, x.r7] (Int.toNat t) 0 > 0) else false) <;> simp
      · cases (bif x.o == t then v == 0 else false) <;> simp
    · cases (bif (bif v == 0 then (bif x.o == -1 then true else x.o == t) else false) then decide (allW [x.r0, x.r1, x.r2, x.r3, x.r4, x.r5, x.r6, x.r7] 8 < 1000) else false) <;> simp
  · cases (bif v == 1 then (bif (bif x.o == -1 then allW [x.r0, x.r1, x.r2, x.r3, x.r4, x.r5, x.r6, x.r7] 8 == 0 else false) then true else (bif x.o == t then decide (x.h < 1000) else false)) else false) <;> simp
theorem lockr_false (x : Thg) (t k v : Int) (ws : List Wt) : (lockrF x t k v ws).2.2 = false → (lockrF x t k v ws).1 = x ∧ (lockrF x t k v ws).2.1 = ws := by
  unfold lockrF
  cases (k == 1) <;> simp only [cond_true, cond_false]
  · cases (k == 3) <;> simp only [cond_true, cond_false]
    · cases (k == 5) <;> simp only [cond_true, cond_false]
      · cases (k == 6) <;> simp only [cond_true, cond_false]
        · cases (k == 7) <;> simp only [cond_true, cond_false]
          · cases (k == 10) <;> simp only [cond_true, cond_false]
            · cases (k == 11) <;> simp only [cond_true, cond_false]
              · cases (k == 12) <;> simp only [cond_true, cond_false]
                · cases (k == 13) <;> simp only [cond_true, cond_false]
                  · simp
                  · cases (bif decide (placeF ws t 0 ≥ 0) then v == 0 else false) <;> simp
                · simp
              · cases (bif (bif x.o == t then decide ((ws.length : Int) > 0) else false) then v == (ws.getD (Int.toNat 0) (0, 0)).1 else false) <;> simp
            · cases (bif x.o == t then v == x.h else false) <;> simp
          · simp
        · simp
      · simp
    · cases (bif x.o == t then v == 0 else false) <;> simp
  · cases (bif (bif (bif (bif x.o == -1 then decide (v ≥ 1) else false) then decide (v ≤ 1000) else false) then decide (placeF ws t 0 < 0) else false) then true else false) <;> cases (bif (bif (bif x.o == -1 then decide (v ≥ 1) else false) then decide (v ≤ 1000) else false) then decide (placeF ws t 0 < 0) else false) <;> cases (bif (bif x.o == t then v == 1 else false) then decide (x.h < 1000) else false) <;> simp
theorem doR_false (x : Thg) (t k v : Int) (ws : List Wt) (h : (doRF x t k v ws).2.2 = false) : (doRF x t k v ws).1 = x ∧ (doRF x t k v ws).2.1 = ws := by
  revert h
  unfold doRF
  cases (bif (bif (bif decide (t < 0) then true else decide (t > 7)) then true else decide (x.kd < 1)) then true else decide (x.kd > 5)) <;> simp only [cond_true, cond_false]
  · cases (k == 17) <;> simp only [cond_true, cond_false]
    · cases (x.kd == 1) <;> simp only [cond_true, cond_false]
      · cases (x.kd == 2) <;> simp only [cond_true, cond_false]
        · cases (x.kd == 3) <;> simp only [cond_true, cond_false]
          · cases (x.kd == 4) <;> simp only [cond_true, cond_false]
            · exact fun h => ⟨swapr_false x t k v h, by first | rfl | trivial⟩
            · exact fun h => ⟨rwr_false x t k v h, by first | rfl | trivial⟩
          · cases (k == 1) <;> simp only [cond_true, cond_false]
            · cases (bif k == 8 then (bif (bif v == 1 then decide (x.n > 0) else false) then true else (bif v == 0 then x.n == 0 else false)) else false) <;> simp
            · simp
        · exact fun h => ⟨semar_false x k v h, by first | rfl | trivial⟩
      · exact lockr_false x t k v ws
    · simp
  · simp
/-- The row that the thing comes to lie with. -/
def doRowF (x : Thg) (t k v : Int) (ws : List Wt) : List Wt := bif (doRF x t k v ws).2.2 && !(k == 17) then doneRowF x ws t k else ws
def doGood (x : Thg) (t k v : Int) (ws : List Wt) (c : Nat → Nat) : Prop := c 2 + (doRF x t k v ws).2.1.length ≤ (doRowF x t k v ws).length ∧ wsub (doRowF x t k v ws) (c 2) (doRF x t k v ws).2.1.length = (doRF x t k v ws).2.1
def doR (T : Thg × List Wt × Bool) (lo cap : Nat) : XV := .tup [T.1.av 1 lo T.2.1.length cap, .c (.v (.bool T.2.2))]
def doC (x : Thg) (t k v : Int) (ws : List Wt) (own : Bool) (lo n cap rc kk : Nat) (ρ : List Nat) : CallSpec := rowSpec ρ kk [x.av 0 lo n cap, .c (iv t), markA k v] [Ent.ws own rc ws] (doGood x t k v (wsub ws lo n))
  (fun c => doR (doRF x t k v (wsub ws lo n)) (c 2) (c 0)) fun c => [Ent.ws own rc ws, Ent.ws true (c 1) (doRowF x t k v (wsub ws lo n))]
theorem clone_call : Callable Try.prog 19 := ⟨_, Try.func19, by kernel_rfl, rfl⟩
theorem done_call : Callable Try.prog 20 := ⟨_, Try.func20, by kernel_rfl, rfl⟩
set_option maxHeartbeats 4000000 in
theorem do_local (x : Thg) (t k v : Int) (ws : List Wt) (own : Bool) (lo n cap rc kk : Nat) (ρ : List Nat) (hx : lightP x) (hn : lo + n ≤ ws.length) (hl : n ≤ 1000000) : (doC x t k v ws own lo n cap rc kk ρ).Local Try.prog 11 := by
  refine local_of Try.func11 rfl (tdo_eq x t k v ws own lo n cap rc) fun ν w => ?_
  have hz : ws.length = 0 → n = 0 := fun h => by omega
  have hw := wsub_length ws hn
  have all : ∀ l : List Wt, wsub l 0 l.length = l := wsub_all
  refine ok_callf' clone_call (fits_of rfl rfl ⟨⟨_, rfl, EntRel.ws⟩, trivial⟩ fun c _ => ⟨⟨Nat.le_succ 1, rfl⟩, ⟨rfl, rfl⟩, ⟨⟨EntRel.ws, rfl, (fun h => by cases h), .inr rfl⟩, ⟨EntRel.ws, rfl, (fun h => by cases h), .inr rfl⟩, trivial⟩⟩) (clone2_local _ _ _ _ _ _ _ _ hn hl hz) fun c1 hc1 => ?_
  refine ok_chk' rfl (ok_chk' rfl ?_)
  refine ok_callf' clone_call (fits_of rfl rfl ⟨⟨_, rfl, EntRel.ws⟩, trivial⟩ fun c _ => ⟨⟨Nat.le_succ 1, rfl⟩, ⟨rfl, rfl⟩, ⟨⟨EntRel.ws, rfl, (fun h => by cases h), .inr rfl⟩, ⟨EntRel.ws, rfl, (fun h => by cases h), .inr rfl⟩, trivial⟩⟩) (clone2_local _ _ _ _ _ _ _ _ hn hl hz) fun c2 hc2 => ?_
  have was : ∀ b : Bool, doRF x t k v (wsub ws lo n) = (x, wsub ws lo n, b) → doRowF x t k v (wsub ws lo n) = wsub ws lo n →
      doGood x t k v (wsub ws lo n) (fun i => if i = 2 then 0 else c1 0) := fun b e1 e2 => by
    unfold doGood
    rw [e1, e2]
    exact ⟨by simp, all _⟩
  repeat (first | refine ok_chk' (fun h => h) ?_ | refine ok_chk' rfl ?_ | refine ok_chk' (fun h => by rw [h]; try rfl) ?_)
  refine ok_br' (fun h => ?_) fun h => ?_
  · have e1 : doRF x t k v (wsub ws lo n) = (x, wsub ws lo n, false) := by
      have : (bif decide (t < 0) then true else decide (t > 7)) = true := by
        rw [← h]
        congr 1
      unfold doRF
      rw [this]
      rfl
    have e2 : doRowF x t k v (wsub ws lo n) = wsub ws lo n := by unfold doRowF; rw [e1]; try rfl
    refine ok_leaf (fun i => if i = 2 then 0 else c1 0) [] [0, 5] (was false e1 e2) ?_ ⟨⟨_, rfl, EntRel.ws⟩, ⟨_, rfl, row_of e2⟩, trivial⟩ rfl
    show XV.tup _ = XV.nilz _ (XV.ren _ (doR (doRF x t k v (wsub ws lo n)) 0 (c1 0)))
    rw [e1]; try rfl
  have t0 : 0 ≤ t ∧ t < 8 := by
    simp at h
    omega
  refine ok_br' (fun h => ?_) fun h17 => ?_
  · have h17 : k = 17 := by simpa using h
    repeat (first | refine ok_chk' (fun h => h) ?_ | refine ok_chk' rfl ?_ | refine ok_chk' (fun h => rfl) ?_)
    have e1 : doRF x t k v (wsub ws lo n) = (x, wsub ws lo n, bif (bif v == 0 then decide (x.kd ≥ 1) else false) then decide (x.kd ≤ 5) else false) := by
      unfold doRF
      by_cases g1 : x.kd < 1
      · have : ¬ x.kd ≥ 1 := by omega
        simp [g1, this]
      · by_cases g2 : x.kd > 5
        · have : ¬ x.kd ≤ 5 := by omega
          simp [g1, g2, this]
        · have q1 : x.kd ≥ 1 := by omega
          have q2 : x.kd ≤ 5 := by omega
          have q3 : ¬ t < 0 := by omega
          have q4 : ¬ t > 7 := by omega
          subst h17
          simp [g1, g2, q1, q2, q3, q4]
    have e2 : doRowF x t k v (wsub ws lo n) = wsub ws lo n := by unfold doRowF; rw [h]; simp
    refine ok_leaf (fun i => if i = 2 then 0 else c1 0) [] [0, 5] (was _ e1 e2) ?_ ⟨⟨_, rfl, EntRel.ws⟩, ⟨_, rfl, row_of e2⟩, trivial⟩ rfl
    show XV.tup _ = XV.nilz _ (XV.ren _ (doR (doRF x t k v (wsub ws lo n)) 0 (c1 0)))
    rw [e1]; try rfl
  · have hk : k ≠ 17 := by simpa using h17
    have hlen : (wsub ws lo n).length ≤ c2 0 := by rw [hw]; exact hc2.1
    have A := done_agree x t k v (wsub ws lo n) (c2 0) hlen hx t0.1 t0.2 hk
    refine ok_callf' done_call (fits_of rfl rfl ⟨⟨_, rfl, EntRel.ws⟩, trivial⟩ fun c _ => ⟨⟨Nat.le_succ 1, rfl⟩, ⟨rfl, rfl⟩, ⟨⟨EntRel.dead, rfl, (fun h => by cases h), .inl rfl⟩, ⟨EntRel.ws, rfl, (fun h => by cases h), .inl rfl⟩, trivial⟩⟩) (done_local _ _ _ _ _ _ _ _ (by show (wsub ws lo n).length ≤ _; rw [hw]; exact hl) hlen t0.1 t0.2) fun c3 _ => ?_
    refine ok_br' (fun h => ?_) fun h => ?_
    · have hT : (doRF x t k v (wsub ws lo n)).2.2 = true := A.1 ▸ h
      obtain ⟨a1, a2, a3⟩ := A.2 hT
      have hwl := wsub_length _ a2
      have e1 : doRF x t k v (wsub ws lo n) = ((doneS x t k v (wsub ws lo n) (c2 0)).1, wsub (doneRowF x (wsub ws lo n) t k) (doneS x t k v (wsub ws lo n) (c2 0)).2.1.1 (doneS x t k v (wsub ws lo n) (c2 0)).2.1.2, true) := Prod.ext a1.symm (Prod.ext a3.symm hT)
      have e2 : doRowF x t k v (wsub ws lo n) = doneRowF x (wsub ws lo n) t k := by unfold doRowF; rw [hT, h17]; try rfl
      refine ok_leaf (fun i => if i = 2 then (doneS x t k v (wsub ws lo n) (c2 0)).2.1.1 else c3 i) [] [0, 7] ?_ ?_ ⟨⟨_, rfl, EntRel.ws⟩, ⟨_, rfl, row_of e2⟩, trivial⟩ rfl
      · show doGood x t k v (wsub ws lo n) (fun i => if i = 2 then (doneS x t k v (wsub ws lo n) (c2 0)).2.1.1 else c3 i)
        unfold doGood
        rw [e2, e1]
        simp only [hwl]
        exact ⟨a2, rfl⟩
      · show XV.tup _ = XV.nilz _ (XV.ren _ (doR (doRF x t k v (wsub ws lo n)) (doneS x t k v (wsub ws lo n) (c2 0)).2.1.1 (c3 0)))
        rw [e1, doR, hwl]
        rfl
    · have hT : (doRF x t k v (wsub ws lo n)).2.2 = false := A.1 ▸ h
      obtain ⟨a1, a2⟩ := doR_false _ _ _ _ _ hT
      have e1 : doRF x t k v (wsub ws lo n) = (x, wsub ws lo n, false) := Prod.ext a1 (Prod.ext a2 hT)
      have e2 : doRowF x t k v (wsub ws lo n) = wsub ws lo n := by unfold doRowF; rw [hT]; try rfl
      refine ok_leaf (fun i => if i = 2 then 0 else c1 0) [] [0, 5] (was false e1 e2) ?_ ⟨⟨_, rfl, EntRel.ws⟩, ⟨_, rfl, row_of e2⟩, trivial⟩ rfl
      show XV.tup _ = XV.nilz _ (XV.ren _ (doR (doRF x t k v (wsub ws lo n)) 0 (c1 0)))
      rw [e1]; try rfl
end Go.Proofs.Ytnenbngjdekegaa.X

/- The model: can it go on: trees. -/
set_option linter.unusedVariables false
set_option linter.unusedSimpArgs false
namespace Go.Proofs.Ytnenbngjdekegaa.X
open Go Go.RowKit Go.Proofs.YtnenbngjdekegaaW.PrintWords Go.Proofs.Ytnenbngjdekegaa.Base
def callA (k o n w : Int) (b : Bool) : AV := .agg [iv k, iv o, iv n, iv w, .v (.bool b)]
def canG (ws : List Wt) (own : Bool) (lo n rc : Nat) : Ctr := fun f args H => match args with
  | [.agg l, .c (.v (.int _ t)), .agg [.v (.int _ k), .v (.int _ v)]] => some (doC (thgOf l) t k v ws own lo n (slCap l) rc H.length [slK l])
  | _ => none
def canRG (ws : List Wt) : Ctr := fun f args H => match args with
  | [.agg l, .c (.v (.int _ t)), .agg [.v (.int _ k), .v (.int _ v)]] => some (doRC (thgOf l) t k v ws (slCap l) H.length [slK l])
  | _ => none
def tcan (x : Thg) (t k o q wt : Int) (b : Bool) (ws : List Wt) (own : Bool) (lo n cap rc : Nat) : Tree :=
  Tree.br (k == (1 : Int))
   (Tree.callf 11 [AV.agg [iv x.1, iv x.2, iv x.3, iv x.4, iv x.5, iv x.6, iv x.7, iv x.8, iv x.9, iv x.10, iv x.11, iv x.12, CV.sl 0 0 lo 2 n cap, iv x.13, iv x.14], AV.c (iv t), AV.agg [iv (1 : Int), iv (1 : Int)]] [(Ent.ws own rc ws), (Ent.mkBox 25 [iv x.1, iv x.2, iv x.3, iv x.4, iv x.5, iv x.6, iv x.7, iv x.8, iv x.9, iv x.10, iv x.11, iv x.12, CV.sl 0 0 lo 2 n cap, iv x.13, iv x.14]), (Ent.mkBox 42 [iv k, iv o, iv q, iv wt, CV.v (Value.bool b)]), (Ent.mkBox 29 [iv (1 : Int), iv (1 : Int)])] (doC x t (1 : Int) (1 : Int) ws own lo n cap rc 4 [0]) fun c => Tree.chk (Prod.snd (Prod.snd (doRF x t (1 : Int) (1 : Int) (List.take n (List.drop lo ws)))) = true → Prod.snd (Prod.snd (doRF x t (1 : Int) (1 : Int) (List.take n (List.drop lo ws)))) = true)
   (Tree.chk (Prod.snd (Prod.snd (doRF x t (1 : Int) (1 : Int) (List.take n (List.drop lo ws)))) = true → Prod.snd (Prod.snd (doRF x t (1 : Int) (1 : Int) (List.take n (List.drop lo ws)))) = true)
   (Tree.chk (Prod.snd (Prod.snd (doRF x t (1 : Int) (1 : Int) (List.take n (List.drop lo ws)))) = true → Prod.snd (Prod.snd (doRF x t (1 : Int) (1 : Int) (List.take n (List.drop lo ws)))) = true)
   (Tree.chk (Prod.snd (Prod.snd (doRF x t (1 : Int) (1 : Int) (List.take n (List.drop lo ws)))) = true → Prod.snd (Prod.snd (doRF x t (1 : Int) (1 : Int) (List.take n (List.drop lo ws)))) = true)
   (Tree.done (XV.a (AV.c (CV.v (Value.bool (bif Prod.snd (Prod.snd (doRF x t (1 : Int) (1 : Int) (List.take n (List.drop lo ws)))) then x.1 == (1 : Int) else false))))) [(Ent.ws own rc ws), Ent.dead, Ent.dead, Ent.dead, Ent.dead, Ent.dead])))))
   (Tree.br (k == (4 : Int))
   (Tree.callf 11 [AV.agg [iv x.1, iv x.2, iv x.3, iv x.4, iv x.5, iv x.6, iv x.7, iv x.8, iv x.9, iv x.10, iv x.11, iv x.12, CV.sl 0 0 lo 2 n cap, iv x.13, iv x.14], AV.c (iv t), AV.agg [iv (1 : Int), iv q]] [(Ent.ws own rc ws), (Ent.mkBox 25 [iv x.1, iv x.2, iv x.3, iv x.4, iv x.5, iv x.6, iv x.7, iv x.8, iv x.9, iv x.10, iv x.11, iv x.12, CV.sl 0 0 lo 2 n cap, iv x.13, iv x.14]), (Ent.mkBox 42 [iv k, iv o, iv q, iv wt, CV.v (Value.bool b)]), (Ent.mkBox 29 [iv (1 : Int), iv q])] (doC x t (1 : Int) q ws own lo n cap rc 4 [0]) fun c => Tree.chk (Prod.snd (Prod.snd (doRF x t (1 : Int) q (List.take n (List.drop lo ws)))) = true → Prod.snd (Prod.snd (doRF x t (1 : Int) q (List.take n (List.drop lo ws)))) = true)
   (Tree.chk (Prod.snd (Prod.snd (doRF x t (1 : Int) q (List.take n (List.drop lo ws)))) = true → Prod.snd (Prod.snd (doRF x t (1 : Int) q (List.take n (List.drop lo ws)))) = true)
   (Tree.chk (Prod.snd (Prod.snd (doRF x t (1 : Int) q (List.take n (List.drop lo ws)))) = true → Prod.snd (Prod.snd (doRF x t (1 : Int) q (List.take n (List.drop lo ws)))) = true)
   (Tree.chk (Prod.snd (Prod.snd (doRF x t (1 : Int) q (List.take n (List.drop lo ws)))) = true → Prod.snd (Prod.snd (doRF x t (1 : Int) q (List.take n (List.drop lo ws)))) = true)
   (Tree.done (XV.a (AV.c (CV.v (Value.bool (bif Prod.snd (Prod.snd (doRF x t (1 : Int) q (List.take n (List.drop lo ws)))) then x.1 == (2 : Int) else false))))) [(Ent.ws own rc ws), Ent.dead, Ent.dead, Ent.dead, Ent.dead, Ent.dead])))))
   (Tree.br (k == (8 : Int))
   (Tree.callf 11 [AV.agg [iv x.1, iv x.2, iv x.3, iv x.4, iv x.5, iv x.6, iv x.7, iv x.8, iv x.9, iv x.10, iv x.11, iv x.12, CV.sl 0 0 lo 2 n cap, iv x.13, iv x.14], AV.c (iv t), AV.agg [iv (1 : Int), iv (0 : Int)]] [(Ent.ws own rc ws), (Ent.mkBox 25 [iv x.1, iv x.2, iv x.3, iv x.4, iv x.5, iv x.6, iv x.7, iv x.8, iv x.9, iv x.10, iv x.11, iv x.12, CV.sl 0 0 lo 2 n cap, iv x.13, iv x.14]), (Ent.mkBox 42 [iv k, iv o, iv q, iv wt, CV.v (Value.bool b)]), (Ent.mkBox 29 [iv (1 : Int), iv (0 : Int)])] (doC x t (1 : Int) (0 : Int) ws own lo n cap rc 4 [0]) fun c => Tree.chk (Prod.snd (Prod.snd (doRF x t (1 : Int) (0 : Int) (List.take n (List.drop lo ws)))) = true → Prod.snd (Prod.snd (doRF x t (1 : Int) (0 : Int) (List.take n (List.drop lo ws)))) = true)
   (Tree.chk (Prod.snd (Prod.snd (doRF x t (1 : Int) (0 : Int) (List.take n (List.drop lo ws)))) = true → Prod.snd (Prod.snd (doRF x t (1 : Int) (0 : Int) (List.take n (List.drop lo ws)))) = true)
   (Tree.chk (Prod.snd (Prod.snd (doRF x t (1 : Int) (0 : Int) (List.take n (List.drop lo ws)))) = true → Prod.snd (Prod.snd (doRF x t (1 : Int) (0 : Int) (List.take n (List.drop lo ws)))) = true)
   (Tree.chk (Prod.snd (Prod.snd (doRF x t (1 : Int) (0 : Int) (List.take n (List.drop lo ws)))) = true → Prod.snd (Prod.snd (doRF x t (1 : Int) (0 : Int) (List.take n (List.drop lo ws)))) = true)
   (Tree.done (XV.a (AV.c (CV.v (Value.bool (bif Prod.snd (Prod.snd (doRF x t (1 : Int) (0 : Int) (List.take n (List.drop lo ws)))) then x.1 == (3 : Int) else false))))) [(Ent.ws own rc ws), Ent.dead, Ent.dead, Ent.dead, Ent.dead, Ent.dead])))))
   (Tree.br (k == (13 : Int))
   (Tree.callf 11 [AV.agg [iv x.1, iv x.2, iv x.3, iv x.4, iv x.5, iv x.6, iv x.7, iv x.8, iv x.9, iv x.10, iv x.11, iv x.12, CV.sl 0 0 lo 2 n cap, iv x.13, iv x.14], AV.c (iv t), AV.agg [iv (1 : Int), iv (1 : Int)]] [(Ent.ws own rc ws), (Ent.mkBox 25 [iv x.1, iv x.2, iv x.3, iv x.4, iv x.5, iv x.6, iv x.7, iv x.8, iv x.9, iv x.10, iv x.11, iv x.12, CV.sl 0 0 lo 2 n cap, iv x.13, iv x.14]), (Ent.mkBox 42 [iv k, iv o, iv q, iv wt, CV.v (Value.bool b)]), (Ent.mkBox 29 [iv (1 : Int), iv (1 : Int)])] (doC x t (1 : Int) (1 : Int) ws own lo n cap rc 4 [0]) fun c => Tree.chk (Prod.snd (Prod.snd (doRF x t (1 : Int) (1 : Int) (List.take n (List.drop lo ws)))) = true → Prod.snd (Prod.snd (doRF x t (1 : Int) (1 : Int) (List.take n (List.drop lo ws)))) = true)
   (Tree.chk (Prod.snd (Prod.snd (doRF x t (1 : Int) (1 : Int) (List.take n (List.drop lo ws)))) = true → Prod.snd (Prod.snd (doRF x t (1 : Int) (1 : Int) (List.take n (List.drop lo ws)))) = true)
   (Tree.chk (Prod.snd (Prod.snd (doRF x t (1 : Int) (1 : Int) (List.take n (List.drop lo ws)))) = true → Prod.snd (Prod.snd (doRF x t (1 : Int) (1 : Int) (List.take n (List.drop lo ws)))) = true)
   (Tree.chk (Prod.snd (Prod.snd (doRF x t (1 : Int) (1 : Int) (List.take n (List.drop lo ws)))) = true → Prod.snd (Prod.snd (doRF x t (1 : Int) (1 : Int) (List.take n (List.drop lo ws)))) = true)
   (Tree.done (XV.a (AV.c (CV.v (Value.bool (bif Prod.snd (Prod.snd (doRF x t (1 : Int) (1 : Int) (List.take n (List.drop lo ws)))) then x.1 == (4 : Int) else false))))) [(Ent.ws own rc ws), Ent.dead, Ent.dead, Ent.dead, Ent.dead, Ent.dead])))))
   (Tree.br (k == (10 : Int))
   (Tree.callf 11 [AV.agg [iv x.1, iv x.2, iv x.3, iv x.4, iv x.5, iv x.6, iv x.7, iv x.8, iv x.9, iv x.10, iv x.11, iv x.12, CV.sl 0 0 lo 2 n cap, iv x.13, iv x.14], AV.c (iv t), AV.agg [iv (2 : Int), iv (0 : Int)]] [(Ent.ws own rc ws), (Ent.mkBox 25 [iv x.1, iv x.2, iv x.3, iv x.4, iv x.5, iv x.6, iv x.7, iv x.8, iv x.9, iv x.10, iv x.11, iv x.12, CV.sl 0 0 lo 2 n cap, iv x.13, iv x.14]), (Ent.mkBox 42 [iv k, iv o, iv q, iv wt, CV.v (Value.bool b)]), (Ent.mkBox 29 [iv (2 : Int), iv (0 : Int)])] (doC x t (2 : Int) (0 : Int) ws own lo n cap rc 4 [0]) fun c => Tree.chk (Prod.snd (Prod.snd (doRF x t (2 : Int) (0 : Int) (List.take n (List.drop lo ws)))) = true → Prod.snd (Prod.snd (doRF x t (2 : Int) (0 : Int) (List.take n (List.drop lo ws)))) = true)
   (Tree.chk (Prod.snd (Prod.snd (doRF x t (2 : Int) (0 : Int) (List.take n (List.drop lo ws)))) = true → Prod.snd (Prod.snd (doRF x t (2 : Int) (0 : Int) (List.take n (List.drop lo ws)))) = true)
   (Tree.chk (Prod.snd (Prod.snd (doRF x t (2 : Int) (0 : Int) (List.take n (List.drop lo ws)))) = true → Prod.snd (Prod.snd (doRF x t (2 : Int) (0 : Int) (List.take n (List.drop lo ws)))) = true)
   (Tree.chk (Prod.snd (Prod.snd (doRF x t (2 : Int) (0 : Int) (List.take n (List.drop lo ws)))) = true → Prod.snd (Prod.snd (doRF x t (2 : Int) (0 : Int) (List.take n (List.drop lo ws)))) = true)
   (Tree.done (XV.a (AV.c (CV.v (Value.bool (bif Prod.snd (Prod.snd (doRF x t (2 : Int) (0 : Int) (List.take n (List.drop lo ws)))) then x.1 == (4 : Int) else false))))) [(Ent.ws own rc ws), Ent.dead, Ent.dead, Ent.dead, Ent.dead, Ent.dead])))))
   (Tree.br (k == (19 : Int))
   (Tree.chk ((x.1 == (5 : Int)) = true → (x.1 == (5 : Int)) = true)
   (Tree.chk ((x.1 == (5 : Int)) = true → (x.1 == (5 : Int)) = true)
   (Tree.chk ((bif x.1 == (5 : Int) then decide (t ≥ (0 : Int)) else false) = true → (bif x.1 == (5 : Int) then decide (t ≥ (0 : Int)) else false) = true)
   (Tree.chk ((bif x.1 == (5 : Int) then decide (t ≥ (0 : Int)) else false) = true → (bif x.1 == (5 : Int) then decide (t ≥ (0 : Int)) else false) = true)
   (Tree.chk ((bif bif x.1 == (5 : Int) then decide (t ≥ (0 : Int)) else false then decide (t < (8 : Int)) else false) = true → (bif bif x.1 == (5 : Int) then decide (t ≥ (0 : Int)) else false then decide (t < (8 : Int)) else false) = true)
   (Tree.chk ((bif bif x.1 == (5 : Int) then decide (t ≥ (0 : Int)) else false then decide (t < (8 : Int)) else false) = true → (bif bif x.1 == (5 : Int) then decide (t ≥ (0 : Int)) else false then decide (t < (8 : Int)) else false) = true)
   (Tree.chk ((bif bif x.1 == (5 : Int) then decide (t ≥ (0 : Int)) else false then decide (t < (8 : Int)) else false) = true → (bif bif x.1 == (5 : Int) then decide (t ≥ (0 : Int)) else false then decide (t < (8 : Int)) else false) = true)
   (Tree.chk ((bif bif bif x.1 == (5 : Int) then decide (t ≥ (0 : Int)) else false then decide (t < (8 : Int)) else false then x.13 != (-1 : Int) else false) = true → (bif bif bif x.1 == (5 : Int) then decide (t ≥ (0 : Int)) else false then decide (t < (8 : Int)) else false then x.13 != (-1 : Int) else false) = true)
   (Tree.chk ((bif bif bif x.1 == (5 : Int) then decide (t ≥ (0 : Int)) else false then decide (t < (8 : Int)) else false then x.13 != (-1 : Int) else false) = true → (bif bif bif x.1 == (5 : Int) then decide (t ≥ (0 : Int)) else false then decide (t < (8 : Int)) else false then x.13 != (-1 : Int) else false) = true)
   (Tree.chk ((bif bif bif x.1 == (5 : Int) then decide (t ≥ (0 : Int)) else false then decide (t < (8 : Int)) else false then x.13 != (-1 : Int) else false) = true → (bif bif bif x.1 == (5 : Int) then decide (t ≥ (0 : Int)) else false then decide (t < (8 : Int)) else false then x.13 != (-1 : Int) else false) = true)
   (Tree.chk ((bif bif bif x.1 == (5 : Int) then decide (t ≥ (0 : Int)) else false then decide (t < (8 : Int)) else false then x.13 != (-1 : Int) else false) = true → (bif bif bif x.1 == (5 : Int) then decide (t ≥ (0 : Int)) else false then decide (t < (8 : Int)) else false then x.13 != (-1 : Int) else false) = true)
   (Tree.done (XV.a (AV.c (CV.v (Value.bool (bif bif bif bif x.1 == (5 : Int) then decide (t ≥ (0 : Int)) else false then decide (t < (8 : Int)) else false then x.13 != (-1 : Int) else false then x.13 != t else false))))) [(Ent.ws own rc ws), Ent.dead, Ent.dead, Ent.dead]))))))))))))
   (Tree.callf 11 [AV.agg [iv x.1, iv x.2, iv x.3, iv x.4, iv x.5, iv x.6, iv x.7, iv x.8, iv x.9, iv x.10, iv x.11, iv x.12, CV.sl 0 0 lo 2 n cap, iv x.13, iv x.14], AV.c (iv t), AV.agg [iv (1 : Int), iv (0 : Int)]] [(Ent.ws own rc ws), (Ent.mkBox 25 [iv x.1, iv x.2, iv x.3, iv x.4, iv x.5, iv x.6, iv x.7, iv x.8, iv x.9, iv x.10, iv x.11, iv x.12, CV.sl 0 0 lo 2 n cap, iv x.13, iv x.14]), (Ent.mkBox 42 [iv k, iv o, iv q, iv wt, CV.v (Value.bool b)]), (Ent.mkBox 29 [iv (1 : Int), iv (0 : Int)])] (doC x t (1 : Int) (0 : Int) ws own lo n cap rc 4 [0]) fun c => Tree.chk (Prod.snd (Prod.snd (doRF x t (1 : Int) (0 : Int) (List.take n (List.drop lo ws)))) = true → Prod.snd (Prod.snd (doRF x t (1 : Int) (0 : Int) (List.take n (List.drop lo ws)))) = true)
   (Tree.chk (Prod.snd (Prod.snd (doRF x t (1 : Int) (0 : Int) (List.take n (List.drop lo ws)))) = true → Prod.snd (Prod.snd (doRF x t (1 : Int) (0 : Int) (List.take n (List.drop lo ws)))) = true)
   (Tree.chk (Prod.snd (Prod.snd (doRF x t (1 : Int) (0 : Int) (List.take n (List.drop lo ws)))) = true → Prod.snd (Prod.snd (doRF x t (1 : Int) (0 : Int) (List.take n (List.drop lo ws)))) = true)
   (Tree.chk (Prod.snd (Prod.snd (doRF x t (1 : Int) (0 : Int) (List.take n (List.drop lo ws)))) = true → Prod.snd (Prod.snd (doRF x t (1 : Int) (0 : Int) (List.take n (List.drop lo ws)))) = true)
   (Tree.done (XV.a (AV.c (CV.v (Value.bool (bif Prod.snd (Prod.snd (doRF x t (1 : Int) (0 : Int) (List.take n (List.drop lo ws)))) then x.1 == (0 : Int) else false))))) [(Ent.ws own rc ws), Ent.dead, Ent.dead, Ent.dead, Ent.dead, Ent.dead]))))))))))
theorem tcan_eq (x : Thg) (t k o q wt : Int) (b : Bool) (ws : List Wt) (own : Bool) (lo n cap rc : Nat) : xfunc tab (canG ws own lo n rc) noInv Go.Proofs.Try.f17 [x.av 0 lo n cap, .c (iv t), callA k o q wt b] [Ent.ws own rc ws] [0] = tcan x t k o q wt b ws own lo n cap rc := by kernel_rfl
def tcanr (x : Thg) (t k o q wt : Int) (b : Bool) (ws : List Wt) (cap : Nat) : Tree :=
  Tree.chk ((!decide (t < (0 : Int))) = true → (!decide (t < (0 : Int))) = true)
   (Tree.chk (decide (t < (0 : Int)) = false → (!decide (t < (0 : Int))) = true)
   (Tree.br (bif decide (t < (0 : Int)) then true else decide (t > (7 : Int)))
   (Tree.done (XV.a (AV.c (CV.v (Value.bool false)))) [(Ent.ws false cap ws), Ent.dead, Ent.dead])
   (Tree.br (k == (19 : Int))
   (Tree.chk ((x.1 == (5 : Int)) = true → (x.1 == (5 : Int)) = true)
   (Tree.chk ((x.1 == (5 : Int)) = true → (x.1 == (5 : Int)) = true)
   (Tree.chk ((x.1 == (5 : Int)) = true → (x.1 == (5 : Int)) = true)
   (Tree.chk ((bif x.1 == (5 : Int) then x.13 != (-1 : Int) else false) = true → (bif x.1 == (5 : Int) then x.13 != (-1 : Int) else false) = true)
   (Tree.chk ((bif x.1 == (5 : Int) then x.13 != (-1 : Int) else false) = true → (bif x.1 == (5 : Int) then x.13 != (-1 : Int) else false) = true)
   (Tree.chk ((bif x.1 == (5 : Int) then x.13 != (-1 : Int) else false) = true → (bif x.1 == (5 : Int) then x.13 != (-1 : Int) else false) = true)
   (Tree.chk ((bif x.1 == (5 : Int) then x.13 != (-1 : Int) else false) = true → (bif x.1 == (5 : Int) then x.13 != (-1 : Int) else false) = true)
   (Tree.done (XV.a (AV.c (CV.v (Value.bool (bif bif x.1 == (5 : Int) then x.13 != (-1 : Int) else false then x.13 != t else false))))) [(Ent.ws false cap ws), Ent.dead, Ent.dead]))))))))
   (Tree.br (k == (1 : Int))
   (Tree.callf 16 [AV.agg [iv x.1, iv x.2, iv x.3, iv x.4, iv x.5, iv x.6, iv x.7, iv x.8, iv x.9, iv x.10, iv x.11, iv x.12, CV.sl 0 0 0 2 (List.length ws) cap, iv x.13, iv x.14], AV.c (iv t), AV.agg [iv (1 : Int), iv (1 : Int)]] [(Ent.ws false cap ws), (Ent.mkBox 25 [iv x.1, iv x.2, iv x.3, iv x.4, iv x.5, iv x.6, iv x.7, iv x.8, iv x.9, iv x.10, iv x.11, iv x.12, CV.sl 0 0 0 2 (List.length ws) cap, iv x.13, iv x.14]), (Ent.mkBox 42 [iv k, iv o, iv q, iv wt, CV.v (Value.bool b)]), (Ent.mkBox 29 [iv (1 : Int), iv (1 : Int)])] (doRC x t (1 : Int) (1 : Int) ws cap 4 [0]) fun c => Tree.chk ((x.1 == (1 : Int)) = true → (x.1 == (1 : Int)) = true)
   (Tree.done (XV.a (AV.c (CV.v (Value.bool (bif x.1 == (1 : Int) then Prod.snd (Prod.snd (doRF x t (1 : Int) (1 : Int) ws)) else false))))) [(Ent.ws false cap ws), Ent.dead, Ent.dead, Ent.dead, Ent.dead, Ent.dead]))
   (Tree.br (k == (4 : Int))
   (Tree.callf 16 [AV.agg [iv x.1, iv x.2, iv x.3, iv x.4, iv x.5, iv x.6, iv x.7, iv x.8, iv x.9, iv x.10, iv x.11, iv x.12, CV.sl 0 0 0 2 (List.length ws) cap, iv x.13, iv x.14], AV.c (iv t), AV.agg [iv (1 : Int), iv q]] [(Ent.ws false cap ws), (Ent.mkBox 25 [iv x.1, iv x.2, iv x.3, iv x.4, iv x.5, iv x.6, iv x.7, iv x.8, iv x.9, iv x.10, iv x.11, iv x.12, CV.sl 0 0 0 2 (List.length ws) cap, iv x.13, iv x.14]), (Ent.mkBox 42 [iv k, iv o, iv q, iv wt, CV.v (Value.bool b)]), (Ent.mkBox 29 [iv (1 : Int), iv q])] (doRC x t (1 : Int) q ws cap 4 [0]) fun c => Tree.chk ((x.1 == (2 : Int)) = true → (x.1 == (2 : Int)) = true)
   (Tree.done (XV.a (AV.c (CV.v (Value.bool (bif x.1 == (2 : Int) then Prod.snd (Prod.snd (doRF x t (1 : Int) q ws)) else false))))) [(Ent.ws false cap ws), Ent.dead, Ent.dead, Ent.dead, Ent.dead, Ent.dead]))
   (Tree.br (k == (8 : Int))
   (Tree.callf 16 [AV.agg [iv x.1, iv x.2, iv x.3, iv x.4, iv x.5, iv x.6, iv x.7, iv x.8, iv x.9, iv x.10, iv x.11, iv x.12, CV.sl 0 0 0 2 (List.length ws) cap, iv x.13, iv x.14], AV.c (iv t), AV.agg [iv (1 : Int), iv (0 : Int)]] [(Ent.ws false cap ws), (Ent.mkBox 25 [iv x.1, iv x.2, iv x.3, iv x.4, iv x.5, iv x.6, iv x.7, iv x.8, iv x.9, iv x.10, iv x.11, iv x.12, CV.sl 0 0 0 2 (List.length ws) cap, iv x.13, iv x.14]), (Ent.mkBox 42 [iv k, iv o, iv q, iv wt, CV.v (Value.bool b)]), (Ent.mkBox 29 [iv (1 : Int), iv (0 : Int)])] (doRC x t (1 : Int) (0 : Int) ws cap 4 [0]) fun c => Tree.chk ((x.1 == (3 : Int)) = true → (x.1 == (3 : Int)) = true)
   (Tree.done (XV.a (AV.c (CV.v (Value.bool (bif x.1 == (3 : Int) then Prod.snd (Prod.snd (doRF x t (1 : Int) (0 : Int) ws)) else false))))) [(Ent.ws false cap ws), Ent.dead, Ent.dead, Ent.dead, Ent.dead, Ent.dead]))
   (Tree.br (k == (10 : Int))
   (Tree.callf 16 [AV.agg [iv x.1, iv x.2, iv x.3, iv x.4, iv x.5, iv x.6, iv x.7, iv x.8, iv x.9, iv x.10, iv x.11, iv x.12, CV.sl 0 0 0 2 (List.length ws) cap, iv x.13, iv x.14], AV.c (iv t), AV.agg [iv (2 : Int), iv (0 : Int)]] [(Ent.ws false cap ws), (Ent.mkBox 25 [iv x.1, iv x.2, iv x.3, iv x.4, iv x.5, iv x.6, iv x.7, iv x.8, iv x.9, iv x.10, iv x.11, iv x.12, CV.sl 0 0 0 2 (List.length ws) cap, iv x.13, iv x.14]), (Ent.mkBox 42 [iv k, iv o, iv q, iv wt, CV.v (Value.bool b)]), (Ent.mkBox 29 [iv (2 : Int), iv (0 : Int)])] (doRC x t (2 : Int) (0 : Int) ws cap 4 [0]) fun c => Tree.chk ((x.1 == (4 : Int)) = true → (x.1 == (4 : Int)) = true)
   (Tree.done (XV.a (AV.c (CV.v (Value.bool (bif x.1 == (4 : Int) then Prod.snd (Prod.snd (doRF x t (2 : Int) (0 : Int) ws)) else false))))) [(Ent.ws false cap ws), Ent.dead, Ent.dead, Ent.dead, Ent.dead, Ent.dead]))
   (Tree.br (k == (13 : Int))
   (Tree.callf 16 [AV.agg [iv x.1, iv x.2, iv x.3, iv x.4, iv x.5, iv x.6, iv x.7, iv x.8, iv x.9, iv x.10, iv x.11, iv x.12, CV.sl 0 0 0 2 (List.length ws) cap, iv x.13, iv x.14], AV.c (iv t), AV.agg [iv (1 : Int), iv (1 : Int)]] [(Ent.ws false cap ws), (Ent.mkBox 25 [iv x.1, iv x.2, iv x.3, iv x.4, iv x.5, iv x.6, iv x.7, iv x.8, iv x.9, iv x.10, iv x.11, iv x.12, CV.sl 0 0 0 2 (List.length ws) cap, iv x.13, iv x.14]), (Ent.mkBox 42 [iv k, iv o, iv q, iv wt, CV.v (Value.bool b)]), (Ent.mkBox 29 [iv (1 : Int), iv (1 : Int)])] (doRC x t (1 : Int) (1 : Int) ws cap 4 [0]) fun c => Tree.chk ((x.1 == (4 : Int)) = true → (x.1 == (4 : Int)) = true)
   (Tree.done (XV.a (AV.c (CV.v (Value.bool (bif x.1 == (4 : Int) then Prod.snd (Prod.snd (doRF x t (1 : Int) (1 : Int) ws)) else false))))) [(Ent.ws false cap ws), Ent.dead, Ent.dead, Ent.dead, Ent.dead, Ent.dead]))
   (Tree.callf 16 [AV.agg [iv x.1, iv x.2, iv x.3, iv x.4, iv x.5, iv x.6, iv x.7, iv x.8, iv x.9, iv x.10, iv x.11, iv x.12, CV.sl 0 0 0 2 (List.length ws) cap, iv x.13, iv x.14], AV.c (iv t), AV.agg [iv (1 : Int), iv (0 : Int)]] [(Ent.ws false cap ws), (Ent.mkBox 25 [iv x.1, iv x.2, iv x.3, iv x.4, iv x.5, iv x.6, iv x.7, iv x.8, iv x.9, iv x.10, iv x.11, iv x.12, CV.sl 0 0 0 2 (List.length ws) cap, iv x.13, iv x.14]), (Ent.mkBox 42 [iv k, iv o, iv q, iv wt, CV.v (Value.bool b)]), (Ent.mkBox 29 [iv (1 : Int), iv (0 : Int)])] (doRC x t (1 : Int) (0 : Int) ws cap 4 [0]) fun c => Tree.chk ((x.1 == (0 : Int)) = true → (x.1 == (0 : Int)) = true)
   (Tree.done (XV.a (AV.c (CV.v (Value.bool (bif x.1 == (0 : Int) then Prod.snd (Prod.snd (doRF x t (1 : Int) (0 : Int) ws)) else false))))) [(Ent.ws false cap ws), Ent.dead, Ent.dead, Ent.dead, Ent.dead, Ent.dead]))))))))))
theorem tcanr_eq (x : Thg) (t k o q wt : Int) (b : Bool) (ws : List Wt) (cap : Nat) : xfunc tab (canRG ws) noInv Go.Proofs.Try.f18 [x.av 0 0 ws.length cap, .c (iv t), callA k o q wt b] [Ent.ws false cap ws] [0] = tcanr x t k o q wt b ws cap := by kernel_rfl
end Go.Proofs.Ytnenbngjdekegaa.X

/- The model: can it go on: proved. -/
set_option linter.unusedVariables false
set_option linter.unusedSimpArgs false
namespace Go.Proofs.Ytnenbngjdekegaa.X
open Go Go.RowKit Go.Proofs.YtnenbngjdekegaaW.PrintWords Go.Proofs.Ytnenbngjdekegaa.Base
def canF (x : Thg) (t k q : Int) (ws : List Wt) : Bool :=
  bif k == 1 then (bif (doRF x t 1 1 ws).2.2 then x.kd == 1 else false)
  else bif k == 4 then (bif (doRF x t 1 q ws).2.2 then x.kd == 2 else false)
  else bif k == 8 then (bif (doRF x t 1 0 ws).2.2 then x.kd == 3 else false)
  else bif k == 13 then (bif (doRF x t 1 1 ws).2.2 then x.kd == 4 else false)
  else bif k == 10 then (bif (doRF x t 2 0 ws).2.2 then x.kd == 4 else false)
  else bif k == 19 then (bif (bif (bif (bif x.kd == 5 then decide (t ≥ 0) else false) then decide (t < 8) else false) then x.f != -1 else false) then x.f != t else false)
  else (bif (doRF x t 1 0 ws).2.2 then x.kd == 0 else false)
def canC (x : Thg) (t k o q wt : Int) (b : Bool) (ws : List Wt) (own : Bool) (lo n cap rc : Nat) (ρ : List Nat) : CallSpec := rdSpec ρ [x.av 0 lo n cap, .c (iv t), callA k o q wt b] [Ent.ws own rc ws] (.a (.c (.v (.bool (canF x t k q (wsub ws lo n))))))
def canRF (x : Thg) (t k q : Int) (ws : List Wt) : Bool :=
  bif (bif decide (t < 0) then true else decide (t > 7)) then false
  else bif k == 19 then (bif (bif x.kd == 5 then x.f != -1 else false) then x.f != t else false)
  else bif k == 1 then (bif x.kd == 1 then (doRF x t 1 1 ws).2.2 else false)
  else bif k == 4 then (bif x.kd == 2 then (doRF x t 1 q ws).2.2 else false)
  else bif k == 8 then (bif x.kd == 3 then (doRF x t 1 0 ws).2.2 else false)
  else bif k == 10 then (bif x.kd == 4 then (doRF x t 2 0 ws).2.2 else false)
  else bif k == 13 then (bif x.kd == 4 then (doRF x t 1 1 ws).2.2 else false)
  else (bif x.kd == 0 then (doRF x t 1 0 ws).2.2 else false)
def canRC (x : Thg) (t k o q wt : Int) (b : Bool) (ws : List Wt) (cap : Nat) (ρ : List Nat) : CallSpec := rdSpec ρ [x.av 0 0 ws.length cap, .c (iv t), callA k o q wt b] [Ent.ws false cap ws] (.a (.c (.v (.bool (canRF x t k q ws)))))
theorem do_call : Callable Try.prog 11 := ⟨_, Try.func11, by kernel_rfl, rfl⟩
theorem doR_call : Callable Try.prog 16 := ⟨_, Try.func16, by kernel_rfl, rfl⟩
theorem can_local (x : Thg) (t k o q wt : Int) (b : Bool) (ws : List Wt) (own : Bool) (lo n cap rc : Nat) (ρ : List Nat) (hx : lightP x) (hn : lo + n ≤ ws.length) (hl : n ≤ 1000000) : (canC x t k o q wt b ws own lo n cap rc ρ).Local Try.prog 17 := by
  refine local_of Try.func17 rfl (tcan_eq x t k o q wt b ws own lo n cap rc) fun ν w => ?_
  repeat' first
    | refine ok_br' (fun h => ?_) (fun h => ?_)
    | (refine ok_callf' do_call (fits_of rfl rfl ⟨⟨_, rfl, EntRel.ws⟩, trivial⟩ fun c _ => ⟨⟨Nat.le_succ 1, rfl⟩, ⟨rfl, rfl⟩, ⟨⟨EntRel.ws, rfl, (fun h => by cases h), .inr rfl⟩, ⟨EntRel.ws, rfl, (fun h => by cases h), .inr rfl⟩, trivial⟩⟩) (do_local _ _ _ _ _ _ _ _ _ _ _ _ hx hn hl) fun c hc => ?_)
    | refine ok_chk' (fun h => h) ?_
    | refine ok_chk' rfl ?_
    | (refine ok_leaf (fun _ => 0) [] [0] trivial ?_ ⟨⟨_, rfl, EntRel.ws⟩, trivial⟩ rfl; show XV.a _ = .a (.c (.v (.bool (canF x t k q (wsub ws lo n))))); simp only [canF, *, cond_true, cond_false]; first | done | rfl)
theorem canR_local (x : Thg) (t k o q wt : Int) (b : Bool) (ws : List Wt) (cap : Nat) (ρ : List Nat) (hl : ws.length ≤ 1000000) : (canRC x t k o q wt b ws cap ρ).Local Try.prog 18 := by
  refine local_of Try.func18 rfl (tcanr_eq x t k o q wt b ws cap) fun ν w => ?_
  repeat' first
    | refine ok_br' (fun h => ?_) (fun h => ?_)
    | (refine ok_callf' doR_call (fits_of rfl rfl ⟨⟨_, rfl, EntRel.ws⟩, trivial⟩ fun c _ => ⟨⟨Nat.le_succ 1, rfl⟩, ⟨rfl, rfl⟩, ⟨⟨EntRel.ws, rfl, (fun h => by cases h), .inr rfl⟩, ⟨EntRel.ws, rfl, (fun h => by cases h), .inr rfl⟩, trivial⟩⟩) (doR_local _ _ _ _ _ _ _ _ hl) fun c hc => ?_)
    | refine ok_chk' (fun h => h) ?_
    | refine ok_chk' rfl ?_
    | refine ok_chk' (fun h => by rw [h]; rfl) ?_
    | (refine ok_leaf (fun _ => 0) [] [0] trivial ?_ ⟨⟨_, rfl, EntRel.ws⟩, trivial⟩ rfl; show XV.a _ = .a (.c (.v (.bool (canRF x t k q ws)))); simp only [canRF, *, cond_true, cond_false]; first | done | rfl)
theorem doR_out {x : Thg} {t k v : Int} {ws : List Wt} (h : (bif decide (t < 0) then true else decide (t > 7)) = true) : (doRF x t k v ws).2.2 = false := by
  unfold doRF
  rw [h]
  rfl
/-- They agree. -/
theorem can_agree (x : Thg) (t k q : Int) (ws : List Wt) : canF x t k q ws = canRF x t k q ws := by
  unfold canF canRF
  cases ht : (bif decide (t < 0) then true else decide (t > 7)) with
  | true =>
    simp only [doR_out ht, cond_true, cond_false]
    have : (bif (bif x.kd == 5 then decide (t ≥ 0) else false) then decide (t < 8) else false) = false := by
      cases (x.kd == 5) with
      | false => rfl
      | true =>
        simp at ht ⊢
        omega
    rw [this]
    cases (k == 1) <;> cases (k == 4) <;> cases (k == 8) <;> cases (k == 13) <;> cases (k == 10) <;> cases (k == 19) <;> rfl
  | false =>
    have h0 : decide (t ≥ 0) = true := by simp at ht ⊢; omega
    have h8 : decide (t < 8) = true := by simp at ht ⊢; omega
    have sw : ∀ a b : Bool, (bif a then b else false) = (bif b then a else false) := fun a b => by cases a <;> cases b <;> rfl
    simp only [h0, h8, cond_true, cond_false]
    by_cases h1 : k = 1
    · subst h1; rw [sw (x.kd == 1)]; cases (x.kd == 5) <;> rfl
    · by_cases h4 : k = 4
      · subst h4; rw [sw (x.kd == 2)]; rfl
      · by_cases h6 : k = 8
        · subst h6; rw [sw (x.kd == 3)]; rfl
        · by_cases h13 : k = 13
          · subst h13; rw [sw (x.kd == 4) (doRF x t 1 1 ws).2.2]; rfl
          · by_cases h10 : k = 10
            · subst h10; rw [sw (x.kd == 4) (doRF x t 2 0 ws).2.2]; rfl
            · by_cases h19 : k = 19
              · subst h19; cases (x.kd == 5) <;> rfl
              · simp only [beqF h1, beqF h4, beqF h6, beqF h13, beqF h10, beqF h19, cond_false]
                exact sw _ _
end Go.Proofs.Ytnenbngjdekegaa.X

/- The model: are two things the same: tree. -/
set_option linter.unusedVariables false
set_option linter.unusedSimpArgs false
namespace Go.Proofs.Ytnenbngjdekegaa.X
open Go Go.RowKit Go.Proofs.YtnenbngjdekegaaW.PrintWords Go.Proofs.Ytnenbngjdekegaa.Base
def sameP (wa wb : List Wt) (la lb n i : Nat) : Prop := i ≤ n ∧ ∀ j, j < i → wa.getD (la + j) (0, 0) = wb.getD (lb + j) (0, 0)
theorem sameP0 (wa wb : List Wt) (la lb n : Nat) : sameP wa wb la lb n 0 := ⟨Nat.zero_le _, fun j hj => absurd hj (Nat.not_lt_zero _)⟩
def sameInv (x y : Thg) (wa wb : List Wt) (oa ob : Bool) (la na ca ra lb nb cb rb : Nat) : LoopInv :=
  ⟨{i : Nat // sameP wa wb la lb na i}, fun i => ([(5, ia i.1), (2, .a (.c (.ptr (bref 2 15)))), (3, .a (.c (.ptr (bref 3 15))))], [Ent.ws oa ra wa, Ent.ws ob rb wb, Ent.mkBox TT (x.cv (.sl 0 0 la 2 na ca)), Ent.mkBox TT (y.cv (.sl 1 0 lb 2 nb cb))]), fun i => na - i.1, some ⟨0, sameP0 wa wb la lb na⟩, [], .l [0, 1, 2, 3], [], fun _ _ => .l [0, 1, 2, 3]⟩
def tsame (x y : Thg) (wa wb : List Wt) (oa ob : Bool) (la na ca ra lb nb cb rb : Nat) : Tree :=
  Tree.chk ((!x.1 != y.1) = true → (!x.1 != y.1) = true)
   (Tree.chk ((!x.1 != y.1) = true → (!x.1 != y.1) = true)
   (Tree.chk ((!x.1 != y.1) = true → (!x.1 != y.1) = true)
   (Tree.chk ((!x.1 != y.1) = true → (!x.1 != y.1) = true)
   (Tree.chk ((x.1 != y.1) = false → (!x.1 != y.1) = true)
   (Tree.chk ((!bif x.1 != y.1 then true else x.2 != y.2) = true → (!bif x.1 != y.1 then true else x.2 != y.2) = true)
   (Tree.chk ((!bif x.1 != y.1 then true else x.2 != y.2) = true → (!bif x.1 != y.1 then true else x.2 != y.2) = true)
   (Tree.chk ((!bif x.1 != y.1 then true else x.2 != y.2) = true → (!bif x.1 != y.1 then true else x.2 != y.2) = true)
   (Tree.chk ((!bif x.1 != y.1 then true else x.2 != y.2) = true → (!bif x.1 != y.1 then true else x.2 != y.2) = true)
   (Tree.chk ((bif x.1 != y.1 then true else x.2 != y.2) = false → (!bif x.1 != y.1 then true else x.2 != y.2) = true)
   (Tree.chk ((!bif bif x.1 != y.1 then true else x.2 != y.2 then true else x.3 != y.3) = true → (!bif bif x.1 != y.1 then true else x.2 != y.2 then true else x.3 != y.3) = true)
   (Tree.chk ((!bif bif x.1 != y.1 then true else x.2 != y.2 then true else x.3 != y.3) = true → (!bif bif x.1 != y.1 then true else x.2 != y.2 then true else x.3 != y.3) = true)
   (Tree.chk ((!bif bif x.1 != y.1 then true else x.2 != y.2 then true else x.3 != y.3) = true → (!bif bif x.1 != y.1 then true else x.2 != y.2 then true else x.3 != y.3) = true)
   (Tree.chk ((!bif bif x.1 != y.1 then true else x.2 != y.2 then true else x.3 != y.3) = true → (!bif bif x.1 != y.1 then true else x.2 != y.2 then true else x.3 != y.3) = true)
   (Tree.chk ((bif bif x.1 != y.1 then true else x.2 != y.2 then true else x.3 != y.3) = false → (!bif bif x.1 != y.1 then true else x.2 != y.2 then true else x.3 != y.3) = true)
   (Tree.chk ((!bif bif bif x.1 != y.1 then true else x.2 != y.2 then true else x.3 != y.3 then true else x.4 != y.4) = true → (!bif bif bif x.1 != y.1 then true else x.2 != y.2 then true else x.3 != y.3 then true else x.4 != y.4) = true)
   (Tree.chk ((!bif bif bif x.1 != y.1 then true else x.2 != y.2 then true else x.3 != y.3 then true else x.4 != y.4) = true → (!bif bif bif x.1 != y.1 then true else x.2 != y.2 then true else x.3 != y.3 then true else x.4 != y.4) = true)
   (Tree.chk ((!bif bif bif x.1 != y.1 then true else x.2 != y.2 then true else x.3 != y.3 then true else x.4 != y.4) = true → (!bif bif bif x.1 != y.1 then true else x.2 != y.2 then true else x.3 != y.3 then true else x.4 != y.4) = true)
   (Tree.chk ((!bif bif bif x.1 != y.1 then true else x.2 != y.2 then true else x.3 != y.3 then true else x.4 != y.4) = true → (!bif bif bif x.1 != y.1 then true else x.2 != y.2 then true else x.3 != y.3 then true else x.4 != y.4) = true)
   (Tree.chk ((bif bif bif x.1 != y.1 then true else x.2 != y.2 then true else x.3 != y.3 then true else x.4 != y.4) = false → (!bif bif bif x.1 != y.1 then true else x.2 != y.2 then true else x.3 != y.3 then true else x.4 != y.4) = true)
   (Tree.chk ((!bif bif bif bif x.1 != y.1 then true else x.2 != y.2 then true else x.3 != y.3 then true else x.4 != y.4 then true else !(x.5 == y.5 && (x.6 == y.6 && (x.7 == y.7 && (x.8 == y.8 && (x.9 == y.9 && (x.10 == y.10 && (x.11 == y.11 && x.12 == y.12)))))))) = true → (!bif bif bif bif x.1 != y.1 then true else x.2 != y.2 then true else x.3 != y.3 then true else x.4 != y.4 then true else !(x.5 == y.5 && (x.6 == y.6 && (x.7 == y.7 && (x.8 == y.8 && (x.9 == y.9 && (x.10 == y.10 && (x.11 == y.11 && x.12 == y.12)))))))) = true)
   (Tree.chk ((!bif bif bif bif x.1 != y.1 then true else x.2 != y.2 then true else x.3 != y.3 then true else x.4 != y.4 then true else !(x.5 == y.5 && (x.6 == y.6 && (x.7 == y.7 && (x.8 == y.8 && (x.9 == y.9 && (x.10 == y.10 && (x.11 == y.11 && x.12 == y.12)))))))) = true → (!bif bif bif bif x.1 != y.1 then true else x.2 != y.2 then true else x.3 != y.3 then true else x.4 != y.4 then true else !(x.5 == y.5 && (x.6 == y.6 && (x.7 == y.7 && (x.8 == y.8 && (x.9 == y.9 && (x.10 == y.10 && (x.11 == y.11 && x.12 == y.12)))))))) = true)
   (Tree.chk ((!bif bif bif bif x.1 != y.1 then true else x.2 != y.2 then true else x.3 != y.3 then true else x.4 != y.4 then true else !(x.5 == y.5 && (x.6 == y.6 && (x.7 == y.7 && (x.8 == y.8 && (x.9 == y.9 && (x.10 == y.10 && (x.11 == y.11 && x.12 == y.12)))))))) = true → (!bif bif bif bif x.1 != y.1 then true else x.2 != y.2 then true else x.3 != y.3 then true else x.4 != y.4 then true else !(x.5 == y.5 && (x.6 == y.6 && (x.7 == y.7 && (x.8 == y.8 && (x.9 == y.9 && (x.10 == y.10 && (x.11 == y.11 && x.12 == y.12)))))))) = true)
   (Tree.chk ((!bif bif bif bif x.1 != y.1 then true else x.2 != y.2 then true else x.3 != y.3 then true else x.4 != y.4 then true else !(x.5 == y.5 && (x.6 == y.6 && (x.7 == y.7 && (x.8 == y.8 && (x.9 == y.9 && (x.10 == y.10 && (x.11 == y.11 && x.12 == y.12)))))))) = true → (!bif bif bif bif x.1 != y.1 then true else x.2 != y.2 then true else x.3 != y.3 then true else x.4 != y.4 then true else !(x.5 == y.5 && (x.6 == y.6 && (x.7 == y.7 && (x.8 == y.8 && (x.9 == y.9 && (x.10 == y.10 && (x.11 == y.11 && x.12 == y.12)))))))) = true)
   (Tree.chk ((bif bif bif bif x.1 != y.1 then true else x.2 != y.2 then true else x.3 != y.3 then true else x.4 != y.4 then true else !(x.5 == y.5 && (x.6 == y.6 && (x.7 == y.7 && (x.8 == y.8 && (x.9 == y.9 && (x.10 == y.10 && (x.11 == y.11 && x.12 == y.12)))))))) = false → (!bif bif bif bif x.1 != y.1 then true else x.2 != y.2 then true else x.3 != y.3 then true else x.4 != y.4 then true else !(x.5 == y.5 && (x.6 == y.6 && (x.7 == y.7 && (x.8 == y.8 && (x.9 == y.9 && (x.10 == y.10 && (x.11 == y.11 && x.12 == y.12)))))))) = true)
   (Tree.chk ((!bif bif bif bif bif x.1 != y.1 then true else x.2 != y.2 then true else x.3 != y.3 then true else x.4 != y.4 then true else !(x.5 == y.5 && (x.6 == y.6 && (x.7 == y.7 && (x.8 == y.8 && (x.9 == y.9 && (x.10 == y.10 && (x.11 == y.11 && x.12 == y.12))))))) then true else x.13 != y.13) = true → (!bif bif bif bif bif x.1 != y.1 then true else x.2 != y.2 then true else x.3 != y.3 then true else x.4 != y.4 then true else !(x.5 == y.5 && (x.6 == y.6 && (x.7 == y.7 && (x.8 == y.8 && (x.9 == y.9 && (x.10 == y.10 && (x.11 == y.11 && x.12 == y.12))))))) then true else x.13 != y.13) = true)
   (Tree.chk ((!bif bif bif bif bif x.1 != y.1 then true else x.2 != y.2 then true else x.3 != y.3 then true else x.4 != y.4 then true else !(x.5 == y.5 && (x.6 == y.6 && (x.7 == y.7 && (x.8 == y.8 && (x.9 == y.9 && (x.10 == y.10 && (x.11 == y.11 && x.12 == y.12))))))) then true else x.13 != y.13) = true → (!bif bif bif bif bif x.1 != y.1 then true else x.2 != y.2 then true else x.3 != y.3 then true else x.4 != y.4 then true else !(x.5 == y.5 && (x.6 == y.6 && (x.7 == y.7 && (x.8 == y.8 && (x.9 == y.9 && (x.10 == y.10 && (x.11 == y.11 && x.12 == y.12))))))) then true else x.13 != y.13) = true)
   (Tree.chk ((!bif bif bif bif bif x.1 != y.1 then true else x.2 != y.2 then true else x.3 != y.3 then true else x.4 != y.4 then true else !(x.5 == y.5 && (x.6 == y.6 && (x.7 == y.7 && (x.8 == y.8 && (x.9 == y.9 && (x.10 == y.10 && (x.11 == y.11 && x.12 == y.12))))))) then true else x.13 != y.13) = true → (!bif bif bif bif bif x.1 != y.1 then true else x.2 != y.2 then true else x.3 != y.3 then true else x.4 != y.4 then true else !(x.5 == y.5 && (x.6 == y.6 && (x.7 == y.7 && (x.8 == y.8 && (x.9 == y.9 && (x.10 == y.10 && (x.11 == y.11 && x.12 == y.12))))))) then true else x.13 != y.13) = true)
   (Tree.chk ((!bif bif bif bif bif x.1 != y.1 then true else x.2 != y.2 then true else x.3 != y.3 then true else x.4 != y.4 then true else !(x.5 == y.5 && (x.6 == y.6 && (x.7 == y.7 && (x.8 == y.8 && (x.9 == y.9 && (x.10 == y.10 && (x.11 == y.11 && x.12 == y.12))))))) then true else x.13 != y.13) = true → (!bif bif bif bif bif x.1 != y.1 then true else x.2 != y.2 then true else x.3 != y.3 then true else x.4 != y.4 then true else !(x.5 == y.5 && (x.6 == y.6 && (x.7 == y.7 && (x.8 == y.8 && (x.9 == y.9 && (x.10 == y.10 && (x.11 == y.11 && x.12 == y.12))))))) then true else x.13 != y.13) = true)
   (Tree.chk ((bif bif bif bif bif x.1 != y.1 then true else x.2 != y.2 then true else x.3 != y.3 then true else x.4 != y.4 then true else !(x.5 == y.5 && (x.6 == y.6 && (x.7 == y.7 && (x.8 == y.8 && (x.9 == y.9 && (x.10 == y.10 && (x.11 == y.11 && x.12 == y.12))))))) then true else x.13 != y.13) = false → (!bif bif bif bif bif x.1 != y.1 then true else x.2 != y.2 then true else x.3 != y.3 then true else x.4 != y.4 then true else !(x.5 == y.5 && (x.6 == y.6 && (x.7 == y.7 && (x.8 == y.8 && (x.9 == y.9 && (x.10 == y.10 && (x.11 == y.11 && x.12 == y.12))))))) then true else x.13 != y.13) = true)
   (Tree.chk ((!bif bif bif bif bif bif x.1 != y.1 then true else x.2 != y.2 then true else x.3 != y.3 then true else x.4 != y.4 then true else !(x.5 == y.5 && (x.6 == y.6 && (x.7 == y.7 && (x.8 == y.8 && (x.9 == y.9 && (x.10 == y.10 && (x.11 == y.11 && x.12 == y.12))))))) then true else x.13 != y.13 then true else x.14 != y.14) = true → (!bif bif bif bif bif bif x.1 != y.1 then true else x.2 != y.2 then true else x.3 != y.3 then true else x.4 != y.4 then true else !(x.5 == y.5 && (x.6 == y.6 && (x.7 == y.7 && (x.8 == y.8 && (x.9 == y.9 && (x.10 == y.10 && (x.11 == y.11 && x.12 == y.12))))))) then true else x.13 != y.13 then true else x.14 != y.14) = true)
   (Tree.chk ((!bif bif bif bif bif bif x.1 != y.1 then true else x.2 != y.2 then true else x.3 != y.3 then true else x.4 != y.4 then true else !(x.5 == y.5 && (x.6 == y.6 && (x.7 == y.7 && (x.8 == y.8 && (x.9 == y.9 && (x.10 == y.10 && (x.11 == y.11 && x.12 == y.12))))))) then true else x.13 != y.13 then true else x.14 != y.14) = true → (!bif bif bif bif bif bif x.1 != y.1 then true else x.2 != y.2 then true else x.3 != y.3 then true else x.4 != y.4 then true else !(x.5 == y.5 && (x.6 == y.6 && (x.7 == y.7 && (x.8 == y.8 && (x.9 == y.9 && (x.10 == y.10 && (x.11 == y.11 && x.12 == y.12))))))) then true else x.13 != y.13 then true else x.14 != y.14) = true)
   (Tree.chk ((!bif bif bif bif bif bif x.1 != y.1 then true else x.2 != y.2 then true else x.3 != y.3 then true else x.4 != y.4 then true else !(x.5 == y.5 && (x.6 == y.6 && (x.7 == y.7 && (x.8 == y.8 && (x.9 == y.9 && (x.10 == y.10 && (x.11 == y.11 && x.12 == y.12))))))) then true else x.13 != y.13 then true else x.14 != y.14) = true → (!bif bif bif bif bif bif x.1 != y.1 then true else x.2 != y.2 then true else x.3 != y.3 then true else x.4 != y.4 then true else !(x.5 == y.5 && (x.6 == y.6 && (x.7 == y.7 && (x.8 == y.8 && (x.9 == y.9 && (x.10 == y.10 && (x.11 == y.11 && x.12 == y.12))))))) then true else x.13 != y.13 then true else x.14 != y.14) = true)
   (Tree.chk ((!bif bif bif bif bif bif x.1 != y.1 then true else x.2 != y.2 then true else x.3 != y.3 then true else x.4 != y.4 then true else !(x.5 == y.5 && (x.6 == y.6 && (x.7 == y.7 && (x.8 == y.8 && (x.9 == y.9 && (x.10 == y.10 && (x.11 == y.11 && x.12 == y.12))))))) then true else x.13 != y.13 then true else x.14 != y.14) = true → (!bif bif bif bif bif bif x.1 != y.1 then true else x.2 != y.2 then true else x.3 != y.3 then true else x.4 != y.4 then true else !(x.5 == y.5 && (x.6 == y.6 && (x.7 == y.7 && (x.8 == y.8 && (x.9 == y.9 && (x.10 == y.10 && (x.11 == y.11 && x.12 == y.12))))))) then true else x.13 != y.13 then true else x.14 != y.14) = true)
   (Tree.chk ((!bif bif bif bif bif bif x.1 != y.1 then true else x.2 != y.2 then true else x.3 != y.3 then true else x.4 != y.4 then true else !(x.5 == y.5 && (x.6 == y.6 && (x.7 == y.7 && (x.8 == y.8 && (x.9 == y.9 && (x.10 == y.10 && (x.11 == y.11 && x.12 == y.12))))))) then true else x.13 != y.13 then true else x.14 != y.14) = true → (!bif bif bif bif bif bif x.1 != y.1 then true else x.2 != y.2 then true else x.3 != y.3 then true else x.4 != y.4 then true else !(x.5 == y.5 && (x.6 == y.6 && (x.7 == y.7 && (x.8 == y.8 && (x.9 == y.9 && (x.10 == y.10 && (x.11 == y.11 && x.12 == y.12))))))) then true else x.13 != y.13 then true else x.14 != y.14) = true)
   (Tree.chk ((!bif bif bif bif bif bif x.1 != y.1 then true else x.2 != y.2 then true else x.3 != y.3 then true else x.4 != y.4 then true else !(x.5 == y.5 && (x.6 == y.6 && (x.7 == y.7 && (x.8 == y.8 && (x.9 == y.9 && (x.10 == y.10 && (x.11 == y.11 && x.12 == y.12))))))) then true else x.13 != y.13 then true else x.14 != y.14) = true → (!bif bif bif bif bif bif x.1 != y.1 then true else x.2 != y.2 then true else x.3 != y.3 then true else x.4 != y.4 then true else !(x.5 == y.5 && (x.6 == y.6 && (x.7 == y.7 && (x.8 == y.8 && (x.9 == y.9 && (x.10 == y.10 && (x.11 == y.11 && x.12 == y.12))))))) then true else x.13 != y.13 then true else x.14 != y.14) = true)
   (Tree.chk ((bif bif bif bif bif bif x.1 != y.1 then true else x.2 != y.2 then true else x.3 != y.3 then true else x.4 != y.4 then true else !(x.5 == y.5 && (x.6 == y.6 && (x.7 == y.7 && (x.8 == y.8 && (x.9 == y.9 && (x.10 == y.10 && (x.11 == y.11 && x.12 == y.12))))))) then true else x.13 != y.13 then true else x.14 != y.14) = false → (!bif bif bif bif bif bif x.1 != y.1 then true else x.2 != y.2 then true else x.3 != y.3 then true else x.4 != y.4 then true else !(x.5 == y.5 && (x.6 == y.6 && (x.7 == y.7 && (x.8 == y.8 && (x.9 == y.9 && (x.10 == y.10 && (x.11 == y.11 && x.12 == y.12))))))) then true else x.13 != y.13 then true else x.14 != y.14) = true)
   (Tree.br (bif bif bif bif bif bif bif x.1 != y.1 then true else x.2 != y.2 then true else x.3 != y.3 then true else x.4 != y.4 then true else !(x.5 == y.5 && (x.6 == y.6 && (x.7 == y.7 && (x.8 == y.8 && (x.9 == y.9 && (x.10 == y.10 && (x.11 == y.11 && x.12 == y.12))))))) then true else x.13 != y.13 then true else x.14 != y.14 then true else (↑na : Int) != (↑nb : Int))
   (Tree.done (XV.a (AV.c (CV.v (Value.bool false)))) [(Ent.ws oa ra wa), (Ent.ws ob rb wb), Ent.dead, Ent.dead])
   (Tree.both
   (Tree.chk (XV.a (AV.c (iv (0 : Int))) = XV.a (AV.c (iv (0 : Int))))
   (Tree.chk (XV.a (AV.c (CV.ptr { k := 2, j := 0, i := 0, sz := 15, c := 0, d := 0, dn := 0, cu := 0 })) = XV.a (AV.c (CV.ptr { k := 2, j := 0, i := 0, sz := 15, c := 0, d := 0, dn := 0, cu := 0 })))
   (Tree.chk (XV.a (AV.c (CV.ptr { k := 3, j := 0, i := 0, sz := 15, c := 0, d := 0, dn := 0, cu := 0 })) = XV.a (AV.c (CV.ptr { k := 3, j := 0, i := 0, sz := 15, c := 0, d := 0, dn := 0, cu := 0 })))
   (Tree.chk (EntRel 4 [0, 1, 2, 3] 4 (Ent.ws oa ra wa) (Ent.ws oa ra wa))
   (Tree.chk (EntRel 4 [0, 1, 2, 3] 4 (Ent.ws ob rb wb) (Ent.ws ob rb wb))
   (Tree.chk (EntRel 4 [0, 1, 2, 3] 4 (Ent.mkBox 25 [iv x.1, iv x.2, iv x.3, iv x.4, iv x.5, iv x.6, iv x.7, iv x.8, iv x.9, iv x.10, iv x.11, iv x.12, CV.sl 0 0 la 2 na ca, iv x.13, iv x.14]) (Ent.mkBox 25 [iv x.1, iv x.2, iv x.3, iv x.4, iv x.5, iv x.6, iv x.7, iv x.8, iv x.9, iv x.10, iv x.11, iv x.12, CV.sl 0 0 la 2 na ca, iv x.13, iv x.14]))
   (Tree.chk (EntRel 4 [0, 1, 2, 3] 4 (Ent.mkBox 25 [iv y.1, iv y.2, iv y.3, iv y.4, iv y.5, iv y.6, iv y.7, iv y.8, iv y.9, iv y.10, iv y.11, iv y.12, CV.sl 1 0 lb 2 nb cb, iv y.13, iv y.14]) (Ent.mkBox 25 [iv y.1, iv y.2, iv y.3, iv y.4, iv y.5, iv y.6, iv y.7, iv y.8, iv y.9, iv y.10, iv y.11, iv y.12, CV.sl 1 0 lb 2 nb cb, iv y.13, iv y.14]))
   (Tree.need True))))))))
   (Tree.every { i // sameP wa wb la lb na i } fun s => Tree.br (decide ((↑(Subtype.val s) : Int) < (↑na : Int)))
   (Tree.chk ((0 : Int) ≤ (↑(Subtype.val s) : Int) ∧ (↑(Subtype.val s) : Int) < (↑na : Int) ∧ Nat.rec (Int.toNat (↑(Subtype.val s) : Int)) (fun n n_ih => n + 1 + Int.toNat (↑(Subtype.val s) : Int)) la < List.length wa ∧ 0 < 1)
   (Tree.chk (0 < 1 ∧ Nat.rec (Int.toNat (↑(Subtype.val s) : Int)) (fun n n_ih => n + 1 + Int.toNat (↑(Subtype.val s) : Int)) la < List.length wa)
   (Tree.chk ((0 : Int) ≤ (↑(Subtype.val s) : Int) ∧ (↑(Subtype.val s) : Int) < (↑nb : Int) ∧ Nat.rec (Int.toNat (↑(Subtype.val s) : Int)) (fun n n_ih => n + 1 + Int.toNat (↑(Subtype.val s) : Int)) lb < List.length wb ∧ 0 < 1)
   (Tree.chk (0 < 1 ∧ Nat.rec (Int.toNat (↑(Subtype.val s) : Int)) (fun n n_ih => n + 1 + Int.toNat (↑(Subtype.val s) : Int)) lb < List.length wb)
   (Tree.br (!(Prod.fst (List.getD wa (Nat.rec (Int.toNat (↑(Subtype.val s) : Int)) (fun n n_ih => n + (1 : Nat) + Int.toNat (↑(Subtype.val s) : Int)) la) ((0 : Int), (0 : Int))) == Prod.fst (List.getD wb (Nat.rec (Int.toNat (↑(Subtype.val s) : Int)) (fun n n_ih => n + (1 : Nat) + Int.toNat (↑(Subtype.val s) : Int)) lb) ((0 : Int), (0 : Int))) && Prod.snd (List.getD wa (Nat.rec (Int.toNat (↑(Subtype.val s) : Int)) (fun n n_ih => n + (1 : Nat) + Int.toNat (↑(Subtype.val s) : Int)) la) ((0 : Int), (0 : Int))) == Prod.snd (List.getD wb (Nat.rec (Int.toNat (↑(Subtype.val s) : Int)) (fun n n_ih => n + (1 : Nat) + Int.toNat (↑(Subtype.val s) : Int)) lb) ((0 : Int), (0 : Int)))))
   (Tree.done (XV.a (AV.c (CV.v (Value.bool false)))) [(Ent.ws oa ra wa), (Ent.ws ob rb wb), Ent.dead, Ent.dead])
   (Tree.some_ { i // sameP wa wb la lb na i } fun s' => Tree.chk (na - Subtype.val s' < na - Subtype.val s)
   (Tree.chk (XV.a (AV.c (iv (IntKind.wrap IntKind.i64 ((↑(Subtype.val s) : Int) + (1 : Int))))) = XV.a (AV.c (iv (↑(Subtype.val s') : Int))))
   (Tree.chk (XV.a (AV.c (CV.ptr { k := (2 : Nat), j := (0 : Nat), i := (0 : Nat), sz := (15 : Nat), c := (0 : Nat), d := (0 : Nat), dn := (0 : Nat), cu := (0 : Nat) })) = XV.a (AV.c (CV.ptr { k := (2 : Nat), j := (0 : Nat), i := (0 : Nat), sz := (15 : Nat), c := (0 : Nat), d := (0 : Nat), dn := (0 : Nat), cu := (0 : Nat) })))
   (Tree.chk (XV.a (AV.c (CV.ptr { k := (3 : Nat), j := (0 : Nat), i := (0 : Nat), sz := (15 : Nat), c := (0 : Nat), d := (0 : Nat), dn := (0 : Nat), cu := (0 : Nat) })) = XV.a (AV.c (CV.ptr { k := (3 : Nat), j := (0 : Nat), i := (0 : Nat), sz := (15 : Nat), c := (0 : Nat), d := (0 : Nat), dn := (0 : Nat), cu := (0 : Nat) })))
   (Tree.chk (EntRel 4 [0, 1, 2, 3] 4 { own := oa, box := false, ty := (37 : Nat), sz := 2, m := 1, n := fun x => List.length wa, cap := fun x => ra, f := fun x i => [iv (Prod.fst (List.getD wa i ((0 : Int), (0 : Int)))), iv (Prod.snd (List.getD wa i ((0 : Int), (0 : Int))))], ov := [] } { own := oa, box := false, ty := (37 : Nat), sz := 2, m := 1, n := fun x => List.length wa, cap := fun x => ra, f := fun x i => [iv (Prod.fst (List.getD wa i ((0 : Int), (0 : Int)))), iv (Prod.snd (List.getD wa i ((0 : Int), (0 : Int))))], ov := [] })
   (Tree.chk (EntRel 4 [0, 1, 2, 3] 4 { own := ob, box := false, ty := (37 : Nat), sz := (2 : Nat), m := (1 : Nat), n := fun x => List.length wb, cap := fun x => rb, f := fun x i => [iv (Prod.fst (List.getD wb i ((0 : Int), (0 : Int)))), iv (Prod.snd (List.getD wb i ((0 : Int), (0 : Int))))], ov := [] } { own := ob, box := false, ty := (37 : Nat), sz := (2 : Nat), m := (1 : Nat), n := fun x => List.length wb, cap := fun x => rb, f := fun x i => [iv (Prod.fst (List.getD wb i ((0 : Int), (0 : Int)))), iv (Prod.snd (List.getD wb i ((0 : Int), (0 : Int))))], ov := [] })
   (Tree.chk (EntRel 4 [(0 : Nat), (1 : Nat), (2 : Nat), (3 : Nat)] 4 { own := true, box := true, ty := (25 : Nat), sz := (15 : Nat), m := (1 : Nat), n := fun x => (1 : Nat), cap := fun x => (1 : Nat), f := fun x_1 x_2 => [iv x.1, iv x.2, iv x.3, iv x.4, iv x.5, iv x.6, iv x.7, iv x.8, iv x.9, iv x.10, iv x.11, iv x.12, CV.sl (0 : Nat) (0 : Nat) la (2 : Nat) na ca, iv x.13, iv x.14], ov := [] } { own := true, box := true, ty := (25 : Nat), sz := (15 : Nat), m := (1 : Nat), n := fun x => (1 : Nat), cap := fun x => (1 : Nat), f := fun x_1 x_2 => [iv x.1, iv x.2, iv x.3, iv x.4, iv x.5, iv x.6, iv x.7, iv x.8, iv x.9, iv x.10, iv x.11, iv x.12, CV.sl (0 : Nat) (0 : Nat) la (2 : Nat) na ca, iv x.13, iv x.14], ov := [] })
   (Tree.chk (EntRel (4 : Nat) [(0 : Nat), (1 : Nat), (2 : Nat), (3 : Nat)] (4 : Nat) { own := true, box := true, ty := (25 : Nat), sz := (15 : Nat), m := (1 : Nat), n := fun x => (1 : Nat), cap := fun x => (1 : Nat), f := fun x x_1 => [iv y.1, iv y.2, iv y.3, iv y.4, iv y.5, iv y.6, iv y.7, iv y.8, iv y.9, iv y.10, iv y.11, iv y.12, CV.sl (1 : Nat) (0 : Nat) lb (2 : Nat) nb cb, iv y.13, iv y.14], ov := [] } { own := true, box := true, ty := (25 : Nat), sz := (15 : Nat), m := (1 : Nat), n := fun x => (1 : Nat), cap := fun x => (1 : Nat), f := fun x x_1 => [iv y.1, iv y.2, iv y.3, iv y.4, iv y.5, iv y.6, iv y.7, iv y.8, iv y.9, iv y.10, iv y.11, iv y.12, CV.sl (1 : Nat) (0 : Nat) lb (2 : Nat) nb cb, iv y.13, iv y.14], ov := [] })
   (Tree.need True))))))))))))))
   (Tree.done (XV.a (AV.c (CV.v (Value.bool true)))) [(Ent.ws oa ra wa), (Ent.ws ob rb wb), Ent.dead, Ent.dead]))))))))))))))))))))))))))))))))))))))))
theorem tsame_eq (x y : Thg) (wa wb : List Wt) (oa ob : Bool) (la na ca ra lb nb cb rb : Nat) : xfunc tab noCtr (lpI fun _ tm H => (sameInv x y wa wb oa ob la na ca ra lb nb cb rb)) Go.Proofs.Try.f12 [x.av 0 la na ca, y.av 1 lb nb cb] [Ent.ws oa ra wa, Ent.ws ob rb wb] [0, 1] = tsame x y wa wb oa ob la na ca ra lb nb cb rb := by kernel_rfl
end Go.Proofs.Ytnenbngjdekegaa.X

/- The model: are two things the same, proved. -/
set_option linter.unusedVariables false
set_option linter.unusedSimpArgs false
namespace Go.Proofs.Ytnenbngjdekegaa.X
open Go Go.RowKit Go.Proofs.YtnenbngjdekegaaW.PrintWords Go.Proofs.Ytnenbngjdekegaa.Base
def thgEq (x y : Thg) : Bool := x.kd == y.kd && (x.n == y.n && (x.o == y.o && (x.h == y.h && (x.r0 == y.r0 && (x.r1 == y.r1 && (x.r2 == y.r2 && (x.r3 == y.r3 && (x.r4 == y.r4 && (x.r5 == y.r5 && (x.r6 == y.r6 && (x.r7 == y.r7 && (x.f == y.f && x.i == y.i))))))))))))
theorem thgEq_iff {x y : Thg} : thgEq x y = true ↔ x = y := by
  cases x; cases y
  simp [thgEq]
def sameF (x y : Thg) (wa wb : List Wt) : Bool := thgEq x y && decide (wa = wb)
theorem sameF_iff {x y : Thg} {wa wb : List Wt} : sameF x y wa wb = true ↔ x = y ∧ wa = wb := by simp [sameF, thgEq_iff]
def eq2C (x y : Thg) (wa wb : List Wt) (oa ob : Bool) (la na ca ra lb nb cb rb : Nat) (ρ : List Nat) : CallSpec := rdSpec ρ [x.av 0 la na ca, y.av 1 lb nb cb] [Ent.ws oa ra wa, Ent.ws ob rb wb] (.a (.c (.v (.bool (sameF x y (wsub wa la na) (wsub wb lb nb))))))
theorem wt_ext {wa wb : List Wt} (hl : wa.length = wb.length) (h : ∀ i, i < wa.length → wa.getD i (0, 0) = wb.getD i (0, 0)) : wa = wb := by
  refine List.ext_getElem hl fun i h1 h2 => ?_
  have := h i h1
  simpa [List.getD_eq_getElem?_getD, h1, h2] using this
theorem eq2_local (x y : Thg) (wa wb : List Wt) (oa ob : Bool) (la na ca ra lb nb cb rb : Nat) (ρ : List Nat) (ha : la + na ≤ wa.length) (hb : lb + nb ≤ wb.length) (hl : na ≤ 1000000) : (eq2C x y wa wb oa ob la na ca ra lb nb cb rb ρ).Local Try.prog 12 := by
  refine local_of Try.func12 rfl (tsame_eq x y wa wb oa ob la na ca ra lb nb cb rb) fun ν w => ?_
  have la' := wsub_length wa ha
  have lb' := wsub_length wb hb
  repeat (refine ok_chk' (fun h => h) ?_)
  repeat' first | refine ok_chk' (fun h => h) ?_ | refine ok_chk' (fun h => by rw [h]; try rfl) ?_
  refine ok_br' (fun h => ?_) fun h => ?_
  · refine ok_leaf (fun _ => 0) [] [0, 1] trivial ?_ ⟨⟨_, rfl, EntRel.ws⟩, ⟨_, rfl, EntRel.ws⟩, trivial⟩ rfl
    show XV.a (.c (.v (.bool false))) = .a (.c (.v (.bool (sameF x y (wsub wa la na) (wsub wb lb nb)))))
    cases hs : sameF x y (wsub wa la na) (wsub wb lb nb) with
    | false => rfl
    | true =>
      obtain ⟨rfl, hw⟩ := sameF_iff.1 hs
      have hn := congrArg List.length hw
      rw [la', lb'] at hn
      subst hn
      simp at h
  · obtain ⟨rfl, rfl⟩ : x = y ∧ na = nb := by
      cases x; cases y
      simp at h
      simp_all
      omega
    refine ok_both' ?_ (ok_every' fun s => ?_)
    · repeat' first | exact rfl | exact EntRel.ws | exact EntRel.box' rfl rfl rfl rfl rfl | exact trivial | refine ok_chk' ?_ ?_
    · obtain ⟨i, hi, hs⟩ := s
      refine ok_br' (fun h2 => ?_) fun h2 => ?_
      · have h2 : decide ((i : Int) < (na : Int)) = true := h2
        have h2 : i < na := by simp only [decide_eq_true_eq] at h2; omega
        simp only [rec_plus, plus_eq, Int.toNat_natCast]
        refine ok_chk' ⟨by omega, by omega, by omega, by omega⟩ (ok_chk' ⟨by omega, by omega⟩ (ok_chk' ⟨by omega, by omega, by omega, by omega⟩ (ok_chk' ⟨by omega, by omega⟩ (ok_br' (fun h3 => ?_) fun h3 => ?_))))
        · refine ok_leaf (fun _ => 0) [] [0, 1] trivial ?_ ⟨⟨_, rfl, EntRel.ws⟩, ⟨_, rfl, EntRel.ws⟩, trivial⟩ rfl
          show XV.a (.c (.v (.bool false))) = .a (.c (.v (.bool (sameF x x (wsub wa la na) (wsub wb lb na)))))
          cases hs2 : sameF x x (wsub wa la na) (wsub wb lb na) with
          | false => rfl
          | true =>
            have hw := (sameF_iff.1 hs2).2
            have e1 := wsub_get wa (lo := la) h2
            have e2 := wsub_get wb (lo := lb) h2
            rw [hw, e2] at e1
            rw [← e1] at h3
            simp at h3
        · refine ok_some' ⟨i + 1, h2, fun j hj => ?_⟩ (ok_chk' (Nat.sub_lt_sub_left h2 (Nat.lt_succ_self _)) (ok_chk' ?_ ?_))
          · by_cases hji : j = i
            · subst hji
              simp only [Bool.not_eq_false', Bool.and_eq_true, beq_iff_eq] at h3
              exact Prod.ext h3.1 h3.2
            · exact hs j (by omega)
          · (rw [wrap64 (by omega) (by omega)]; try rfl)
          · repeat' first | exact rfl | exact EntRel.ws | exact EntRel.box' rfl rfl rfl rfl rfl | exact trivial | refine ok_chk' ?_ ?_
      · have h2 : decide ((i : Int) < (na : Int)) = false := h2
        have h2 : i = na := by simp only [decide_eq_false_iff_not] at h2; omega
        subst h2
        refine ok_leaf (fun _ => 0) [] [0, 1] trivial ?_ ⟨⟨_, rfl, EntRel.ws⟩, ⟨_, rfl, EntRel.ws⟩, trivial⟩ rfl
        show XV.a (.c (.v (.bool true))) = .a (.c (.v (.bool (sameF x x (wsub wa la i) (wsub wb lb i)))))
        rw [sameF_iff.2 ⟨rfl, wt_ext (by rw [la', lb']) fun j hj => ?_⟩]
        rw [la'] at hj
        rw [wsub_get wa hj, wsub_get wb hj]
        exact hs j hj
end Go.Proofs.Ytnenbngjdekegaa.X

