/- A symbolic run of functions' texts, proved, and what it tells of the functions that the law MicroOne reaches; no conditions. -/
import Derived.Test.YtehecaipmdfjmaaKMicroOne2
set_option linter.unusedVariables false
set_option linter.unusedSimpArgs false
namespace Go.Proofs.Ytehecaipmdfjmaa.X.Mi
open Go Go.RowKit Go.Proofs.YtehecaipmdfjmaaW.PrintWords Go.Proofs.Ytehecaipmdfjmaa.Base Go.Proofs.Ytehecaipmdfjmaa.X
def cap3 (a b c : Nat) : Nat → Nat := fun j => bif Nat.beq j 0 then a else bif Nat.beq j 1 then b else c
theorem accF_nF (m : Mc) (x : In) (q : Nat) : (accF m x q).1.nF = m.nF ∧ (accF m x q).1.cF = m.cF := by
  unfold accF
  cases hereF m.ar (accAt m x q) <;> cases (x.op == 5) <;> cases (x.op == 6) <;> exact ⟨rfl, rfl⟩
theorem plainF_nF (m : Mc) (x : In) (q : Nat) : (plainF m x q).1.nF = m.nF ∧ (plainF m x q).1.cF = m.cF := by
  unfold plainF
  repeat' first | exact ⟨rfl, rfl⟩ | (rw [cond_eq_ite]; split)
theorem one_acc_call : Callable Try.prog 33 := ⟨_, Try.func33, by kernel_rfl, rfl⟩
theorem one_plain_call : Callable Try.prog 37 := ⟨_, Try.func37, by kernel_rfl, rfl⟩
theorem one_frames_call : Callable Try.prog 35 := ⟨_, Try.func35, by kernel_rfl, rfl⟩
theorem one_jumps_call : Callable Try.prog 34 := ⟨_, Try.func34, by kernel_rfl, rfl⟩
theorem access_call : Callable Try.prog 25 := ⟨_, Try.func25, by kernel_rfl, rfl⟩
theorem park_call : Callable Try.prog 36 := ⟨_, Try.func36, by kernel_rfl, rfl⟩
structure Mc.Ok (m : Mc) : Prop where
  n1 : 1 ≤ m.nF
  n2 : m.nF ≤ 16
  c : m.nF ≤ m.cF
  ar : m.ar.Ok
theorem access_of {x : In} (h : accessF x = true) : 5 ≤ x.op ∧ x.op ≤ 7 := by
  unfold accessF at h
  cases h1 : decide (x.op ≥ 5) with
  | true => rw [h1, cond_true] at h; simp at h1 h; omega
  | false => rw [h1, cond_false] at h; cases h
set_option maxHeartbeats 4000000 in
theorem one_local (m m' : Mc) (how : Int) (d : Cd) (x : In) (ρ : List Nat) (k : Nat) (hx : InOk x) (hm : m.Ok) (hn : m.nN ≤ 1000) (h : oneF m x = (m', how)) : (oneC m m' how d x ρ k).Local Try.prog 26 := by
  have h1 := hm.n1; have h2 := hm.n2; have h3 := hm.c
  have w1 : IntKind.wrap .i64 ((m.nF : Int) - 1) = (m.nF : Int) - 1 := wrap64 (by omega) (by omega)
  have w2 : ((m.nF : Int) - 1).toNat = m.nF - 1 := by omega
  have wlt : (IntKind.wrap .i64 ((m.nF : Int) - 1)).toNat < m.nF := by rw [w1, w2]; omega
  have htl : topF m < m.nF := wlt
  refine local_of Try.func26 rfl (tone_eq m d x) fun ν w => ?_
  refine ok_chk' ⟨by rw [w1]; omega, by rw [w1]; omega, wlt, Nat.one_pos⟩ (ok_callf' access_call (fits_of rfl rfl trivial fun c _ => ⟨⟨Nat.le_refl _, rfl⟩, ⟨rfl, rfl⟩, trivial⟩) (access_local x) fun c _ => ok_br' (fun c1 => ?_) fun c1 => ?_)
  · have ho := access_of c1
    obtain ⟨n1, n2⟩ := accF_nF m x (topF m)
    refine ok_some' (accF m x (topF m)) (ok_callf' one_acc_call (fits_of rfl rfl ⟨⟨_, rfl, EntRel.box' rfl rfl rfl rfl rfl⟩, ⟨_, rfl, EntRel.rw rfl rfl (fun _ _ => rfl) fun _ _ => rfl⟩, ⟨_, rfl, EntRel.box' rfl rfl rfl rfl rfl⟩, ⟨_, rfl, EntRel.rw rfl rfl (fun _ _ => rfl) fun _ _ => rfl⟩, ⟨_, rfl, EntRel.box' rfl rfl rfl rfl rfl⟩, ⟨_, rfl, EntRel.rw rfl rfl (fun _ _ => rfl) fun _ _ => rfl⟩, ⟨_, rfl, EntRel.rw rfl rfl (fun _ _ => rfl) fun _ _ => rfl⟩, ⟨_, rfl, EntRel.rw rfl rfl (fun _ _ => rfl) fun _ _ => rfl⟩, trivial⟩ fun c _ => ⟨⟨Nat.le_refl _, rfl⟩, ⟨rfl, rfl⟩, ⟨⟨EntRel.box' rfl rfl rfl rfl rfl, rfl, (fun _ => ⟨rfl, rfl⟩), .inr rfl⟩, ⟨EntRel.rw rfl rfl (fun _ _ => rfl) fun _ _ => rfl, rfl, (fun h => by cases h), .inr rfl⟩, ⟨EntRel.box' rfl rfl rfl rfl rfl, rfl, (fun _ => ⟨rfl, rfl⟩), .inr rfl⟩, ⟨EntRel.rw rfl rfl (fun _ _ => rfl) fun _ _ => rfl, rfl, (fun h => by cases h), .inr rfl⟩, ⟨EntRel.box' rfl rfl rfl rfl rfl, rfl, (fun _ => ⟨rfl, rfl⟩), .inr rfl⟩, ⟨EntRel.rw rfl rfl (fun _ _ => rfl) fun _ _ => rfl, rfl, (fun h => by cases h), .inr rfl⟩, ⟨EntRel.rw rfl rfl (fun _ _ => rfl) fun _ _ => rfl, rfl, (fun h => by cases h), .inr rfl⟩, ⟨EntRel.rw rfl rfl (fun _ _ => rfl) fun _ _ => rfl, rfl, (fun h => by cases h), .inr rfl⟩, trivial⟩⟩) (acc_local m _ _ d x (topF m) hx ho htl rfl) fun c _ => ok_br' (fun c2 => ?_) fun c2 => ?_)
    · have c2 : (accF m x (topF m)).2 = false := by simpa using c2
      (simp only [oneF, *, cond_true, cond_false] at h; obtain ⟨rfl, rfl⟩ := Prod.mk.inj h)
      exact ok_leaf2 (cap3 (accF m x (topF m)).1.ar.cap (accF m x (topF m)).1.cF (accF m x (topF m)).1.cN) [] [0, 1, 2, 3, 4, 5, 6, 7, 3, 6, 7] (show (accF m x (topF m)).1.nF ≤ (accF m x (topF m)).1.cF by omega) rfl ⟨.inr ⟨_, rfl, EntRel.box' rfl rfl rfl rfl rfl⟩, .inr ⟨_, rfl, EntRel.rw rfl rfl (fun _ _ => rfl) fun _ _ => rfl⟩, .inr ⟨_, rfl, EntRel.box' rfl rfl rfl rfl rfl⟩, .inl rfl, .inr ⟨_, rfl, EntRel.box' rfl rfl rfl rfl rfl⟩, .inr ⟨_, rfl, EntRel.rw rfl rfl (fun _ _ => rfl) fun _ _ => rfl⟩, .inl rfl, .inl rfl, .inr ⟨_, rfl, EntRel.rw rfl rfl (fun _ _ => rfl) fun _ _ => rfl⟩, .inr ⟨_, rfl, EntRel.rw rfl rfl (fun _ _ => rfl) fun _ _ => rfl⟩, .inr ⟨_, rfl, EntRel.rw rfl rfl (fun _ _ => rfl) fun _ _ => rfl⟩, trivial⟩ rfl
    · have c2 : (accF m x (topF m)).2 = true := by simpa using c2
      refine ok_chk' ⟨Nat.one_pos, by rw [n1]; exact wlt⟩ (ok_chk' ⟨Nat.one_pos, by rw [n1]; exact wlt⟩ ?_)
      (simp only [oneF, *, cond_true, cond_false] at h; obtain ⟨rfl, rfl⟩ := Prod.mk.inj h)
      exact ok_leaf2 (cap3 (accF m x (topF m)).1.ar.cap (accF m x (topF m)).1.cF (accF m x (topF m)).1.cN) [] [0, 1, 2, 3, 4, 5, 6, 7, 3, 6, 7] (show (accF m x (topF m)).1.nF ≤ (accF m x (topF m)).1.cF by omega) rfl ⟨.inr ⟨_, rfl, EntRel.box' rfl rfl rfl rfl rfl⟩, .inr ⟨_, rfl, EntRel.rw rfl rfl (fun _ _ => rfl) fun _ _ => rfl⟩, .inr ⟨_, rfl, EntRel.box' rfl rfl rfl rfl rfl⟩, .inl rfl, .inr ⟨_, rfl, EntRel.box' rfl rfl rfl rfl rfl⟩, .inr ⟨_, rfl, EntRel.rw rfl rfl (fun _ _ => rfl) fun _ _ => rfl⟩, .inl rfl, .inl rfl, .inr ⟨_, rfl, EntRel.rw rfl rfl (fun _ _ => rfl) fun _ _ => rfl⟩, .inr ⟨_, rfl, EntRel.ovs rfl rfl (fun i _ => ov_mc rfl rfl fun i hi => by first | rfl | simp [ovAt, hi]) fun _ => rfl⟩, .inr ⟨_, rfl, EntRel.rw rfl rfl (fun _ _ => rfl) fun _ _ => rfl⟩, trivial⟩ rfl
  · repeat refine ok_chk' (fun h => h) ?_
    refine ok_br' (fun c2 => ?_) fun c2 => ?_
    · have c2 : jmpF x = true := c2
      refine ok_callf' one_jumps_call (fits_of rfl rfl ⟨⟨_, rfl, EntRel.rw rfl rfl (fun _ _ => rfl) fun _ _ => rfl⟩, trivial⟩ fun c _ => ⟨⟨Nat.le_refl _, rfl⟩, ⟨rfl, rfl⟩, ⟨⟨EntRel.rw rfl rfl (fun _ _ => rfl) fun _ _ => rfl, rfl, (fun h => by cases h), .inr rfl⟩, trivial⟩⟩) (jumps_local m.nF m.cF (topF m) m.F x hx htl) fun c _ => ok_br' (fun c3 => ?_) fun c3 => ?_
      · have c3 : jumpsF (m.F (topF m)) x = true := c3
        refine ok_chk' ⟨Nat.one_pos, wlt⟩ ?_
        (simp only [oneF, *, cond_true, cond_false] at h; obtain ⟨rfl, rfl⟩ := Prod.mk.inj h)
        exact ok_leaf2 (cap3 m.ar.cap m.cF m.cN) [] [0, 1, 2, 3, 4, 5, 6, 7, 3, 6, 7] (show m.nF ≤ m.cF by omega) rfl ⟨.inr ⟨_, rfl, EntRel.box' rfl rfl rfl rfl rfl⟩, .inr ⟨_, rfl, EntRel.rw rfl rfl (fun _ _ => rfl) fun _ _ => rfl⟩, .inr ⟨_, rfl, EntRel.box' rfl rfl rfl rfl rfl⟩, .inl rfl, .inr ⟨_, rfl, EntRel.box' rfl rfl rfl rfl rfl⟩, .inr ⟨_, rfl, EntRel.rw rfl rfl (fun _ _ => rfl) fun _ _ => rfl⟩, .inl rfl, .inl rfl, .inr ⟨_, rfl, EntRel.rw rfl rfl (fun _ _ => rfl) fun _ _ => rfl⟩, .inr ⟨_, rfl, EntRel.ovs rfl rfl (fun i _ => ov_mc rfl rfl fun i hi => by first | rfl | simp [ovAt, hi]) fun _ => rfl⟩, .inr ⟨_, rfl, EntRel.rw rfl rfl (fun _ _ => rfl) fun _ _ => rfl⟩, trivial⟩ rfl
      · have c3 : jumpsF (m.F (topF m)) x = false := c3
        refine ok_br' (fun h => by cases h) fun _ => ok_chk' ⟨Nat.one_pos, wlt⟩ (ok_chk' ⟨Nat.one_pos, wlt⟩ ?_)
        (simp only [oneF, *, cond_true, cond_false] at h; obtain ⟨rfl, rfl⟩ := Prod.mk.inj h)
        exact ok_leaf2 (cap3 m.ar.cap m.cF m.cN) [] [0, 1, 2, 3, 4, 5, 6, 7, 3, 6, 7] (show m.nF ≤ m.cF by omega) rfl ⟨.inr ⟨_, rfl, EntRel.box' rfl rfl rfl rfl rfl⟩, .inr ⟨_, rfl, EntRel.rw rfl rfl (fun _ _ => rfl) fun _ _ => rfl⟩, .inr ⟨_, rfl, EntRel.box' rfl rfl rfl rfl rfl⟩, .inl rfl, .inr ⟨_, rfl, EntRel.box' rfl rfl rfl rfl rfl⟩, .inr ⟨_, rfl, EntRel.rw rfl rfl (fun _ _ => rfl) fun _ _ => rfl⟩, .inl rfl, .inl rfl, .inr ⟨_, rfl, EntRel.rw rfl rfl (fun _ _ => rfl) fun _ _ => rfl⟩, .inr ⟨_, rfl, EntRel.ovs rfl rfl (fun i _ => ov_mc rfl rfl fun i hi => by first | rfl | simp [ovAt, hi]) fun _ => rfl⟩, .inr ⟨_, rfl, EntRel.rw rfl rfl (fun _ _ => rfl) fun _ _ => rfl⟩, trivial⟩ rfl
    · have c2 : jmpF x = false := c2
      refine ok_chk' (fun h => h) (ok_chk' (fun h => h) (ok_chk' (fun h => by rw [h]; rfl) (ok_br' (fun c3 => ?_) fun c3 => ?_)))
      · have c3 : frmF x = true := c3
        refine ok_some' (framesF m x) (ok_callf' one_frames_call (fits_of rfl rfl ⟨⟨_, rfl, EntRel.box' rfl rfl rfl rfl rfl⟩, ⟨_, rfl, EntRel.rw rfl rfl (fun _ _ => rfl) fun _ _ => rfl⟩, ⟨_, rfl, EntRel.box' rfl rfl rfl rfl rfl⟩, ⟨_, rfl, EntRel.rw rfl rfl (fun _ _ => rfl) fun _ _ => rfl⟩, ⟨_, rfl, EntRel.box' rfl rfl rfl rfl rfl⟩, ⟨_, rfl, EntRel.rw rfl rfl (fun _ _ => rfl) fun _ _ => rfl⟩, ⟨_, rfl, EntRel.rw rfl rfl (fun _ _ => rfl) fun _ _ => rfl⟩, ⟨_, rfl, EntRel.rw rfl rfl (fun _ _ => rfl) fun _ _ => rfl⟩, trivial⟩ fun c _ => ⟨⟨(by show 8 ≤ 9; decide), rfl⟩, ⟨rfl, rfl⟩, ⟨⟨EntRel.box' rfl rfl rfl rfl rfl, rfl, (fun _ => ⟨rfl, rfl⟩), .inr rfl⟩, ⟨EntRel.rw rfl rfl (fun _ _ => rfl) fun _ _ => rfl, rfl, (fun h => by cases h), .inr rfl⟩, ⟨EntRel.box' rfl rfl rfl rfl rfl, rfl, (fun _ => ⟨rfl, rfl⟩), .inr rfl⟩, ⟨EntRel.rw rfl rfl (fun _ _ => rfl) fun _ _ => rfl, rfl, (fun h => by cases h), .inr rfl⟩, ⟨EntRel.box' rfl rfl rfl rfl rfl, rfl, (fun _ => ⟨rfl, rfl⟩), .inr rfl⟩, ⟨EntRel.rw rfl rfl (fun _ _ => rfl) fun _ _ => rfl, rfl, (fun h => by cases h), .inr rfl⟩, ⟨EntRel.dead, rfl, (fun h => by cases h), .inr rfl⟩, ⟨EntRel.rw rfl rfl (fun _ _ => rfl) fun _ _ => rfl, rfl, (fun h => by cases h), .inr rfl⟩, ⟨EntRel.rw rfl rfl (fun _ _ => rfl) fun _ _ => rfl, rfl, (fun h => by cases h), .inr rfl⟩, trivial⟩⟩) (frames_local m _ _ d x _ h1 h2 h3 rfl) fun c hc => ok_br' (fun c4 => ?_) fun c4 => ?_)
        · have c4 : (framesF m x).2 = true := c4
          (simp only [oneF, *, cond_true, cond_false] at h; obtain ⟨rfl, rfl⟩ := Prod.mk.inj h)
          exact ok_leaf2 (cap3 (framesF m x).1.ar.cap (c 0) (framesF m x).1.cN) [] [0, 1, 2, 3, 4, 5, 6, 7, 3, 9, 7] hc rfl ⟨.inr ⟨_, rfl, EntRel.box' rfl rfl rfl rfl rfl⟩, .inr ⟨_, rfl, EntRel.rw rfl rfl (fun _ _ => rfl) fun _ _ => rfl⟩, .inr ⟨_, rfl, EntRel.box' rfl rfl rfl rfl rfl⟩, .inl rfl, .inr ⟨_, rfl, EntRel.box' rfl rfl rfl rfl rfl⟩, .inr ⟨_, rfl, EntRel.rw rfl rfl (fun _ _ => rfl) fun _ _ => rfl⟩, .inl rfl, .inl rfl, .inr ⟨_, rfl, EntRel.rw rfl rfl (fun _ _ => rfl) fun _ _ => rfl⟩, .inr ⟨_, rfl, EntRel.rw rfl rfl (fun _ _ => rfl) fun _ _ => rfl⟩, .inr ⟨_, rfl, EntRel.rw rfl rfl (fun _ _ => rfl) fun _ _ => rfl⟩, trivial⟩ rfl
        · have c4 : (framesF m x).2 = false := c4
          refine ok_br' (fun _ => ?_) fun h => by cases h
          (simp only [oneF, *, cond_true, cond_false] at h; obtain ⟨rfl, rfl⟩ := Prod.mk.inj h)
          exact ok_leaf2 (cap3 (framesF m x).1.ar.cap (c 0) (framesF m x).1.cN) [] [0, 1, 2, 3, 4, 5, 6, 7, 3, 9, 7] hc rfl ⟨.inr ⟨_, rfl, EntRel.box' rfl rfl rfl rfl rfl⟩, .inr ⟨_, rfl, EntRel.rw rfl rfl (fun _ _ => rfl) fun _ _ => rfl⟩, .inr ⟨_, rfl, EntRel.box' rfl rfl rfl rfl rfl⟩, .inl rfl, .inr ⟨_, rfl, EntRel.box' rfl rfl rfl rfl rfl⟩, .inr ⟨_, rfl, EntRel.rw rfl rfl (fun _ _ => rfl) fun _ _ => rfl⟩, .inl rfl, .inl rfl, .inr ⟨_, rfl, EntRel.rw rfl rfl (fun _ _ => rfl) fun _ _ => rfl⟩, .inr ⟨_, rfl, EntRel.rw rfl rfl (fun _ _ => rfl) fun _ _ => rfl⟩, .inr ⟨_, rfl, EntRel.rw rfl rfl (fun _ _ => rfl) fun _ _ => rfl⟩, trivial⟩ rfl
      · have c3 : frmF x = false := c3
        have ra : List.getD (rl fun k => (m.F (IntKind.wrap .i64 ((m.nF : Int) - 1)).toNat).r k) x.a.toNat 0 = (m.F (IntKind.wrap .i64 ((m.nF : Int) - 1)).toNat).r x.a.toNat := rl_get (by have := hx.a1; omega)
        have h5 := hx.a0; have h6 := hx.a1
        simp only [ra]
        refine ok_br' (fun c4 => ?_) fun c4 => ok_br' (fun c5 => ?_) fun c5 => ?_
        · repeat refine ok_chk' (by first | rfl | exact fun h => h | omega | exact ⟨rfl, rfl⟩ | exact ⟨trivial, trivial⟩ | assumption | (simp_all; done)) ?_
          clear ra
          (simp only [oneF, *, cond_true, cond_false] at h; obtain ⟨rfl, rfl⟩ := Prod.mk.inj h)
          exact ok_leaf2 (cap3 m.ar.cap m.cF m.cN) [] [0, 1, 2, 3, 4, 5, 6, 7, 3, 6, 7] (show m.nF ≤ m.cF by omega) rfl ⟨.inr ⟨_, rfl, EntRel.box' rfl rfl rfl rfl rfl⟩, .inr ⟨_, rfl, EntRel.rw rfl rfl (fun _ _ => rfl) fun _ _ => rfl⟩, .inr ⟨_, rfl, EntRel.box' rfl rfl rfl rfl rfl⟩, .inl rfl, .inr ⟨_, rfl, EntRel.box' rfl rfl rfl rfl rfl⟩, .inr ⟨_, rfl, EntRel.rw rfl rfl (fun _ _ => rfl) fun _ _ => rfl⟩, .inl rfl, .inl rfl, .inr ⟨_, rfl, EntRel.rw rfl rfl (fun _ _ => rfl) fun _ _ => rfl⟩, .inr ⟨_, rfl, EntRel.ovs rfl rfl (fun i _ => ov_mc rfl rfl fun i hi => by first | rfl | simp [ovAt, hi]) fun _ => rfl⟩, .inr ⟨_, rfl, EntRel.rw rfl rfl (fun _ _ => rfl) fun _ _ => rfl⟩, trivial⟩ rfl
        · repeat refine ok_chk' (by first | rfl | exact fun h => h | omega | exact ⟨rfl, rfl⟩ | exact ⟨trivial, trivial⟩ | assumption | (simp_all; done)) ?_
          clear ra
          refine ok_br' (fun c6 => ok_br' (fun c7 => ?_) fun c7 => ?_) fun c6 => ?_
          · have c7 : mayPF m.tb m.i (m.reg (topF m) x.a) = true := c7
            refine ok_callf' park_call (fits_of rfl rfl ⟨⟨_, rfl, EntRel.box' rfl rfl rfl rfl rfl⟩, ⟨_, rfl, EntRel.rw rfl rfl (fun _ _ => rfl) fun _ _ => rfl⟩, trivial⟩ fun c _ => ⟨⟨Nat.le_refl _, rfl⟩, ⟨rfl, rfl⟩, ⟨⟨EntRel.box' rfl rfl rfl rfl rfl, rfl, (fun _ => ⟨rfl, rfl⟩), .inr rfl⟩, ⟨EntRel.rw rfl rfl (fun _ _ => rfl) fun _ _ => rfl, rfl, (fun h => by cases h), .inr rfl⟩, trivial⟩⟩) ((park_local m.tb _ _ _).1 c6 c7) fun c _ => ok_br' (fun _ => ?_) fun h => by cases h
            repeat refine ok_chk' (by first | rfl | exact fun h => h | omega | exact ⟨rfl, rfl⟩ | exact ⟨trivial, trivial⟩ | assumption | (simp_all; done)) ?_
            refine ok_br' (fun c8 => ?_) fun c8 => ?_
            · have c8 : waitF m.tb m.i (m.reg (topF m) x.a) = true := c8
              (simp only [oneF, *, cond_true, cond_false] at h; obtain ⟨rfl, rfl⟩ := Prod.mk.inj h)
              exact ok_leaf2 (cap3 m.ar.cap m.cF m.cN) [] [0, 1, 2, 3, 4, 5, 6, 7, 3, 6, 7] (show m.nF ≤ m.cF by omega) rfl ⟨.inr ⟨_, rfl, EntRel.box' rfl rfl rfl rfl rfl⟩, .inr ⟨_, rfl, EntRel.rw rfl rfl (fun _ _ => rfl) fun _ _ => rfl⟩, .inr ⟨_, rfl, EntRel.box' rfl rfl rfl rfl rfl⟩, .inl rfl, .inr ⟨_, rfl, EntRel.box' rfl rfl rfl rfl rfl⟩, .inr ⟨_, rfl, EntRel.rw rfl rfl (fun _ _ => rfl) fun _ _ => rfl⟩, .inl rfl, .inl rfl, .inr ⟨_, rfl, EntRel.rw rfl rfl (fun _ _ => rfl) fun _ _ => rfl⟩, .inr ⟨_, rfl, EntRel.ovs rfl rfl (fun i _ => ov_mc rfl rfl fun i hi => by first | rfl | simp [ovAt, hi]) fun _ => rfl⟩, .inr ⟨_, rfl, EntRel.rw rfl rfl (fun _ _ => rfl) fun _ _ => rfl⟩, trivial⟩ rfl
            · have c8 : waitF m.tb m.i (m.reg (topF m) x.a) = false := c8
              (simp only [oneF, *, cond_true, cond_false] at h; obtain ⟨rfl, rfl⟩ := Prod.mk.inj h)
              exact ok_leaf2 (cap3 m.ar.cap m.cF m.cN) [] [0, 1, 2, 3, 4, 5, 6, 7, 3, 6, 7] (show m.nF ≤ m.cF by omega) rfl ⟨.inr ⟨_, rfl, EntRel.box' rfl rfl rfl rfl rfl⟩, .inr ⟨_, rfl, EntRel.rw rfl rfl (fun _ _ => rfl) fun _ _ => rfl⟩, .inr ⟨_, rfl, EntRel.box' rfl rfl rfl rfl rfl⟩, .inl rfl, .inr ⟨_, rfl, EntRel.box' rfl rfl rfl rfl rfl⟩, .inr ⟨_, rfl, EntRel.rw rfl rfl (fun _ _ => rfl) fun _ _ => rfl⟩, .inl rfl, .inl rfl, .inr ⟨_, rfl, EntRel.rw rfl rfl (fun _ _ => rfl) fun _ _ => rfl⟩, .inr ⟨_, rfl, EntRel.ovs rfl rfl (fun i _ => ov_mc rfl rfl fun i hi => by first | rfl | simp [ovAt, hi]) fun _ => rfl⟩, .inr ⟨_, rfl, EntRel.rw rfl rfl (fun _ _ => rfl) fun _ _ => rfl⟩, trivial⟩ rfl
          · have c7 : mayPF m.tb m.i (m.reg (topF m) x.a) = false := c7
            refine ok_callf' park_call (fits_of rfl rfl ⟨⟨_, rfl, EntRel.box' rfl rfl rfl rfl rfl⟩, ⟨_, rfl, EntRel.rw rfl rfl (fun _ _ => rfl) fun _ _ => rfl⟩, trivial⟩ fun c _ => ⟨⟨Nat.le_refl _, rfl⟩, ⟨rfl, rfl⟩, ⟨⟨EntRel.box' rfl rfl rfl rfl rfl, rfl, (fun _ => ⟨rfl, rfl⟩), .inr rfl⟩, ⟨EntRel.rw rfl rfl (fun _ _ => rfl) fun _ _ => rfl, rfl, (fun h => by cases h), .inr rfl⟩, trivial⟩⟩) ((park_local m.tb _ _ _).2.1 c6 c7) fun c _ => ok_br' (fun h => by cases h) fun _ => ok_br' (fun _ => ?_) fun h => by cases h
            (simp only [oneF, *, cond_true, cond_false] at h; obtain ⟨rfl, rfl⟩ := Prod.mk.inj h)
            exact ok_leaf2 (cap3 m.ar.cap m.cF m.cN) [] [0, 1, 2, 3, 4, 5, 6, 7, 3, 6, 7] (show m.nF ≤ m.cF by omega) rfl ⟨.inr ⟨_, rfl, EntRel.box' rfl rfl rfl rfl rfl⟩, .inr ⟨_, rfl, EntRel.rw rfl rfl (fun _ _ => rfl) fun _ _ => rfl⟩, .inr ⟨_, rfl, EntRel.box' rfl rfl rfl rfl rfl⟩, .inl rfl, .inr ⟨_, rfl, EntRel.box' rfl rfl rfl rfl rfl⟩, .inr ⟨_, rfl, EntRel.rw rfl rfl (fun _ _ => rfl) fun _ _ => rfl⟩, .inl rfl, .inl rfl, .inr ⟨_, rfl, EntRel.rw rfl rfl (fun _ _ => rfl) fun _ _ => rfl⟩, .inr ⟨_, rfl, EntRel.rw rfl rfl (fun _ _ => rfl) fun _ _ => rfl⟩, .inr ⟨_, rfl, EntRel.rw rfl rfl (fun _ _ => rfl) fun _ _ => rfl⟩, trivial⟩ rfl
          · refine ok_callf' park_call (fits_of rfl rfl ⟨⟨_, rfl, EntRel.box' rfl rfl rfl rfl rfl⟩, ⟨_, rfl, EntRel.rw rfl rfl (fun _ _ => rfl) fun _ _ => rfl⟩, trivial⟩ fun c _ => ⟨⟨Nat.le_refl _, rfl⟩, ⟨rfl, rfl⟩, ⟨⟨EntRel.box' rfl rfl rfl rfl rfl, rfl, (fun _ => ⟨rfl, rfl⟩), .inr rfl⟩, ⟨EntRel.rw rfl rfl (fun _ _ => rfl) fun _ _ => rfl, rfl, (fun h => by cases h), .inr rfl⟩, trivial⟩⟩) ((park_local m.tb _ _ _).2.2 c6) fun c _ => ok_br' (fun h => by cases h) fun _ => ok_br' (fun _ => ?_) fun h => by cases h
            (simp only [oneF, *, cond_true, cond_false] at h; obtain ⟨rfl, rfl⟩ := Prod.mk.inj h)
            exact ok_leaf2 (cap3 m.ar.cap m.cF m.cN) [] [0, 1, 2, 3, 4, 5, 6, 7, 3, 6, 7] (show m.nF ≤ m.cF by omega) rfl ⟨.inr ⟨_, rfl, EntRel.box' rfl rfl rfl rfl rfl⟩, .inr ⟨_, rfl, EntRel.rw rfl rfl (fun _ _ => rfl) fun _ _ => rfl⟩, .inr ⟨_, rfl, EntRel.box' rfl rfl rfl rfl rfl⟩, .inl rfl, .inr ⟨_, rfl, EntRel.box' rfl rfl rfl rfl rfl⟩, .inr ⟨_, rfl, EntRel.rw rfl rfl (fun _ _ => rfl) fun _ _ => rfl⟩, .inl rfl, .inl rfl, .inr ⟨_, rfl, EntRel.rw rfl rfl (fun _ _ => rfl) fun _ _ => rfl⟩, .inr ⟨_, rfl, EntRel.rw rfl rfl (fun _ _ => rfl) fun _ _ => rfl⟩, .inr ⟨_, rfl, EntRel.rw rfl rfl (fun _ _ => rfl) fun _ _ => rfl⟩, trivial⟩ rfl
        · clear ra
          obtain ⟨n1, n2⟩ := plainF_nF m x (topF m)
          refine ok_some' (plainF m x (topF m)) (ok_callf' one_plain_call (fits_of rfl rfl ⟨⟨_, rfl, EntRel.box' rfl rfl rfl rfl rfl⟩, ⟨_, rfl, EntRel.rw rfl rfl (fun _ _ => rfl) fun _ _ => rfl⟩, ⟨_, rfl, EntRel.box' rfl rfl rfl rfl rfl⟩, ⟨_, rfl, EntRel.rw rfl rfl (fun _ _ => rfl) fun _ _ => rfl⟩, ⟨_, rfl, EntRel.box' rfl rfl rfl rfl rfl⟩, ⟨_, rfl, EntRel.rw rfl rfl (fun _ _ => rfl) fun _ _ => rfl⟩, ⟨_, rfl, EntRel.rw rfl rfl (fun _ _ => rfl) fun _ _ => rfl⟩, ⟨_, rfl, EntRel.rw rfl rfl (fun _ _ => rfl) fun _ _ => rfl⟩, trivial⟩ fun c _ => ⟨⟨(by show 8 ≤ 10; decide), rfl⟩, ⟨rfl, rfl⟩, ⟨⟨EntRel.box' rfl rfl rfl rfl rfl, rfl, (fun _ => ⟨rfl, rfl⟩), .inr rfl⟩, ⟨EntRel.rw rfl rfl (fun _ _ => rfl) fun _ _ => rfl, rfl, (fun h => by cases h), .inr rfl⟩, ⟨EntRel.box' rfl rfl rfl rfl rfl, rfl, (fun _ => ⟨rfl, rfl⟩), .inr rfl⟩, ⟨EntRel.dead, rfl, (fun h => by cases h), .inr rfl⟩, ⟨EntRel.box' rfl rfl rfl rfl rfl, rfl, (fun _ => ⟨rfl, rfl⟩), .inr rfl⟩, ⟨EntRel.rw rfl rfl (fun _ _ => rfl) fun _ _ => rfl, rfl, (fun h => by cases h), .inr rfl⟩, ⟨EntRel.rw rfl rfl (fun _ _ => rfl) fun _ _ => rfl, rfl, (fun h => by cases h), .inr rfl⟩, ⟨EntRel.dead, rfl, (fun h => by cases h), .inr rfl⟩, ⟨EntRel.rw rfl rfl (fun _ _ => rfl) fun _ _ => rfl, rfl, (fun h => by cases h), .inr rfl⟩, ⟨EntRel.rw rfl rfl (fun _ _ => rfl) fun _ _ => rfl, rfl, (fun h => by cases h), .inr rfl⟩, trivial⟩⟩) (plain_local m _ _ d x (topF m) _ hx htl hm.ar hn rfl) fun c _ => ok_br' (fun c6 => ?_) fun c6 => ?_)
          · have c6 : (plainF m x (topF m)).2 = false := by simpa using c6
            (simp only [oneF, *, cond_true, cond_false] at h; obtain ⟨rfl, rfl⟩ := Prod.mk.inj h)
            exact ok_leaf2 (cap3 (c 0) (plainF m x (topF m)).1.cF (c 1)) [] [0, 1, 2, 3, 4, 5, 6, 7, 9, 6, 10] (show (plainF m x (topF m)).1.nF ≤ (plainF m x (topF m)).1.cF by omega) rfl ⟨.inr ⟨_, rfl, EntRel.box' rfl rfl rfl rfl rfl⟩, .inr ⟨_, rfl, EntRel.rw rfl rfl (fun _ _ => rfl) fun _ _ => rfl⟩, .inr ⟨_, rfl, EntRel.box' rfl rfl rfl rfl rfl⟩, .inl rfl, .inr ⟨_, rfl, EntRel.box' rfl rfl rfl rfl rfl⟩, .inr ⟨_, rfl, EntRel.rw rfl rfl (fun _ _ => rfl) fun _ _ => rfl⟩, .inl rfl, .inl rfl, .inr ⟨_, rfl, EntRel.rw rfl rfl (fun _ _ => rfl) fun _ _ => rfl⟩, .inr ⟨_, rfl, EntRel.rw rfl rfl (fun _ _ => rfl) fun _ _ => rfl⟩, .inr ⟨_, rfl, EntRel.rw rfl rfl (fun _ _ => rfl) fun _ _ => rfl⟩, trivial⟩ rfl
          · have c6 : (plainF m x (topF m)).2 = true := by simpa using c6
            refine ok_chk' ⟨Nat.one_pos, by rw [n1]; exact wlt⟩ (ok_chk' ⟨Nat.one_pos, by rw [n1]; exact wlt⟩ ?_)
            (simp only [oneF, *, cond_true, cond_false] at h; obtain ⟨rfl, rfl⟩ := Prod.mk.inj h)
            exact ok_leaf2 (cap3 (c 0) (plainF m x (topF m)).1.cF (c 1)) [] [0, 1, 2, 3, 4, 5, 6, 7, 9, 6, 10] (show (plainF m x (topF m)).1.nF ≤ (plainF m x (topF m)).1.cF by omega) rfl ⟨.inr ⟨_, rfl, EntRel.box' rfl rfl rfl rfl rfl⟩, .inr ⟨_, rfl, EntRel.rw rfl rfl (fun _ _ => rfl) fun _ _ => rfl⟩, .inr ⟨_, rfl, EntRel.box' rfl rfl rfl rfl rfl⟩, .inl rfl, .inr ⟨_, rfl, EntRel.box' rfl rfl rfl rfl rfl⟩, .inr ⟨_, rfl, EntRel.rw rfl rfl (fun _ _ => rfl) fun _ _ => rfl⟩, .inl rfl, .inl rfl, .inr ⟨_, rfl, EntRel.rw rfl rfl (fun _ _ => rfl) fun _ _ => rfl⟩, .inr ⟨_, rfl, EntRel.ovs rfl rfl (fun i _ => ov_mc rfl rfl fun i hi => by first | rfl | simp [ovAt, hi]) fun _ => rfl⟩, .inr ⟨_, rfl, EntRel.rw rfl rfl (fun _ _ => rfl) fun _ _ => rfl⟩, trivial⟩ rfl
end Go.Proofs.Ytehecaipmdfjmaa.X.Mi

set_option linter.unusedVariables false
set_option linter.unusedSimpArgs false
namespace Go.Proofs.Ytehecaipmdfjmaa.X.Mi
open Go Go.RowKit Go.Proofs.YtehecaipmdfjmaaW.PrintWords Go.Proofs.Ytehecaipmdfjmaa.Base Go.Proofs.Ytehecaipmdfjmaa.X
abbrev fcloneC (own : Bool) (n cap : Nat) (F : Nat → Fr) (ρ : List Nat) (k : Nat) : CallSpec := mSpec ρ k [.c (.sl 0 0 0 17 n cap)] [frow own n cap F] (fitsC n) (fun c => .a (.c (.sl 1 0 0 17 n (c 0)))) fun c => [frow own n cap F, frow true n (c 0) F]
abbrev icloneC (a : Ar) (ρ : List Nat) (k : Nat) : CallSpec := mSpec ρ k [.c (.sl 0 0 0 1 a.n a.cap)] [a.row] (fitsC a.n) (fun c => .a (.c (.sl 1 0 0 1 a.n (c 0)))) fun c => [a.row, ({ a with cap := c 0 } : Ar).row]
abbrev pcloneC (t : Tb) (ρ : List Nat) (k : Nat) : CallSpec := mSpec ρ k [.c (.sl 0 0 0 4 t.n t.cap)] [t.row] (fitsC t.n) (fun c => .a (.c (.sl 1 0 0 4 t.n (c 0)))) fun c => [t.row, ({ t with cap := c 0 } : Tb).row]
def tfclone (own : Bool) (n cap : Nat) (F : Nat → Fr) : Tree :=
  Tree.chk (0 < 1)
   (Tree.every Bool fun b => Tree.br (!(b && Nat.blt 0 n))
   (Tree.br b
   (Tree.done (XV.a (AV.c (CV.v (Value.slice none 0 0)))) [(Ent.rw own 66 17 n cap fun ii => (Fr.cv (F ii)))])
   (Tree.chk ((0 + n) * 136 ≤ 140737488355328)
   (Tree.chk (0 < 1 ∧ 0 + n ≤ n)
   (Tree.chk (0 = 0 ∧ 0 = 0)
   (Tree.all (fun c => 0 + n ≤ c 0 ∧ c 0 ≤ maxLen) fun c => Tree.done (XV.a (AV.c (CV.sl 2 0 0 17 (0 + n) (c 0)))) [(Ent.rw own 66 17 n cap fun ii => (Fr.cv (F ii))), Ent.dead, (Ent.rw true 66 17 (0 + n) (c 0) fun ii => (Fr.cv (F (ii - 0))))])))))
   (Tree.need True))
theorem tfclone_eq (own : Bool) (n cap : Nat) (F : Nat → Fr) : xfunc tab noCtr noInv Go.Proofs.Try.f23 [.c (.sl 0 0 0 17 n cap)] [frow own n cap F] [0, 1, 2, 3] = tfclone own n cap F := by kernel_rfl
def ticlone (a : Ar) : Tree :=
  Tree.chk (0 < 1)
   (Tree.every Bool fun b => Tree.br (!(b && Nat.blt 0 a.1))
   (Tree.br b
   (Tree.done (XV.a (AV.c (CV.v (Value.slice none 0 0)))) [(Ar.row a)])
   (Tree.chk ((0 + a.1) * 8 ≤ 140737488355328)
   (Tree.chk (0 < 1 ∧ 0 + a.1 ≤ a.1)
   (Tree.chk (0 = 0 ∧ 0 = 0)
   (Tree.all (fun c => 0 + a.1 ≤ c 0 ∧ c 0 ≤ maxLen) fun c => Tree.done (XV.a (AV.c (CV.sl 2 0 0 1 (0 + a.1) (c 0)))) [(Ar.row a), Ent.dead, (Ent.rw true 2 1 (0 + a.1) (c 0) fun ii => [iv (a.3 (ii - 0))])])))))
   (Tree.need True))
theorem ticlone_eq (a : Ar) : xfunc tab noCtr noInv Go.Proofs.Try.f28 [.c (.sl 0 0 0 1 a.n a.cap)] [a.row] [0, 1, 2, 3] = ticlone a := by kernel_rfl
def inF (n : Int) : Bool := bif decide (n ≥ 0) then decide (n < 16) else false
def useF (op : Int) : Bool × Bool × Bool × Nat :=
  bif op == 1 then (true, false, false, 1) else bif op == 2 then (true, true, false, 0) else bif op == 3 then (true, true, true, 0)
  else bif op == 4 || op == 5 || op == 6 || op == 7 then (true, true, false, 1)
  else bif op == 8 then (false, false, false, 2) else bif op == 9 || op == 10 || op == 11 then (true, true, false, 2)
  else bif op == 12 then (false, false, false, 2) else bif op == 13 then (false, false, false, 0)
  else bif op == 14 || op == 15 then (true, false, false, 0) else bif op == 16 then (true, false, false, 1)
  else bif op == 17 || op == 18 || op == 19 then (true, false, false, 0) else bif op == 20 then (false, false, false, 0)
  else bif op == 21 then (true, false, false, 1) else (true, false, false, 0)
def mayF (x : In) : Bool :=
  decide (1 ≤ x.op) && decide (x.op ≤ 22) && !(x.op == 7 && decide (x.a > 13)) && inF x.a && inF x.b && inF x.c &&
  ((useF x.op).1 || x.a == 0) && ((useF x.op).2.1 || x.b == 0) && ((useF x.op).2.2.1 || x.c == 0) &&
  (match (useF x.op).2.2.2 with | 0 => x.n == 0 | 1 => decide (-999999999999999999 ≤ x.n) && decide (x.n ≤ 999999999999999999) | _ => true)
abbrev mayC (x : In) : CallSpec := mSpec [] 0 [x.av] [] (fun _ => True) (fun _ => bool (mayF x)) fun _ => []
def codeF (m : Mc) (d : Cd) : In := d.I ((m.F (topF m)).at_).toNat
def stopF (m : Mc) (d : Cd) (n : Nat) : Bool :=
  bif (bif (bif decide ((m.F (topF m)).at_ < 0) then true else decide ((m.F (topF m)).at_ ≥ (d.n : Int))) then true else decide ((n : Int) ≥ 200)) then true else !(mayF (codeF m d))
def stepF (d : Cd) : Nat → Nat → Mc → Mc × Int × Int
  | 0, n, m => (m, 3, 0)
  | f + 1, n, m => bif stopF m d n then (m, 3, 0) else bif (bif decide ((n : Int) > 0) then accessF (codeF m d) else false) then (m, 0, 0) else
    bif (oneF m (codeF m d)).2 == 0 then stepF d f (n + 1) (oneF m (codeF m d)).1 else ((oneF m (codeF m d)).1, (bif (oneF m (codeF m d)).2 == -1 then 0 else (oneF m (codeF m d)).2), (oneF m (codeF m d)).1.v)
def Mc.caps (m : Mc) (a f n : Nat) : Mc := { m with ar := { m.ar with cap := a }, cF := f, cN := n }
def rest (d : Cd) (n : Nat) (m : Mc) : Mc × Int × Int := ((stepF d (201 - n) n m).1.caps 0 0 0, (stepF d (201 - n) n m).2)
def startM (m : Mc) (cF : Nat) : Mc := { m with cF := cF, nN := 0, cN := 0, v := 0 }
def runF (d : Cd) (m : Mc) : Mc × Int × Int := rest d 0 (startM m 0)
def canF (m : Mc) : Bool := bif (bif (m.nF : Int) == 0 then true else decide ((m.nF : Int) > 16)) then false else bif hasF m.tb m.i then !(m.tb.P m.i.toNat).b else false
def Mid (d : Cd) (m0 : Mc) (n : Nat) (m : Mc) : Prop := canF m0 = true ∧ m.Ok ∧ m.i = m0.i ∧ m.nN ≤ n ∧ n ≤ 200 ∧ rest d n m = runF d m0
abbrev MidT (d : Cd) (m0 : Mc) : Type := { s : Nat × Mc // Mid d m0 s.1 s.2 }
abbrev stepS (m : Mc) (d : Cd) (m0 : Mc) (ol : Bool) : Hp := [d.row, m.ar.box 9, Ent.dead, m.tb.box 4, m.tb.row, frow ol m0.nF m0.cF m0.F, Ent.dead, Ent.dead, m.box d 0 1 3 10 11, m.ar.row, frow true m.nF m.cF m.F, nrow true m.nN m.cN m.N]
def putAll : Tm → Tm → Tm
  | [], tm => tm
  | (u, x) :: r, tm => (putAll r tm).put (some u) x
def stepL (d : Cd) (m0 : Mc) (ol : Bool) (tm : Tm) : LoopInv :=
  ⟨MidT d m0, fun s => (putAll [(18, ia s.1.1), (17, .a (bptr 8 7))] tm, stepS s.1.2 d m0 ol), fun s => 201 - s.1.1, none, [(80, 2)], .l [], [], fun _ H => bif Nat.beq H.length 9 then Rm.of [0, 1, 2, 3, 4, 5, 6, 7, 8, 2, 7, 9] 10 else Rm.of [0, 1, 2, 3, 4, 5, 6, 7, 8, 12, 13, 14] 15⟩
def stepG (t : Tb) (d : Cd) (ol : Bool) (n cap : Nat) (F : Nat → Fr) : Ctr := fun f args H => match args with
  | [.agg l] => bif Nat.beq f 24 then some (mayC (inOf l)) else some (accessC (inOf l))
  | [.c (.sl k _ _ _ _ _)] => some (fcloneC ol n cap F [k] H.length)
  | [.c (.ptr r), .c (.v (.int _ i))] => some (atG t i [r.k, slAt H r.k 0])
  | [.c (.ptr r), .agg l] => some (.ex (Mc × Mc × Int) fun s => oneC s.1 s.2.1 s.2.2 d (inOf l) [8, 0, 1, 9, 3, 4, 10, 11] H.length)
  | _ => none
abbrev stepArgs (m : Mc) (d : Cd) : List AV := [.c (.sl 0 0 0 5 d.n d.cap), bptr 1 2, bptr 3 2, iav m.i, .c (.sl 5 0 0 17 m.nF m.cF)]
abbrev stepH (m : Mc) (d : Cd) (ol : Bool) : Hp := [d.row, m.ar.box 2, m.ar.row, m.tb.box 4, m.tb.row, frow ol m.nF m.cF m.F]
def tstep (m : Mc) (d : Cd) (ol : Bool) : Tree :=
  Tree.both
   (Tree.chk (true = true → true = true)
   (Tree.chk (false = false → true = true)
   (Tree.chk (true = true → true = true)
   (Tree.chk (true = true → true = true)
   (Tree.chk (false = false → true = true)
   (Tree.chk ((!bif bif false then true else false then true else (↑(Mc.nF m) : Int) == (0 : Int)) = true → (!bif bif false then true else false then true else (↑(Mc.nF m) : Int) == (0 : Int)) = true)
   (Tree.chk ((!bif bif false then true else false then true else (↑(Mc.nF m) : Int) == (0 : Int)) = true → (!bif bif false then true else false then true else (↑(Mc.nF m) : Int) == (0 : Int)) = true)
   (Tree.chk ((bif bif false then true else false then true else (↑(Mc.nF m) : Int) == (0 : Int)) = false → (!bif bif false then true else false then true else (↑(Mc.nF m) : Int) == (0 : Int)) = true)
   (Tree.br (bif bif bif false then true else false then true else (↑(Mc.nF m) : Int) == (0 : Int) then true else decide ((↑(Mc.nF m) : Int) > (16 : Int)))
   (Tree.done (XV.tup [AV.c (CV.v (Value.slice none 0 0)), AV.c (CV.v (Value.slice none 0 0)), AV.c (iv (0 : Int)), AV.c (iv (0 : Int)), AV.c (CV.v (Value.iface 36 (Value.int IntKind.i64 (1 : Int))))]) [(Cd.row d), (Ar.box m.1 2), (Ar.row m.1), (Tb.box m.2 4), (Tb.row m.2), (frow ol (Mc.nF m) (Mc.cF m) (Mc.F m))])
   (Tree.br (hasF m.2 m.3)
   (Tree.callf 22 [AV.c (CV.ptr ⟨3, 0, 0, 2, 0, 0, 0, 0⟩), AV.c (iv m.3)] [(Cd.row d), (Ar.box m.1 2), (Ar.row m.1), (Tb.box m.2 4), (Tb.row m.2), (frow ol (Mc.nF m) (Mc.cF m) (Mc.F m))] (tbC m.2 m.2 [AV.c (iv m.3)] (XV.tup [AV.agg [CV.v (Value.bool (m.2.3 (Int.toNat m.3)).1), CV.v (Value.bool (m.2.3 (Int.toNat m.3)).2), CV.v (Value.bool (m.2.3 (Int.toNat m.3)).3), iv (m.2.3 (Int.toNat m.3)).4], AV.c (CV.v Value.nilIface)]) [3, 4]) fun c => Tree.chk (true = true → true = true)
   (Tree.chk (false = false → true = true)
   (Tree.br (bif !true then true else (m.2.3 (Int.toNat m.3)).3)
   (Tree.done (XV.tup [AV.c (CV.v (Value.slice none 0 0)), AV.c (CV.v (Value.slice none 0 0)), AV.c (iv (0 : Int)), AV.c (iv (0 : Int)), AV.c (CV.v (Value.iface 36 (Value.int IntKind.i64 (1 : Int))))]) [(Cd.row d), (Ar.box m.1 2), (Ar.row m.1), (Tb.box m.2 4), (Tb.row m.2), (frow ol (Mc.nF m) (Mc.cF m) (Mc.F m)), (Ent.mkBox 59 [CV.v (Value.bool (m.2.3 (Int.toNat m.3)).1), CV.v (Value.bool (m.2.3 (Int.toNat m.3)).2), CV.v (Value.bool (m.2.3 (Int.toNat m.3)).3), iv (m.2.3 (Int.toNat m.3)).4])])
   (Tree.callf 23 [AV.c (CV.sl 5 0 0 17 (Mc.nF m) (Mc.cF m))] [(Cd.row d), (Ar.box m.1 2), (Ar.row m.1), (Tb.box m.2 4), (Tb.row m.2), (frow ol (Mc.nF m) (Mc.cF m) (Mc.F m)), (Ent.mkBox 59 [CV.v (Value.bool (m.2.3 (Int.toNat m.3)).1), CV.v (Value.bool (m.2.3 (Int.toNat m.3)).2), CV.v (Value.bool (m.2.3 (Int.toNat m.3)).3), iv (m.2.3 (Int.toNat m.3)).4])] (fcloneC ol (Mc.nF m) (Mc.cF m) (fun a => Mc.F m a) [5] 7) fun c => Tree.some_ { s // Mid d m (Prod.fst s) (Prod.snd s) } fun s => Tree.chk (XV.a (AV.c (iv (0 : Int))) = XV.a (AV.c (iv (↑(Prod.fst (Subtype.val s)) : Int))))
   (Tree.chk (XV.a (AV.c (CV.ptr ⟨8, 0, 0, 7, 0, 0, 0, 0⟩)) = XV.a (AV.c (CV.ptr ⟨8, 0, 0, 7, 0, 0, 0, 0⟩)))
   (Tree.chk (XV.a (AV.c (CV.v Value.nilIface)) = XV.a (AV.c (CV.v Value.nilIface)))
   (Tree.chk (XV.a (AV.c (iv (0 : Int))) = XV.a (AV.c (iv (0 : Int))))
   (Tree.chk (XV.a (AV.c (iv (0 : Int))) = XV.a (AV.c (iv (0 : Int))))
   (Tree.chk (XV.a (AV.c (CV.v (Value.slice none 0 0))) = XV.a (AV.c (CV.v (Value.slice none 0 0))))
   (Tree.chk (XV.a (AV.c (CV.v (Value.slice none 0 0))) = XV.a (AV.c (CV.v (Value.slice none 0 0))))
   (Tree.chk (XV.a (AV.c (CV.sl 0 0 0 5 d.2 d.3)) = XV.a (AV.c (CV.sl 0 0 0 5 d.2 d.3)))
   (Tree.chk (XV.a (AV.c (CV.ptr ⟨1, 0, 0, 2, 0, 0, 0, 0⟩)) = XV.a (AV.c (CV.ptr ⟨1, 0, 0, 2, 0, 0, 0, 0⟩)))
   (Tree.chk (XV.a (AV.c (CV.ptr ⟨3, 0, 0, 2, 0, 0, 0, 0⟩)) = XV.a (AV.c (CV.ptr ⟨3, 0, 0, 2, 0, 0, 0, 0⟩)))
   (Tree.chk (XV.a (AV.c (iv m.3)) = XV.a (AV.c (iv m.3)))
   (Tree.chk (XV.a (AV.c (CV.sl 5 0 0 17 (Mc.nF m) (Mc.cF m))) = XV.a (AV.c (CV.sl 5 0 0 17 (Mc.nF m) (Mc.cF m))))
   (Tree.chk (RnOk 6 12 10 fun a a_1 => (List.getD [0, 1, 2, 3, 4, 5, 6, 7, 8, 2, 7, 9] a 0, a_1))
   (Tree.chk (RgAll 9 (fun a a_1 => (List.getD [0, 1, 2, 3, 4, 5, 6, 7, 8, 2, 7, 9] a 0, a_1)) (fun a a_1 => (List.getD [0, 1, 9, 3, 4, 5, 6, 10, 8, 11] a 0, a_1)) [(Cd.row d), (Ar.box m.1 2), (Ar.row m.1), (Tb.box m.2 4), (Tb.row m.2), (frow ol (Mc.nF m) (Mc.cF m) (Mc.F m)), (Ent.mkBox 59 [CV.v (Value.bool (m.2.3 (Int.toNat m.3)).1), CV.v (Value.bool (m.2.3 (Int.toNat m.3)).2), CV.v (Value.bool (m.2.3 (Int.toNat m.3)).3), iv (m.2.3 (Int.toNat m.3)).4]), (frow true (Mc.nF m) (c 0) (Mc.F m)), (Ent.mkBox 68 [CV.sl 0 0 0 5 d.2 d.3, CV.ptr ⟨1, 0, 0, 2, 0, 0, 0, 0⟩, CV.ptr ⟨3, 0, 0, 2, 0, 0, 0, 0⟩, iv m.3, CV.sl 7 0 0 17 (Mc.nF m) (c 0), CV.v (Value.slice none 0 0), iv (0 : Int)]), (Ent.rw true 80 2 0 0 fun ii => [])] 12 0 [(Cd.row d), (Ent.mkBox 72 [CV.sl 9 0 0 1 (Prod.snd (Subtype.val s)).1.1 (Prod.snd (Subtype.val s)).1.2, iv (Prod.snd (Subtype.val s)).1.4]), Ent.dead, (Ent.mkBox 78 [CV.sl 4 0 0 4 (Prod.snd (Subtype.val s)).2.1 (Prod.snd (Subtype.val s)).2.2, iv (Prod.snd (Subtype.val s)).2.4]), (Ent.rw true 59 4 (Prod.snd (Subtype.val s)).2.1 (Prod.snd (Subtype.val s)).2.2 fun ii => [CV.v (Value.bool ((Prod.snd (Subtype.val s)).2.3 ii).1), CV.v (Value.bool ((Prod.snd (Subtype.val s)).2.3 ii).2), CV.v (Value.bool ((Prod.snd (Subtype.val s)).2.3 ii).3), iv ((Prod.snd (Subtype.val s)).2.3 ii).4]), (frow ol (Mc.nF m) (Mc.cF m) (Mc.F m)), Ent.dead, Ent.dead, (Ent.mkBox 68 [CV.sl 0 0 0 5 d.2 d.3, CV.ptr ⟨1, 0, 0, 2, 0, 0, 0, 0⟩, CV.ptr ⟨3, 0, 0, 2, 0, 0, 0, 0⟩, iv (Prod.snd (Subtype.val s)).3, CV.sl 10 0 0 17 (Mc.nF (Prod.snd (Subtype.val s))) (Mc.cF (Prod.snd (Subtype.val s))), CV.sl 11 0 0 2 (Prod.snd (Subtype.val s)).8 (Prod.snd (Subtype.val s)).9, iv (Prod.snd (Subtype.val s)).4]), (Ent.rw true 2 1 (Prod.snd (Subtype.val s)).1.1 (Prod.snd (Subtype.val s)).1.2 fun ii => [iv ((Prod.snd (Subtype.val s)).1.3 ii)]), (Ent.rw true 66 17 (Mc.nF (Prod.snd (Subtype.val s))) (Mc.cF (Prod.snd (Subtype.val s))) fun ii => (Fr.cv (Mc.F (Prod.snd (Subtype.val s)) ii))), (Ent.rw true 80 2 (Prod.snd (Subtype.val s)).8 (Prod.snd (Subtype.val s)).9 fun ii => [iv (Prod.fst ((Prod.snd (Subtype.val s)).10 ii)), iv (Prod.snd ((Prod.snd (Subtype.val s)).10 ii))])])
   (Tree.need True))))))))))))))))))
   (Tree.callf 22 [AV.c (CV.ptr ⟨3, 0, 0, 2, 0, 0, 0, 0⟩), AV.c (iv m.3)] [(Cd.row d), (Ar.box m.1 2), (Ar.row m.1), (Tb.box m.2 4), (Tb.row m.2), (frow ol (Mc.nF m) (Mc.cF m) (Mc.F m))] (tbC m.2 m.2 [AV.c (iv m.3)] (XV.tup [AV.agg [CV.v (Value.bool false), CV.v (Value.bool false), CV.v (Value.bool false), iv (0 : Int)], AV.c (CV.v (Value.iface 36 (Value.int IntKind.i64 (4 : Int))))]) [3, 4]) fun c => Tree.chk (false = true → false = true)
   (Tree.chk (true = false → false = true)
   (Tree.br true
   (Tree.done (XV.tup [AV.c (CV.v (Value.slice none 0 0)), AV.c (CV.v (Value.slice none 0 0)), AV.c (iv (0 : Int)), AV.c (iv (0 : Int)), AV.c (CV.v (Value.iface 36 (Value.int IntKind.i64 (1 : Int))))]) [(Cd.row d), (Ar.box m.1 2), (Ar.row m.1), (Tb.box m.2 4), (Tb.row m.2), (frow ol (Mc.nF m) (Mc.cF m) (Mc.F m)), (Ent.mkBox 59 [CV.v (Value.bool false), CV.v (Value.bool false), CV.v (Value.bool false), iv (0 : Int)])])
   (Tree.callf 23 [AV.c (CV.sl 5 0 0 17 (Mc.nF m) (Mc.cF m))] [(Cd.row d), (Ar.box m.1 2), (Ar.row m.1), (Tb.box m.2 4), (Tb.row m.2), (frow ol (Mc.nF m) (Mc.cF m) (Mc.F m)), (Ent.mkBox 59 [CV.v (Value.bool false), CV.v (Value.bool false), CV.v (Value.bool false), iv (0 : Int)])] (fcloneC ol (Mc.nF m) (Mc.cF m) (fun a => Mc.F m a) [5] 7) fun c => Tree.some_ { s // Mid d m (Prod.fst s) (Prod.snd s) } fun s => Tree.chk (XV.a (AV.c (iv (0 : Int))) = XV.a (AV.c (iv (↑(Prod.fst (Subtype.val s)) : Int))))
   (Tree.chk (XV.a (AV.c (CV.ptr ⟨8, 0, 0, 7, 0, 0, 0, 0⟩)) = XV.a (AV.c (CV.ptr ⟨8, 0, 0, 7, 0, 0, 0, 0⟩)))
   (Tree.chk (XV.a (AV.c (CV.v Value.nilIface)) = XV.a (AV.c (CV.v Value.nilIface)))
   (Tree.chk (XV.a (AV.c (iv (0 : Int))) = XV.a (AV.c (iv (0 : Int))))
   (Tree.chk (XV.a (AV.c (iv (0 : Int))) = XV.a (AV.c (iv (0 : Int))))
   (Tree.chk (XV.a (AV.c (CV.v (Value.slice none 0 0))) = XV.a (AV.c (CV.v (Value.slice none 0 0))))
   (Tree.chk (XV.a (AV.c (CV.v (Value.slice none 0 0))) = XV.a (AV.c (CV.v (Value.slice none 0 0))))
   (Tree.chk (XV.a (AV.c (CV.sl 0 0 0 5 d.2 d.3)) = XV.a (AV.c (CV.sl 0 0 0 5 d.2 d.3)))
   (Tree.chk (XV.a (AV.c (CV.ptr ⟨1, 0, 0, 2, 0, 0, 0, 0⟩)) = XV.a (AV.c (CV.ptr ⟨1, 0, 0, 2, 0, 0, 0, 0⟩)))
   (Tree.chk (XV.a (AV.c (CV.ptr ⟨3, 0, 0, 2, 0, 0, 0, 0⟩)) = XV.a (AV.c (CV.ptr ⟨3, 0, 0, 2, 0, 0, 0, 0⟩)))
   (Tree.chk (XV.a (AV.c (iv m.3)) = XV.a (AV.c (iv m.3)))
   (Tree.chk (XV.a (AV.c (CV.sl 5 0 0 17 (Mc.nF m) (Mc.cF m))) = XV.a (AV.c (CV.sl 5 0 0 17 (Mc.nF m) (Mc.cF m))))
   (Tree.chk (RnOk 6 12 10 fun a a_1 => (List.getD [0, 1, 2, 3, 4, 5, 6, 7, 8, 2, 7, 9] a 0, a_1))
   (Tree.chk (RgAll 9 (fun a a_1 => (List.getD [0, 1, 2, 3, 4, 5, 6, 7, 8, 2, 7, 9] a 0, a_1)) (fun a a_1 => (List.getD [0, 1, 9, 3, 4, 5, 6, 10, 8, 11] a 0, a_1)) [(Cd.row d), (Ar.box m.1 2), (Ar.row m.1), (Tb.box m.2 4), (Tb.row m.2), (frow ol (Mc.nF m) (Mc.cF m) (Mc.F m)), (Ent.mkBox 59 [CV.v (Value.bool false), CV.v (Value.bool false), CV.v (Value.bool false), iv (0 : Int)]), (frow true (Mc.nF m) (c 0) (Mc.F m)), (Ent.mkBox 68 [CV.sl 0 0 0 5 d.2 d.3, CV.ptr ⟨1, 0, 0, 2, 0, 0, 0, 0⟩, CV.ptr ⟨3, 0, 0, 2, 0, 0, 0, 0⟩, iv m.3, CV.sl 7 0 0 17 (Mc.nF m) (c 0), CV.v (Value.slice none 0 0), iv (0 : Int)]), (Ent.rw true 80 2 0 0 fun ii => [])] 12 0 [(Cd.row d), (Ent.mkBox 72 [CV.sl 9 0 0 1 (Prod.snd (Subtype.val s)).1.1 (Prod.snd (Subtype.val s)).1.2, iv (Prod.snd (Subtype.val s)).1.4]), Ent.dead, (Ent.mkBox 78 [CV.sl 4 0 0 4 (Prod.snd (Subtype.val s)).2.1 (Prod.snd (Subtype.val s)).2.2, iv (Prod.snd (Subtype.val s)).2.4]), (Ent.rw true 59 4 (Prod.snd (Subtype.val s)).2.1 (Prod.snd (Subtype.val s)).2.2 fun ii => [CV.v (Value.bool ((Prod.snd (Subtype.val s)).2.3 ii).1), CV.v (Value.bool ((Prod.snd (Subtype.val s)).2.3 ii).2), CV.v (Value.bool ((Prod.snd (Subtype.val s)).2.3 ii).3), iv ((Prod.snd (Subtype.val s)).2.3 ii).4]), (frow ol (Mc.nF m) (Mc.cF m) (Mc.F m)), Ent.dead, Ent.dead, (Ent.mkBox 68 [CV.sl 0 0 0 5 d.2 d.3, CV.ptr ⟨1, 0, 0, 2, 0, 0, 0, 0⟩, CV.ptr ⟨3, 0, 0, 2, 0, 0, 0, 0⟩, iv (Prod.snd (Subtype.val s)).3, CV.sl 10 0 0 17 (Mc.nF (Prod.snd (Subtype.val s))) (Mc.cF (Prod.snd (Subtype.val s))), CV.sl 11 0 0 2 (Prod.snd (Subtype.val s)).8 (Prod.snd (Subtype.val s)).9, iv (Prod.snd (Subtype.val s)).4]), (Ent.rw true 2 1 (Prod.snd (Subtype.val s)).1.1 (Prod.snd (Subtype.val s)).1.2 fun ii => [iv ((Prod.snd (Subtype.val s)).1.3 ii)]), (Ent.rw true 66 17 (Mc.nF (Prod.snd (Subtype.val s))) (Mc.cF (Prod.snd (Subtype.val s))) fun ii => (Fr.cv (Mc.F (Prod.snd (Subtype.val s)) ii))), (Ent.rw true 80 2 (Prod.snd (Subtype.val s)).8 (Prod.snd (Subtype.val s)).9 fun ii => [iv (Prod.fst ((Prod.snd (Subtype.val s)).10 ii)), iv (Prod.snd ((Prod.snd (Subtype.val s)).10 ii))])])
   (Tree.need True))))))))))))))))))))))))))))
   (Tree.every { s // Mid d m (Prod.fst s) (Prod.snd s) } fun s => Tree.chk ((0 : Int) ≤ IntKind.wrap IntKind.i64 ((↑(Mc.nF (Prod.snd (Subtype.val s))) : Int) - (1 : Int)) ∧ IntKind.wrap IntKind.i64 ((↑(Mc.nF (Prod.snd (Subtype.val s))) : Int) - (1 : Int)) < (↑(Mc.nF (Prod.snd (Subtype.val s))) : Int) ∧ Int.toNat (IntKind.wrap IntKind.i64 ((↑(Mc.nF (Prod.snd (Subtype.val s))) : Int) - (1 : Int))) < Mc.nF (Prod.snd (Subtype.val s)) ∧ 0 < 1)
   (Tree.chk (0 < 1 ∧ Int.toNat (IntKind.wrap IntKind.i64 ((↑(Mc.nF (Prod.snd (Subtype.val s))) : Int) - (1 : Int))) < Mc.nF (Prod.snd (Subtype.val s)))
   (Tree.chk ((!decide ((Mc.F (Prod.snd (Subtype.val s)) (Int.toNat (IntKind.wrap IntKind.i64 ((↑(Mc.nF (Prod.snd (Subtype.val s))) : Int) - (1 : Int))))).1 < (0 : Int))) = true → (!decide ((Mc.F (Prod.snd (Subtype.val s)) (Int.toNat (IntKind.wrap IntKind.i64 ((↑(Mc.nF (Prod.snd (Subtype.val s))) : Int) - (1 : Int))))).1 < (0 : Int))) = true)
   (Tree.chk ((!decide ((Mc.F (Prod.snd (Subtype.val s)) (Int.toNat (IntKind.wrap IntKind.i64 ((↑(Mc.nF (Prod.snd (Subtype.val s))) : Int) - (1 : Int))))).1 < (0 : Int))) = true → (!decide ((Mc.F (Prod.snd (Subtype.val s)) (Int.toNat (IntKind.wrap IntKind.i64 ((↑(Mc.nF (Prod.snd (Subtype.val s))) : Int) - (1 : Int))))).1 < (0 : Int))) = true)
   (Tree.chk ((!decide ((Mc.F (Prod.snd (Subtype.val s)) (Int.toNat (IntKind.wrap IntKind.i64 ((↑(Mc.nF (Prod.snd (Subtype.val s))) : Int) - (1 : Int))))).1 < (0 : Int))) = true → (!decide ((Mc.F (Prod.snd (Subtype.val s)) (Int.toNat (IntKind.wrap IntKind.i64 ((↑(Mc.nF (Prod.snd (Subtype.val s))) : Int) - (1 : Int))))).1 < (0 : Int))) = true)
   (Tree.chk (decide ((Mc.F (Prod.snd (Subtype.val s)) (Int.toNat (IntKind.wrap IntKind.i64 ((↑(Mc.nF (Prod.snd (Subtype.val s))) : Int) - (1 : Int))))).1 < (0 : Int)) = false → (!decide ((Mc.F (Prod.snd (Subtype.val s)) (Int.toNat (IntKind.wrap IntKind.i64 ((↑(Mc.nF (Prod.snd (Subtype.val s))) : Int) - (1 : Int))))).1 < (0 : Int))) = true)
   (Tree.chk ((!bif decide ((Mc.F (Prod.snd (Subtype.val s)) (Int.toNat (IntKind.wrap IntKind.i64 ((↑(Mc.nF (Prod.snd (Subtype.val s))) : Int) - (1 : Int))))).1 < (0 : Int)) then true else decide ((Mc.F (Prod.snd (Subtype.val s)) (Int.toNat (IntKind.wrap IntKind.i64 ((↑(Mc.nF (Prod.snd (Subtype.val s))) : Int) - (1 : Int))))).1 ≥ (↑d.2 : Int))) = true → (!bif decide ((Mc.F (Prod.snd (Subtype.val s)) (Int.toNat (IntKind.wrap IntKind.i64 ((↑(Mc.nF (Prod.snd (Subtype.val s))) : Int) - (1 : Int))))).1 < (0 : Int)) then true else decide ((Mc.F (Prod.snd (Subtype.val s)) (Int.toNat (IntKind.wrap IntKind.i64 ((↑(Mc.nF (Prod.snd (Subtype.val s))) : Int) - (1 : Int))))).1 ≥ (↑d.2 : Int))) = true)
   (Tree.chk ((bif decide ((Mc.F (Prod.snd (Subtype.val s)) (Int.toNat (IntKind.wrap IntKind.i64 ((↑(Mc.nF (Prod.snd (Subtype.val s))) : Int) - (1 : Int))))).1 < (0 : Int)) then true else decide ((Mc.F (Prod.snd (Subtype.val s)) (Int.toNat (IntKind.wrap IntKind.i64 ((↑(Mc.nF (Prod.snd (Subtype.val s))) : Int) - (1 : Int))))).1 ≥ (↑d.2 : Int))) = false → (!bif decide ((Mc.F (Prod.snd (Subtype.val s)) (Int.toNat (IntKind.wrap IntKind.i64 ((↑(Mc.nF (Prod.snd (Subtype.val s))) : Int) - (1 : Int))))).1 < (0 : Int)) then true else decide ((Mc.F (Prod.snd (Subtype.val s)) (Int.toNat (IntKind.wrap IntKind.i64 ((↑(Mc.nF (Prod.snd (Subtype.val s))) : Int) - (1 : Int))))).1 ≥ (↑d.2 : Int))) = true)
   (Tree.chk ((!bif bif decide ((Mc.F (Prod.snd (Subtype.val s)) (Int.toNat (IntKind.wrap IntKind.i64 ((↑(Mc.nF (Prod.snd (Subtype.val s))) : Int) - (1 : Int))))).1 < (0 : Int)) then true else decide ((Mc.F (Prod.snd (Subtype.val s)) (Int.toNat (IntKind.wrap IntKind.i64 ((↑(Mc.nF (Prod.snd (Subtype.val s))) : Int) - (1 : Int))))).1 ≥ (↑d.2 : Int)) then true else decide ((↑(Prod.fst (Subtype.val s)) : Int) ≥ (200 : Int))) = true → (!bif bif decide ((Mc.F (Prod.snd (Subtype.val s)) (Int.toNat (IntKind.wrap IntKind.i64 ((↑(Mc.nF (Prod.snd (Subtype.val s))) : Int) - (1 : Int))))).1 < (0 : Int)) then true else decide ((Mc.F (Prod.snd (Subtype.val s)) (Int.toNat (IntKind.wrap IntKind.i64 ((↑(Mc.nF (Prod.snd (Subtype.val s))) : Int) - (1 : Int))))).1 ≥ (↑d.2 : Int)) then true else decide ((↑(Prod.fst (Subtype.val s)) : Int) ≥ (200 : Int))) = true)
   (Tree.chk ((!bif bif decide ((Mc.F (Prod.snd (Subtype.val s)) (Int.toNat (IntKind.wrap IntKind.i64 ((↑(Mc.nF (Prod.snd (Subtype.val s))) : Int) - (1 : Int))))).1 < (0 : Int)) then true else decide ((Mc.F (Prod.snd (Subtype.val s)) (Int.toNat (IntKind.wrap IntKind.i64 ((↑(Mc.nF (Prod.snd (Subtype.val s))) : Int) - (1 : Int))))).1 ≥ (↑d.2 : Int)) then true else decide ((↑(Prod.fst (Subtype.val s)) : Int) ≥ (200 : Int))) = true → (!bif bif decide ((Mc.F (Prod.snd (Subtype.val s)) (Int.toNat (IntKind.wrap IntKind.i64 ((↑(Mc.nF (Prod.snd (Subtype.val s))) : Int) - (1 : Int))))).1 < (0 : Int)) then true else decide ((Mc.F (Prod.snd (Subtype.val s)) (Int.toNat (IntKind.wrap IntKind.i64 ((↑(Mc.nF (Prod.snd (Subtype.val s))) : Int) - (1 : Int))))).1 ≥ (↑d.2 : Int)) then true else decide ((↑(Prod.fst (Subtype.val s)) : Int) ≥ (200 : Int))) = true)
   (Tree.chk ((!bif bif decide ((Mc.F (Prod.snd (Subtype.val s)) (Int.toNat (IntKind.wrap IntKind.i64 ((↑(Mc.nF (Prod.snd (Subtype.val s))) : Int) - (1 : Int))))).1 < (0 : Int)) then true else decide ((Mc.F (Prod.snd (Subtype.val s)) (Int.toNat (IntKind.wrap IntKind.i64 ((↑(Mc.nF (Prod.snd (Subtype.val s))) : Int) - (1 : Int))))).1 ≥ (↑d.2 : Int)) then true else decide ((↑(Prod.fst (Subtype.val s)) : Int) ≥ (200 : Int))) = true → (0 : Int) ≤ (Mc.F (Prod.snd (Subtype.val s)) (Int.toNat (IntKind.wrap IntKind.i64 ((↑(Mc.nF (Prod.snd (Subtype.val s))) : Int) - (1 : Int))))).1 ∧ (Mc.F (Prod.snd (Subtype.val s)) (Int.toNat (IntKind.wrap IntKind.i64 ((↑(Mc.nF (Prod.snd (Subtype.val s))) : Int) - (1 : Int))))).1 < (↑d.2 : Int) ∧ Int.toNat (Mc.F (Prod.snd (Subtype.val s)) (Int.toNat (IntKind.wrap IntKind.i64 ((↑(Mc.nF (Prod.snd (Subtype.val s))) : Int) - (1 : Int))))).1 < d.2 ∧ 0 < 1)
   (Tree.chk ((!bif bif decide ((Mc.F (Prod.snd (Subtype.val s)) (Int.toNat (IntKind.wrap IntKind.i64 ((↑(Mc.nF (Prod.snd (Subtype.val s))) : Int) - (1 : Int))))).1 < (0 : Int)) then true else decide ((Mc.F (Prod.snd (Subtype.val s)) (Int.toNat (IntKind.wrap IntKind.i64 ((↑(Mc.nF (Prod.snd (Subtype.val s))) : Int) - (1 : Int))))).1 ≥ (↑d.2 : Int)) then true else decide ((↑(Prod.fst (Subtype.val s)) : Int) ≥ (200 : Int))) = true → (!bif bif decide ((Mc.F (Prod.snd (Subtype.val s)) (Int.toNat (IntKind.wrap IntKind.i64 ((↑(Mc.nF (Prod.snd (Subtype.val s))) : Int) - (1 : Int))))).1 < (0 : Int)) then true else decide ((Mc.F (Prod.snd (Subtype.val s)) (Int.toNat (IntKind.wrap IntKind.i64 ((↑(Mc.nF (Prod.snd (Subtype.val s))) : Int) - (1 : Int))))).1 ≥ (↑d.2 : Int)) then true else decide ((↑(Prod.fst (Subtype.val s)) : Int) ≥ (200 : Int))) = true)
   (Tree.chk ((!bif bif decide ((Mc.F (Prod.snd (Subtype.val s)) (Int.toNat (IntKind.wrap IntKind.i64 ((↑(Mc.nF (Prod.snd (Subtype.val s))) : Int) - (1 : Int))))).1 < (0 : Int)) then true else decide ((Mc.F (Prod.snd (Subtype.val s)) (Int.toNat (IntKind.wrap IntKind.i64 ((↑(Mc.nF (Prod.snd (Subtype.val s))) : Int) - (1 : Int))))).1 ≥ (↑d.2 : Int)) then true else decide ((↑(Prod.fst (Subtype.val s)) : Int) ≥ (200 : Int))) = true → 0 < 1 ∧ Int.toNat (Mc.F (Prod.snd (Subtype.val s)) (Int.toNat (IntKind.wrap IntKind.i64 ((↑(Mc.nF (Prod.snd (Subtype.val s))) : Int) - (1 : Int))))).1 < d.2)
   (Tree.br (!bif bif decide ((Mc.F (Prod.snd (Subtype.val s)) (Int.toNat (IntKind.wrap IntKind.i64 ((↑(Mc.nF (Prod.snd (Subtype.val s))) : Int) - (1 : Int))))).1 < (0 : Int)) then true else decide ((Mc.F (Prod.snd (Subtype.val s)) (Int.toNat (IntKind.wrap IntKind.i64 ((↑(Mc.nF (Prod.snd (Subtype.val s))) : Int) - (1 : Int))))).1 ≥ (↑d.2 : Int)) then true else decide ((↑(Prod.fst (Subtype.val s)) : Int) ≥ (200 : Int)))
   (Tree.chk ((!bif bif decide ((Mc.F (Prod.snd (Subtype.val s)) (Int.toNat (IntKind.wrap IntKind.i64 ((↑(Mc.nF (Prod.snd (Subtype.val s))) : Int) - (1 : Int))))).1 < (0 : Int)) then true else decide ((Mc.F (Prod.snd (Subtype.val s)) (Int.toNat (IntKind.wrap IntKind.i64 ((↑(Mc.nF (Prod.snd (Subtype.val s))) : Int) - (1 : Int))))).1 ≥ (↑d.2 : Int)) then true else decide ((↑(Prod.fst (Subtype.val s)) : Int) ≥ (200 : Int))) = true)
   (Tree.callf 24 [AV.agg [iv (d.4 (Int.toNat (Mc.F (Prod.snd (Subtype.val s)) (Int.toNat (IntKind.wrap IntKind.i64 ((↑(Mc.nF (Prod.snd (Subtype.val s))) : Int) - (1 : Int))))).1)).1, iv (d.4 (Int.toNat (Mc.F (Prod.snd (Subtype.val s)) (Int.toNat (IntKind.wrap IntKind.i64 ((↑(Mc.nF (Prod.snd (Subtype.val s))) : Int) - (1 : Int))))).1)).2, iv (d.4 (Int.toNat (Mc.F (Prod.snd (Subtype.val s)) (Int.toNat (IntKind.wrap IntKind.i64 ((↑(Mc.nF (Prod.snd (Subtype.val s))) : Int) - (1 : Int))))).1)).3, iv (d.4 (Int.toNat (Mc.F (Prod.snd (Subtype.val s)) (Int.toNat (IntKind.wrap IntKind.i64 ((↑(Mc.nF (Prod.snd (Subtype.val s))) : Int) - (1 : Int))))).1)).4, iv (d.4 (Int.toNat (Mc.F (Prod.snd (Subtype.val s)) (Int.toNat (IntKind.wrap IntKind.i64 ((↑(Mc.nF (Prod.snd (Subtype.val s))) : Int) - (1 : Int))))).1)).5]] [(Cd.row d), (Ent.mkBox 72 [CV.sl 9 0 0 1 (Prod.snd (Subtype.val s)).1.1 (Prod.snd (Subtype.val s)).1.2, iv (Prod.snd (Subtype.val s)).1.4]), Ent.dead, (Ent.mkBox 78 [CV.sl 4 0 0 4 (Prod.snd (Subtype.val s)).2.1 (Prod.snd (Subtype.val s)).2.2, iv (Prod.snd (Subtype.val s)).2.4]), (Ent.rw true 59 4 (Prod.snd (Subtype.val s)).2.1 (Prod.snd (Subtype.val s)).2.2 fun ii => [CV.v (Value.bool ((Prod.snd (Subtype.val s)).2.3 ii).1), CV.v (Value.bool ((Prod.snd (Subtype.val s)).2.3 ii).2), CV.v (Value.bool ((Prod.snd (Subtype.val s)).2.3 ii).3), iv ((Prod.snd (Subtype.val s)).2.3 ii).4]), (frow ol (Mc.nF m) (Mc.cF m) (Mc.F m)), Ent.dead, Ent.dead, (Ent.mkBox 68 [CV.sl 0 0 0 5 d.2 d.3, CV.ptr ⟨1, 0, 0, 2, 0, 0, 0, 0⟩, CV.ptr ⟨3, 0, 0, 2, 0, 0, 0, 0⟩, iv (Prod.snd (Subtype.val s)).3, CV.sl 10 0 0 17 (Mc.nF (Prod.snd (Subtype.val s))) (Mc.cF (Prod.snd (Subtype.val s))), CV.sl 11 0 0 2 (Prod.snd (Subtype.val s)).8 (Prod.snd (Subtype.val s)).9, iv (Prod.snd (Subtype.val s)).4]), (Ent.rw true 2 1 (Prod.snd (Subtype.val s)).1.1 (Prod.snd (Subtype.val s)).1.2 fun ii => [iv ((Prod.snd (Subtype.val s)).1.3 ii)]), (Ent.rw true 66 17 (Mc.nF (Prod.snd (Subtype.val s))) (Mc.cF (Prod.snd (Subtype.val s))) fun ii => (Fr.cv (Mc.F (Prod.snd (Subtype.val s)) ii))), (Ent.rw true 80 2 (Prod.snd (Subtype.val s)).8 (Prod.snd (Subtype.val s)).9 fun ii => [iv (Prod.fst ((Prod.snd (Subtype.val s)).10 ii)), iv (Prod.snd ((Prod.snd (Subtype.val s)).10 ii))])] (mayC (d.4 (Int.toNat (Mc.F (Prod.snd (Subtype.val s)) (Int.toNat (IntKind.wrap IntKind.i64 ((↑(Mc.nF (Prod.snd (Subtype.val s))) : Int) - (1 : Int))))).1))) fun c => Tree.chk ((bif bif decide ((Mc.F (Prod.snd (Subtype.val s)) (Int.toNat (IntKind.wrap IntKind.i64 ((↑(Mc.nF (Prod.snd (Subtype.val s))) : Int) - (1 : Int))))).1 < (0 : Int)) then true else decide ((Mc.F (Prod.snd (Subtype.val s)) (Int.toNat (IntKind.wrap IntKind.i64 ((↑(Mc.nF (Prod.snd (Subtype.val s))) : Int) - (1 : Int))))).1 ≥ (↑d.2 : Int)) then true else decide ((↑(Prod.fst (Subtype.val s)) : Int) ≥ (200 : Int))) = false → (!bif bif decide ((Mc.F (Prod.snd (Subtype.val s)) (Int.toNat (IntKind.wrap IntKind.i64 ((↑(Mc.nF (Prod.snd (Subtype.val s))) : Int) - (1 : Int))))).1 < (0 : Int)) then true else decide ((Mc.F (Prod.snd (Subtype.val s)) (Int.toNat (IntKind.wrap IntKind.i64 ((↑(Mc.nF (Prod.snd (Subtype.val s))) : Int) - (1 : Int))))).1 ≥ (↑d.2 : Int)) then true else decide ((↑(Prod.fst (Subtype.val s)) : Int) ≥ (200 : Int))) = true)
   (Tree.br (bif bif bif decide ((Mc.F (Prod.snd (Subtype.val s)) (Int.toNat (IntKind.wrap IntKind.i64 ((↑(Mc.nF (Prod.snd (Subtype.val s))) : Int) - (1 : Int))))).1 < (0 : Int)) then true else decide ((Mc.F (Prod.snd (Subtype.val s)) (Int.toNat (IntKind.wrap IntKind.i64 ((↑(Mc.nF (Prod.snd (Subtype.val s))) : Int) - (1 : Int))))).1 ≥ (↑d.2 : Int)) then true else decide ((↑(Prod.fst (Subtype.val s)) : Int) ≥ (200 : Int)) then true else !mayF (d.4 (Int.toNat (Mc.F (Prod.snd (Subtype.val s)) (Int.toNat (IntKind.wrap IntKind.i64 ((↑(Mc.nF (Prod.snd (Subtype.val s))) : Int) - (1 : Int))))).1)))
   (Tree.done (XV.tup [AV.c (CV.sl 10 0 0 17 (Mc.nF (Prod.snd (Subtype.val s))) (Mc.cF (Prod.snd (Subtype.val s)))), AV.c (CV.sl 11 0 0 2 (Prod.snd (Subtype.val s)).8 (Prod.snd (Subtype.val s)).9), AV.c (iv (3 : Int)), AV.c (iv (0 : Int)), AV.c (CV.v Value.nilIface)]) [(Cd.row d), (Ent.mkBox 72 [CV.sl 9 0 0 1 (Prod.snd (Subtype.val s)).1.1 (Prod.snd (Subtype.val s)).1.2, iv (Prod.snd (Subtype.val s)).1.4]), Ent.dead, (Ent.mkBox 78 [CV.sl 4 0 0 4 (Prod.snd (Subtype.val s)).2.1 (Prod.snd (Subtype.val s)).2.2, iv (Prod.snd (Subtype.val s)).2.4]), (Ent.rw true 59 4 (Prod.snd (Subtype.val s)).2.1 (Prod.snd (Subtype.val s)).2.2 fun ii => [CV.v (Value.bool ((Prod.snd (Subtype.val s)).2.3 ii).1), CV.v (Value.bool ((Prod.snd (Subtype.val s)).2.3 ii).2), CV.v (Value.bool ((Prod.snd (Subtype.val s)).2.3 ii).3), iv ((Prod.snd (Subtype.val s)).2.3 ii).4]), (frow ol (Mc.nF m) (Mc.cF m) (Mc.F m)), Ent.dead, Ent.dead, (Ent.mkBox 68 [CV.sl 0 0 0 5 d.2 d.3, CV.ptr ⟨1, 0, 0, 2, 0, 0, 0, 0⟩, CV.ptr ⟨3, 0, 0, 2, 0, 0, 0, 0⟩, iv (Prod.snd (Subtype.val s)).3, CV.sl 10 0 0 17 (Mc.nF (Prod.snd (Subtype.val s))) (Mc.cF (Prod.snd (Subtype.val s))), CV.sl 11 0 0 2 (Prod.snd (Subtype.val s)).8 (Prod.snd (Subtype.val s)).9, iv (Prod.snd (Subtype.val s)).4]), (Ent.rw true 2 1 (Prod.snd (Subtype.val s)).1.1 (Prod.snd (Subtype.val s)).1.2 fun ii => [iv ((Prod.snd (Subtype.val s)).1.3 ii)]), (Ent.rw true 66 17 (Mc.nF (Prod.snd (Subtype.val s))) (Mc.cF (Prod.snd (Subtype.val s))) fun ii => (Fr.cv (Mc.F (Prod.snd (Subtype.val s)) ii))), (Ent.rw true 80 2 (Prod.snd (Subtype.val s)).8 (Prod.snd (Subtype.val s)).9 fun ii => [iv (Prod.fst ((Prod.snd (Subtype.val s)).10 ii)), iv (Prod.snd ((Prod.snd (Subtype.val s)).10 ii))])])
   (Tree.chk (decide ((↑(Prod.fst (Subtype.val s)) : Int) > (0 : Int)) = true → decide ((↑(Prod.fst (Subtype.val s)) : Int) > (0 : Int)) = true)
   (Tree.chk (decide ((↑(Prod.fst (Subtype.val s)) : Int) > (0 : Int)) = true → decide ((↑(Prod.fst (Subtype.val s)) : Int) > (0 : Int)) = true)
   (Tree.chk (decide ((↑(Prod.fst (Subtype.val s)) : Int) > (0 : Int)) = true → (0 : Int) ≤ (Mc.F (Prod.snd (Subtype.val s)) (Int.toNat (IntKind.wrap IntKind.i64 ((↑(Mc.nF (Prod.snd (Subtype.val s))) : Int) - (1 : Int))))).1 ∧ (Mc.F (Prod.snd (Subtype.val s)) (Int.toNat (IntKind.wrap IntKind.i64 ((↑(Mc.nF (Prod.snd (Subtype.val s))) : Int) - (1 : Int))))).1 < (↑d.2 : Int) ∧ Int.toNat (Mc.F (Prod.snd (Subtype.val s)) (Int.toNat (IntKind.wrap IntKind.i64 ((↑(Mc.nF (Prod.snd (Subtype.val s))) : Int) - (1 : Int))))).1 < d.2 ∧ 0 < 1)
   (Tree.chk (decide ((↑(Prod.fst (Subtype.val s)) : Int) > (0 : Int)) = true → decide ((↑(Prod.fst (Subtype.val s)) : Int) > (0 : Int)) = true)
   (Tree.chk (decide ((↑(Prod.fst (Subtype.val s)) : Int) > (0 : Int)) = true → 0 < 1 ∧ Int.toNat (Mc.F (Prod.snd (Subtype.val s)) (Int.toNat (IntKind.wrap IntKind.i64 ((↑(Mc.nF (Prod.snd (Subtype.val s))) : Int) - (1 : Int))))).1 < d.2)
   (Tree.br (decide ((↑(Prod.fst (Subtype.val s)) : Int) > (0 : Int)))
   (Tree.chk (decide ((↑(Prod.fst (Subtype.val s)) : Int) > (0 : Int)) = true)
   (Tree.callf 25 [AV.agg [iv (d.4 (Int.toNat (Mc.F (Prod.snd (Subtype.val s)) (Int.toNat (IntKind.wrap IntKind.i64 ((↑(Mc.nF (Prod.snd (Subtype.val s))) : Int) - (1 : Int))))).1)).1, iv (d.4 (Int.toNat (Mc.F (Prod.snd (Subtype.val s)) (Int.toNat (IntKind.wrap IntKind.i64 ((↑(Mc.nF (Prod.snd (Subtype.val s))) : Int) - (1 : Int))))).1)).2, iv (d.4 (Int.toNat (Mc.F (Prod.snd (Subtype.val s)) (Int.toNat (IntKind.wrap IntKind.i64 ((↑(Mc.nF (Prod.snd (Subtype.val s))) : Int) - (1 : Int))))).1)).3, iv (d.4 (Int.toNat (Mc.F (Prod.snd (Subtype.val s)) (Int.toNat (IntKind.wrap IntKind.i64 ((↑(Mc.nF (Prod.snd (Subtype.val s))) : Int) - (1 : Int))))).1)).4, iv (d.4 (Int.toNat (Mc.F (Prod.snd (Subtype.val s)) (Int.toNat (IntKind.wrap IntKind.i64 ((↑(Mc.nF (Prod.snd (Subtype.val s))) : Int) - (1 : Int))))).1)).5]] [(Cd.row d), (Ent.mkBox 72 [CV.sl 9 0 0 1 (Prod.snd (Subtype.val s)).1.1 (Prod.snd (Subtype.val s)).1.2, iv (Prod.snd (Subtype.val s)).1.4]), Ent.dead, (Ent.mkBox 78 [CV.sl 4 0 0 4 (Prod.snd (Subtype.val s)).2.1 (Prod.snd (Subtype.val s)).2.2, iv (Prod.snd (Subtype.val s)).2.4]), (Ent.rw true 59 4 (Prod.snd (Subtype.val s)).2.1 (Prod.snd (Subtype.val s)).2.2 fun ii => [CV.v (Value.bool ((Prod.snd (Subtype.val s)).2.3 ii).1), CV.v (Value.bool ((Prod.snd (Subtype.val s)).2.3 ii).2), CV.v (Value.bool ((Prod.snd (Subtype.val s)).2.3 ii).3), iv ((Prod.snd (Subtype.val s)).2.3 ii).4]), (frow ol (Mc.nF m) (Mc.cF m) (Mc.F m)), Ent.dead, Ent.dead, (Ent.mkBox 68 [CV.sl 0 0 0 5 d.2 d.3, CV.ptr ⟨1, 0, 0, 2, 0, 0, 0, 0⟩, CV.ptr ⟨3, 0, 0, 2, 0, 0, 0, 0⟩, iv (Prod.snd (Subtype.val s)).3, CV.sl 10 0 0 17 (Mc.nF (Prod.snd (Subtype.val s))) (Mc.cF (Prod.snd (Subtype.val s))), CV.sl 11 0 0 2 (Prod.snd (Subtype.val s)).8 (Prod.snd (Subtype.val s)).9, iv (Prod.snd (Subtype.val s)).4]), (Ent.rw true 2 1 (Prod.snd (Subtype.val s)).1.1 (Prod.snd (Subtype.val s)).1.2 fun ii => [iv ((Prod.snd (Subtype.val s)).1.3 ii)]), (Ent.rw true 66 17 (Mc.nF (Prod.snd (Subtype.val s))) (Mc.cF (Prod.snd (Subtype.val s))) fun ii => (Fr.cv (Mc.F (Prod.snd (Subtype.val s)) ii))), (Ent.rw true 80 2 (Prod.snd (Subtype.val s)).8 (Prod.snd (Subtype.val s)).9 fun ii => [iv (Prod.fst ((Prod.snd (Subtype.val s)).10 ii)), iv (Prod.snd ((Prod.snd (Subtype.val s)).10 ii))])] (accessC (d.4 (Int.toNat (Mc.F (Prod.snd (Subtype.val s)) (Int.toNat (IntKind.wrap IntKind.i64 ((↑(Mc.nF (Prod.snd (Subtype.val s))) : Int) - (1 : Int))))).1))) fun c => Tree.br (bif decide ((↑(Prod.fst (Subtype.val s)) : Int) > (0 : Int)) then accessF (d.4 (Int.toNat (Mc.F (Prod.snd (Subtype.val s)) (Int.toNat (IntKind.wrap IntKind.i64 ((↑(Mc.nF (Prod.snd (Subtype.val s))) : Int) - (1 : Int))))).1)) else false)
   (Tree.done (XV.tup [AV.c (CV.sl 10 0 0 17 (Mc.nF (Prod.snd (Subtype.val s))) (Mc.cF (Prod.snd (Subtype.val s)))), AV.c (CV.sl 11 0 0 2 (Prod.snd (Subtype.val s)).8 (Prod.snd (Subtype.val s)).9), AV.c (iv (0 : Int)), AV.c (iv (0 : Int)), AV.c (CV.v Value.nilIface)]) [(Cd.row d), (Ent.mkBox 72 [CV.sl 9 0 0 1 (Prod.snd (Subtype.val s)).1.1 (Prod.snd (Subtype.val s)).1.2, iv (Prod.snd (Subtype.val s)).1.4]), Ent.dead, (Ent.mkBox 78 [CV.sl 4 0 0 4 (Prod.snd (Subtype.val s)).2.1 (Prod.snd (Subtype.val s)).2.2, iv (Prod.snd (Subtype.val s)).2.4]), (Ent.rw true 59 4 (Prod.snd (Subtype.val s)).2.1 (Prod.snd (Subtype.val s)).2.2 fun ii => [CV.v (Value.bool ((Prod.snd (Subtype.val s)).2.3 ii).1), CV.v (Value.bool ((Prod.snd (Subtype.val s)).2.3 ii).2), CV.v (Value.bool ((Prod.snd (Subtype.val s)).2.3 ii).3), iv ((Prod.snd (Subtype.val s)).2.3 ii).4]), (frow ol (Mc.nF m) (Mc.cF m) (Mc.F m)), Ent.dead, Ent.dead, (Ent.mkBox 68 [CV.sl 0 0 0 5 d.2 d.3, CV.ptr ⟨1, 0, 0, 2, 0, 0, 0, 0⟩, CV.ptr ⟨3, 0, 0, 2, 0, 0, 0, 0⟩, iv (Prod.snd (Subtype.val s)).3, CV.sl 10 0 0 17 (Mc.nF (Prod.snd (Subtype.val s))) (Mc.cF (Prod.snd (Subtype.val s))), CV.sl 11 0 0 2 (Prod.snd (Subtype.val s)).8 (Prod.snd (Subtype.val s)).9, iv (Prod.snd (Subtype.val s)).4]), (Ent.rw true 2 1 (Prod.snd (Subtype.val s)).1.1 (Prod.snd (Subtype.val s)).1.2 fun ii => [iv ((Prod.snd (Subtype.val s)).1.3 ii)]), (Ent.rw true 66 17 (Mc.nF (Prod.snd (Subtype.val s))) (Mc.cF (Prod.snd (Subtype.val s))) fun ii => (Fr.cv (Mc.F (Prod.snd (Subtype.val s)) ii))), (Ent.rw true 80 2 (Prod.snd (Subtype.val s)).8 (Prod.snd (Subtype.val s)).9 fun ii => [iv (Prod.fst ((Prod.snd (Subtype.val s)).10 ii)), iv (Prod.snd ((Prod.snd (Subtype.val s)).10 ii))])])
   (Tree.chk ((0 : Int) ≤ (Mc.F (Prod.snd (Subtype.val s)) (Int.toNat (IntKind.wrap IntKind.i64 ((↑(Mc.nF (Prod.snd (Subtype.val s))) : Int) - (1 : Int))))).1 ∧ (Mc.F (Prod.snd (Subtype.val s)) (Int.toNat (IntKind.wrap IntKind.i64 ((↑(Mc.nF (Prod.snd (Subtype.val s))) : Int) - (1 : Int))))).1 < (↑d.2 : Int) ∧ Int.toNat (Mc.F (Prod.snd (Subtype.val s)) (Int.toNat (IntKind.wrap IntKind.i64 ((↑(Mc.nF (Prod.snd (Subtype.val s))) : Int) - (1 : Int))))).1 < d.2 ∧ 0 < 1)
   (Tree.chk (0 < 1 ∧ Int.toNat (Mc.F (Prod.snd (Subtype.val s)) (Int.toNat (IntKind.wrap IntKind.i64 ((↑(Mc.nF (Prod.snd (Subtype.val s))) : Int) - (1 : Int))))).1 < d.2)
   (Tree.some_ (Mc × Mc × Int) fun s_1 => Tree.callf 26 [AV.c (CV.ptr ⟨8, 0, 0, 7, 0, 0, 0, 0⟩), AV.agg [iv (d.4 (Int.toNat (Mc.F (Prod.snd (Subtype.val s)) (Int.toNat (IntKind.wrap IntKind.i64 ((↑(Mc.nF (Prod.snd (Subtype.val s))) : Int) - (1 : Int))))).1)).1, iv (d.4 (Int.toNat (Mc.F (Prod.snd (Subtype.val s)) (Int.toNat (IntKind.wrap IntKind.i64 ((↑(Mc.nF (Prod.snd (Subtype.val s))) : Int) - (1 : Int))))).1)).2, iv (d.4 (Int.toNat (Mc.F (Prod.snd (Subtype.val s)) (Int.toNat (IntKind.wrap IntKind.i64 ((↑(Mc.nF (Prod.snd (Subtype.val s))) : Int) - (1 : Int))))).1)).3, iv (d.4 (Int.toNat (Mc.F (Prod.snd (Subtype.val s)) (Int.toNat (IntKind.wrap IntKind.i64 ((↑(Mc.nF (Prod.snd (Subtype.val s))) : Int) - (1 : Int))))).1)).4, iv (d.4 (Int.toNat (Mc.F (Prod.snd (Subtype.val s)) (Int.toNat (IntKind.wrap IntKind.i64 ((↑(Mc.nF (Prod.snd (Subtype.val s))) : Int) - (1 : Int))))).1)).5]] [(Cd.row d), (Ent.mkBox 72 [CV.sl 9 0 0 1 (Prod.snd (Subtype.val s)).1.1 (Prod.snd (Subtype.val s)).1.2, iv (Prod.snd (Subtype.val s)).1.4]), Ent.dead, (Ent.mkBox 78 [CV.sl 4 0 0 4 (Prod.snd (Subtype.val s)).2.1 (Prod.snd (Subtype.val s)).2.2, iv (Prod.snd (Subtype.val s)).2.4]), (Ent.rw true 59 4 (Prod.snd (Subtype.val s)).2.1 (Prod.snd (Subtype.val s)).2.2 fun ii => [CV.v (Value.bool ((Prod.snd (Subtype.val s)).2.3 ii).1), CV.v (Value.bool ((Prod.snd (Subtype.val s)).2.3 ii).2), CV.v (Value.bool ((Prod.snd (Subtype.val s)).2.3 ii).3), iv ((Prod.snd (Subtype.val s)).2.3 ii).4]), (frow ol (Mc.nF m) (Mc.cF m) (Mc.F m)), Ent.dead, Ent.dead, (Ent.mkBox 68 [CV.sl 0 0 0 5 d.2 d.3, CV.ptr ⟨1, 0, 0, 2, 0, 0, 0, 0⟩, CV.ptr ⟨3, 0, 0, 2, 0, 0, 0, 0⟩, iv (Prod.snd (Subtype.val s)).3, CV.sl 10 0 0 17 (Mc.nF (Prod.snd (Subtype.val s))) (Mc.cF (Prod.snd (Subtype.val s))), CV.sl 11 0 0 2 (Prod.snd (Subtype.val s)).8 (Prod.snd (Subtype.val s)).9, iv (Prod.snd (Subtype.val s)).4]), (Ent.rw true 2 1 (Prod.snd (Subtype.val s)).1.1 (Prod.snd (Subtype.val s)).1.2 fun ii => [iv ((Prod.snd (Subtype.val s)).1.3 ii)]), (Ent.rw true 66 17 (Mc.nF (Prod.snd (Subtype.val s))) (Mc.cF (Prod.snd (Subtype.val s))) fun ii => (Fr.cv (Mc.F (Prod.snd (Subtype.val s)) ii))), (Ent.rw true 80 2 (Prod.snd (Subtype.val s)).8 (Prod.snd (Subtype.val s)).9 fun ii => [iv (Prod.fst ((Prod.snd (Subtype.val s)).10 ii)), iv (Prod.snd ((Prod.snd (Subtype.val s)).10 ii))])] (oneC (Prod.fst s_1) (Prod.fst (Prod.snd s_1)) (Prod.snd (Prod.snd s_1)) d (d.4 (Int.toNat (Mc.F (Prod.snd (Subtype.val s)) (Int.toNat (IntKind.wrap IntKind.i64 ((↑(Mc.nF (Prod.snd (Subtype.val s))) : Int) - (1 : Int))))).1)) [8, 0, 1, 9, 3, 4, 10, 11] 12) fun c => Tree.br (Prod.snd (Prod.snd s_1) == (0 : Int))
   (Tree.some_ { s // Mid d m (Prod.fst s) (Prod.snd s) } fun s' => Tree.chk (201 - Prod.fst (Subtype.val s') < 201 - Prod.fst (Subtype.val s))
   (Tree.chk (XV.a (AV.c (iv (IntKind.wrap IntKind.i64 ((↑(Prod.fst (Subtype.val s)) : Int) + (1 : Int))))) = XV.a (AV.c (iv (↑(Prod.fst (Subtype.val s')) : Int))))
   (Tree.chk (XV.a (AV.c (CV.ptr ⟨8, 0, 0, 7, 0, 0, 0, 0⟩)) = XV.a (AV.c (CV.ptr ⟨8, 0, 0, 7, 0, 0, 0, 0⟩)))
   (Tree.chk (XV.a (AV.c (CV.v Value.nilIface)) = XV.a (AV.c (CV.v Value.nilIface)))
   (Tree.chk (XV.a (AV.c (iv (0 : Int))) = XV.a (AV.c (iv (0 : Int))))
   (Tree.chk (XV.a (AV.c (iv (0 : Int))) = XV.a (AV.c (iv (0 : Int))))
   (Tree.chk (XV.a (AV.c (CV.v (Value.slice none 0 0))) = XV.a (AV.c (CV.v (Value.slice none 0 0))))
   (Tree.chk (XV.a (AV.c (CV.v (Value.slice none 0 0))) = XV.a (AV.c (CV.v (Value.slice none 0 0))))
   (Tree.chk (XV.a (AV.c (CV.sl 0 0 0 5 d.2 d.3)) = XV.a (AV.c (CV.sl 0 0 0 5 d.2 d.3)))
   (Tree.chk (XV.a (AV.c (CV.ptr ⟨1, 0, 0, 2, 0, 0, 0, 0⟩)) = XV.a (AV.c (CV.ptr ⟨1, 0, 0, 2, 0, 0, 0, 0⟩)))
   (Tree.chk (XV.a (AV.c (CV.ptr ⟨3, 0, 0, 2, 0, 0, 0, 0⟩)) = XV.a (AV.c (CV.ptr ⟨3, 0, 0, 2, 0, 0, 0, 0⟩)))
   (Tree.chk (XV.a (AV.c (iv m.3)) = XV.a (AV.c (iv m.3)))
   (Tree.chk (XV.a (AV.c (CV.sl 5 0 0 17 (Mc.nF m) (Mc.cF m))) = XV.a (AV.c (CV.sl 5 0 0 17 (Mc.nF m) (Mc.cF m))))
   (Tree.chk (RnOk 6 12 15 fun a a_1 => (List.getD [0, 1, 2, 3, 4, 5, 6, 7, 8, 12, 13, 14] a 0, a_1))
   (Tree.chk (RgAll 15 (fun a a_1 => (List.getD [0, 1, 2, 3, 4, 5, 6, 7, 8, 12, 13, 14] a 0, a_1)) (fun a a_1 => (List.getD [0, 1, 2, 3, 4, 5, 6, 7, 8, 0, 0, 0, 9, 10, 11] a 0, a_1)) [(Cd.row d), (Ent.mkBox 72 [CV.sl 12 0 0 1 (Prod.fst (Prod.snd s_1)).1.1 (c 0), iv (Prod.fst (Prod.snd s_1)).1.4]), Ent.dead, (Ent.mkBox 78 [CV.sl 4 0 0 4 (Prod.fst (Prod.snd s_1)).2.1 (Prod.fst (Prod.snd s_1)).2.2, iv (Prod.fst (Prod.snd s_1)).2.4]), (Ent.rw true 59 4 (Prod.fst (Prod.snd s_1)).2.1 (Prod.fst (Prod.snd s_1)).2.2 fun ii => [CV.v (Value.bool ((Prod.fst (Prod.snd s_1)).2.3 ii).1), CV.v (Value.bool ((Prod.fst (Prod.snd s_1)).2.3 ii).2), CV.v (Value.bool ((Prod.fst (Prod.snd s_1)).2.3 ii).3), iv ((Prod.fst (Prod.snd s_1)).2.3 ii).4]), (frow ol (Mc.nF m) (Mc.cF m) (Mc.F m)), Ent.dead, Ent.dead, (Ent.mkBox 68 [CV.sl 0 0 0 5 d.2 d.3, CV.ptr ⟨1, 0, 0, 2, 0, 0, 0, 0⟩, CV.ptr ⟨3, 0, 0, 2, 0, 0, 0, 0⟩, iv (Prod.fst (Prod.snd s_1)).3, CV.sl 13 0 0 17 (Mc.nF (Prod.fst (Prod.snd s_1))) (c 1), CV.sl 14 0 0 2 (Prod.fst (Prod.snd s_1)).8 (c 2), iv (Prod.fst (Prod.snd s_1)).4]), Ent.dead, Ent.dead, Ent.dead, (Ent.rw true 2 1 (Prod.fst (Prod.snd s_1)).1.1 (c 0) fun ii => [iv ((Prod.fst (Prod.snd s_1)).1.3 ii)]), (Ent.rw true 66 17 (Mc.nF (Prod.fst (Prod.snd s_1))) (c 1) fun ii => (Fr.cv (Mc.F (Prod.fst (Prod.snd s_1)) ii))), (nrow true (Prod.fst (Prod.snd s_1)).8 (c 2) (Prod.fst (Prod.snd s_1)).10)] 12 0 [(Cd.row d), (Ent.mkBox 72 [CV.sl 9 0 0 1 (Prod.snd (Subtype.val s')).1.1 (Prod.snd (Subtype.val s')).1.2, iv (Prod.snd (Subtype.val s')).1.4]), Ent.dead, (Ent.mkBox 78 [CV.sl 4 0 0 4 (Prod.snd (Subtype.val s')).2.1 (Prod.snd (Subtype.val s')).2.2, iv (Prod.snd (Subtype.val s')).2.4]), (Ent.rw true 59 4 (Prod.snd (Subtype.val s')).2.1 (Prod.snd (Subtype.val s')).2.2 fun ii => [CV.v (Value.bool ((Prod.snd (Subtype.val s')).2.3 ii).1), CV.v (Value.bool ((Prod.snd (Subtype.val s')).2.3 ii).2), CV.v (Value.bool ((Prod.snd (Subtype.val s')).2.3 ii).3), iv ((Prod.snd (Subtype.val s')).2.3 ii).4]), (frow ol (Mc.nF m) (Mc.cF m) (Mc.F m)), Ent.dead, Ent.dead, (Ent.mkBox 68 [CV.sl 0 0 0 5 d.2 d.3, CV.ptr ⟨1, 0, 0, 2, 0, 0, 0, 0⟩, CV.ptr ⟨3, 0, 0, 2, 0, 0, 0, 0⟩, iv (Prod.snd (Subtype.val s')).3, CV.sl 10 0 0 17 (Mc.nF (Prod.snd (Subtype.val s'))) (Mc.cF (Prod.snd (Subtype.val s'))), CV.sl 11 0 0 2 (Prod.snd (Subtype.val s')).8 (Prod.snd (Subtype.val s')).9, iv (Prod.snd (Subtype.val s')).4]), (Ent.rw true 2 1 (Prod.snd (Subtype.val s')).1.1 (Prod.snd (Subtype.val s')).1.2 fun ii => [iv ((Prod.snd (Subtype.val s')).1.3 ii)]), (Ent.rw true 66 17 (Mc.nF (Prod.snd (Subtype.val s'))) (Mc.cF (Prod.snd (Subtype.val s'))) fun ii => (Fr.cv (Mc.F (Prod.snd (Subtype.val s')) ii))), (Ent.rw true 80 2 (Prod.snd (Subtype.val s')).8 (Prod.snd (Subtype.val s')).9 fun ii => [iv (Prod.fst ((Prod.snd (Subtype.val s')).10 ii)), iv (Prod.snd ((Prod.snd (Subtype.val s')).10 ii))])])
   (Tree.need True))))))))))))))))
   (Tree.br (Prod.snd (Prod.snd s_1) == (-1 : Int))
   (Tree.done (XV.tup [AV.c (CV.sl 13 0 0 17 (Mc.nF (Prod.fst (Prod.snd s_1))) (c 1)), AV.c (CV.sl 14 0 0 2 (Prod.fst (Prod.snd s_1)).8 (c 2)), AV.c (iv (0 : Int)), AV.c (iv (Prod.fst (Prod.snd s_1)).4), AV.c (CV.v Value.nilIface)]) [(Cd.row d), (Ent.mkBox 72 [CV.sl 12 0 0 1 (Prod.fst (Prod.snd s_1)).1.1 (c 0), iv (Prod.fst (Prod.snd s_1)).1.4]), Ent.dead, (Ent.mkBox 78 [CV.sl 4 0 0 4 (Prod.fst (Prod.snd s_1)).2.1 (Prod.fst (Prod.snd s_1)).2.2, iv (Prod.fst (Prod.snd s_1)).2.4]), (Ent.rw true 59 4 (Prod.fst (Prod.snd s_1)).2.1 (Prod.fst (Prod.snd s_1)).2.2 fun ii => [CV.v (Value.bool ((Prod.fst (Prod.snd s_1)).2.3 ii).1), CV.v (Value.bool ((Prod.fst (Prod.snd s_1)).2.3 ii).2), CV.v (Value.bool ((Prod.fst (Prod.snd s_1)).2.3 ii).3), iv ((Prod.fst (Prod.snd s_1)).2.3 ii).4]), (frow ol (Mc.nF m) (Mc.cF m) (Mc.F m)), Ent.dead, Ent.dead, (Ent.mkBox 68 [CV.sl 0 0 0 5 d.2 d.3, CV.ptr ⟨1, 0, 0, 2, 0, 0, 0, 0⟩, CV.ptr ⟨3, 0, 0, 2, 0, 0, 0, 0⟩, iv (Prod.fst (Prod.snd s_1)).3, CV.sl 13 0 0 17 (Mc.nF (Prod.fst (Prod.snd s_1))) (c 1), CV.sl 14 0 0 2 (Prod.fst (Prod.snd s_1)).8 (c 2), iv (Prod.fst (Prod.snd s_1)).4]), Ent.dead, Ent.dead, Ent.dead, (Ent.rw true 2 1 (Prod.fst (Prod.snd s_1)).1.1 (c 0) fun ii => [iv ((Prod.fst (Prod.snd s_1)).1.3 ii)]), (Ent.rw true 66 17 (Mc.nF (Prod.fst (Prod.snd s_1))) (c 1) fun ii => (Fr.cv (Mc.F (Prod.fst (Prod.snd s_1)) ii))), (nrow true (Prod.fst (Prod.snd s_1)).8 (c 2) (Prod.fst (Prod.snd s_1)).10)])
   (Tree.done (XV.tup [AV.c (CV.sl 13 0 0 17 (Mc.nF (Prod.fst (Prod.snd s_1))) (c 1)), AV.c (CV.sl 14 0 0 2 (Prod.fst (Prod.snd s_1)).8 (c 2)), AV.c (iv (Prod.snd (Prod.snd s_1))), AV.c (iv (Prod.fst (Prod.snd s_1)).4), AV.c (CV.v Value.nilIface)]) [(Cd.row d), (Ent.mkBox 72 [CV.sl 12 0 0 1 (Prod.fst (Prod.snd s_1)).1.1 (c 0), iv (Prod.fst (Prod.snd s_1)).1.4]), Ent.dead, (Ent.mkBox 78 [CV.sl 4 0 0 4 (Prod.fst (Prod.snd s_1)).2.1 (Prod.fst (Prod.snd s_1)).2.2, iv (Prod.fst (Prod.snd s_1)).2.4]), (Ent.rw true 59 4 (Prod.fst (Prod.snd s_1)).2.1 (Prod.fst (Prod.snd s_1)).2.2 fun ii => [CV.v (Value.bool ((Prod.fst (Prod.snd s_1)).2.3 ii).1), CV.v (Value.bool ((Prod.fst (Prod.snd s_1)).2.3 ii).2), CV.v (Value.bool ((Prod.fst (Prod.snd s_1)).2.3 ii).3), iv ((Prod.fst (Prod.snd s_1)).2.3 ii).4]), (frow ol (Mc.nF m) (Mc.cF m) (Mc.F m)), Ent.dead, Ent.dead, (Ent.mkBox 68 [CV.sl 0 0 0 5 d.2 d.3, CV.ptr ⟨1, 0, 0, 2, 0, 0, 0, 0⟩, CV.ptr ⟨3, 0, 0, 2, 0, 0, 0, 0⟩, iv (Prod.fst (Prod.snd s_1)).3, CV.sl 13 0 0 17 (Mc.nF (Prod.fst (Prod.snd s_1))) (c 1), CV.sl 14 0 0 2 (Prod.fst (Prod.snd s_1)).8 (c 2), iv (Prod.fst (Prod.snd s_1)).4]), Ent.dead, Ent.dead, Ent.dead, (Ent.rw true 2 1 (Prod.fst (Prod.snd s_1)).1.1 (c 0) fun ii => [iv ((Prod.fst (Prod.snd s_1)).1.3 ii)]), (Ent.rw true 66 17 (Mc.nF (Prod.fst (Prod.snd s_1))) (c 1) fun ii => (Fr.cv (Mc.F (Prod.fst (Prod.snd s_1)) ii))), (nrow true (Prod.fst (Prod.snd s_1)).8 (c 2) (Prod.fst (Prod.snd s_1)).10)])))))))
   (Tree.chk (decide ((↑(Prod.fst (Subtype.val s)) : Int) > (0 : Int)) = false)
   (Tree.br false
   (Tree.done (XV.tup [AV.c (CV.sl 10 0 0 17 (Mc.nF (Prod.snd (Subtype.val s))) (Mc.cF (Prod.snd (Subtype.val s)))), AV.c (CV.sl 11 0 0 2 (Prod.snd (Subtype.val s)).8 (Prod.snd (Subtype.val s)).9), AV.c (iv (0 : Int)), AV.c (iv (0 : Int)), AV.c (CV.v Value.nilIface)]) [(Cd.row d), (Ent.mkBox 72 [CV.sl 9 0 0 1 (Prod.snd (Subtype.val s)).1.1 (Prod.snd (Subtype.val s)).1.2, iv (Prod.snd (Subtype.val s)).1.4]), Ent.dead, (Ent.mkBox 78 [CV.sl 4 0 0 4 (Prod.snd (Subtype.val s)).2.1 (Prod.snd (Subtype.val s)).2.2, iv (Prod.snd (Subtype.val s)).2.4]), (Ent.rw true 59 4 (Prod.snd (Subtype.val s)).2.1 (Prod.snd (Subtype.val s)).2.2 fun ii => [CV.v (Value.bool ((Prod.snd (Subtype.val s)).2.3 ii).1), CV.v (Value.bool ((Prod.snd (Subtype.val s)).2.3 ii).2), CV.v (Value.bool ((Prod.snd (Subtype.val s)).2.3 ii).3), iv ((Prod.snd (Subtype.val s)).2.3 ii).4]), (frow ol (Mc.nF m) (Mc.cF m) (Mc.F m)), Ent.dead, Ent.dead, (Ent.mkBox 68 [CV.sl 0 0 0 5 d.2 d.3, CV.ptr ⟨1, 0, 0, 2, 0, 0, 0, 0⟩, CV.ptr ⟨3, 0, 0, 2, 0, 0, 0, 0⟩, iv (Prod.snd (Subtype.val s)).3, CV.sl 10 0 0 17 (Mc.nF (Prod.snd (Subtype.val s))) (Mc.cF (Prod.snd (Subtype.val s))), CV.sl 11 0 0 2 (Prod.snd (Subtype.val s)).8 (Prod.snd (Subtype.val s)).9, iv (Prod.snd (Subtype.val s)).4]), (Ent.rw true 2 1 (Prod.snd (Subtype.val s)).1.1 (Prod.snd (Subtype.val s)).1.2 fun ii => [iv ((Prod.snd (Subtype.val s)).1.3 ii)]), (Ent.rw true 66 17 (Mc.nF (Prod.snd (Subtype.val s))) (Mc.cF (Prod.snd (Subtype.val s))) fun ii => (Fr.cv (Mc.F (Prod.snd (Subtype.val s)) ii))), (Ent.rw true 80 2 (Prod.snd (Subtype.val s)).8 (Prod.snd (Subtype.val s)).9 fun ii => [iv (Prod.fst ((Prod.snd (Subtype.val s)).10 ii)), iv (Prod.snd ((Prod.snd (Subtype.val s)).10 ii))])])
   (Tree.chk ((0 : Int) ≤ (Mc.F (Prod.snd (Subtype.val s)) (Int.toNat (IntKind.wrap IntKind.i64 ((↑(Mc.nF (Prod.snd (Subtype.val s))) : Int) - (1 : Int))))).1 ∧ (Mc.F (Prod.snd (Subtype.val s)) (Int.toNat (IntKind.wrap IntKind.i64 ((↑(Mc.nF (Prod.snd (Subtype.val s))) : Int) - (1 : Int))))).1 < (↑d.2 : Int) ∧ Int.toNat (Mc.F (Prod.snd (Subtype.val s)) (Int.toNat (IntKind.wrap IntKind.i64 ((↑(Mc.nF (Prod.snd (Subtype.val s))) : Int) - (1 : Int))))).1 < d.2 ∧ 0 < 1)
   (Tree.chk (0 < 1 ∧ Int.toNat (Mc.F (Prod.snd (Subtype.val s)) (Int.toNat (IntKind.wrap IntKind.i64 ((↑(Mc.nF (Prod.snd (Subtype.val s))) : Int) - (1 : Int))))).1 < d.2)
   (Tree.some_ (Mc × Mc × Int) fun s_1 => Tree.callf 26 [AV.c (CV.ptr ⟨8, 0, 0, 7, 0, 0, 0, 0⟩), AV.agg [iv (d.4 (Int.toNat (Mc.F (Prod.snd (Subtype.val s)) (Int.toNat (IntKind.wrap IntKind.i64 ((↑(Mc.nF (Prod.snd (Subtype.val s))) : Int) - (1 : Int))))).1)).1, iv (d.4 (Int.toNat (Mc.F (Prod.snd (Subtype.val s)) (Int.toNat (IntKind.wrap IntKind.i64 ((↑(Mc.nF (Prod.snd (Subtype.val s))) : Int) - (1 : Int))))).1)).2, iv (d.4 (Int.toNat (Mc.F (Prod.snd (Subtype.val s)) (Int.toNat (IntKind.wrap IntKind.i64 ((↑(Mc.nF (Prod.snd (Subtype.val s))) : Int) - (1 : Int))))).1)).3, iv (d.4 (Int.toNat (Mc.F (Prod.snd (Subtype.val s)) (Int.toNat (IntKind.wrap IntKind.i64 ((↑(Mc.nF (Prod.snd (Subtype.val s))) : Int) - (1 : Int))))).1)).4, iv (d.4 (Int.toNat (Mc.F (Prod.snd (Subtype.val s)) (Int.toNat (IntKind.wrap IntKind.i64 ((↑(Mc.nF (Prod.snd (Subtype.val s))) : Int) - (1 : Int))))).1)).5]] [(Cd.row d), (Ent.mkBox 72 [CV.sl 9 0 0 1 (Prod.snd (Subtype.val s)).1.1 (Prod.snd (Subtype.val s)).1.2, iv (Prod.snd (Subtype.val s)).1.4]), Ent.dead, (Ent.mkBox 78 [CV.sl 4 0 0 4 (Prod.snd (Subtype.val s)).2.1 (Prod.snd (Subtype.val s)).2.2, iv (Prod.snd (Subtype.val s)).2.4]), (Ent.rw true 59 4 (Prod.snd (Subtype.val s)).2.1 (Prod.snd (Subtype.val s)).2.2 fun ii => [CV.v (Value.bool ((Prod.snd (Subtype.val s)).2.3 ii).1), CV.v (Value.bool ((Prod.snd (Subtype.val s)).2.3 ii).2), CV.v (Value.bool ((Prod.snd (Subtype.val s)).2.3 ii).3), iv ((Prod.snd (Subtype.val s)).2.3 ii).4]), (frow ol (Mc.nF m) (Mc.cF m) (Mc.F m)), Ent.dead, Ent.dead, (Ent.mkBox 68 [CV.sl 0 0 0 5 d.2 d.3, CV.ptr ⟨1, 0, 0, 2, 0, 0, 0, 0⟩, CV.ptr ⟨3, 0, 0, 2, 0, 0, 0, 0⟩, iv (Prod.snd (Subtype.val s)).3, CV.sl 10 0 0 17 (Mc.nF (Prod.snd (Subtype.val s))) (Mc.cF (Prod.snd (Subtype.val s))), CV.sl 11 0 0 2 (Prod.snd (Subtype.val s)).8 (Prod.snd (Subtype.val s)).9, iv (Prod.snd (Subtype.val s)).4]), (Ent.rw true 2 1 (Prod.snd (Subtype.val s)).1.1 (Prod.snd (Subtype.val s)).1.2 fun ii => [iv ((Prod.snd (Subtype.val s)).1.3 ii)]), (Ent.rw true 66 17 (Mc.nF (Prod.snd (Subtype.val s))) (Mc.cF (Prod.snd (Subtype.val s))) fun ii => (Fr.cv (Mc.F (Prod.snd (Subtype.val s)) ii))), (Ent.rw true 80 2 (Prod.snd (Subtype.val s)).8 (Prod.snd (Subtype.val s)).9 fun ii => [iv (Prod.fst ((Prod.snd (Subtype.val s)).10 ii)), iv (Prod.snd ((Prod.snd (Subtype.val s)).10 ii))])] (oneC (Prod.fst s_1) (Prod.fst (Prod.snd s_1)) (Prod.snd (Prod.snd s_1)) d (d.4 (Int.toNat (Mc.F (Prod.snd (Subtype.val s)) (Int.toNat (IntKind.wrap IntKind.i64 ((↑(Mc.nF (Prod.snd (Subtype.val s))) : Int) - (1 : Int))))).1)) [8, 0, 1, 9, 3, 4, 10, 11] 12) fun c => Tree.br (Prod.snd (Prod.snd s_1) == (0 : Int))
   (Tree.some_ { s // Mid d m (Prod.fst s) (Prod.snd s) } fun s' => Tree.chk (201 - Prod.fst (Subtype.val s') < 201 - Prod.fst (Subtype.val s))
   (Tree.chk (XV.a (AV.c (iv (IntKind.wrap IntKind.i64 ((↑(Prod.fst (Subtype.val s)) : Int) + (1 : Int))))) = XV.a (AV.c (iv (↑(Prod.fst (Subtype.val s')) : Int))))
   (Tree.chk (XV.a (AV.c (CV.ptr ⟨8, 0, 0, 7, 0, 0, 0, 0⟩)) = XV.a (AV.c (CV.ptr ⟨8, 0, 0, 7, 0, 0, 0, 0⟩)))
   (Tree.chk (XV.a (AV.c (CV.v Value.nilIface)) = XV.a (AV.c (CV.v Value.nilIface)))
   (Tree.chk (XV.a (AV.c (iv (0 : Int))) = XV.a (AV.c (iv (0 : Int))))
   (Tree.chk (XV.a (AV.c (iv (0 : Int))) = XV.a (AV.c (iv (0 : Int))))
   (Tree.chk (XV.a (AV.c (CV.v (Value.slice none 0 0))) = XV.a (AV.c (CV.v (Value.slice none 0 0))))
   (Tree.chk (XV.a (AV.c (CV.v (Value.slice none 0 0))) = XV.a (AV.c (CV.v (Value.slice none 0 0))))
   (Tree.chk (XV.a (AV.c (CV.sl 0 0 0 5 d.2 d.3)) = XV.a (AV.c (CV.sl 0 0 0 5 d.2 d.3)))
   (Tree.chk (XV.a (AV.c (CV.ptr ⟨1, 0, 0, 2, 0, 0, 0, 0⟩)) = XV.a (AV.c (CV.ptr ⟨1, 0, 0, 2, 0, 0, 0, 0⟩)))
   (Tree.chk (XV.a (AV.c (CV.ptr ⟨3, 0, 0, 2, 0, 0, 0, 0⟩)) = XV.a (AV.c (CV.ptr ⟨3, 0, 0, 2, 0, 0, 0, 0⟩)))
   (Tree.chk (XV.a (AV.c (iv m.3)) = XV.a (AV.c (iv m.3)))
   (Tree.chk (XV.a (AV.c (CV.sl 5 0 0 17 (Mc.nF m) (Mc.cF m))) = XV.a (AV.c (CV.sl 5 0 0 17 (Mc.nF m) (Mc.cF m))))
   (Tree.chk (RnOk 6 12 15 fun a a_1 => (List.getD [0, 1, 2, 3, 4, 5, 6, 7, 8, 12, 13, 14] a 0, a_1))
   (Tree.chk (RgAll 15 (fun a a_1 => (List.getD [0, 1, 2, 3, 4, 5, 6, 7, 8, 12, 13, 14] a 0, a_1)) (fun a a_1 => (List.getD [0, 1, 2, 3, 4, 5, 6, 7, 8, 0, 0, 0, 9, 10, 11] a 0, a_1)) [(Cd.row d), (Ent.mkBox 72 [CV.sl 12 0 0 1 (Prod.fst (Prod.snd s_1)).1.1 (c 0), iv (Prod.fst (Prod.snd s_1)).1.4]), Ent.dead, (Ent.mkBox 78 [CV.sl 4 0 0 4 (Prod.fst (Prod.snd s_1)).2.1 (Prod.fst (Prod.snd s_1)).2.2, iv (Prod.fst (Prod.snd s_1)).2.4]), (Ent.rw true 59 4 (Prod.fst (Prod.snd s_1)).2.1 (Prod.fst (Prod.snd s_1)).2.2 fun ii => [CV.v (Value.bool ((Prod.fst (Prod.snd s_1)).2.3 ii).1), CV.v (Value.bool ((Prod.fst (Prod.snd s_1)).2.3 ii).2), CV.v (Value.bool ((Prod.fst (Prod.snd s_1)).2.3 ii).3), iv ((Prod.fst (Prod.snd s_1)).2.3 ii).4]), (frow ol (Mc.nF m) (Mc.cF m) (Mc.F m)), Ent.dead, Ent.dead, (Ent.mkBox 68 [CV.sl 0 0 0 5 d.2 d.3, CV.ptr ⟨1, 0, 0, 2, 0, 0, 0, 0⟩, CV.ptr ⟨3, 0, 0, 2, 0, 0, 0, 0⟩, iv (Prod.fst (Prod.snd s_1)).3, CV.sl 13 0 0 17 (Mc.nF (Prod.fst (Prod.snd s_1))) (c 1), CV.sl 14 0 0 2 (Prod.fst (Prod.snd s_1)).8 (c 2), iv (Prod.fst (Prod.snd s_1)).4]), Ent.dead, Ent.dead, Ent.dead, (Ent.rw true 2 1 (Prod.fst (Prod.snd s_1)).1.1 (c 0) fun ii => [iv ((Prod.fst (Prod.snd s_1)).1.3 ii)]), (Ent.rw true 66 17 (Mc.nF (Prod.fst (Prod.snd s_1))) (c 1) fun ii => (Fr.cv (Mc.F (Prod.fst (Prod.snd s_1)) ii))), (nrow true (Prod.fst (Prod.snd s_1)).8 (c 2) (Prod.fst (Prod.snd s_1)).10)] 12 0 [(Cd.row d), (Ent.mkBox 72 [CV.sl 9 0 0 1 (Prod.snd (Subtype.val s')).1.1 (Prod.snd (Subtype.val s')).1.2, iv (Prod.snd (Subtype.val s')).1.4]), Ent.dead, (Ent.mkBox 78 [CV.sl 4 0 0 4 (Prod.snd (Subtype.val s')).2.1 (Prod.snd (Subtype.val s')).2.2, iv (Prod.snd (Subtype.val s')).2.4]), (Ent.rw true 59 4 (Prod.snd (Subtype.val s')).2.1 (Prod.snd (Subtype.val s')).2.2 fun ii => [CV.v (Value.bool ((Prod.snd (Subtype.val s')).2.3 ii).1), CV.v (Value.bool ((Prod.snd (Subtype.val s')).2.3 ii).2), CV.v (Value.bool ((Prod.snd (Subtype.val s')).2.3 ii).3), iv ((Prod.snd (Subtype.val s')).2.3 ii).4]), (frow ol (Mc.nF m) (Mc.cF m) (Mc.F m)), Ent.dead, Ent.dead, (Ent.mkBox 68 [CV.sl 0 0 0 5 d.2 d.3, CV.ptr ⟨1, 0, 0, 2, 0, 0, 0, 0⟩, CV.ptr ⟨3, 0, 0, 2, 0, 0, 0, 0⟩, iv (Prod.snd (Subtype.val s')).3, CV.sl 10 0 0 17 (Mc.nF (Prod.snd (Subtype.val s'))) (Mc.cF (Prod.snd (Subtype.val s'))), CV.sl 11 0 0 2 (Prod.snd (Subtype.val s')).8 (Prod.snd (Subtype.val s')).9, iv (Prod.snd (Subtype.val s')).4]), (Ent.rw true 2 1 (Prod.snd (Subtype.val s')).1.1 (Prod.snd (Subtype.val s')).1.2 fun ii => [iv ((Prod.snd (Subtype.val s')).1.3 ii)]), (Ent.rw true 66 17 (Mc.nF (Prod.snd (Subtype.val s'))) (Mc.cF (Prod.snd (Subtype.val s'))) fun ii => (Fr.cv (Mc.F (Prod.snd (Subtype.val s')) ii))), (Ent.rw true 80 2 (Prod.snd (Subtype.val s')).8 (Prod.snd (Subtype.val s')).9 fun ii => [iv (Prod.fst ((Prod.snd (Subtype.val s')).10 ii)), iv (Prod.snd ((Prod.snd (Subtype.val s')).10 ii))])])
   (Tree.need True))))))))))))))))
   (Tree.br (Prod.snd (Prod.snd s_1) == (-1 : Int))
   (Tree.done (XV.tup [AV.c (CV.sl 13 0 0 17 (Mc.nF (Prod.fst (Prod.snd s_1))) (c 1)), AV.c (CV.sl 14 0 0 2 (Prod.fst (Prod.snd s_1)).8 (c 2)), AV.c (iv (0 : Int)), AV.c (iv (Prod.fst (Prod.snd s_1)).4), AV.c (CV.v Value.nilIface)]) [(Cd.row d), (Ent.mkBox 72 [CV.sl 12 0 0 1 (Prod.fst (Prod.snd s_1)).1.1 (c 0), iv (Prod.fst (Prod.snd s_1)).1.4]), Ent.dead, (Ent.mkBox 78 [CV.sl 4 0 0 4 (Prod.fst (Prod.snd s_1)).2.1 (Prod.fst (Prod.snd s_1)).2.2, iv (Prod.fst (Prod.snd s_1)).2.4]), (Ent.rw true 59 4 (Prod.fst (Prod.snd s_1)).2.1 (Prod.fst (Prod.snd s_1)).2.2 fun ii => [CV.v (Value.bool ((Prod.fst (Prod.snd s_1)).2.3 ii).1), CV.v (Value.bool ((Prod.fst (Prod.snd s_1)).2.3 ii).2), CV.v (Value.bool ((Prod.fst (Prod.snd s_1)).2.3 ii).3), iv ((Prod.fst (Prod.snd s_1)).2.3 ii).4]), (frow ol (Mc.nF m) (Mc.cF m) (Mc.F m)), Ent.dead, Ent.dead, (Ent.mkBox 68 [CV.sl 0 0 0 5 d.2 d.3, CV.ptr ⟨1, 0, 0, 2, 0, 0, 0, 0⟩, CV.ptr ⟨3, 0, 0, 2, 0, 0, 0, 0⟩, iv (Prod.fst (Prod.snd s_1)).3, CV.sl 13 0 0 17 (Mc.nF (Prod.fst (Prod.snd s_1))) (c 1), CV.sl 14 0 0 2 (Prod.fst (Prod.snd s_1)).8 (c 2), iv (Prod.fst (Prod.snd s_1)).4]), Ent.dead, Ent.dead, Ent.dead, (Ent.rw true 2 1 (Prod.fst (Prod.snd s_1)).1.1 (c 0) fun ii => [iv ((Prod.fst (Prod.snd s_1)).1.3 ii)]), (Ent.rw true 66 17 (Mc.nF (Prod.fst (Prod.snd s_1))) (c 1) fun ii => (Fr.cv (Mc.F (Prod.fst (Prod.snd s_1)) ii))), (nrow true (Prod.fst (Prod.snd s_1)).8 (c 2) (Prod.fst (Prod.snd s_1)).10)])
   (Tree.done (XV.tup [AV.c (CV.sl 13 0 0 17 (Mc.nF (Prod.fst (Prod.snd s_1))) (c 1)), AV.c (CV.sl 14 0 0 2 (Prod.fst (Prod.snd s_1)).8 (c 2)), AV.c (iv (Prod.snd (Prod.snd s_1))), AV.c (iv (Prod.fst (Prod.snd s_1)).4), AV.c (CV.v Value.nilIface)]) [(Cd.row d), (Ent.mkBox 72 [CV.sl 12 0 0 1 (Prod.fst (Prod.snd s_1)).1.1 (c 0), iv (Prod.fst (Prod.snd s_1)).1.4]), Ent.dead, (Ent.mkBox 78 [CV.sl 4 0 0 4 (Prod.fst (Prod.snd s_1)).2.1 (Prod.fst (Prod.snd s_1)).2.2, iv (Prod.fst (Prod.snd s_1)).2.4]), (Ent.rw true 59 4 (Prod.fst (Prod.snd s_1)).2.1 (Prod.fst (Prod.snd s_1)).2.2 fun ii => [CV.v (Value.bool ((Prod.fst (Prod.snd s_1)).2.3 ii).1), CV.v (Value.bool ((Prod.fst (Prod.snd s_1)).2.3 ii).2), CV.v (Value.bool ((Prod.fst (Prod.snd s_1)).2.3 ii).3), iv ((Prod.fst (Prod.snd s_1)).2.3 ii).4]), (frow ol (Mc.nF m) (Mc.cF m) (Mc.F m)), Ent.dead, Ent.dead, (Ent.mkBox 68 [CV.sl 0 0 0 5 d.2 d.3, CV.ptr ⟨1, 0, 0, 2, 0, 0, 0, 0⟩, CV.ptr ⟨3, 0, 0, 2, 0, 0, 0, 0⟩, iv (Prod.fst (Prod.snd s_1)).3, CV.sl 13 0 0 17 (Mc.nF (Prod.fst (Prod.snd s_1))) (c 1), CV.sl 14 0 0 2 (Prod.fst (Prod.snd s_1)).8 (c 2), iv (Prod.fst (Prod.snd s_1)).4]), Ent.dead, Ent.dead, Ent.dead, (Ent.rw true 2 1 (Prod.fst (Prod.snd s_1)).1.1 (c 0) fun ii => [iv ((Prod.fst (Prod.snd s_1)).1.3 ii)]), (Ent.rw true 66 17 (Mc.nF (Prod.fst (Prod.snd s_1))) (c 1) fun ii => (Fr.cv (Mc.F (Prod.fst (Prod.snd s_1)) ii))), (nrow true (Prod.fst (Prod.snd s_1)).8 (c 2) (Prod.fst (Prod.snd s_1)).10)]))))))))))))))))
   (Tree.chk ((!bif bif decide ((Mc.F (Prod.snd (Subtype.val s)) (Int.toNat (IntKind.wrap IntKind.i64 ((↑(Mc.nF (Prod.snd (Subtype.val s))) : Int) - (1 : Int))))).1 < (0 : Int)) then true else decide ((Mc.F (Prod.snd (Subtype.val s)) (Int.toNat (IntKind.wrap IntKind.i64 ((↑(Mc.nF (Prod.snd (Subtype.val s))) : Int) - (1 : Int))))).1 ≥ (↑d.2 : Int)) then true else decide ((↑(Prod.fst (Subtype.val s)) : Int) ≥ (200 : Int))) = true → False)
   (Tree.chk ((bif bif decide ((Mc.F (Prod.snd (Subtype.val s)) (Int.toNat (IntKind.wrap IntKind.i64 ((↑(Mc.nF (Prod.snd (Subtype.val s))) : Int) - (1 : Int))))).1 < (0 : Int)) then true else decide ((Mc.F (Prod.snd (Subtype.val s)) (Int.toNat (IntKind.wrap IntKind.i64 ((↑(Mc.nF (Prod.snd (Subtype.val s))) : Int) - (1 : Int))))).1 ≥ (↑d.2 : Int)) then true else decide ((↑(Prod.fst (Subtype.val s)) : Int) ≥ (200 : Int))) = true)
   (Tree.br true
   (Tree.done (XV.tup [AV.c (CV.sl 10 0 0 17 (Mc.nF (Prod.snd (Subtype.val s))) (Mc.cF (Prod.snd (Subtype.val s)))), AV.c (CV.sl 11 0 0 2 (Prod.snd (Subtype.val s)).8 (Prod.snd (Subtype.val s)).9), AV.c (iv (3 : Int)), AV.c (iv (0 : Int)), AV.c (CV.v Value.nilIface)]) [(Cd.row d), (Ent.mkBox 72 [CV.sl 9 0 0 1 (Prod.snd (Subtype.val s)).1.1 (Prod.snd (Subtype.val s)).1.2, iv (Prod.snd (Subtype.val s)).1.4]), Ent.dead, (Ent.mkBox 78 [CV.sl 4 0 0 4 (Prod.snd (Subtype.val s)).2.1 (Prod.snd (Subtype.val s)).2.2, iv (Prod.snd (Subtype.val s)).2.4]), (Ent.rw true 59 4 (Prod.snd (Subtype.val s)).2.1 (Prod.snd (Subtype.val s)).2.2 fun ii => [CV.v (Value.bool ((Prod.snd (Subtype.val s)).2.3 ii).1), CV.v (Value.bool ((Prod.snd (Subtype.val s)).2.3 ii).2), CV.v (Value.bool ((Prod.snd (Subtype.val s)).2.3 ii).3), iv ((Prod.snd (Subtype.val s)).2.3 ii).4]), (frow ol (Mc.nF m) (Mc.cF m) (Mc.F m)), Ent.dead, Ent.dead, (Ent.mkBox 68 [CV.sl 0 0 0 5 d.2 d.3, CV.ptr ⟨1, 0, 0, 2, 0, 0, 0, 0⟩, CV.ptr ⟨3, 0, 0, 2, 0, 0, 0, 0⟩, iv (Prod.snd (Subtype.val s)).3, CV.sl 10 0 0 17 (Mc.nF (Prod.snd (Subtype.val s))) (Mc.cF (Prod.snd (Subtype.val s))), CV.sl 11 0 0 2 (Prod.snd (Subtype.val s)).8 (Prod.snd (Subtype.val s)).9, iv (Prod.snd (Subtype.val s)).4]), (Ent.rw true 2 1 (Prod.snd (Subtype.val s)).1.1 (Prod.snd (Subtype.val s)).1.2 fun ii => [iv ((Prod.snd (Subtype.val s)).1.3 ii)]), (Ent.rw true 66 17 (Mc.nF (Prod.snd (Subtype.val s))) (Mc.cF (Prod.snd (Subtype.val s))) fun ii => (Fr.cv (Mc.F (Prod.snd (Subtype.val s)) ii))), (Ent.rw true 80 2 (Prod.snd (Subtype.val s)).8 (Prod.snd (Subtype.val s)).9 fun ii => [iv (Prod.fst ((Prod.snd (Subtype.val s)).10 ii)), iv (Prod.snd ((Prod.snd (Subtype.val s)).10 ii))])])
   (Tree.chk (decide ((↑(Prod.fst (Subtype.val s)) : Int) > (0 : Int)) = true → decide ((↑(Prod.fst (Subtype.val s)) : Int) > (0 : Int)) = true)
   (Tree.chk (decide ((↑(Prod.fst (Subtype.val s)) : Int) > (0 : Int)) = true → decide ((↑(Prod.fst (Subtype.val s)) : Int) > (0 : Int)) = true)
   (Tree.chk (decide ((↑(Prod.fst (Subtype.val s)) : Int) > (0 : Int)) = true → (0 : Int) ≤ (Mc.F (Prod.snd (Subtype.val s)) (Int.toNat (IntKind.wrap IntKind.i64 ((↑(Mc.nF (Prod.snd (Subtype.val s))) : Int) - (1 : Int))))).1 ∧ (Mc.F (Prod.snd (Subtype.val s)) (Int.toNat (IntKind.wrap IntKind.i64 ((↑(Mc.nF (Prod.snd (Subtype.val s))) : Int) - (1 : Int))))).1 < (↑d.2 : Int) ∧ Int.toNat (Mc.F (Prod.snd (Subtype.val s)) (Int.toNat (IntKind.wrap IntKind.i64 ((↑(Mc.nF (Prod.snd (Subtype.val s))) : Int) - (1 : Int))))).1 < d.2 ∧ 0 < 1)
   (Tree.chk (decide ((↑(Prod.fst (Subtype.val s)) : Int) > (0 : Int)) = true → decide ((↑(Prod.fst (Subtype.val s)) : Int) > (0 : Int)) = true)
   (Tree.chk (decide ((↑(Prod.fst (Subtype.val s)) : Int) > (0 : Int)) = true → 0 < 1 ∧ Int.toNat (Mc.F (Prod.snd (Subtype.val s)) (Int.toNat (IntKind.wrap IntKind.i64 ((↑(Mc.nF (Prod.snd (Subtype.val s))) : Int) - (1 : Int))))).1 < d.2)
   (Tree.br (decide ((↑(Prod.fst (Subtype.val s)) : Int) > (0 : Int)))
   (Tree.chk (decide ((↑(Prod.fst (Subtype.val s)) : Int) > (0 : Int)) = true)
   (Tree.callf 25 [AV.agg [iv (d.4 (Int.toNat (Mc.F (Prod.snd (Subtype.val s)) (Int.toNat (IntKind.wrap IntKind.i64 ((↑(Mc.nF (Prod.snd (Subtype.val s))) : Int) - (1 : Int))))).1)).1, iv (d.4 (Int.toNat (Mc.F (Prod.snd (Subtype.val s)) (Int.toNat (IntKind.wrap IntKind.i64 ((↑(Mc.nF (Prod.snd (Subtype.val s))) : Int) - (1 : Int))))).1)).2, iv (d.4 (Int.toNat (Mc.F (Prod.snd (Subtype.val s)) (Int.toNat (IntKind.wrap IntKind.i64 ((↑(Mc.nF (Prod.snd (Subtype.val s))) : Int) - (1 : Int))))).1)).3, iv (d.4 (Int.toNat (Mc.F (Prod.snd (Subtype.val s)) (Int.toNat (IntKind.wrap IntKind.i64 ((↑(Mc.nF (Prod.snd (Subtype.val s))) : Int) - (1 : Int))))).1)).4, iv (d.4 (Int.toNat (Mc.F (Prod.snd (Subtype.val s)) (Int.toNat (IntKind.wrap IntKind.i64 ((↑(Mc.nF (Prod.snd (Subtype.val s))) : Int) - (1 : Int))))).1)).5]] [(Cd.row d), (Ent.mkBox 72 [CV.sl 9 0 0 1 (Prod.snd (Subtype.val s)).1.1 (Prod.snd (Subtype.val s)).1.2, iv (Prod.snd (Subtype.val s)).1.4]), Ent.dead, (Ent.mkBox 78 [CV.sl 4 0 0 4 (Prod.snd (Subtype.val s)).2.1 (Prod.snd (Subtype.val s)).2.2, iv (Prod.snd (Subtype.val s)).2.4]), (Ent.rw true 59 4 (Prod.snd (Subtype.val s)).2.1 (Prod.snd (Subtype.val s)).2.2 fun ii => [CV.v (Value.bool ((Prod.snd (Subtype.val s)).2.3 ii).1), CV.v (Value.bool ((Prod.snd (Subtype.val s)).2.3 ii).2), CV.v (Value.bool ((Prod.snd (Subtype.val s)).2.3 ii).3), iv ((Prod.snd (Subtype.val s)).2.3 ii).4]), (frow ol (Mc.nF m) (Mc.cF m) (Mc.F m)), Ent.dead, Ent.dead, (Ent.mkBox 68 [CV.sl 0 0 0 5 d.2 d.3, CV.ptr ⟨1, 0, 0, 2, 0, 0, 0, 0⟩, CV.ptr ⟨3, 0, 0, 2, 0, 0, 0, 0⟩, iv (Prod.snd (Subtype.val s)).3, CV.sl 10 0 0 17 (Mc.nF (Prod.snd (Subtype.val s))) (Mc.cF (Prod.snd (Subtype.val s))), CV.sl 11 0 0 2 (Prod.snd (Subtype.val s)).8 (Prod.snd (Subtype.val s)).9, iv (Prod.snd (Subtype.val s)).4]), (Ent.rw true 2 1 (Prod.snd (Subtype.val s)).1.1 (Prod.snd (Subtype.val s)).1.2 fun ii => [iv ((Prod.snd (Subtype.val s)).1.3 ii)]), (Ent.rw true 66 17 (Mc.nF (Prod.snd (Subtype.val s))) (Mc.cF (Prod.snd (Subtype.val s))) fun ii => (Fr.cv (Mc.F (Prod.snd (Subtype.val s)) ii))), (Ent.rw true 80 2 (Prod.snd (Subtype.val s)).8 (Prod.snd (Subtype.val s)).9 fun ii => [iv (Prod.fst ((Prod.snd (Subtype.val s)).10 ii)), iv (Prod.snd ((Prod.snd (Subtype.val s)).10 ii))])] (accessC (d.4 (Int.toNat (Mc.F (Prod.snd (Subtype.val s)) (Int.toNat (IntKind.wrap IntKind.i64 ((↑(Mc.nF (Prod.snd (Subtype.val s))) : Int) - (1 : Int))))).1))) fun c => Tree.br (bif decide ((↑(Prod.fst (Subtype.val s)) : Int) > (0 : Int)) then accessF (d.4 (Int.toNat (Mc.F (Prod.snd (Subtype.val s)) (Int.toNat (IntKind.wrap IntKind.i64 ((↑(Mc.nF (Prod.snd (Subtype.val s))) : Int) - (1 : Int))))).1)) else false)
   (Tree.done (XV.tup [AV.c (CV.sl 10 0 0 17 (Mc.nF (Prod.snd (Subtype.val s))) (Mc.cF (Prod.snd (Subtype.val s)))), AV.c (CV.sl 11 0 0 2 (Prod.snd (Subtype.val s)).8 (Prod.snd (Subtype.val s)).9), AV.c (iv (0 : Int)), AV.c (iv (0 : Int)), AV.c (CV.v Value.nilIface)]) [(Cd.row d), (Ent.mkBox 72 [CV.sl 9 0 0 1 (Prod.snd (Subtype.val s)).1.1 (Prod.snd (Subtype.val s)).1.2, iv (Prod.snd (Subtype.val s)).1.4]), Ent.dead, (Ent.mkBox 78 [CV.sl 4 0 0 4 (Prod.snd (Subtype.val s)).2.1 (Prod.snd (Subtype.val s)).2.2, iv (Prod.snd (Subtype.val s)).2.4]), (Ent.rw true 59 4 (Prod.snd (Subtype.val s)).2.1 (Prod.snd (Subtype.val s)).2.2 fun ii => [CV.v (Value.bool ((Prod.snd (Subtype.val s)).2.3 ii).1), CV.v (Value.bool ((Prod.snd (Subtype.val s)).2.3 ii).2), CV.v (Value.bool ((Prod.snd (Subtype.val s)).2.3 ii).3), iv ((Prod.snd (Subtype.val s)).2.3 ii).4]), (frow ol (Mc.nF m) (Mc.cF m) (Mc.F m)), Ent.dead, Ent.dead, (Ent.mkBox 68 [CV.sl 0 0 0 5 d.2 d.3, CV.ptr ⟨1, 0, 0, 2, 0, 0, 0, 0⟩, CV.ptr ⟨3, 0, 0, 2, 0, 0, 0, 0⟩, iv (Prod.snd (Subtype.val s)).3, CV.sl 10 0 0 17 (Mc.nF (Prod.snd (Subtype.val s))) (Mc.cF (Prod.snd (Subtype.val s))), CV.sl 11 0 0 2 (Prod.snd (Subtype.val s)).8 (Prod.snd (Subtype.val s)).9, iv (Prod.snd (Subtype.val s)).4]), (Ent.rw true 2 1 (Prod.snd (Subtype.val s)).1.1 (Prod.snd (Subtype.val s)).1.2 fun ii => [iv ((Prod.snd (Subtype.val s)).1.3 ii)]), (Ent.rw true 66 17 (Mc.nF (Prod.snd (Subtype.val s))) (Mc.cF (Prod.snd (Subtype.val s))) fun ii => (Fr.cv (Mc.F (Prod.snd (Subtype.val s)) ii))), (Ent.rw true 80 2 (Prod.snd (Subtype.val s)).8 (Prod.snd (Subtype.val s)).9 fun ii => [iv (Prod.fst ((Prod.snd (Subtype.val s)).10 ii)), iv (Prod.snd ((Prod.snd (Subtype.val s)).10 ii))])])
   (Tree.chk ((0 : Int) ≤ (Mc.F (Prod.snd (Subtype.val s)) (Int.toNat (IntKind.wrap IntKind.i64 ((↑(Mc.nF (Prod.snd (Subtype.val s))) : Int) - (1 : Int))))).1 ∧ (Mc.F (Prod.snd (Subtype.val s)) (Int.toNat (IntKind.wrap IntKind.i64 ((↑(Mc.nF (Prod.snd (Subtype.val s))) : Int) - (1 : Int))))).1 < (↑d.2 : Int) ∧ Int.toNat (Mc.F (Prod.snd (Subtype.val s)) (Int.toNat (IntKind.wrap IntKind.i64 ((↑(Mc.nF (Prod.snd (Subtype.val s))) : Int) - (1 : Int))))).1 < d.2 ∧ 0 < 1)
   (Tree.chk (0 < 1 ∧ Int.toNat (Mc.F (Prod.snd (Subtype.val s)) (Int.toNat (IntKind.wrap IntKind.i64 ((↑(Mc.nF (Prod.snd (Subtype.val s))) : Int) - (1 : Int))))).1 < d.2)
   (Tree.some_ (Mc × Mc × Int) fun s_1 => Tree.callf 26 [AV.c (CV.ptr ⟨8, 0, 0, 7, 0, 0, 0, 0⟩), AV.agg [iv (d.4 (Int.toNat (Mc.F (Prod.snd (Subtype.val s)) (Int.toNat (IntKind.wrap IntKind.i64 ((↑(Mc.nF (Prod.snd (Subtype.val s))) : Int) - (1 : Int))))).1)).1, iv (d.4 (Int.toNat (Mc.F (Prod.snd (Subtype.val s)) (Int.toNat (IntKind.wrap IntKind.i64 ((↑(Mc.nF (Prod.snd (Subtype.val s))) : Int) - (1 : Int))))).1)).2, iv (d.4 (Int.toNat (Mc.F (Prod.snd (Subtype.val s)) (Int.toNat (IntKind.wrap IntKind.i64 ((↑(Mc.nF (Prod.snd (Subtype.val s))) : Int) - (1 : Int))))).1)).3, iv (d.4 (Int.toNat (Mc.F (Prod.snd (Subtype.val s)) (Int.toNat (IntKind.wrap IntKind.i64 ((↑(Mc.nF (Prod.snd (Subtype.val s))) : Int) - (1 : Int))))).1)).4, iv (d.4 (Int.toNat (Mc.F (Prod.snd (Subtype.val s)) (Int.toNat (IntKind.wrap IntKind.i64 ((↑(Mc.nF (Prod.snd (Subtype.val s))) : Int) - (1 : Int))))).1)).5]] [(Cd.row d), (Ent.mkBox 72 [CV.sl 9 0 0 1 (Prod.snd (Subtype.val s)).1.1 (Prod.snd (Subtype.val s)).1.2, iv (Prod.snd (Subtype.val s)).1.4]), Ent.dead, (Ent.mkBox 78 [CV.sl 4 0 0 4 (Prod.snd (Subtype.val s)).2.1 (Prod.snd (Subtype.val s)).2.2, iv (Prod.snd (Subtype.val s)).2.4]), (Ent.rw true 59 4 (Prod.snd (Subtype.val s)).2.1 (Prod.snd (Subtype.val s)).2.2 fun ii => [CV.v (Value.bool ((Prod.snd (Subtype.val s)).2.3 ii).1), CV.v (Value.bool ((Prod.snd (Subtype.val s)).2.3 ii).2), CV.v (Value.bool ((Prod.snd (Subtype.val s)).2.3 ii).3), iv ((Prod.snd (Subtype.val s)).2.3 ii).4]), (frow ol (Mc.nF m) (Mc.cF m) (Mc.F m)), Ent.dead, Ent.dead, (Ent.mkBox 68 [CV.sl 0 0 0 5 d.2 d.3, CV.ptr ⟨1, 0, 0, 2, 0, 0, 0, 0⟩, CV.ptr ⟨3, 0, 0, 2, 0, 0, 0, 0⟩, iv (Prod.snd (Subtype.val s)).3, CV.sl 10 0 0 17 (Mc.nF (Prod.snd (Subtype.val s))) (Mc.cF (Prod.snd (Subtype.val s))), CV.sl 11 0 0 2 (Prod.snd (Subtype.val s)).8 (Prod.snd (Subtype.val s)).9, iv (Prod.snd (Subtype.val s)).4]), (Ent.rw true 2 1 (Prod.snd (Subtype.val s)).1.1 (Prod.snd (Subtype.val s)).1.2 fun ii => [iv ((Prod.snd (Subtype.val s)).1.3 ii)]), (Ent.rw true 66 17 (Mc.nF (Prod.snd (Subtype.val s))) (Mc.cF (Prod.snd (Subtype.val s))) fun ii => (Fr.cv (Mc.F (Prod.snd (Subtype.val s)) ii))), (Ent.rw true 80 2 (Prod.snd (Subtype.val s)).8 (Prod.snd (Subtype.val s)).9 fun ii => [iv (Prod.fst ((Prod.snd (Subtype.val s)).10 ii)), iv (Prod.snd ((Prod.snd (Subtype.val s)).10 ii))])] (oneC (Prod.fst s_1) (Prod.fst (Prod.snd s_1)) (Prod.snd (Prod.snd s_1)) d (d.4 (Int.toNat (Mc.F (Prod.snd (Subtype.val s)) (Int.toNat (IntKind.wrap IntKind.i64 ((↑(Mc.nF (Prod.snd (Subtype.val s))) : Int) - (1 : Int))))).1)) [8, 0, 1, 9, 3, 4, 10, 11] 12) fun c => Tree.br (Prod.snd (Prod.snd s_1) == (0 : Int))
   (Tree.some_ { s // Mid d m (Prod.fst s) (Prod.snd s) } fun s' => Tree.chk (201 - Prod.fst (Subtype.val s') < 201 - Prod.fst (Subtype.val s))
   (Tree.chk (XV.a (AV.c (iv (IntKind.wrap IntKind.i64 ((↑(Prod.fst (Subtype.val s)) : Int) + (1 : Int))))) = XV.a (AV.c (iv (↑(Prod.fst (Subtype.val s')) : Int))))
   (Tree.chk (XV.a (AV.c (CV.ptr ⟨8, 0, 0, 7, 0, 0, 0, 0⟩)) = XV.a (AV.c (CV.ptr ⟨8, 0, 0, 7, 0, 0, 0, 0⟩)))
   (Tree.chk (XV.a (AV.c (CV.v Value.nilIface)) = XV.a (AV.c (CV.v Value.nilIface)))
   (Tree.chk (XV.a (AV.c (iv (0 : Int))) = XV.a (AV.c (iv (0 : Int))))
   (Tree.chk (XV.a (AV.c (iv (0 : Int))) = XV.a (AV.c (iv (0 : Int))))
   (Tree.chk (XV.a (AV.c (CV.v (Value.slice none 0 0))) = XV.a (AV.c (CV.v (Value.slice none 0 0))))
   (Tree.chk (XV.a (AV.c (CV.v (Value.slice none 0 0))) = XV.a (AV.c (CV.v (Value.slice none 0 0))))
   (Tree.chk (XV.a (AV.c (CV.sl 0 0 0 5 d.2 d.3)) = XV.a (AV.c (CV.sl 0 0 0 5 d.2 d.3)))
   (Tree.chk (XV.a (AV.c (CV.ptr ⟨1, 0, 0, 2, 0, 0, 0, 0⟩)) = XV.a (AV.c (CV.ptr ⟨1, 0, 0, 2, 0, 0, 0, 0⟩)))
   (Tree.chk (XV.a (AV.c (CV.ptr ⟨3, 0, 0, 2, 0, 0, 0, 0⟩)) = XV.a (AV.c (CV.ptr ⟨3, 0, 0, 2, 0, 0, 0, 0⟩)))
   (Tree.chk (XV.a (AV.c (iv m.3)) = XV.a (AV.c (iv m.3)))
   (Tree.chk (XV.a (AV.c (CV.sl 5 0 0 17 (Mc.nF m) (Mc.cF m))) = XV.a (AV.c (CV.sl 5 0 0 17 (Mc.nF m) (Mc.cF m))))
   (Tree.chk (RnOk 6 12 15 fun a a_1 => (List.getD [0, 1, 2, 3, 4, 5, 6, 7, 8, 12, 13, 14] a 0, a_1))
   (Tree.chk (RgAll 15 (fun a a_1 => (List.getD [0, 1, 2, 3, 4, 5, 6, 7, 8, 12, 13, 14] a 0, a_1)) (fun a a_1 => (List.getD [0, 1, 2, 3, 4, 5, 6, 7, 8, 0, 0, 0, 9, 10, 11] a 0, a_1)) [(Cd.row d), (Ent.mkBox 72 [CV.sl 12 0 0 1 (Prod.fst (Prod.snd s_1)).1.1 (c 0), iv (Prod.fst (Prod.snd s_1)).1.4]), Ent.dead, (Ent.mkBox 78 [CV.sl 4 0 0 4 (Prod.fst (Prod.snd s_1)).2.1 (Prod.fst (Prod.snd s_1)).2.2, iv (Prod.fst (Prod.snd s_1)).2.4]), (Ent.rw true 59 4 (Prod.fst (Prod.snd s_1)).2.1 (Prod.fst (Prod.snd s_1)).2.2 fun ii => [CV.v (Value.bool ((Prod.fst (Prod.snd s_1)).2.3 ii).1), CV.v (Value.bool ((Prod.fst (Prod.snd s_1)).2.3 ii).2), CV.v (Value.bool ((Prod.fst (Prod.snd s_1)).2.3 ii).3), iv ((Prod.fst (Prod.snd s_1)).2.3 ii).4]), (frow ol (Mc.nF m) (Mc.cF m) (Mc.F m)), Ent.dead, Ent.dead, (Ent.mkBox 68 [CV.sl 0 0 0 5 d.2 d.3, CV.ptr ⟨1, 0, 0, 2, 0, 0, 0, 0⟩, CV.ptr ⟨3, 0, 0, 2, 0, 0, 0, 0⟩, iv (Prod.fst (Prod.snd s_1)).3, CV.sl 13 0 0 17 (Mc.nF (Prod.fst (Prod.snd s_1))) (c 1), CV.sl 14 0 0 2 (Prod.fst (Prod.snd s_1)).8 (c 2), iv (Prod.fst (Prod.snd s_1)).4]), Ent.dead, Ent.dead, Ent.dead, (Ent.rw true 2 1 (Prod.fst (Prod.snd s_1)).1.1 (c 0) fun ii => [iv ((Prod.fst (Prod.snd s_1)).1.3 ii)]), (Ent.rw true 66 17 (Mc.nF (Prod.fst (Prod.snd s_1))) (c 1) fun ii => (Fr.cv (Mc.F (Prod.fst (Prod.snd s_1)) ii))), (nrow true (Prod.fst (Prod.snd s_1)).8 (c 2) (Prod.fst (Prod.snd s_1)).10)] 12 0 [(Cd.row d), (Ent.mkBox 72 [CV.sl 9 0 0 1 (Prod.snd (Subtype.val s')).1.1 (Prod.snd (Subtype.val s')).1.2, iv (Prod.snd (Subtype.val s')).1.4]), Ent.dead, (Ent.mkBox 78 [CV.sl 4 0 0 4 (Prod.snd (Subtype.val s')).2.1 (Prod.snd (Subtype.val s')).2.2, iv (Prod.snd (Subtype.val s')).2.4]), (Ent.rw true 59 4 (Prod.snd (Subtype.val s')).2.1 (Prod.snd (Subtype.val s')).2.2 fun ii => [CV.v (Value.bool ((Prod.snd (Subtype.val s')).2.3 ii).1), CV.v (Value.bool ((Prod.snd (Subtype.val s')).2.3 ii).2), CV.v (Value.bool ((Prod.snd (Subtype.val s')).2.3 ii).3), iv ((Prod.snd (Subtype.val s')).2.3 ii).4]), (frow ol (Mc.nF m) (Mc.cF m) (Mc.F m)), Ent.dead, Ent.dead, (Ent.mkBox 68 [CV.sl 0 0 0 5 d.2 d.3, CV.ptr ⟨1, 0, 0, 2, 0, 0, 0, 0⟩, CV.ptr ⟨3, 0, 0, 2, 0, 0, 0, 0⟩, iv (Prod.snd (Subtype.val s')).3, CV.sl 10 0 0 17 (Mc.nF (Prod.snd (Subtype.val s'))) (Mc.cF (Prod.snd (Subtype.val s'))), CV.sl 11 0 0 2 (Prod.snd (Subtype.val s')).8 (Prod.snd (Subtype.val s')).9, iv (Prod.snd (Subtype.val s')).4]), (Ent.rw true 2 1 (Prod.snd (Subtype.val s')).1.1 (Prod.snd (Subtype.val s')).1.2 fun ii => [iv ((Prod.snd (Subtype.val s')).1.3 ii)]), (Ent.rw true 66 17 (Mc.nF (Prod.snd (Subtype.val s'))) (Mc.cF (Prod.snd (Subtype.val s'))) fun ii => (Fr.cv (Mc.F (Prod.snd (Subtype.val s')) ii))), (Ent.rw true 80 2 (Prod.snd (Subtype.val s')).8 (Prod.snd (Subtype.val s')).9 fun ii => [iv (Prod.fst ((Prod.snd (Subtype.val s')).10 ii)), iv (Prod.snd ((Prod.snd (Subtype.val s')).10 ii))])])
   (Tree.need True))))))))))))))))
   (Tree.br (Prod.snd (Prod.snd s_1) == (-1 : Int))
   (Tree.done (XV.tup [AV.c (CV.sl 13 0 0 17 (Mc.nF (Prod.fst (Prod.snd s_1))) (c 1)), AV.c (CV.sl 14 0 0 2 (Prod.fst (Prod.snd s_1)).8 (c 2)), AV.c (iv (0 : Int)), AV.c (iv (Prod.fst (Prod.snd s_1)).4), AV.c (CV.v Value.nilIface)]) [(Cd.row d), (Ent.mkBox 72 [CV.sl 12 0 0 1 (Prod.fst (Prod.snd s_1)).1.1 (c 0), iv (Prod.fst (Prod.snd s_1)).1.4]), Ent.dead, (Ent.mkBox 78 [CV.sl 4 0 0 4 (Prod.fst (Prod.snd s_1)).2.1 (Prod.fst (Prod.snd s_1)).2.2, iv (Prod.fst (Prod.snd s_1)).2.4]), (Ent.rw true 59 4 (Prod.fst (Prod.snd s_1)).2.1 (Prod.fst (Prod.snd s_1)).2.2 fun ii => [CV.v (Value.bool ((Prod.fst (Prod.snd s_1)).2.3 ii).1), CV.v (Value.bool ((Prod.fst (Prod.snd s_1)).2.3 ii).2), CV.v (Value.bool ((Prod.fst (Prod.snd s_1)).2.3 ii).3), iv ((Prod.fst (Prod.snd s_1)).2.3 ii).4]), (frow ol (Mc.nF m) (Mc.cF m) (Mc.F m)), Ent.dead, Ent.dead, (Ent.mkBox 68 [CV.sl 0 0 0 5 d.2 d.3, CV.ptr ⟨1, 0, 0, 2, 0, 0, 0, 0⟩, CV.ptr ⟨3, 0, 0, 2, 0, 0, 0, 0⟩, iv (Prod.fst (Prod.snd s_1)).3, CV.sl 13 0 0 17 (Mc.nF (Prod.fst (Prod.snd s_1))) (c 1), CV.sl 14 0 0 2 (Prod.fst (Prod.snd s_1)).8 (c 2), iv (Prod.fst (Prod.snd s_1)).4]), Ent.dead, Ent.dead, Ent.dead, (Ent.rw true 2 1 (Prod.fst (Prod.snd s_1)).1.1 (c 0) fun ii => [iv ((Prod.fst (Prod.snd s_1)).1.3 ii)]), (Ent.rw true 66 17 (Mc.nF (Prod.fst (Prod.snd s_1))) (c 1) fun ii => (Fr.cv (Mc.F (Prod.fst (Prod.snd s_1)) ii))), (nrow true (Prod.fst (Prod.snd s_1)).8 (c 2) (Prod.fst (Prod.snd s_1)).10)])
   (Tree.done (XV.tup [AV.c (CV.sl 13 0 0 17 (Mc.nF (Prod.fst (Prod.snd s_1))) (c 1)), AV.c (CV.sl 14 0 0 2 (Prod.fst (Prod.snd s_1)).8 (c 2)), AV.c (iv (Prod.snd (Prod.snd s_1))), AV.c (iv (Prod.fst (Prod.snd s_1)).4), AV.c (CV.v Value.nilIface)]) [(Cd.row d), (Ent.mkBox 72 [CV.sl 12 0 0 1 (Prod.fst (Prod.snd s_1)).1.1 (c 0), iv (Prod.fst (Prod.snd s_1)).1.4]), Ent.dead, (Ent.mkBox 78 [CV.sl 4 0 0 4 (Prod.fst (Prod.snd s_1)).2.1 (Prod.fst (Prod.snd s_1)).2.2, iv (Prod.fst (Prod.snd s_1)).2.4]), (Ent.rw true 59 4 (Prod.fst (Prod.snd s_1)).2.1 (Prod.fst (Prod.snd s_1)).2.2 fun ii => [CV.v (Value.bool ((Prod.fst (Prod.snd s_1)).2.3 ii).1), CV.v (Value.bool ((Prod.fst (Prod.snd s_1)).2.3 ii).2), CV.v (Value.bool ((Prod.fst (Prod.snd s_1)).2.3 ii).3), iv ((Prod.fst (Prod.snd s_1)).2.3 ii).4]), (frow ol (Mc.nF m) (Mc.cF m) (Mc.F m)), Ent.dead, Ent.dead, (Ent.mkBox 68 [CV.sl 0 0 0 5 d.2 d.3, CV.ptr ⟨1, 0, 0, 2, 0, 0, 0, 0⟩, CV.ptr ⟨3, 0, 0, 2, 0, 0, 0, 0⟩, iv (Prod.fst (Prod.snd s_1)).3, CV.sl 13 0 0 17 (Mc.nF (Prod.fst (Prod.snd s_1))) (c 1), CV.sl 14 0 0 2 (Prod.fst (Prod.snd s_1)).8 (c 2), iv (Prod.fst (Prod.snd s_1)).4]), Ent.dead, Ent.dead, Ent.dead, (Ent.rw true 2 1 (Prod.fst (Prod.snd s_1)).1.1 (c 0) fun ii => [iv ((Prod.fst (Prod.snd s_1)).1.3 ii)]), (Ent.rw true 66 17 (Mc.nF (Prod.fst (Prod.snd s_1))) (c 1) fun ii => (Fr.cv (Mc.F (Prod.fst (Prod.snd s_1)) ii))), (nrow true (Prod.fst (Prod.snd s_1)).8 (c 2) (Prod.fst (Prod.snd s_1)).10)])))))))
   (Tree.chk (decide ((↑(Prod.fst (Subtype.val s)) : Int) > (0 : Int)) = false)
   (Tree.br false
   (Tree.done (XV.tup [AV.c (CV.sl 10 0 0 17 (Mc.nF (Prod.snd (Subtype.val s))) (Mc.cF (Prod.snd (Subtype.val s)))), AV.c (CV.sl 11 0 0 2 (Prod.snd (Subtype.val s)).8 (Prod.snd (Subtype.val s)).9), AV.c (iv (0 : Int)), AV.c (iv (0 : Int)), AV.c (CV.v Value.nilIface)]) [(Cd.row d), (Ent.mkBox 72 [CV.sl 9 0 0 1 (Prod.snd (Subtype.val s)).1.1 (Prod.snd (Subtype.val s)).1.2, iv (Prod.snd (Subtype.val s)).1.4]), Ent.dead, (Ent.mkBox 78 [CV.sl 4 0 0 4 (Prod.snd (Subtype.val s)).2.1 (Prod.snd (Subtype.val s)).2.2, iv (Prod.snd (Subtype.val s)).2.4]), (Ent.rw true 59 4 (Prod.snd (Subtype.val s)).2.1 (Prod.snd (Subtype.val s)).2.2 fun ii => [CV.v (Value.bool ((Prod.snd (Subtype.val s)).2.3 ii).1), CV.v (Value.bool ((Prod.snd (Subtype.val s)).2.3 ii).2), CV.v (Value.bool ((Prod.snd (Subtype.val s)).2.3 ii).3), iv ((Prod.snd (Subtype.val s)).2.3 ii).4]), (frow ol (Mc.nF m) (Mc.cF m) (Mc.F m)), Ent.dead, Ent.dead, (Ent.mkBox 68 [CV.sl 0 0 0 5 d.2 d.3, CV.ptr ⟨1, 0, 0, 2, 0, 0, 0, 0⟩, CV.ptr ⟨3, 0, 0, 2, 0, 0, 0, 0⟩, iv (Prod.snd (Subtype.val s)).3, CV.sl 10 0 0 17 (Mc.nF (Prod.snd (Subtype.val s))) (Mc.cF (Prod.snd (Subtype.val s))), CV.sl 11 0 0 2 (Prod.snd (Subtype.val s)).8 (Prod.snd (Subtype.val s)).9, iv (Prod.snd (Subtype.val s)).4]), (Ent.rw true 2 1 (Prod.snd (Subtype.val s)).1.1 (Prod.snd (Subtype.val s)).1.2 fun ii => [iv ((Prod.snd (Subtype.val s)).1.3 ii)]), (Ent.rw true 66 17 (Mc.nF (Prod.snd (Subtype.val s))) (Mc.cF (Prod.snd (Subtype.val s))) fun ii => (Fr.cv (Mc.F (Prod.snd (Subtype.val s)) ii))), (Ent.rw true 80 2 (Prod.snd (Subtype.val s)).8 (Prod.snd (Subtype.val s)).9 fun ii => [iv (Prod.fst ((Prod.snd (Subtype.val s)).10 ii)), iv (Prod.snd ((Prod.snd (Subtype.val s)).10 ii))])])
   (Tree.chk ((0 : Int) ≤ (Mc.F (Prod.snd (Subtype.val s)) (Int.toNat (IntKind.wrap IntKind.i64 ((↑(Mc.nF (Prod.snd (Subtype.val s))) : Int) - (1 : Int))))).1 ∧ (Mc.F (Prod.snd (Subtype.val s)) (Int.toNat (IntKind.wrap IntKind.i64 ((↑(Mc.nF (Prod.snd (Subtype.val s))) : Int) - (1 : Int))))).1 < (↑d.2 : Int) ∧ Int.toNat (Mc.F (Prod.snd (Subtype.val s)) (Int.toNat (IntKind.wrap IntKind.i64 ((↑(Mc.nF (Prod.snd (Subtype.val s))) : Int) - (1 : Int))))).1 < d.2 ∧ 0 < 1)
   (Tree.chk (0 < 1 ∧ Int.toNat (Mc.F (Prod.snd (Subtype.val s)) (Int.toNat (IntKind.wrap IntKind.i64 ((↑(Mc.nF (Prod.snd (Subtype.val s))) : Int) - (1 : Int))))).1 < d.2)
   (Tree.some_ (Mc × Mc × Int) fun s_1 => Tree.callf 26 [AV.c (CV.ptr ⟨8, 0, 0, 7, 0, 0, 0, 0⟩), AV.agg [iv (d.4 (Int.toNat (Mc.F (Prod.snd (Subtype.val s)) (Int.toNat (IntKind.wrap IntKind.i64 ((↑(Mc.nF (Prod.snd (Subtype.val s))) : Int) - (1 : Int))))).1)).1, iv (d.4 (Int.toNat (Mc.F (Prod.snd (Subtype.val s)) (Int.toNat (IntKind.wrap IntKind.i64 ((↑(Mc.nF (Prod.snd (Subtype.val s))) : Int) - (1 : Int))))).1)).2, iv (d.4 (Int.toNat (Mc.F (Prod.snd (Subtype.val s)) (Int.toNat (IntKind.wrap IntKind.i64 ((↑(Mc.nF (Prod.snd (Subtype.val s))) : Int) - (1 : Int))))).1)).3, iv (d.4 (Int.toNat (Mc.F (Prod.snd (Subtype.val s)) (Int.toNat (IntKind.wrap IntKind.i64 ((↑(Mc.nF (Prod.snd (Subtype.val s))) : Int) - (1 : Int))))).1)).4, iv (d.4 (Int.toNat (Mc.F (Prod.snd (Subtype.val s)) (Int.toNat (IntKind.wrap IntKind.i64 ((↑(Mc.nF (Prod.snd (Subtype.val s))) : Int) - (1 : Int))))).1)).5]] [(Cd.row d), (Ent.mkBox 72 [CV.sl 9 0 0 1 (Prod.snd (Subtype.val s)).1.1 (Prod.snd (Subtype.val s)).1.2, iv (Prod.snd (Subtype.val s)).1.4]), Ent.dead, (Ent.mkBox 78 [CV.sl 4 0 0 4 (Prod.snd (Subtype.val s)).2.1 (Prod.snd (Subtype.val s)).2.2, iv (Prod.snd (Subtype.val s)).2.4]), (Ent.rw true 59 4 (Prod.snd (Subtype.val s)).2.1 (Prod.snd (Subtype.val s)).2.2 fun ii => [CV.v (Value.bool ((Prod.snd (Subtype.val s)).2.3 ii).1), CV.v (Value.bool ((Prod.snd (Subtype.val s)).2.3 ii).2), CV.v (Value.bool ((Prod.snd (Subtype.val s)).2.3 ii).3), iv ((Prod.snd (Subtype.val s)).2.3 ii).4]), (frow ol (Mc.nF m) (Mc.cF m) (Mc.F m)), Ent.dead, Ent.dead, (Ent.mkBox 68 [CV.sl 0 0 0 5 d.2 d.3, CV.ptr ⟨1, 0, 0, 2, 0, 0, 0, 0⟩, CV.ptr ⟨3, 0, 0, 2, 0, 0, 0, 0⟩, iv (Prod.snd (Subtype.val s)).3, CV.sl 10 0 0 17 (Mc.nF (Prod.snd (Subtype.val s))) (Mc.cF (Prod.snd (Subtype.val s))), CV.sl 11 0 0 2 (Prod.snd (Subtype.val s)).8 (Prod.snd (Subtype.val s)).9, iv (Prod.snd (Subtype.val s)).4]), (Ent.rw true 2 1 (Prod.snd (Subtype.val s)).1.1 (Prod.snd (Subtype.val s)).1.2 fun ii => [iv ((Prod.snd (Subtype.val s)).1.3 ii)]), (Ent.rw true 66 17 (Mc.nF (Prod.snd (Subtype.val s))) (Mc.cF (Prod.snd (Subtype.val s))) fun ii => (Fr.cv (Mc.F (Prod.snd (Subtype.val s)) ii))), (Ent.rw true 80 2 (Prod.snd (Subtype.val s)).8 (Prod.snd (Subtype.val s)).9 fun ii => [iv (Prod.fst ((Prod.snd (Subtype.val s)).10 ii)), iv (Prod.snd ((Prod.snd (Subtype.val s)).10 ii))])] (oneC (Prod.fst s_1) (Prod.fst (Prod.snd s_1)) (Prod.snd (Prod.snd s_1)) d (d.4 (Int.toNat (Mc.F (Prod.snd (Subtype.val s)) (Int.toNat (IntKind.wrap IntKind.i64 ((↑(Mc.nF (Prod.snd (Subtype.val s))) : Int) - (1 : Int))))).1)) [8, 0, 1, 9, 3, 4, 10, 11] 12) fun c => Tree.br (Prod.snd (Prod.snd s_1) == (0 : Int))
   (Tree.some_ { s // Mid d m (Prod.fst s) (Prod.snd s) } fun s' => Tree.chk (201 - Prod.fst (Subtype.val s') < 201 - Prod.fst (Subtype.val s))
   (Tree.chk (XV.a (AV.c (iv (IntKind.wrap IntKind.i64 ((↑(Prod.fst (Subtype.val s)) : Int) + (1 : Int))))) = XV.a (AV.c (iv (↑(Prod.fst (Subtype.val s')) : Int))))
   (Tree.chk (XV.a (AV.c (CV.ptr ⟨8, 0, 0, 7, 0, 0, 0, 0⟩)) = XV.a (AV.c (CV.ptr ⟨8, 0, 0, 7, 0, 0, 0, 0⟩)))
   (Tree.chk (XV.a (AV.c (CV.v Value.nilIface)) = XV.a (AV.c (CV.v Value.nilIface)))
   (Tree.chk (XV.a (AV.c (iv (0 : Int))) = XV.a (AV.c (iv (0 : Int))))
   (Tree.chk (XV.a (AV.c (iv (0 : Int))) = XV.a (AV.c (iv (0 : Int))))
   (Tree.chk (XV.a (AV.c (CV.v (Value.slice none 0 0))) = XV.a (AV.c (CV.v (Value.slice none 0 0))))
   (Tree.chk (XV.a (AV.c (CV.v (Value.slice none 0 0))) = XV.a (AV.c (CV.v (Value.slice none 0 0))))
   (Tree.chk (XV.a (AV.c (CV.sl 0 0 0 5 d.2 d.3)) = XV.a (AV.c (CV.sl 0 0 0 5 d.2 d.3)))
   (Tree.chk (XV.a (AV.c (CV.ptr ⟨1, 0, 0, 2, 0, 0, 0, 0⟩)) = XV.a (AV.c (CV.ptr ⟨1, 0, 0, 2, 0, 0, 0, 0⟩)))
   (Tree.chk (XV.a (AV.c (CV.ptr ⟨3, 0, 0, 2, 0, 0, 0, 0⟩)) = XV.a (AV.c (CV.ptr ⟨3, 0, 0, 2, 0, 0, 0, 0⟩)))
   (Tree.chk (XV.a (AV.c (iv m.3)) = XV.a (AV.c (iv m.3)))
   (Tree.chk (XV.a (AV.c (CV.sl 5 0 0 17 (Mc.nF m) (Mc.cF m))) = XV.a (AV.c (CV.sl 5 0 0 17 (Mc.nF m) (Mc.cF m))))
   (Tree.chk (RnOk 6 12 15 fun a a_1 => (List.getD [0, 1, 2, 3, 4, 5, 6, 7, 8, 12, 13, 14] a 0, a_1))
   (Tree.chk (RgAll 15 (fun a a_1 => (List.getD [0, 1, 2, 3, 4, 5, 6, 7, 8, 12, 13, 14] a 0, a_1)) (fun a a_1 => (List.getD [0, 1, 2, 3, 4, 5, 6, 7, 8, 0, 0, 0, 9, 10, 11] a 0, a_1)) [(Cd.row d), (Ent.mkBox 72 [CV.sl 12 0 0 1 (Prod.fst (Prod.snd s_1)).1.1 (c 0), iv (Prod.fst (Prod.snd s_1)).1.4]), Ent.dead, (Ent.mkBox 78 [CV.sl 4 0 0 4 (Prod.fst (Prod.snd s_1)).2.1 (Prod.fst (Prod.snd s_1)).2.2, iv (Prod.fst (Prod.snd s_1)).2.4]), (Ent.rw true 59 4 (Prod.fst (Prod.snd s_1)).2.1 (Prod.fst (Prod.snd s_1)).2.2 fun ii => [CV.v (Value.bool ((Prod.fst (Prod.snd s_1)).2.3 ii).1), CV.v (Value.bool ((Prod.fst (Prod.snd s_1)).2.3 ii).2), CV.v (Value.bool ((Prod.fst (Prod.snd s_1)).2.3 ii).3), iv ((Prod.fst (Prod.snd s_1)).2.3 ii).4]), (frow ol (Mc.nF m) (Mc.cF m) (Mc.F m)), Ent.dead, Ent.dead, (Ent.mkBox 68 [CV.sl 0 0 0 5 d.2 d.3, CV.ptr ⟨1, 0, 0, 2, 0, 0, 0, 0⟩, CV.ptr ⟨3, 0, 0, 2, 0, 0, 0, 0⟩, iv (Prod.fst (Prod.snd s_1)).3, CV.sl 13 0 0 17 (Mc.nF (Prod.fst (Prod.snd s_1))) (c 1), CV.sl 14 0 0 2 (Prod.fst (Prod.snd s_1)).8 (c 2), iv (Prod.fst (Prod.snd s_1)).4]), Ent.dead, Ent.dead, Ent.dead, (Ent.rw true 2 1 (Prod.fst (Prod.snd s_1)).1.1 (c 0) fun ii => [iv ((Prod.fst (Prod.snd s_1)).1.3 ii)]), (Ent.rw true 66 17 (Mc.nF (Prod.fst (Prod.snd s_1))) (c 1) fun ii => (Fr.cv (Mc.F (Prod.fst (Prod.snd s_1)) ii))), (nrow true (Prod.fst (Prod.snd s_1)).8 (c 2) (Prod.fst (Prod.snd s_1)).10)] 12 0 [(Cd.row d), (Ent.mkBox 72 [CV.sl 9 0 0 1 (Prod.snd (Subtype.val s')).1.1 (Prod.snd (Subtype.val s')).1.2, iv (Prod.snd (Subtype.val s')).1.4]), Ent.dead, (Ent.mkBox 78 [CV.sl 4 0 0 4 (Prod.snd (Subtype.val s')).2.1 (Prod.snd (Subtype.val s')).2.2, iv (Prod.snd (Subtype.val s')).2.4]), (Ent.rw true 59 4 (Prod.snd (Subtype.val s')).2.1 (Prod.snd (Subtype.val s')).2.2 fun ii => [CV.v (Value.bool ((Prod.snd (Subtype.val s')).2.3 ii).1), CV.v (Value.bool ((Prod.snd (Subtype.val s')).2.3 ii).2), CV.v (Value.bool ((Prod.snd (Subtype.val s')).2.3 ii).3), iv ((Prod.snd (Subtype.val s')).2.3 ii).4]), (frow ol (Mc.nF m) (Mc.cF m) (Mc.F m)), Ent.dead, Ent.dead, (Ent.mkBox 68 [CV.sl 0 0 0 5 d.2 d.3, CV.ptr ⟨1, 0, 0, 2, 0, 0, 0, 0⟩, CV.ptr ⟨3, 0, 0, 2, 0, 0, 0, 0⟩, iv (Prod.snd (Subtype.val s')).3, CV.sl 10 0 0 17 (Mc.nF (Prod.snd (Subtype.val s'))) (Mc.cF (Prod.snd (Subtype.val s'))), CV.sl 11 0 0 2 (Prod.snd (Subtype.val s')).8 (Prod.snd (Subtype.val s')).9, iv (Prod.snd (Subtype.val s')).4]), (Ent.rw true 2 1 (Prod.snd (Subtype.val s')).1.1 (Prod.snd (Subtype.val s')).1.2 fun ii => [iv ((Prod.snd (Subtype.val s')).1.3 ii)]), (Ent.rw true 66 17 (Mc.nF (Prod.snd (Subtype.val s'))) (Mc.cF (Prod.snd (Subtype.val s'))) fun ii => (Fr.cv (Mc.F (Prod.snd (Subtype.val s')) ii))), (Ent.rw true 80 2 (Prod.snd (Subtype.val s')).8 (Prod.snd (Subtype.val s')).9 fun ii => [iv (Prod.fst ((Prod.snd (Subtype.val s')).10 ii)), iv (Prod.snd ((Prod.snd (Subtype.val s')).10 ii))])])
   (Tree.need True))))))))))))))))
   (Tree.br (Prod.snd (Prod.snd s_1) == (-1 : Int))
   (Tree.done (XV.tup [AV.c (CV.sl 13 0 0 17 (Mc.nF (Prod.fst (Prod.snd s_1))) (c 1)), AV.c (CV.sl 14 0 0 2 (Prod.fst (Prod.snd s_1)).8 (c 2)), AV.c (iv (0 : Int)), AV.c (iv (Prod.fst (Prod.snd s_1)).4), AV.c (CV.v Value.nilIface)]) [(Cd.row d), (Ent.mkBox 72 [CV.sl 12 0 0 1 (Prod.fst (Prod.snd s_1)).1.1 (c 0), iv (Prod.fst (Prod.snd s_1)).1.4]), Ent.dead, (Ent.mkBox 78 [CV.sl 4 0 0 4 (Prod.fst (Prod.snd s_1)).2.1 (Prod.fst (Prod.snd s_1)).2.2, iv (Prod.fst (Prod.snd s_1)).2.4]), (Ent.rw true 59 4 (Prod.fst (Prod.snd s_1)).2.1 (Prod.fst (Prod.snd s_1)).2.2 fun ii => [CV.v (Value.bool ((Prod.fst (Prod.snd s_1)).2.3 ii).1), CV.v (Value.bool ((Prod.fst (Prod.snd s_1)).2.3 ii).2), CV.v (Value.bool ((Prod.fst (Prod.snd s_1)).2.3 ii).3), iv ((Prod.fst (Prod.snd s_1)).2.3 ii).4]), (frow ol (Mc.nF m) (Mc.cF m) (Mc.F m)), Ent.dead, Ent.dead, (Ent.mkBox 68 [CV.sl 0 0 0 5 d.2 d.3, CV.ptr ⟨1, 0, 0, 2, 0, 0, 0, 0⟩, CV.ptr ⟨3, 0, 0, 2, 0, 0, 0, 0⟩, iv (Prod.fst (Prod.snd s_1)).3, CV.sl 13 0 0 17 (Mc.nF (Prod.fst (Prod.snd s_1))) (c 1), CV.sl 14 0 0 2 (Prod.fst (Prod.snd s_1)).8 (c 2), iv (Prod.fst (Prod.snd s_1)).4]), Ent.dead, Ent.dead, Ent.dead, (Ent.rw true 2 1 (Prod.fst (Prod.snd s_1)).1.1 (c 0) fun ii => [iv ((Prod.fst (Prod.snd s_1)).1.3 ii)]), (Ent.rw true 66 17 (Mc.nF (Prod.fst (Prod.snd s_1))) (c 1) fun ii => (Fr.cv (Mc.F (Prod.fst (Prod.snd s_1)) ii))), (nrow true (Prod.fst (Prod.snd s_1)).8 (c 2) (Prod.fst (Prod.snd s_1)).10)])
   (Tree.done (XV.tup [AV.c (CV.sl 13 0 0 17 (Mc.nF (Prod.fst (Prod.snd s_1))) (c 1)), AV.c (CV.sl 14 0 0 2 (Prod.fst (Prod.snd s_1)).8 (c 2)), AV.c (iv (Prod.snd (Prod.snd s_1))), AV.c (iv (Prod.fst (Prod.snd s_1)).4), AV.c (CV.v Value.nilIface)]) [(Cd.row d), (Ent.mkBox 72 [CV.sl 12 0 0 1 (Prod.fst (Prod.snd s_1)).1.1 (c 0), iv (Prod.fst (Prod.snd s_1)).1.4]), Ent.dead, (Ent.mkBox 78 [CV.sl 4 0 0 4 (Prod.fst (Prod.snd s_1)).2.1 (Prod.fst (Prod.snd s_1)).2.2, iv (Prod.fst (Prod.snd s_1)).2.4]), (Ent.rw true 59 4 (Prod.fst (Prod.snd s_1)).2.1 (Prod.fst (Prod.snd s_1)).2.2 fun ii => [CV.v (Value.bool ((Prod.fst (Prod.snd s_1)).2.3 ii).1), CV.v (Value.bool ((Prod.fst (Prod.snd s_1)).2.3 ii).2), CV.v (Value.bool ((Prod.fst (Prod.snd s_1)).2.3 ii).3), iv ((Prod.fst (Prod.snd s_1)).2.3 ii).4]), (frow ol (Mc.nF m) (Mc.cF m) (Mc.F m)), Ent.dead, Ent.dead, (Ent.mkBox 68 [CV.sl 0 0 0 5 d.2 d.3, CV.ptr ⟨1, 0, 0, 2, 0, 0, 0, 0⟩, CV.ptr ⟨3, 0, 0, 2, 0, 0, 0, 0⟩, iv (Prod.fst (Prod.snd s_1)).3, CV.sl 13 0 0 17 (Mc.nF (Prod.fst (Prod.snd s_1))) (c 1), CV.sl 14 0 0 2 (Prod.fst (Prod.snd s_1)).8 (c 2), iv (Prod.fst (Prod.snd s_1)).4]), Ent.dead, Ent.dead, Ent.dead, (Ent.rw true 2 1 (Prod.fst (Prod.snd s_1)).1.1 (c 0) fun ii => [iv ((Prod.fst (Prod.snd s_1)).1.3 ii)]), (Ent.rw true 66 17 (Mc.nF (Prod.fst (Prod.snd s_1))) (c 1) fun ii => (Fr.cv (Mc.F (Prod.fst (Prod.snd s_1)) ii))), (nrow true (Prod.fst (Prod.snd s_1)).8 (c 2) (Prod.fst (Prod.snd s_1)).10)]))))))))))))))))))))))))))))))
theorem tstep_eq (m : Mc) (d : Cd) (ol : Bool) : xfunc tab (stepG m.tb d ol m.nF m.cF m.F) (lpI fun _ tm H => stepL d m ol tm) Go.Proofs.Try.f10 (stepArgs m d) (stepH m d ol) [0, 1, 2, 3, 4, 5, 6, 7, 8, 9, 10, 11, 12, 13, 14] = tstep m d ol := by kernel_rfl
end Go.Proofs.Ytehecaipmdfjmaa.X.Mi

set_option linter.unusedVariables false
set_option linter.unusedSimpArgs false
namespace Go.Proofs.Ytehecaipmdfjmaa.X.Mi
open Go Go.RowKit Go.Proofs.YtehecaipmdfjmaaW.PrintWords Go.Proofs.Ytehecaipmdfjmaa.Base Go.Proofs.Ytehecaipmdfjmaa.X
theorem rnOk_of {N0 N L : Nat} (l : List Nat) (h : (Nat.ble N0 N && headId l 0 N0 && (List.range N).all (fun k => Nat.blt (l.getD k 0) L)) = true) : RnOk N0 N L (lr l) := by
  simp only [Bool.and_eq_true] at h
  obtain ⟨⟨h1, h2⟩, h3⟩ := h
  exact ⟨Nat.le_of_ble_eq_true h1, fun k hk j => by show (l.getD k 0, j) = (k, j); rw [take_id h2 k hk], fun k hk j => Nat.blt_eq.mp (List.all_eq_true.1 h3 k (List.mem_range.2 hk))⟩
theorem in_of {n : Int} (h : inF n = true) : 0 ≤ n ∧ n < 16 := by
  unfold inF at h
  cases h1 : decide (n ≥ 0) with
  | true => rw [h1, cond_true] at h; simp at h1 h; omega
  | false => rw [h1, cond_false] at h; cases h
theorem may_ok {x : In} (h : mayF x = true) : InOk x := by
  unfold mayF at h
  simp only [Bool.and_eq_true] at h
  obtain ⟨⟨⟨⟨⟨⟨⟨⟨⟨h1, h2⟩, h3⟩, h4⟩, h5⟩, h6⟩, h7⟩, h8⟩, h9⟩, h10⟩ := h
  have h4 := in_of h4
  have h5 := in_of h5
  have h6 := in_of h6
  refine ⟨h4.1, h4.2, h5.1, h5.2, h6.1, h6.2, fun h7' => ?_⟩
  simp [h7'] at h3
  omega
theorem swapF_cap (ar : Ar) (c : Nat) (x y z : Int) : swapF { ar with cap := c } x y z = { swapF ar x y z with cap := c } := by
  unfold swapF
  show (bif ar.C x.toNat == y then _ else _) = _
  cases (ar.C x.toNat == y) <;> rfl
theorem accF_caps (m : Mc) (x : In) (q a f n : Nat) : accF (m.caps a f n) x q = ((accF m x q).1.caps a f n, (accF m x q).2) := by
  unfold accF
  show (bif hereF m.ar (accAt m x q) then _ else _) = _
  cases hereF m.ar (accAt m x q); (case false => (rfl))
  cases (x.op == 5); (case true => (rfl))
  cases (x.op == 6); (case true => (rfl))
  simp only [cond_true, cond_false]
  show (({ (m.caps a f n) with ar := swapF { m.ar with cap := a } (accAt m x q) (m.reg q x.a) (m.reg q (wr (x.a + 1))) } : Mc).setR q (wr (x.a + 2)) _, true) = _
  rw [swapF_cap]
  rfl
theorem plainF_caps (m : Mc) (x : In) (q a f n : Nat) : plainF (m.caps a f n) x q = ((plainF m x q).1.caps a f n, (plainF m x q).2) := by
  unfold plainF
  show (bif x.op == 1 then _ else bif x.op == 2 then _ else bif x.op == 3 then _ else bif x.op == 4 then _ else bif x.op == 15 then
    (bif (bif decide (m.reg q x.a ≥ 0) then decide (m.reg q x.a < 8) else false) then bif hasF m.tb (m.reg q x.a) then _ else _ else _)
    else bif x.op == 16 then (bif decide (posF x.n < 1) then _ else bif fullF m.ar (posF x.n) then _ else _) else bif x.op == 17 then _ else bif x.op == 18 then _ else
    bif x.op == 19 then (bif hasF m.tb m.i then _ else _) else bif x.op == 20 then (bif hasF m.tb m.i then _ else _) else bif x.op == 21 then _ else _) = _
  cases (x.op == 1); (case true => (rfl))
  cases (x.op == 2); (case true => (rfl))
  cases (x.op == 3); (case true => (rfl))
  cases (x.op == 4); (case true => (rfl))
  cases (x.op == 15); (case true => (cases (bif decide (m.reg q x.a ≥ 0) then decide (m.reg q x.a < 8) else false); (case false => (rfl)); (case true => (cases hasF m.tb (m.reg q x.a) <;> rfl))))
  cases (x.op == 16); (case true => (cases decide (posF x.n < 1); (case false => (cases fullF m.ar (posF x.n) <;> rfl)); (case true => (rfl))))
  cases (x.op == 17); (case true => (rfl))
  cases (x.op == 18); (case true => (rfl))
  cases (x.op == 19); (case true => (cases hasF m.tb m.i <;> rfl))
  cases (x.op == 20); (case true => (cases hasF m.tb m.i <;> rfl))
  cases (x.op == 21) <;> rfl
theorem framesF_caps (m : Mc) (x : In) (a f n : Nat) : framesF (m.caps a f n) x = ((framesF m x).1.caps a f n, (framesF m x).2) := by
  unfold framesF
  show (bif x.op == 12 then (bif decide ((m.nF : Int) ≥ 16) then _ else _) else (bif (m.nF : Int) == 1 then _ else _)) = _
  cases (x.op == 12)
  · cases ((m.nF : Int) == 1) <;> rfl
  · cases decide ((m.nF : Int) ≥ 16) <;> rfl
theorem oneF_caps (m : Mc) (x : In) (a f n : Nat) : oneF (m.caps a f n) x = ((oneF m x).1.caps a f n, (oneF m x).2) := by
  unfold oneF
  rw [show topF (m.caps a f n) = topF m from rfl, accF_caps, plainF_caps, framesF_caps]
  show (bif accessF x then (bif (accF m x (topF m)).2 then _ else _) else bif jmpF x then (bif jumpsF (m.F (topF m)) x then _ else _) else bif frmF x then (bif (framesF m x).2 then _ else _) else bif x.op == 22 then _ else
    bif x.op == 14 then (bif hasF m.tb m.i then (bif mayPF m.tb m.i (m.reg (topF m) x.a) then (bif waitF m.tb m.i (m.reg (topF m) x.a) then _ else _) else _) else _) else (bif (plainF m x (topF m)).2 then _ else _)) = _
  cases accessF x; (case true => (cases (accF m x (topF m)).2 <;> rfl))
  cases jmpF x; (case true => (cases jumpsF (m.F (topF m)) x <;> rfl))
  cases frmF x; (case true => (cases (framesF m x).2 <;> rfl))
  cases (x.op == 22); (case true => (rfl))
  cases (x.op == 14); (case true => (cases hasF m.tb m.i; (case false => (rfl)); (case true => (cases mayPF m.tb m.i (m.reg (topF m) x.a); (case false => (rfl)); (case true => (cases waitF m.tb m.i (m.reg (topF m) x.a) <;> rfl))))))
  cases (plainF m x (topF m)).2 <;> rfl
theorem stepF_caps (d : Cd) (a f k : Nat) : ∀ (g n : Nat) (m : Mc), stepF d g n (m.caps a f k) = ((stepF d g n m).1.caps a f k, (stepF d g n m).2)
  | 0, n, m => rfl
  | g + 1, n, m => by
    unfold stepF
    rw [show stopF (m.caps a f k) d n = stopF m d n from rfl, show codeF (m.caps a f k) d = codeF m d from rfl, oneF_caps]
    cases stopF m d n; (case true => (rfl))
    cases (bif decide ((n : Int) > 0) then accessF (codeF m d) else false); (case true => (rfl))
    simp only [cond_false]
    cases hb : ((oneF m (codeF m d)).2 == 0) with
    | true => simp only [cond_true]; exact stepF_caps d a f k g (n + 1) _
    | false => rfl
structure Keeps (m m' : Mc) : Prop where
  n1 : 1 ≤ m'.nF
  n2 : m'.nF ≤ 16
  ar : m'.ar.Ok
  i : m'.i = m.i
  tn : m'.tb.n = m.tb.n
  now : m'.tb.now = m.tb.now
  most : m'.ar.most = m.ar.most
  an : m.ar.n ≤ m'.ar.n
  nN : m'.nN ≤ m.nN + 1
theorem Keeps.refl {m : Mc} (h1 : 1 ≤ m.nF) (h2 : m.nF ≤ 16) (ha : m.ar.Ok) : Keeps m m := ⟨h1, h2, ha, rfl, rfl, rfl, rfl, Nat.le_refl _, Nat.le_succ _⟩
theorem set_ok {a : Ar} (h : a.Ok) (i : Nat) (v : Int) : (a.set i v).Ok := ⟨h.n1, h.m0, h.m1, h.nm⟩
theorem swap_ok {a : Ar} (h : a.Ok) (x y z : Int) : (swapF a x y z).Ok ∧ (swapF a x y z).n = a.n ∧ (swapF a x y z).most = a.most := by
  unfold swapF
  cases (a.C x.toNat == y)
  · exact ⟨h, rfl, rfl⟩
  · exact ⟨set_ok h _ _, rfl, rfl⟩
theorem more_ok {a : Ar} (h : a.Ok) {n : Int} (hn : 1 ≤ n) (hf : fullF a n = false) : (a.more n.toNat).Ok := by
  have h1 := full_of h hf
  have h2 := h.n1; have h3 := h.nm
  exact ⟨by show 1 ≤ a.n + n.toNat; omega, h.m0, h.m1, by show ((a.n + n.toNat : Nat) : Int) ≤ a.most + 1; omega⟩
theorem accF_keeps (m : Mc) (x : In) (q : Nat) (h1 : 1 ≤ m.nF) (h2 : m.nF ≤ 16) (ha : m.ar.Ok) : Keeps m (accF m x q).1 := by
  unfold accF
  cases hereF m.ar (accAt m x q); (case false => (exact Keeps.refl h1 h2 ha))
  cases (x.op == 5); (case true => (exact ⟨h1, h2, ha, rfl, rfl, rfl, rfl, Nat.le_refl _, Nat.le_succ _⟩))
  cases (x.op == 6); (case true => (exact ⟨h1, h2, set_ok ha _ _, rfl, rfl, rfl, rfl, Nat.le_refl _, Nat.le_succ _⟩))
  obtain ⟨a1, a2, a3⟩ := swap_ok ha (accAt m x q) (m.reg q x.a) (m.reg q (wr (x.a + 1)))
  exact ⟨h1, h2, a1, rfl, rfl, rfl, a3, Nat.le_of_eq a2.symm, Nat.le_succ _⟩
theorem plainF_keeps (m : Mc) (x : In) (q : Nat) (h1 : 1 ≤ m.nF) (h2 : m.nF ≤ 16) (ha : m.ar.Ok) : Keeps m (plainF m x q).1 := by
  have E : ∀ {m' : Mc}, m'.nF = m.nF → m'.ar = m.ar → m'.i = m.i → m'.tb.n = m.tb.n → m'.tb.now = m.tb.now → m'.nN ≤ m.nN + 1 → Keeps m m' := fun a b c d e f => ⟨by omega, by omega, by rw [b]; exact ha, c, d, e, by rw [b], by rw [b]; exact Nat.le_refl _, f⟩
  have R : ∀ {m' : Mc}, m'.nF = m.nF → m'.ar = m.ar → m'.i = m.i → m'.tb.n = m.tb.n → m'.tb.now = m.tb.now → m'.nN = m.nN → Keeps m m' := fun a b c d e f => E a b c d e (by omega)
  unfold plainF
  cases (x.op == 1); (case true => (exact R rfl rfl rfl rfl rfl rfl))
  cases (x.op == 2); (case true => (exact R rfl rfl rfl rfl rfl rfl))
  cases (x.op == 3); (case true => (exact R rfl rfl rfl rfl rfl rfl))
  cases (x.op == 4); (case true => (exact R rfl rfl rfl rfl rfl rfl))
  cases (x.op == 15); (case true => (cases (bif decide (m.reg q x.a ≥ 0) then decide (m.reg q x.a < 8) else false); (case false => (exact R rfl rfl rfl rfl rfl rfl)); (case true => (cases hasF m.tb (m.reg q x.a) <;> exact R rfl rfl rfl rfl rfl rfl))))
  cases (x.op == 16) with
  | true =>
    cases hp : decide (posF x.n < 1) with
    | true => exact R rfl rfl rfl rfl rfl rfl
    | false =>
      cases hf : fullF m.ar (posF x.n) with
      | true => exact R rfl rfl rfl rfl rfl rfl
      | false => exact ⟨h1, h2, more_ok ha (by simpa using hp) hf, rfl, rfl, rfl, rfl, Nat.le_add_right _ _, Nat.le_succ _⟩
  | false =>
    cases (x.op == 17); (case true => (exact R rfl rfl rfl rfl rfl rfl))
    cases (x.op == 18); (case true => (exact R rfl rfl rfl rfl rfl rfl))
    cases (x.op == 19); (case true => (cases hasF m.tb m.i <;> exact R rfl rfl rfl rfl rfl rfl))
    cases (x.op == 20); (case true => (cases hasF m.tb m.i <;> exact R rfl rfl rfl rfl rfl rfl))
    cases (x.op == 21); (case false => (exact R rfl rfl rfl rfl rfl rfl)); (case true => (exact E rfl rfl rfl rfl rfl (Nat.le_refl _)))
theorem framesF_keeps (m : Mc) (x : In) (h1 : 1 ≤ m.nF) (h2 : m.nF ≤ 16) (ha : m.ar.Ok) : Keeps m (framesF m x).1 := by
  unfold framesF
  cases (x.op == 12) with
  | true =>
    cases h : decide ((m.nF : Int) ≥ 16) with
    | true => exact Keeps.refl h1 h2 ha
    | false =>
      have h : m.nF < 16 := by simp at h; omega
      exact ⟨Nat.le_add_left 1 _, h, ha, rfl, rfl, rfl, rfl, Nat.le_refl _, Nat.le_succ _⟩
  | false =>
    cases h : ((m.nF : Int) == 1) with
    | true => exact Keeps.refl h1 h2 ha
    | false =>
      have h : m.nF ≠ 1 := by simp at h; omega
      exact ⟨by show 1 ≤ m.nF - 1; omega, by show m.nF - 1 ≤ 16; omega, ha, rfl, rfl, rfl, rfl, Nat.le_refl _, Nat.le_succ _⟩
theorem Keeps.bump {m m' : Mc} (h : Keeps m m') (q : Nat) (g : Fr → Fr) : Keeps m (m'.upd q g) := ⟨h.n1, h.n2, h.ar, h.i, h.tn, h.now, h.most, h.an, h.nN⟩
theorem parkF_n (t : Tb) (i dl : Int) : (parkF t i dl).n = t.n ∧ (parkF t i dl).now = t.now := by
  unfold parkF
  cases (t.P i.toNat).p; (case false => (cases waitF t i dl <;> exact ⟨rfl, rfl⟩)); (case true => (exact ⟨rfl, rfl⟩))
theorem oneF_keeps (m : Mc) (x : In) (h1 : 1 ≤ m.nF) (h2 : m.nF ≤ 16) (ha : m.ar.Ok) : Keeps m (oneF m x).1 := by
  have K0 := Keeps.refl h1 h2 ha
  have KA := accF_keeps m x (topF m) h1 h2 ha
  have KP := plainF_keeps m x (topF m) h1 h2 ha
  have KF := framesF_keeps m x h1 h2 ha
  unfold oneF
  cases accessF x; (case true => (cases (accF m x (topF m)).2; (case false => (exact KA)); (case true => (exact ⟨KA.n1, KA.n2, KA.ar, KA.i, KA.tn, KA.now, KA.most, KA.an, KA.nN⟩))))
  cases jmpF x; (case true => (cases jumpsF (m.F (topF m)) x <;> exact ⟨K0.n1, K0.n2, K0.ar, K0.i, K0.tn, K0.now, K0.most, K0.an, K0.nN⟩))
  cases frmF x; (case true => (cases (framesF m x).2 <;> exact KF))
  cases (x.op == 22); (case true => (exact ⟨h1, h2, ha, rfl, rfl, rfl, rfl, Nat.le_refl _, Nat.le_succ _⟩))
  cases (x.op == 14) with
  | true =>
    obtain ⟨p1, p2⟩ := parkF_n m.tb m.i (m.reg (topF m) x.a)
    cases hasF m.tb m.i; (case false => (exact K0)); (case true => (cases mayPF m.tb m.i (m.reg (topF m) x.a); (case false => (exact K0)); (case true => (cases waitF m.tb m.i (m.reg (topF m) x.a) <;> exact ⟨h1, h2, ha, rfl, p1, p2, rfl, Nat.le_refl _, Nat.le_succ _⟩))))
  | false => cases (plainF m x (topF m)).2; (case false => (exact KP)); (case true => (exact ⟨KP.n1, KP.n2, KP.ar, KP.i, KP.tn, KP.now, KP.most, KP.an, KP.nN⟩))
end Go.Proofs.Ytehecaipmdfjmaa.X.Mi

set_option linter.unusedVariables false
set_option linter.unusedSimpArgs false
namespace Go.Proofs.Ytehecaipmdfjmaa.X.Mi
open Go Go.RowKit Go.Proofs.YtehecaipmdfjmaaW.PrintWords Go.Proofs.Ytehecaipmdfjmaa.Base Go.Proofs.Ytehecaipmdfjmaa.X
theorem fclone_call : Callable Try.prog 23 := ⟨_, Try.func23, by kernel_rfl, rfl⟩
theorem at_call : Callable Try.prog 22 := ⟨_, Try.func22, by kernel_rfl, rfl⟩
theorem one_call : Callable Try.prog 26 := ⟨_, Try.func26, by kernel_rfl, rfl⟩
theorem may_call : Callable Try.prog 24 := ⟨_, Try.func24, by kernel_rfl, rfl⟩
theorem fclone_local (own : Bool) (n cap : Nat) (F : Nat → Fr) (ρ : List Nat) (k : Nat) (hl : n ≤ 1000000) : (fcloneC own n cap F ρ k).Local Try.prog 23 := by
  refine local_of Try.func23 rfl (tfclone_eq own n cap F) fun ν w => ?_
  refine ok_chk' Nat.one_pos (ok_every' fun b => ok_br' (fun h => ok_br' (fun hb => ?_) fun hb => ?_) fun h => trivial)
  · obtain rfl : n = 0 := by
      rw [hb] at h
      cases n with
      | zero => rfl
      | succ n => cases h
    exact ok_leaf (fun _ => 0) [(66, 17)] [0, 1] ⟨Nat.le_refl _, Nat.zero_le _⟩ rfl ⟨⟨_, rfl, EntRel.rw rfl rfl (fun _ _ => rfl) fun _ _ => rfl⟩, ⟨_, rfl, EntRel.rw rfl rfl (fun i hi => absurd hi (Nat.not_lt_zero _)) fun i hi => absurd hi (Nat.not_lt_zero _)⟩, trivial⟩ rfl
  · refine ok_chk' (by omega) (ok_chk' ⟨by omega, by omega⟩ (ok_chk' ⟨rfl, rfl⟩ (ok_all' fun c hc => ?_)))
    exact ok_leaf c [] [0, 2] ⟨by have := hc.1; omega, hc.2⟩ (by simp only [Nat.zero_add]; rfl) ⟨⟨_, rfl, EntRel.rw rfl rfl (fun _ _ => rfl) fun _ _ => rfl⟩, ⟨_, rfl, EntRel.rw (by simp) rfl (fun i hi => rfl) fun _ _ => rfl⟩, trivial⟩ rfl
theorem out_of {z : Int} {k n : Nat} (h : (!bif (bif decide (z < 0) then true else decide (z ≥ (k : Int))) then true else decide ((n : Int) ≥ 200)) = true) : 0 ≤ z ∧ z < k ∧ n < 200 := by
  simp at h
  omega
theorem not_f {b : Bool} (h : (!b) = false) : b = true := by simpa using h
abbrev stepH1 (m m' : Mc) (d : Cd) (ol : Bool) (c : Nat → Nat) : Hp := [d.row, ({ m'.ar with cap := c 0 } : Ar).box 6, Ent.dead, m'.tb.box 4, m'.tb.row, frow ol m.nF m.cF m.F, ({ m'.ar with cap := c 0 } : Ar).row, frow true m'.nF (c 1) m'.F, nrow true m'.nN (c 2) m'.N]
abbrev stepC (m m' : Mc) (how v : Int) (d : Cd) (ol : Bool) (ρ : List Nat) (k : Nat) : CallSpec := mSpec ρ k (stepArgs m d) (stepH m d ol) (fun c => m'.nF ≤ c 1) (fun c => .tup [.c (.sl 7 0 0 17 m'.nF (c 1)), .c (.sl 8 0 0 2 m'.nN (c 2)), iav how, iav v, .c nilE]) (stepH1 m m' d ol)
theorem caps_caps (m : Mc) (a f k a' f' k' : Nat) : (m.caps a f k).caps a' f' k' = m.caps a' f' k' := rfl
theorem mid_next {d : Cd} {m0 m : Mc} {n : Nat} (h : Mid d m0 n m) (hn : n < 200) (hs : stopF m d n = false) (ha : (bif decide ((n : Int) > 0) then accessF (codeF m d) else false) = false) (hh : ((oneF m (codeF m d)).2 == 0) = true) (a f k : Nat) (hf : (oneF m (codeF m d)).1.nF ≤ f) : Mid d m0 (n + 1) ((oneF m (codeF m d)).1.caps a f k) := by
  obtain ⟨h0, h1, h2, h3, h4, h5⟩ := h
  have K := oneF_keeps m (codeF m d) h1.n1 h1.n2 h1.ar
  refine ⟨h0, ⟨K.n1, K.n2, hf, ⟨K.ar.n1, K.ar.m0, K.ar.m1, K.ar.nm⟩⟩, K.i.trans h2, Nat.le_trans K.nN (by omega), hn, ?_⟩
  rw [← h5]
  unfold rest
  obtain ⟨g, hg⟩ : ∃ g, 201 - n = g + 1 := ⟨200 - n, by omega⟩
  rw [show 201 - (n + 1) = g by omega, hg, stepF_caps]
  simp only [caps_caps]
  simp only [stepF, hs, ha, hh, cond_false, cond_true]
theorem mid_end {d : Cd} {m0 m : Mc} {n : Nat} (h : Mid d m0 n m) {m' : Mc} {how v : Int} (hr : runF d m0 = (m', how, v)) :
    (stopF m d n = true → m' = m.caps 0 0 0 ∧ how = 3 ∧ v = 0) ∧ (stopF m d n = false → (bif decide ((n : Int) > 0) then accessF (codeF m d) else false) = true → m' = m.caps 0 0 0 ∧ how = 0 ∧ v = 0) ∧
    (stopF m d n = false → (bif decide ((n : Int) > 0) then accessF (codeF m d) else false) = false → ((oneF m (codeF m d)).2 == 0) = false → m' = (oneF m (codeF m d)).1.caps 0 0 0 ∧ how = (bif (oneF m (codeF m d)).2 == -1 then 0 else (oneF m (codeF m d)).2) ∧ v = (oneF m (codeF m d)).1.v) := by
  obtain ⟨h0, h1, h2, h3, h4, h5⟩ := h
  rw [hr] at h5
  unfold rest at h5
  obtain ⟨g, hg⟩ : ∃ g, 201 - n = g + 1 := ⟨200 - n, by omega⟩
  rw [hg] at h5
  refine ⟨fun a => ?_, fun a b => ?_, fun a b c => ?_⟩
  · simp only [stepF, a, cond_true] at h5
    injection h5 with e1 e2; injection e2 with e2 e3
    exact ⟨e1.symm, e2.symm, e3.symm⟩
  · simp only [stepF, a, b, cond_true, cond_false] at h5
    injection h5 with e1 e2; injection e2 with e2 e3
    exact ⟨e1.symm, e2.symm, e3.symm⟩
  · simp only [stepF, a, b, c, cond_false] at h5
    injection h5 with e1 e2; injection e2 with e2 e3
    exact ⟨e1.symm, e2.symm, e3.symm⟩
theorem mid_zero {d : Cd} {m : Mc} (h0 : canF m = true) (h1 : 1 ≤ m.nF) (h2 : m.nF ≤ 16) (ha : m.ar.Ok) (c : Nat) (hc : m.nF ≤ c) : Mid d m 0 (startM m c) := by
  refine ⟨h0, ⟨h1, h2, hc, ha⟩, rfl, Nat.le_refl _, Nat.zero_le _, ?_⟩
  have e1 : startM m c = ((startM m 0).caps m.ar.cap c 0) := rfl
  unfold runF rest
  rw [e1, stepF_caps]
  rfl
set_option maxHeartbeats 4000000 in
theorem step_local (hmay : ∀ x, (mayC x).Local Try.prog 24) (m m' : Mc) (how v : Int) (d : Cd) (ol : Bool) (ρ : List Nat) (k : Nat) (hm : m.ar.Ok) (hcan : canF m = true) (h : runF d m = (m', how, v)) : (stepC m m' how v d ol ρ k).Local Try.prog 10 := by
  obtain ⟨hh, h1, h2, hb⟩ : hasF m.tb m.i = true ∧ 1 ≤ m.nF ∧ m.nF ≤ 16 ∧ (m.tb.P m.i.toNat).b = false := by
    unfold canF at hcan
    cases e1 : (bif (m.nF : Int) == 0 then true else decide ((m.nF : Int) > 16)) with
    | true => rw [e1] at hcan; cases hcan
    | false =>
      rw [e1, cond_false] at hcan
      cases e2 : hasF m.tb m.i with
      | false => rw [e2] at hcan; cases hcan
      | true =>
        rw [e2, cond_true] at hcan
        simp at e1 hcan
        exact ⟨rfl, by omega, by omega, hcan⟩
  refine local_of Try.func10 rfl (tstep_eq m d ol) fun ν w => ok_both' ?_ (ok_every' fun s => ?_)
  · repeat refine ok_chk' (by first | exact fun h => h | rfl | exact fun _ => rfl | (exact fun h => by rw [h]; rfl) | (intro hg; have hq := out_of hg; exact ⟨hq.1, hq.2.1, by omega, Nat.one_pos⟩) | (intro hg; have hq := out_of hg; exact ⟨Nat.one_pos, by omega⟩) | assumption) ?_
    refine ok_br' (fun e => by simp at e; omega) fun _ => ok_br' (fun _ => ?_) fun e => by rw [show hasF m.tb m.i = true from hh] at e; cases e
    refine ok_callf' at_call (fits_of rfl rfl ⟨⟨_, rfl, EntRel.box' rfl rfl rfl rfl rfl⟩, ⟨_, rfl, EntRel.rw rfl rfl (fun _ _ => rfl) fun _ _ => rfl⟩, trivial⟩ fun c _ => ⟨⟨Nat.le_refl _, rfl⟩, ⟨rfl, rfl⟩, ⟨⟨EntRel.box' rfl rfl rfl rfl rfl, rfl, (fun _ => ⟨rfl, rfl⟩), .inr rfl⟩, ⟨EntRel.rw rfl rfl (fun _ _ => rfl) fun _ _ => rfl, rfl, (fun h => by cases h), .inr rfl⟩, trivial⟩⟩) ((at_local m.tb m.i _).1 hh) fun c _ => ?_
    repeat refine ok_chk' (by first | exact fun h => h | rfl | exact fun _ => rfl | (exact fun h => by rw [h]; rfl) | (intro hg; have hq := out_of hg; exact ⟨hq.1, hq.2.1, by omega, Nat.one_pos⟩) | (intro hg; have hq := out_of hg; exact ⟨Nat.one_pos, by omega⟩) | assumption) ?_
    refine ok_br' (fun e => by rw [show (m.tb.P m.i.toNat).b = false from hb] at e; cases e) fun _ => ?_
    refine ok_callf' fclone_call (fits_of rfl rfl ⟨⟨_, rfl, EntRel.rw rfl rfl (fun _ _ => rfl) fun _ _ => rfl⟩, trivial⟩ fun c _ => ⟨⟨(by show 1 ≤ 2; decide), rfl⟩, ⟨rfl, rfl⟩, ⟨⟨EntRel.rw rfl rfl (fun _ _ => rfl) fun _ _ => rfl, rfl, (fun h => by cases h), .inr rfl⟩, ⟨EntRel.rw rfl rfl (fun _ _ => rfl) fun _ _ => rfl, rfl, (fun h => by cases h), .inr rfl⟩, trivial⟩⟩) (fclone_local ol m.nF m.cF m.F _ _ (by omega)) fun c hc => ok_some' ⟨(0, startM m (c 0)), mid_zero hcan h1 h2 hm _ hc.1⟩ ?_
    repeat refine ok_chk' rfl ?_
    exact ok_chk' (rnOk_of [0, 1, 2, 3, 4, 5, 6, 7, 8, 2, 7, 9] rfl) (ok_chk' ⟨EntRg.rw rfl Nat.one_pos (fun h => h) (.inr (by decide)) rfl rfl rfl rfl (fun _ _ => rfl) (fun _ _ => rfl) (.inl rfl), EntRg.box rfl rfl rfl rfl rfl rfl rfl rfl, EntRg.dead, EntRg.box rfl rfl rfl rfl rfl rfl rfl rfl, EntRg.rw rfl Nat.one_pos (fun h => h) (.inr (by decide)) rfl rfl rfl rfl (fun _ _ => rfl) (fun _ _ => rfl) (.inl rfl), EntRg.rw rfl Nat.one_pos (fun h => h) (.inr (by decide)) rfl rfl rfl rfl (fun _ _ => rfl) (fun _ _ => rfl) (.inl rfl), EntRg.dead, EntRg.dead, EntRg.box rfl rfl rfl rfl rfl rfl rfl rfl, EntRg.rw rfl Nat.one_pos (fun h => h) (.inr (by decide)) rfl rfl rfl rfl (fun _ _ => rfl) (fun _ _ => rfl) (.inl rfl), EntRg.rw rfl Nat.one_pos (fun h => h) (.inr (by decide)) rfl rfl rfl rfl (fun _ _ => rfl) (fun _ _ => rfl) (.inl rfl), EntRg.rw rfl Nat.one_pos (fun h => h) (.inr (by decide)) rfl rfl rfl rfl (fun i hi => absurd hi (Nat.not_lt_zero _)) (fun i hi => absurd hi (Nat.not_lt_zero _)) (.inl rfl), trivial⟩ trivial)
  · obtain ⟨⟨n, m1⟩, hmid⟩ := s
    have h3 : 1 ≤ m1.nF := hmid.2.1.n1; have h4 : m1.nF ≤ 16 := hmid.2.1.n2
    have w1 : IntKind.wrap .i64 ((m1.nF : Int) - 1) = (m1.nF : Int) - 1 := wrap64 (by omega) (by omega)
    have wlt : (IntKind.wrap .i64 ((m1.nF : Int) - 1)).toNat < m1.nF := by rw [w1]; omega
    refine ok_chk' ⟨by show 0 ≤ IntKind.wrap .i64 ((m1.nF : Int) - 1); rw [w1]; omega, by show IntKind.wrap .i64 ((m1.nF : Int) - 1) < m1.nF; rw [w1]; omega, wlt, Nat.one_pos⟩ (ok_chk' ⟨Nat.one_pos, wlt⟩ ?_)
    repeat refine ok_chk' (by first | exact fun h => h | rfl | exact fun _ => rfl | (exact fun h => by rw [h]; rfl) | (intro hg; have hq := out_of hg; exact ⟨hq.1, hq.2.1, by omega, Nat.one_pos⟩) | (intro hg; have hq := out_of hg; exact ⟨Nat.one_pos, by omega⟩) | assumption) ?_
    refine ok_br' (fun hout => ?_) fun hout => ?_
    · obtain ⟨hz1, hz2, hn⟩ := out_of hout
      have hn : n < 200 := hn
      have hnN : m1.nN ≤ n := hmid.2.2.2.1
      have hz3 : ((m1.F (IntKind.wrap .i64 ((m1.nF : Int) - 1)).toNat).at_).toNat < d.n := by have hz1 : 0 ≤ (m1.F (IntKind.wrap .i64 ((m1.nF : Int) - 1)).toNat).at_ := hz1; have hz2 : (m1.F (IntKind.wrap .i64 ((m1.nF : Int) - 1)).toNat).at_ < d.n := hz2; omega
      refine ok_chk' hout (ok_callf' may_call (fits_of rfl rfl trivial fun c _ => ⟨⟨Nat.le_refl _, rfl⟩, ⟨rfl, rfl⟩, trivial⟩) (hmay (codeF m1 d)) fun c _ => ok_chk' (fun h => by rw [h]; rfl) (ok_br' (fun hs => ?_) fun hs => ?_))
      · have hs : stopF m1 d n = true := hs
        obtain ⟨rfl, rfl, rfl⟩ := (mid_end hmid h).1 hs
        exact ok_leaf2 (cap3 m1.ar.cap m1.cF m1.cN) [] [0, 1, 2, 3, 4, 5, 9, 10, 11] hmid.2.1.c rfl ⟨.inr ⟨_, rfl, EntRel.rw rfl rfl (fun _ _ => rfl) fun _ _ => rfl⟩, .inr ⟨_, rfl, EntRel.box' rfl rfl rfl rfl rfl⟩, .inl rfl, .inr ⟨_, rfl, EntRel.box' rfl rfl rfl rfl rfl⟩, .inr ⟨_, rfl, EntRel.rw rfl rfl (fun _ _ => rfl) fun _ _ => rfl⟩, .inr ⟨_, rfl, EntRel.rw rfl rfl (fun _ _ => rfl) fun _ _ => rfl⟩, .inr ⟨_, rfl, EntRel.rw rfl rfl (fun _ _ => rfl) fun _ _ => rfl⟩, .inr ⟨_, rfl, EntRel.rw rfl rfl (fun _ _ => rfl) fun _ _ => rfl⟩, .inr ⟨_, rfl, EntRel.rw rfl rfl (fun _ _ => rfl) fun _ _ => rfl⟩, trivial⟩ rfl
      · have hs : stopF m1 d n = false := hs
        have hx : InOk (codeF m1 d) := may_ok (by
          have hs2 := hs
          unfold stopF at hs2
          cases hb2 : (bif (bif decide ((m1.F (topF m1)).at_ < 0) then true else decide ((m1.F (topF m1)).at_ ≥ (d.n : Int))) then true else decide ((n : Int) ≥ 200)) with
          | true => rw [hb2] at hs2; cases hs2
          | false => rw [hb2, cond_false] at hs2; simpa using hs2)
        repeat first | (refine ok_chk' (fun _ => ⟨hz1, hz2, hz3, Nat.one_pos⟩) ?_) | (refine ok_chk' (fun _ => ⟨Nat.one_pos, hz3⟩) ?_) | (refine ok_chk' (fun h => h) ?_)
        refine ok_br' (fun hn0 => ?_) fun hn0 => ?_
        · have hn0 : decide ((n : Int) > 0) = true := hn0
          refine ok_chk' hn0 (ok_callf' access_call (fits_of rfl rfl trivial fun c _ => ⟨⟨Nat.le_refl _, rfl⟩, ⟨rfl, rfl⟩, trivial⟩) (access_local (codeF m1 d)) fun c _ => ok_br' (fun ha => ?_) fun ha => ?_)
          · have ha : (bif decide ((n : Int) > 0) then accessF (codeF m1 d) else false) = true := ha
            obtain ⟨rfl, rfl, rfl⟩ := (mid_end hmid h).2.1 hs ha
            exact ok_leaf2 (cap3 m1.ar.cap m1.cF m1.cN) [] [0, 1, 2, 3, 4, 5, 9, 10, 11] hmid.2.1.c rfl ⟨.inr ⟨_, rfl, EntRel.rw rfl rfl (fun _ _ => rfl) fun _ _ => rfl⟩, .inr ⟨_, rfl, EntRel.box' rfl rfl rfl rfl rfl⟩, .inl rfl, .inr ⟨_, rfl, EntRel.box' rfl rfl rfl rfl rfl⟩, .inr ⟨_, rfl, EntRel.rw rfl rfl (fun _ _ => rfl) fun _ _ => rfl⟩, .inr ⟨_, rfl, EntRel.rw rfl rfl (fun _ _ => rfl) fun _ _ => rfl⟩, .inr ⟨_, rfl, EntRel.rw rfl rfl (fun _ _ => rfl) fun _ _ => rfl⟩, .inr ⟨_, rfl, EntRel.rw rfl rfl (fun _ _ => rfl) fun _ _ => rfl⟩, .inr ⟨_, rfl, EntRel.rw rfl rfl (fun _ _ => rfl) fun _ _ => rfl⟩, trivial⟩ rfl
          · have ha : (bif decide ((n : Int) > 0) then accessF (codeF m1 d) else false) = false := ha
            (refine ok_chk' ⟨hz1, hz2, hz3, Nat.one_pos⟩ (ok_chk' ⟨Nat.one_pos, hz3⟩ (ok_some' (m1, (oneF m1 (codeF m1 d)).1, (oneF m1 (codeF m1 d)).2) (ok_callf' one_call (fits_of rfl rfl ⟨⟨_, rfl, EntRel.box' rfl rfl rfl rfl rfl⟩, ⟨_, rfl, EntRel.rw rfl rfl (fun _ _ => rfl) fun _ _ => rfl⟩, ⟨_, rfl, EntRel.box' rfl rfl rfl rfl rfl⟩, ⟨_, rfl, EntRel.rw rfl rfl (fun _ _ => rfl) fun _ _ => rfl⟩, ⟨_, rfl, EntRel.box' rfl rfl rfl rfl rfl⟩, ⟨_, rfl, EntRel.rw rfl rfl (fun _ _ => rfl) fun _ _ => rfl⟩, ⟨_, rfl, EntRel.rw rfl rfl (fun _ _ => rfl) fun _ _ => rfl⟩, ⟨_, rfl, EntRel.rw rfl rfl (fun _ _ => rfl) fun _ _ => rfl⟩, trivial⟩ fun c _ => ⟨⟨(by show 8 ≤ 11; decide), rfl⟩, ⟨rfl, rfl⟩, ⟨⟨EntRel.box' rfl rfl rfl rfl rfl, rfl, (fun _ => ⟨rfl, rfl⟩), .inr rfl⟩, ⟨EntRel.rw rfl rfl (fun _ _ => rfl) fun _ _ => rfl, rfl, (fun h => by cases h), .inr rfl⟩, ⟨EntRel.box' rfl rfl rfl rfl rfl, rfl, (fun _ => ⟨rfl, rfl⟩), .inr rfl⟩, ⟨EntRel.dead, rfl, (fun h => by cases h), .inr rfl⟩, ⟨EntRel.box' rfl rfl rfl rfl rfl, rfl, (fun _ => ⟨rfl, rfl⟩), .inr rfl⟩, ⟨EntRel.rw rfl rfl (fun _ _ => rfl) fun _ _ => rfl, rfl, (fun h => by cases h), .inr rfl⟩, ⟨EntRel.dead, rfl, (fun h => by cases h), .inr rfl⟩, ⟨EntRel.dead, rfl, (fun h => by cases h), .inr rfl⟩, ⟨EntRel.rw rfl rfl (fun _ _ => rfl) fun _ _ => rfl, rfl, (fun h => by cases h), .inr rfl⟩, ⟨EntRel.rw rfl rfl (fun _ _ => rfl) fun _ _ => rfl, rfl, (fun h => by cases h), .inr rfl⟩, ⟨EntRel.rw rfl rfl (fun _ _ => rfl) fun _ _ => rfl, rfl, (fun h => by cases h), .inr rfl⟩, trivial⟩⟩) (one_local m1 _ _ d (codeF m1 d) _ _ hx hmid.2.1 (by omega) rfl) fun c hc => ok_br' (fun c1 => ?_) fun c1 => ok_br' (fun c2 => ?_) fun c2 => ?_))); (focus (refine ok_some' ⟨(n + 1, (oneF m1 (codeF m1 d)).1.caps (c 0) (c 1) (c 2)), mid_next hmid hn hs ha c1 _ _ _ hc⟩ (ok_chk' (by show 201 - (n + 1) < 201 - n; omega) (ok_chk' (by show XV.a (.c (iv (IntKind.wrap .i64 ((n : Int) + 1)))) = _; rw [wrap64 (by omega) (by omega)]; try rfl) ?_)); (repeat (refine ok_chk' rfl ?_)); refine ok_chk' (rnOk_of [0, 1, 2, 3, 4, 5, 6, 7, 8, 12, 13, 14] rfl) (ok_chk' ⟨EntRg.rw rfl Nat.one_pos (fun h => h) (.inr (by decide)) rfl rfl rfl rfl (fun _ _ => rfl) (fun _ _ => rfl) (.inl rfl), EntRg.box rfl rfl rfl rfl rfl rfl rfl rfl, EntRg.dead, EntRg.box rfl rfl rfl rfl rfl rfl rfl rfl, EntRg.rw rfl Nat.one_pos (fun h => h) (.inr (by decide)) rfl rfl rfl rfl (fun _ _ => rfl) (fun _ _ => rfl) (.inl rfl), EntRg.rw rfl Nat.one_pos (fun h => h) (.inr (by decide)) rfl rfl rfl rfl (fun _ _ => rfl) (fun _ _ => rfl) (.inl rfl), EntRg.dead, EntRg.dead, EntRg.box rfl rfl rfl rfl rfl rfl rfl rfl, EntRg.rw rfl Nat.one_pos (fun h => h) (.inr (by decide)) rfl rfl rfl rfl (fun _ _ => rfl) (fun _ _ => rfl) (.inl rfl), EntRg.rw rfl Nat.one_pos (fun h => h) (.inr (by decide)) rfl rfl rfl rfl (fun _ _ => rfl) (fun _ _ => rfl) (.inl rfl), EntRg.rw rfl Nat.one_pos (fun h => h) (.inr (by decide)) rfl rfl rfl rfl (fun _ _ => rfl) (fun _ _ => rfl) (.inl rfl), trivial⟩ trivial))); (focus (have c1 : ((oneF m1 (codeF m1 d)).2 == 0) = false := c1; have c2 : ((oneF m1 (codeF m1 d)).2 == -1) = true := c2; obtain ⟨rfl, e2, e3⟩ := (mid_end hmid h).2.2 hs ha c1; rw [c2, cond_true] at e2; subst e2; subst e3; exact ok_leaf2 c [] [0, 1, 2, 3, 4, 5, 12, 13, 14] hc rfl ⟨.inr ⟨_, rfl, EntRel.rw rfl rfl (fun _ _ => rfl) fun _ _ => rfl⟩, .inr ⟨_, rfl, EntRel.box' rfl rfl rfl rfl rfl⟩, .inl rfl, .inr ⟨_, rfl, EntRel.box' rfl rfl rfl rfl rfl⟩, .inr ⟨_, rfl, EntRel.rw rfl rfl (fun _ _ => rfl) fun _ _ => rfl⟩, .inr ⟨_, rfl, EntRel.rw rfl rfl (fun _ _ => rfl) fun _ _ => rfl⟩, .inr ⟨_, rfl, EntRel.rw rfl rfl (fun _ _ => rfl) fun _ _ => rfl⟩, .inr ⟨_, rfl, EntRel.rw rfl rfl (fun _ _ => rfl) fun _ _ => rfl⟩, .inr ⟨_, rfl, EntRel.rw rfl rfl (fun _ _ => rfl) fun _ _ => rfl⟩, trivial⟩ rfl)); (focus (have c1 : ((oneF m1 (codeF m1 d)).2 == 0) = false := c1; have c2 : ((oneF m1 (codeF m1 d)).2 == -1) = false := c2; obtain ⟨rfl, e2, e3⟩ := (mid_end hmid h).2.2 hs ha c1; rw [c2, cond_false] at e2; subst e2; subst e3; exact ok_leaf2 c [] [0, 1, 2, 3, 4, 5, 12, 13, 14] hc rfl ⟨.inr ⟨_, rfl, EntRel.rw rfl rfl (fun _ _ => rfl) fun _ _ => rfl⟩, .inr ⟨_, rfl, EntRel.box' rfl rfl rfl rfl rfl⟩, .inl rfl, .inr ⟨_, rfl, EntRel.box' rfl rfl rfl rfl rfl⟩, .inr ⟨_, rfl, EntRel.rw rfl rfl (fun _ _ => rfl) fun _ _ => rfl⟩, .inr ⟨_, rfl, EntRel.rw rfl rfl (fun _ _ => rfl) fun _ _ => rfl⟩, .inr ⟨_, rfl, EntRel.rw rfl rfl (fun _ _ => rfl) fun _ _ => rfl⟩, .inr ⟨_, rfl, EntRel.rw rfl rfl (fun _ _ => rfl) fun _ _ => rfl⟩, .inr ⟨_, rfl, EntRel.rw rfl rfl (fun _ _ => rfl) fun _ _ => rfl⟩, trivial⟩ rfl)))
        · have hn0 : decide ((n : Int) > 0) = false := hn0
          refine ok_chk' hn0 (ok_br' (fun e => by cases e) fun _ => ?_)
          have ha : (bif decide ((n : Int) > 0) then accessF (codeF m1 d) else false) = false := by rw [hn0]; rfl
          (refine ok_chk' ⟨hz1, hz2, hz3, Nat.one_pos⟩ (ok_chk' ⟨Nat.one_pos, hz3⟩ (ok_some' (m1, (oneF m1 (codeF m1 d)).1, (oneF m1 (codeF m1 d)).2) (ok_callf' one_call (fits_of rfl rfl ⟨⟨_, rfl, EntRel.box' rfl rfl rfl rfl rfl⟩, ⟨_, rfl, EntRel.rw rfl rfl (fun _ _ => rfl) fun _ _ => rfl⟩, ⟨_, rfl, EntRel.box' rfl rfl rfl rfl rfl⟩, ⟨_, rfl, EntRel.rw rfl rfl (fun _ _ => rfl) fun _ _ => rfl⟩, ⟨_, rfl, EntRel.box' rfl rfl rfl rfl rfl⟩, ⟨_, rfl, EntRel.rw rfl rfl (fun _ _ => rfl) fun _ _ => rfl⟩, ⟨_, rfl, EntRel.rw rfl rfl (fun _ _ => rfl) fun _ _ => rfl⟩, ⟨_, rfl, EntRel.rw rfl rfl (fun _ _ => rfl) fun _ _ => rfl⟩, trivial⟩ fun c _ => ⟨⟨(by show 8 ≤ 11; decide), rfl⟩, ⟨rfl, rfl⟩, ⟨⟨EntRel.box' rfl rfl rfl rfl rfl, rfl, (fun _ => ⟨rfl, rfl⟩), .inr rfl⟩, ⟨EntRel.rw rfl rfl (fun _ _ => rfl) fun _ _ => rfl, rfl, (fun h => by cases h), .inr rfl⟩, ⟨EntRel.box' rfl rfl rfl rfl rfl, rfl, (fun _ => ⟨rfl, rfl⟩), .inr rfl⟩, ⟨EntRel.dead, rfl, (fun h => by cases h), .inr rfl⟩, ⟨EntRel.box' rfl rfl rfl rfl rfl, rfl, (fun _ => ⟨rfl, rfl⟩), .inr rfl⟩, ⟨EntRel.rw rfl rfl (fun _ _ => rfl) fun _ _ => rfl, rfl, (fun h => by cases h), .inr rfl⟩, ⟨EntRel.dead, rfl, (fun h => by cases h), .inr rfl⟩, ⟨EntRel.dead, rfl, (fun h => by cases h), .inr rfl⟩, ⟨EntRel.rw rfl rfl (fun _ _ => rfl) fun _ _ => rfl, rfl, (fun h => by cases h), .inr rfl⟩, ⟨EntRel.rw rfl rfl (fun _ _ => rfl) fun _ _ => rfl, rfl, (fun h => by cases h), .inr rfl⟩, ⟨EntRel.rw rfl rfl (fun _ _ => rfl) fun _ _ => rfl, rfl, (fun h => by cases h), .inr rfl⟩, trivial⟩⟩) (one_local m1 _ _ d (codeF m1 d) _ _ hx hmid.2.1 (by omega) rfl) fun c hc => ok_br' (fun c1 => ?_) fun c1 => ok_br' (fun c2 => ?_) fun c2 => ?_))); (focus (refine ok_some' ⟨(n + 1, (oneF m1 (codeF m1 d)).1.caps (c 0) (c 1) (c 2)), mid_next hmid hn hs ha c1 _ _ _ hc⟩ (ok_chk' (by show 201 - (n + 1) < 201 - n; omega) (ok_chk' (by show XV.a (.c (iv (IntKind.wrap .i64 ((n : Int) + 1)))) = _; rw [wrap64 (by omega) (by omega)]; try rfl) ?_)); (repeat (refine ok_chk' rfl ?_)); refine ok_chk' (rnOk_of [0, 1, 2, 3, 4, 5, 6, 7, 8, 12, 13, 14] rfl) (ok_chk' ⟨EntRg.rw rfl Nat.one_pos (fun h => h) (.inr (by decide)) rfl rfl rfl rfl (fun _ _ => rfl) (fun _ _ => rfl) (.inl rfl), EntRg.box rfl rfl rfl rfl rfl rfl rfl rfl, EntRg.dead, EntRg.box rfl rfl rfl rfl rfl rfl rfl rfl, EntRg.rw rfl Nat.one_pos (fun h => h) (.inr (by decide)) rfl rfl rfl rfl (fun _ _ => rfl) (fun _ _ => rfl) (.inl rfl), EntRg.rw rfl Nat.one_pos (fun h => h) (.inr (by decide)) rfl rfl rfl rfl (fun _ _ => rfl) (fun _ _ => rfl) (.inl rfl), EntRg.dead, EntRg.dead, EntRg.box rfl rfl rfl rfl rfl rfl rfl rfl, EntRg.rw rfl Nat.one_pos (fun h => h) (.inr (by decide)) rfl rfl rfl rfl (fun _ _ => rfl) (fun _ _ => rfl) (.inl rfl), EntRg.rw rfl Nat.one_pos (fun h => h) (.inr (by decide)) rfl rfl rfl rfl (fun _ _ => rfl) (fun _ _ => rfl) (.inl rfl), EntRg.rw rfl Nat.one_pos (fun h => h) (.inr (by decide)) rfl rfl rfl rfl (fun _ _ => rfl) (fun _ _ => rfl) (.inl rfl), trivial⟩ trivial))); (focus (have c1 : ((oneF m1 (codeF m1 d)).2 == 0) = false := c1; have c2 : ((oneF m1 (codeF m1 d)).2 == -1) = true := c2; obtain ⟨rfl, e2, e3⟩ := (mid_end hmid h).2.2 hs ha c1; rw [c2, cond_true] at e2; subst e2; subst e3; exact ok_leaf2 c [] [0, 1, 2, 3, 4, 5, 12, 13, 14] hc rfl ⟨.inr ⟨_, rfl, EntRel.rw rfl rfl (fun _ _ => rfl) fun _ _ => rfl⟩, .inr ⟨_, rfl, EntRel.box' rfl rfl rfl rfl rfl⟩, .inl rfl, .inr ⟨_, rfl, EntRel.box' rfl rfl rfl rfl rfl⟩, .inr ⟨_, rfl, EntRel.rw rfl rfl (fun _ _ => rfl) fun _ _ => rfl⟩, .inr ⟨_, rfl, EntRel.rw rfl rfl (fun _ _ => rfl) fun _ _ => rfl⟩, .inr ⟨_, rfl, EntRel.rw rfl rfl (fun _ _ => rfl) fun _ _ => rfl⟩, .inr ⟨_, rfl, EntRel.rw rfl rfl (fun _ _ => rfl) fun _ _ => rfl⟩, .inr ⟨_, rfl, EntRel.rw rfl rfl (fun _ _ => rfl) fun _ _ => rfl⟩, trivial⟩ rfl)); (focus (have c1 : ((oneF m1 (codeF m1 d)).2 == 0) = false := c1; have c2 : ((oneF m1 (codeF m1 d)).2 == -1) = false := c2; obtain ⟨rfl, e2, e3⟩ := (mid_end hmid h).2.2 hs ha c1; rw [c2, cond_false] at e2; subst e2; subst e3; exact ok_leaf2 c [] [0, 1, 2, 3, 4, 5, 12, 13, 14] hc rfl ⟨.inr ⟨_, rfl, EntRel.rw rfl rfl (fun _ _ => rfl) fun _ _ => rfl⟩, .inr ⟨_, rfl, EntRel.box' rfl rfl rfl rfl rfl⟩, .inl rfl, .inr ⟨_, rfl, EntRel.box' rfl rfl rfl rfl rfl⟩, .inr ⟨_, rfl, EntRel.rw rfl rfl (fun _ _ => rfl) fun _ _ => rfl⟩, .inr ⟨_, rfl, EntRel.rw rfl rfl (fun _ _ => rfl) fun _ _ => rfl⟩, .inr ⟨_, rfl, EntRel.rw rfl rfl (fun _ _ => rfl) fun _ _ => rfl⟩, .inr ⟨_, rfl, EntRel.rw rfl rfl (fun _ _ => rfl) fun _ _ => rfl⟩, .inr ⟨_, rfl, EntRel.rw rfl rfl (fun _ _ => rfl) fun _ _ => rfl⟩, trivial⟩ rfl)))
    · have hout2 : (bif (bif decide ((m1.F (topF m1)).at_ < 0) then true else decide ((m1.F (topF m1)).at_ ≥ (d.n : Int))) then true else decide ((n : Int) ≥ 200)) = true := not_f hout
      repeat first | refine ok_chk' (by first | exact fun h => h | rfl | exact fun _ => rfl | (exact fun h => by rw [h]; rfl) | (intro hg; have hq := out_of hg; exact ⟨hq.1, hq.2.1, by omega, Nat.one_pos⟩) | (intro hg; have hq := out_of hg; exact ⟨Nat.one_pos, by omega⟩) | assumption) ?_ | refine ok_chk' (fun hg => absurd (hout.symm.trans hg) (by decide)) ?_ | refine ok_chk' hout2 ?_
      refine ok_br' (fun _ => ?_) fun e => by cases e
      have hs : stopF m1 d n = true := by
        unfold stopF
        rw [hout2]
        rfl
      obtain ⟨rfl, rfl, rfl⟩ := (mid_end hmid h).1 hs
      exact ok_leaf2 (cap3 m1.ar.cap m1.cF m1.cN) [] [0, 1, 2, 3, 4, 5, 9, 10, 11] hmid.2.1.c rfl ⟨.inr ⟨_, rfl, EntRel.rw rfl rfl (fun _ _ => rfl) fun _ _ => rfl⟩, .inr ⟨_, rfl, EntRel.box' rfl rfl rfl rfl rfl⟩, .inl rfl, .inr ⟨_, rfl, EntRel.box' rfl rfl rfl rfl rfl⟩, .inr ⟨_, rfl, EntRel.rw rfl rfl (fun _ _ => rfl) fun _ _ => rfl⟩, .inr ⟨_, rfl, EntRel.rw rfl rfl (fun _ _ => rfl) fun _ _ => rfl⟩, .inr ⟨_, rfl, EntRel.rw rfl rfl (fun _ _ => rfl) fun _ _ => rfl⟩, .inr ⟨_, rfl, EntRel.rw rfl rfl (fun _ _ => rfl) fun _ _ => rfl⟩, .inr ⟨_, rfl, EntRel.rw rfl rfl (fun _ _ => rfl) fun _ _ => rfl⟩, trivial⟩ rfl
end Go.Proofs.Ytehecaipmdfjmaa.X.Mi

set_option linter.unusedVariables false
set_option linter.unusedSimpArgs false
namespace Go.Proofs.Ytehecaipmdfjmaa.X.Mi
open Go Go.RowKit Go.Proofs.YtehecaipmdfjmaaW.PrintWords Go.Proofs.Ytehecaipmdfjmaa.Base Go.Proofs.Ytehecaipmdfjmaa.X
def shapeF : Nat → ByteArray × ByteArray
  | 0 => (⟨#[]⟩, ⟨#[]⟩)
  | 1 => (⟨#[115, 101, 116]⟩, ⟨#[65, 78]⟩)
  | 2 => (⟨#[109, 111, 118]⟩, ⟨#[65, 66]⟩)
  | 3 => (⟨#[97, 100, 100]⟩, ⟨#[65, 66, 67]⟩)
  | 4 => (⟨#[97, 100, 100, 105]⟩, ⟨#[65, 66, 78]⟩)
  | 5 => (⟨#[108, 100]⟩, ⟨#[65, 66, 78]⟩)
  | 6 => (⟨#[115, 116]⟩, ⟨#[65, 66, 78]⟩)
  | 7 => (⟨#[99, 97, 115]⟩, ⟨#[65, 66, 78]⟩)
  | 8 => (⟨#[106, 109, 112]⟩, ⟨#[84]⟩)
  | 9 => (⟨#[106, 101, 113]⟩, ⟨#[65, 66, 84]⟩)
  | 10 => (⟨#[106, 110, 101]⟩, ⟨#[65, 66, 84]⟩)
  | 11 => (⟨#[106, 108, 116]⟩, ⟨#[65, 66, 84]⟩)
  | 12 => (⟨#[99, 97, 108, 108]⟩, ⟨#[84]⟩)
  | 13 => (⟨#[114, 101, 116]⟩, ⟨#[]⟩)
  | 14 => (⟨#[112, 97, 114, 107]⟩, ⟨#[65]⟩)
  | 15 => (⟨#[117, 110, 112, 97, 114, 107]⟩, ⟨#[65]⟩)
  | 16 => (⟨#[97, 108, 108, 111, 99]⟩, ⟨#[65, 78]⟩)
  | 17 => (⟨#[115, 101, 108, 102]⟩, ⟨#[65]⟩)
  | 18 => (⟨#[110, 111, 119]⟩, ⟨#[65]⟩)
  | 19 => (⟨#[105, 110, 116, 114]⟩, ⟨#[65]⟩)
  | 20 => (⟨#[115, 101, 116, 105, 110, 116]⟩, ⟨#[]⟩)
  | 21 => (⟨#[109, 97, 114, 107]⟩, ⟨#[78, 65]⟩)
  | 22 => (⟨#[100, 111, 110, 101]⟩, ⟨#[65]⟩)
  | _ => (⟨#[]⟩, ⟨#[]⟩)
def hasS (i : Nat) : ByteArray := (shapeF i).2
def wordS (i : Nat) : ByteArray := (shapeF i).1
abbrev shapesE : Ent := Ent.rw true 85 2 23 23 fun i => [.v (.string (wordS i)), .v (.string (hasS i))]
abbrev shapesC (k : Nat) : CallSpec := mSpec [] k [] [] (fun _ => True) (fun _ => .a (.c (.sl 0 0 0 2 23 23))) fun _ => [shapesE]
abbrev inC (n : Int) : CallSpec := mSpec [] 0 [iav n] [] (fun _ => True) (fun _ => bool (inF n)) fun _ => []
def mayG : Ctr := fun f args H => match args with
  | [] => some (shapesC H.length)
  | [.c (.v (.int _ n))] => some (inC n)
  | _ => none
def zeroF (b : In) (c : Int) : In := bif c == 65 then { b with a := 0 } else bif c == 66 then { b with b := 0 } else bif c == 67 then { b with c := 0 } else { b with n := 0 }
def farF (x : In) : Bool := bif decide (x.n < -999999999999999999) then true else decide (x.n > 999999999999999999)
def endF (x b : In) : Bool := bif (bif (bif (b.op == x.op && (b.a == 0 && (b.b == 0 && (b.c == 0 && b.n == 0)))) then inF x.a else false) then inF x.b else false) then inF x.c else false
def mayL (x : In) (s : ByteArray) : Nat → Nat → In → Bool
  | 0, _, b => endF x b
  | k + 1, i, b => bif bt' s i == 78 && farF x then false else mayL x s k (i + 1) (zeroF b (bt' s i))
abbrev MayS (x : In) (s : ByteArray) : Type := { p : Nat × In // p.1 ≤ s.size ∧ mayL x s (s.size - p.1) p.1 p.2 = mayL x s s.size 0 x }
def mayI (x : In) (tm : Tm) (H : Hp) : LoopInv := ⟨MayS x (hasS x.op.toNat), fun p => ([(34, .a (bptr 4 2)), (3, .a (bptr 2 5)), (2, .a (.c (bv false))), (1, .a (bptr 0 5))], (H.set 2 (Ent.mkBox 40 p.1.2.cv)).set 4 (itBox (hasS x.op.toNat) p.1.1)), fun p => (hasS x.op.toNat).size - p.1.1, some ⟨(0, x), Nat.zero_le _, rfl⟩, [], .l (List.range H.length), [], fun _ _ => .l (List.range H.length)⟩
def tshapes (u : Unit) : Tree :=
  Tree.done (XV.a (AV.c (CV.sl 0 0 0 2 23 23))) [(Ent.rw true 85 2 23 23 fun ii => List.getD [[CV.v (Value.string ByteArray.empty), CV.v (Value.string ByteArray.empty)], [CV.v (Value.string { data := #[(115 : UInt8), (101 : UInt8), (116 : UInt8)] }), CV.v (Value.string { data := #[(65 : UInt8), (78 : UInt8)] })], [CV.v (Value.string { data := #[(109 : UInt8), (111 : UInt8), (118 : UInt8)] }), CV.v (Value.string { data := #[(65 : UInt8), (66 : UInt8)] })], [CV.v (Value.string { data := #[(97 : UInt8), (100 : UInt8), (100 : UInt8)] }), CV.v (Value.string { data := #[(65 : UInt8), (66 : UInt8), (67 : UInt8)] })], [CV.v (Value.string { data := #[(97 : UInt8), (100 : UInt8), (100 : UInt8), (105 : UInt8)] }), CV.v (Value.string { data := #[(65 : UInt8), (66 : UInt8), (78 : UInt8)] })], [CV.v (Value.string { data := #[(108 : UInt8), (100 : UInt8)] }), CV.v (Value.string { data := #[(65 : UInt8), (66 : UInt8), (78 : UInt8)] })], [CV.v (Value.string { data := #[(115 : UInt8), (116 : UInt8)] }), CV.v (Value.string { data := #[(65 : UInt8), (66 : UInt8), (78 : UInt8)] })], [CV.v (Value.string { data := #[(99 : UInt8), (97 : UInt8), (115 : UInt8)] }), CV.v (Value.string { data := #[(65 : UInt8), (66 : UInt8), (78 : UInt8)] })], [CV.v (Value.string { data := #[(106 : UInt8), (109 : UInt8), (112 : UInt8)] }), CV.v (Value.string { data := #[(84 : UInt8)] })], [CV.v (Value.string { data := #[(106 : UInt8), (101 : UInt8), (113 : UInt8)] }), CV.v (Value.string { data := #[(65 : UInt8), (66 : UInt8), (84 : UInt8)] })], [CV.v (Value.string { data := #[(106 : UInt8), (110 : UInt8), (101 : UInt8)] }), CV.v (Value.string { data := #[(65 : UInt8), (66 : UInt8), (84 : UInt8)] })], [CV.v (Value.string { data := #[(106 : UInt8), (108 : UInt8), (116 : UInt8)] }), CV.v (Value.string { data := #[(65 : UInt8), (66 : UInt8), (84 : UInt8)] })], [CV.v (Value.string { data := #[(99 : UInt8), (97 : UInt8), (108 : UInt8), (108 : UInt8)] }), CV.v (Value.string { data := #[(84 : UInt8)] })], [CV.v (Value.string { data := #[(114 : UInt8), (101 : UInt8), (116 : UInt8)] }), CV.v (Value.string { data := #[] })], [CV.v (Value.string { data := #[(112 : UInt8), (97 : UInt8), (114 : UInt8), (107 : UInt8)] }), CV.v (Value.string { data := #[(65 : UInt8)] })], [CV.v (Value.string { data := #[(117 : UInt8), (110 : UInt8), (112 : UInt8), (97 : UInt8), (114 : UInt8), (107 : UInt8)] }), CV.v (Value.string { data := #[(65 : UInt8)] })], [CV.v (Value.string { data := #[(97 : UInt8), (108 : UInt8), (108 : UInt8), (111 : UInt8), (99 : UInt8)] }), CV.v (Value.string { data := #[(65 : UInt8), (78 : UInt8)] })], [CV.v (Value.string { data := #[(115 : UInt8), (101 : UInt8), (108 : UInt8), (102 : UInt8)] }), CV.v (Value.string { data := #[(65 : UInt8)] })], [CV.v (Value.string { data := #[(110 : UInt8), (111 : UInt8), (119 : UInt8)] }), CV.v (Value.string { data := #[(65 : UInt8)] })], [CV.v (Value.string { data := #[(105 : UInt8), (110 : UInt8), (116 : UInt8), (114 : UInt8)] }), CV.v (Value.string { data := #[(65 : UInt8)] })], [CV.v (Value.string { data := #[(115 : UInt8), (101 : UInt8), (116 : UInt8), (105 : UInt8), (110 : UInt8), (116 : UInt8)] }), CV.v (Value.string { data := #[] })], [CV.v (Value.string { data := #[(109 : UInt8), (97 : UInt8), (114 : UInt8), (107 : UInt8)] }), CV.v (Value.string { data := #[(78 : UInt8), (65 : UInt8)] })], [CV.v (Value.string { data := #[(100 : UInt8), (111 : UInt8), (110 : UInt8), (101 : UInt8)] }), CV.v (Value.string { data := #[(65 : UInt8)] })]] ii [])]
theorem tshapes_eq (u : Unit) : xfunc tab noCtr noInv Go.Proofs.Try.f31 [] [] [0] = tshapes u := by kernel_rfl
def tin (n : Int) : Tree :=
  Tree.chk (decide (n ≥ (0 : Int)) = true → decide (n ≥ (0 : Int)) = true)
   (Tree.chk (decide (n ≥ (0 : Int)) = true → decide (n ≥ (0 : Int)) = true)
   (Tree.done (XV.a (AV.c (CV.v (Value.bool (bif decide (n ≥ (0 : Int)) then decide (n < (16 : Int)) else false))))) []))
theorem tin_eq (n : Int) : xfunc tab noCtr noInv Go.Proofs.Try.f32 [iav n] [] [] = tin n := by kernel_rfl
def tmay (x : In) : Tree :=
  Tree.chk ((!decide (x.1 < (1 : Int))) = true → (!decide (x.1 < (1 : Int))) = true)
   (Tree.br (!decide (x.1 < (1 : Int)))
   (Tree.callf 31 [] [(Ent.mkBox 40 [iv x.1, iv x.2, iv x.3, iv x.4, iv x.5])] (shapesC 1) fun c => Tree.chk ((!decide (x.1 < (1 : Int))) = true → (!decide (x.1 < (1 : Int))) = true)
   (Tree.chk ((!decide (x.1 < (1 : Int))) = true → AV.c (iv x.1) = AV.c (iv x.1))
   (Tree.chk ((!decide (x.1 < (1 : Int))) = true → AV.c (CV.ptr ⟨0, 0, 0, 5, 0, 0, 0, 0⟩) = AV.c (CV.ptr ⟨0, 0, 0, 5, 0, 0, 0, 0⟩))
   (Tree.chk ((!decide (x.1 < (1 : Int))) = true → (!decide (x.1 < (1 : Int))) = true)
   (Tree.chk ((!decide (x.1 < (1 : Int))) = true → (!decide (x.1 < (1 : Int))) = true)
   (Tree.chk (decide (x.1 < (1 : Int)) = false → (!decide (x.1 < (1 : Int))) = true)
   (Tree.chk ((!bif decide (x.1 < (1 : Int)) then true else decide (x.1 ≥ (↑23 : Int))) = true → (!bif decide (x.1 < (1 : Int)) then true else decide (x.1 ≥ (↑23 : Int))) = true)
   (Tree.chk ((!bif decide (x.1 < (1 : Int)) then true else decide (x.1 ≥ (↑23 : Int))) = true → (!bif decide (x.1 < (1 : Int)) then true else decide (x.1 ≥ (↑23 : Int))) = true)
   (Tree.chk ((!bif decide (x.1 < (1 : Int)) then true else decide (x.1 ≥ (↑23 : Int))) = true → (!bif decide (x.1 < (1 : Int)) then true else decide (x.1 ≥ (↑23 : Int))) = true)
   (Tree.chk (((!bif decide (x.1 < (1 : Int)) then true else decide (x.1 ≥ (↑23 : Int))) && x.1 == (7 : Int)) = true → ((!bif decide (x.1 < (1 : Int)) then true else decide (x.1 ≥ (↑23 : Int))) && x.1 == (7 : Int)) = true)
   (Tree.chk (((!bif decide (x.1 < (1 : Int)) then true else decide (x.1 ≥ (↑23 : Int))) && x.1 == (7 : Int)) = true → ((!bif decide (x.1 < (1 : Int)) then true else decide (x.1 ≥ (↑23 : Int))) && x.1 == (7 : Int)) = true)
   (Tree.chk ((!bif decide (x.1 < (1 : Int)) then true else decide (x.1 ≥ (↑23 : Int))) = true → (!bif decide (x.1 < (1 : Int)) then true else decide (x.1 ≥ (↑23 : Int))) = true)
   (Tree.chk ((!bif decide (x.1 < (1 : Int)) then true else decide (x.1 ≥ (↑23 : Int))) = true → (x.1 == (7 : Int)) = true → ((!bif decide (x.1 < (1 : Int)) then true else decide (x.1 ≥ (↑23 : Int))) && x.1 == (7 : Int)) = true)
   (Tree.chk ((bif decide (x.1 < (1 : Int)) then true else decide (x.1 ≥ (↑23 : Int))) = false → (!bif decide (x.1 < (1 : Int)) then true else decide (x.1 ≥ (↑23 : Int))) = true)
   (Tree.br (bif bif decide (x.1 < (1 : Int)) then true else decide (x.1 ≥ (↑23 : Int)) then true else bif x.1 == (7 : Int) then decide (x.2 > (13 : Int)) else false)
   (Tree.done (XV.a (AV.c (CV.v (Value.bool false)))) [Ent.dead, Ent.dead])
   (Tree.callf 31 [] [(Ent.mkBox 40 [iv x.1, iv x.2, iv x.3, iv x.4, iv x.5]), (Ent.rw true 85 2 23 23 fun ii => [CV.v (Value.string (wordS ii)), CV.v (Value.string (hasS ii))]), (Ent.mkBox 40 [iv x.1, iv x.2, iv x.3, iv x.4, iv x.5])] (shapesC 3) fun c_1 => Tree.chk (AV.c (iv x.1) = AV.c (iv x.1))
   (Tree.chk (AV.c (CV.ptr ⟨0, 0, 0, 5, 0, 0, 0, 0⟩) = AV.c (CV.ptr ⟨0, 0, 0, 5, 0, 0, 0, 0⟩))
   (Tree.chk ((0 : Int) ≤ x.1 ∧ x.1 < (↑23 : Int) ∧ Int.toNat x.1 < 23 ∧ 0 < 1)
   (Tree.chk (0 < 1 ∧ Int.toNat x.1 < 23)
   (Tree.both
   (Tree.chk (XV.a (AV.c (CV.ptr ⟨4, 0, 0, 2, 0, 0, 0, 0⟩)) = XV.a (AV.c (CV.ptr ⟨4, 0, 0, 2, 0, 0, 0, 0⟩)))
   (Tree.chk (XV.a (AV.c (CV.ptr ⟨2, 0, 0, 5, 0, 0, 0, 0⟩)) = XV.a (AV.c (CV.ptr ⟨2, 0, 0, 5, 0, 0, 0, 0⟩)))
   (Tree.chk (XV.a (AV.c (CV.v (Value.bool false))) = XV.a (AV.c (CV.v (Value.bool false))))
   (Tree.chk (XV.a (AV.c (CV.ptr ⟨0, 0, 0, 5, 0, 0, 0, 0⟩)) = XV.a (AV.c (CV.ptr ⟨0, 0, 0, 5, 0, 0, 0, 0⟩)))
   (Tree.chk (EntRel 5 [0, 1, 2, 3, 4] 5 (Ent.mkBox 40 [iv x.1, iv x.2, iv x.3, iv x.4, iv x.5]) (Ent.mkBox 40 [iv x.1, iv x.2, iv x.3, iv x.4, iv x.5]))
   (Tree.chk (EntRel 5 [0, 1, 2, 3, 4] 5 (Ent.rw true 85 2 23 23 fun ii => [CV.v (Value.string (wordS ii)), CV.v (Value.string (hasS ii))]) (Ent.rw true 85 2 23 23 fun ii => [CV.v (Value.string (wordS ii)), CV.v (Value.string (hasS ii))]))
   (Tree.chk (EntRel 5 [0, 1, 2, 3, 4] 5 (Ent.mkBox 40 [iv x.1, iv x.2, iv x.3, iv x.4, iv x.5]) (Ent.mkBox 40 [iv x.1, iv x.2, iv x.3, iv x.4, iv x.5]))
   (Tree.chk (EntRel 5 [0, 1, 2, 3, 4] 5 (Ent.rw true 85 2 23 23 fun ii => [CV.v (Value.string (wordS ii)), CV.v (Value.string (hasS ii))]) (Ent.rw true 85 2 23 23 fun ii => [CV.v (Value.string (wordS ii)), CV.v (Value.string (hasS ii))]))
   (Tree.chk (EntRel 5 [0, 1, 2, 3, 4] 5 (Ent.mkBox 1000000 [CV.v (Value.string (hasS (Int.toNat x.1))), iv (0 : Int)]) (Ent.mkBox 1000000 [CV.v (Value.string (hasS (Int.toNat x.1))), iv (0 : Int)]))
   (Tree.need True))))))))))
   (Tree.every (MayS x (hasS (Int.toNat x.1))) fun s => Tree.chk ((0 : Int) ≤ (↑(Prod.fst (Subtype.val s)) : Int) ∧ (Array.all (ByteArray.data (hasS (Int.toNat x.1))) fun b => decide (UInt8.toNat b < 128)) = true)
   (Tree.br (decide ((↑(Prod.fst (Subtype.val s)) : Int) < (↑(ByteArray.size (hasS (Int.toNat x.1))) : Int)))
   (Tree.br true
   (Tree.br (bt' (hasS (Int.toNat x.1)) (Int.toNat (↑(Prod.fst (Subtype.val s)) : Int)) == (65 : Int))
   (Tree.some_ (MayS x (hasS (Int.toNat x.1))) fun s' => Tree.chk (ByteArray.size (hasS (Int.toNat x.1)) - Prod.fst (Subtype.val s') < ByteArray.size (hasS (Int.toNat x.1)) - Prod.fst (Subtype.val s))
   (Tree.chk (XV.a (AV.c (CV.ptr ⟨4, 0, 0, 2, 0, 0, 0, 0⟩)) = XV.a (AV.c (CV.ptr ⟨4, 0, 0, 2, 0, 0, 0, 0⟩)))
   (Tree.chk (XV.a (AV.c (CV.ptr ⟨2, 0, 0, 5, 0, 0, 0, 0⟩)) = XV.a (AV.c (CV.ptr ⟨2, 0, 0, 5, 0, 0, 0, 0⟩)))
   (Tree.chk (XV.a (AV.c (CV.v (Value.bool false))) = XV.a (AV.c (CV.v (Value.bool false))))
   (Tree.chk (XV.a (AV.c (CV.ptr ⟨0, 0, 0, 5, 0, 0, 0, 0⟩)) = XV.a (AV.c (CV.ptr ⟨0, 0, 0, 5, 0, 0, 0, 0⟩)))
   (Tree.chk (EntRel 5 [0, 1, 2, 3, 4] 5 (Ent.mkBox 40 [iv x.1, iv x.2, iv x.3, iv x.4, iv x.5]) (Ent.mkBox 40 [iv x.1, iv x.2, iv x.3, iv x.4, iv x.5]))
   (Tree.chk (EntRel 5 [0, 1, 2, 3, 4] 5 (Ent.rw true 85 2 23 23 fun ii => [CV.v (Value.string (wordS ii)), CV.v (Value.string (hasS ii))]) (Ent.rw true 85 2 23 23 fun ii => [CV.v (Value.string (wordS ii)), CV.v (Value.string (hasS ii))]))
   (Tree.chk (EntRel 5 [0, 1, 2, 3, 4] 5 (Ent.mkBox 40 [iv (Prod.snd (Subtype.val s)).1, iv (0 : Int), iv (Prod.snd (Subtype.val s)).3, iv (Prod.snd (Subtype.val s)).4, iv (Prod.snd (Subtype.val s)).5]) (Ent.mkBox 40 [iv (Prod.snd (Subtype.val s')).1, iv (Prod.snd (Subtype.val s')).2, iv (Prod.snd (Subtype.val s')).3, iv (Prod.snd (Subtype.val s')).4, iv (Prod.snd (Subtype.val s')).5]))
   (Tree.chk (EntRel 5 [0, 1, 2, 3, 4] 5 (Ent.rw true 85 2 23 23 fun ii => [CV.v (Value.string (wordS ii)), CV.v (Value.string (hasS ii))]) (Ent.rw true 85 2 23 23 fun ii => [CV.v (Value.string (wordS ii)), CV.v (Value.string (hasS ii))]))
   (Tree.chk (EntRel 5 [0, 1, 2, 3, 4] 5 (Ent.mkBox 1000000 [CV.v (Value.string (hasS (Int.toNat x.1))), iv ((↑(Prod.fst (Subtype.val s)) : Int) + (1 : Int))]) (Ent.mkBox 1000000 [CV.v (Value.string (hasS (Int.toNat x.1))), iv (↑(Prod.fst (Subtype.val s')) : Int)]))
   (Tree.need True)))))))))))
   (Tree.br (bt' (hasS (Int.toNat x.1)) (Int.toNat (↑(Prod.fst (Subtype.val s)) : Int)) == (66 : Int))
   (Tree.some_ (MayS x (hasS (Int.toNat x.1))) fun s' => Tree.chk (ByteArray.size (hasS (Int.toNat x.1)) - Prod.fst (Subtype.val s') < ByteArray.size (hasS (Int.toNat x.1)) - Prod.fst (Subtype.val s))
   (Tree.chk (XV.a (AV.c (CV.ptr ⟨4, 0, 0, 2, 0, 0, 0, 0⟩)) = XV.a (AV.c (CV.ptr ⟨4, 0, 0, 2, 0, 0, 0, 0⟩)))
   (Tree.chk (XV.a (AV.c (CV.ptr ⟨2, 0, 0, 5, 0, 0, 0, 0⟩)) = XV.a (AV.c (CV.ptr ⟨2, 0, 0, 5, 0, 0, 0, 0⟩)))
   (Tree.chk (XV.a (AV.c (CV.v (Value.bool false))) = XV.a (AV.c (CV.v (Value.bool false))))
   (Tree.chk (XV.a (AV.c (CV.ptr ⟨0, 0, 0, 5, 0, 0, 0, 0⟩)) = XV.a (AV.c (CV.ptr ⟨0, 0, 0, 5, 0, 0, 0, 0⟩)))
   (Tree.chk (EntRel 5 [0, 1, 2, 3, 4] 5 (Ent.mkBox 40 [iv x.1, iv x.2, iv x.3, iv x.4, iv x.5]) (Ent.mkBox 40 [iv x.1, iv x.2, iv x.3, iv x.4, iv x.5]))
   (Tree.chk (EntRel 5 [0, 1, 2, 3, 4] 5 (Ent.rw true 85 2 23 23 fun ii => [CV.v (Value.string (wordS ii)), CV.v (Value.string (hasS ii))]) (Ent.rw true 85 2 23 23 fun ii => [CV.v (Value.string (wordS ii)), CV.v (Value.string (hasS ii))]))
   (Tree.chk (EntRel 5 [0, 1, 2, 3, 4] 5 (Ent.mkBox 40 [iv (Prod.snd (Subtype.val s)).1, iv (Prod.snd (Subtype.val s)).2, iv (0 : Int), iv (Prod.snd (Subtype.val s)).4, iv (Prod.snd (Subtype.val s)).5]) (Ent.mkBox 40 [iv (Prod.snd (Subtype.val s')).1, iv (Prod.snd (Subtype.val s')).2, iv (Prod.snd (Subtype.val s')).3, iv (Prod.snd (Subtype.val s')).4, iv (Prod.snd (Subtype.val s')).5]))
   (Tree.chk (EntRel 5 [0, 1, 2, 3, 4] 5 (Ent.rw true 85 2 23 23 fun ii => [CV.v (Value.string (wordS ii)), CV.v (Value.string (hasS ii))]) (Ent.rw true 85 2 23 23 fun ii => [CV.v (Value.string (wordS ii)), CV.v (Value.string (hasS ii))]))
   (Tree.chk (EntRel 5 [0, 1, 2, 3, 4] 5 (Ent.mkBox 1000000 [CV.v (Value.string (hasS (Int.toNat x.1))), iv ((↑(Prod.fst (Subtype.val s)) : Int) + (1 : Int))]) (Ent.mkBox 1000000 [CV.v (Value.string (hasS (Int.toNat x.1))), iv (↑(Prod.fst (Subtype.val s')) : Int)]))
   (Tree.need True)))))))))))
   (Tree.br (bt' (hasS (Int.toNat x.1)) (Int.toNat (↑(Prod.fst (Subtype.val s)) : Int)) == (67 : Int))
   (Tree.some_ (MayS x (hasS (Int.toNat x.1))) fun s' => Tree.chk (ByteArray.size (hasS (Int.toNat x.1)) - Prod.fst (Subtype.val s') < ByteArray.size (hasS (Int.toNat x.1)) - Prod.fst (Subtype.val s))
   (Tree.chk (XV.a (AV.c (CV.ptr ⟨4, 0, 0, 2, 0, 0, 0, 0⟩)) = XV.a (AV.c (CV.ptr ⟨4, 0, 0, 2, 0, 0, 0, 0⟩)))
   (Tree.chk (XV.a (AV.c (CV.ptr ⟨2, 0, 0, 5, 0, 0, 0, 0⟩)) = XV.a (AV.c (CV.ptr ⟨2, 0, 0, 5, 0, 0, 0, 0⟩)))
   (Tree.chk (XV.a (AV.c (CV.v (Value.bool false))) = XV.a (AV.c (CV.v (Value.bool false))))
   (Tree.chk (XV.a (AV.c (CV.ptr ⟨0, 0, 0, 5, 0, 0, 0, 0⟩)) = XV.a (AV.c (CV.ptr ⟨0, 0, 0, 5, 0, 0, 0, 0⟩)))
   (Tree.chk (EntRel 5 [0, 1, 2, 3, 4] 5 (Ent.mkBox 40 [iv x.1, iv x.2, iv x.3, iv x.4, iv x.5]) (Ent.mkBox 40 [iv x.1, iv x.2, iv x.3, iv x.4, iv x.5]))
   (Tree.chk (EntRel 5 [0, 1, 2, 3, 4] 5 (Ent.rw true 85 2 23 23 fun ii => [CV.v (Value.string (wordS ii)), CV.v (Value.string (hasS ii))]) (Ent.rw true 85 2 23 23 fun ii => [CV.v (Value.string (wordS ii)), CV.v (Value.string (hasS ii))]))
   (Tree.chk (EntRel 5 [0, 1, 2, 3, 4] 5 (Ent.mkBox 40 [iv (Prod.snd (Subtype.val s)).1, iv (Prod.snd (Subtype.val s)).2, iv (Prod.snd (Subtype.val s)).3, iv (0 : Int), iv (Prod.snd (Subtype.val s)).5]) (Ent.mkBox 40 [iv (Prod.snd (Subtype.val s')).1, iv (Prod.snd (Subtype.val s')).2, iv (Prod.snd (Subtype.val s')).3, iv (Prod.snd (Subtype.val s')).4, iv (Prod.snd (Subtype.val s')).5]))
   (Tree.chk (EntRel 5 [0, 1, 2, 3, 4] 5 (Ent.rw true 85 2 23 23 fun ii => [CV.v (Value.string (wordS ii)), CV.v (Value.string (hasS ii))]) (Ent.rw true 85 2 23 23 fun ii => [CV.v (Value.string (wordS ii)), CV.v (Value.string (hasS ii))]))
   (Tree.chk (EntRel 5 [0, 1, 2, 3, 4] 5 (Ent.mkBox 1000000 [CV.v (Value.string (hasS (Int.toNat x.1))), iv ((↑(Prod.fst (Subtype.val s)) : Int) + (1 : Int))]) (Ent.mkBox 1000000 [CV.v (Value.string (hasS (Int.toNat x.1))), iv (↑(Prod.fst (Subtype.val s')) : Int)]))
   (Tree.need True)))))))))))
   (Tree.br (bt' (hasS (Int.toNat x.1)) (Int.toNat (↑(Prod.fst (Subtype.val s)) : Int)) == (78 : Int))
   (Tree.chk ((!decide (x.5 < (-999999999999999999 : Int))) = true → (!decide (x.5 < (-999999999999999999 : Int))) = true)
   (Tree.chk ((!decide (x.5 < (-999999999999999999 : Int))) = true → (!decide (x.5 < (-999999999999999999 : Int))) = true)
   (Tree.chk (decide (x.5 < (-999999999999999999 : Int)) = false → (!decide (x.5 < (-999999999999999999 : Int))) = true)
   (Tree.br (bif decide (x.5 < (-999999999999999999 : Int)) then true else decide (x.5 > (999999999999999999 : Int)))
   (Tree.done (XV.a (AV.c (CV.v (Value.bool false)))) [Ent.dead, Ent.dead, Ent.dead, Ent.dead, Ent.dead])
   (Tree.some_ (MayS x (hasS (Int.toNat x.1))) fun s' => Tree.chk (ByteArray.size (hasS (Int.toNat x.1)) - Prod.fst (Subtype.val s') < ByteArray.size (hasS (Int.toNat x.1)) - Prod.fst (Subtype.val s))
   (Tree.chk (XV.a (AV.c (CV.ptr ⟨4, 0, 0, 2, 0, 0, 0, 0⟩)) = XV.a (AV.c (CV.ptr ⟨4, 0, 0, 2, 0, 0, 0, 0⟩)))
   (Tree.chk (XV.a (AV.c (CV.ptr ⟨2, 0, 0, 5, 0, 0, 0, 0⟩)) = XV.a (AV.c (CV.ptr ⟨2, 0, 0, 5, 0, 0, 0, 0⟩)))
   (Tree.chk (XV.a (AV.c (CV.v (Value.bool false))) = XV.a (AV.c (CV.v (Value.bool false))))
   (Tree.chk (XV.a (AV.c (CV.ptr ⟨0, 0, 0, 5, 0, 0, 0, 0⟩)) = XV.a (AV.c (CV.ptr ⟨0, 0, 0, 5, 0, 0, 0, 0⟩)))
   (Tree.chk (EntRel 5 [0, 1, 2, 3, 4] 5 (Ent.mkBox 40 [iv x.1, iv x.2, iv x.3, iv x.4, iv x.5]) (Ent.mkBox 40 [iv x.1, iv x.2, iv x.3, iv x.4, iv x.5]))
   (Tree.chk (EntRel 5 [0, 1, 2, 3, 4] 5 (Ent.rw true 85 2 23 23 fun ii => [CV.v (Value.string (wordS ii)), CV.v (Value.string (hasS ii))]) (Ent.rw true 85 2 23 23 fun ii => [CV.v (Value.string (wordS ii)), CV.v (Value.string (hasS ii))]))
   (Tree.chk (EntRel 5 [0, 1, 2, 3, 4] 5 (Ent.mkBox 40 [iv (Prod.snd (Subtype.val s)).1, iv (Prod.snd (Subtype.val s)).2, iv (Prod.snd (Subtype.val s)).3, iv (Prod.snd (Subtype.val s)).4, iv (0 : Int)]) (Ent.mkBox 40 [iv (Prod.snd (Subtype.val s')).1, iv (Prod.snd (Subtype.val s')).2, iv (Prod.snd (Subtype.val s')).3, iv (Prod.snd (Subtype.val s')).4, iv (Prod.snd (Subtype.val s')).5]))
   (Tree.chk (EntRel 5 [0, 1, 2, 3, 4] 5 (Ent.rw true 85 2 23 23 fun ii => [CV.v (Value.string (wordS ii)), CV.v (Value.string (hasS ii))]) (Ent.rw true 85 2 23 23 fun ii => [CV.v (Value.string (wordS ii)), CV.v (Value.string (hasS ii))]))
   (Tree.chk (EntRel 5 [0, 1, 2, 3, 4] 5 (Ent.mkBox 1000000 [CV.v (Value.string (hasS (Int.toNat x.1))), iv ((↑(Prod.fst (Subtype.val s)) : Int) + (1 : Int))]) (Ent.mkBox 1000000 [CV.v (Value.string (hasS (Int.toNat x.1))), iv (↑(Prod.fst (Subtype.val s')) : Int)]))
   (Tree.need True)))))))))))))))
   (Tree.some_ (MayS x (hasS (Int.toNat x.1))) fun s' => Tree.chk (ByteArray.size (hasS (Int.toNat x.1)) - Prod.fst (Subtype.val s') < ByteArray.size (hasS (Int.toNat x.1)) - Prod.fst (Subtype.val s))
   (Tree.chk (XV.a (AV.c (CV.ptr ⟨4, 0, 0, 2, 0, 0, 0, 0⟩)) = XV.a (AV.c (CV.ptr ⟨4, 0, 0, 2, 0, 0, 0, 0⟩)))
   (Tree.chk (XV.a (AV.c (CV.ptr ⟨2, 0, 0, 5, 0, 0, 0, 0⟩)) = XV.a (AV.c (CV.ptr ⟨2, 0, 0, 5, 0, 0, 0, 0⟩)))
   (Tree.chk (XV.a (AV.c (CV.v (Value.bool false))) = XV.a (AV.c (CV.v (Value.bool false))))
   (Tree.chk (XV.a (AV.c (CV.ptr ⟨0, 0, 0, 5, 0, 0, 0, 0⟩)) = XV.a (AV.c (CV.ptr ⟨0, 0, 0, 5, 0, 0, 0, 0⟩)))
   (Tree.chk (EntRel 5 [0, 1, 2, 3, 4] 5 (Ent.mkBox 40 [iv x.1, iv x.2, iv x.3, iv x.4, iv x.5]) (Ent.mkBox 40 [iv x.1, iv x.2, iv x.3, iv x.4, iv x.5]))
   (Tree.chk (EntRel 5 [0, 1, 2, 3, 4] 5 (Ent.rw true 85 2 23 23 fun ii => [CV.v (Value.string (wordS ii)), CV.v (Value.string (hasS ii))]) (Ent.rw true 85 2 23 23 fun ii => [CV.v (Value.string (wordS ii)), CV.v (Value.string (hasS ii))]))
   (Tree.chk (EntRel 5 [0, 1, 2, 3, 4] 5 (Ent.mkBox 40 [iv (Prod.snd (Subtype.val s)).1, iv (Prod.snd (Subtype.val s)).2, iv (Prod.snd (Subtype.val s)).3, iv (Prod.snd (Subtype.val s)).4, iv (0 : Int)]) (Ent.mkBox 40 [iv (Prod.snd (Subtype.val s')).1, iv (Prod.snd (Subtype.val s')).2, iv (Prod.snd (Subtype.val s')).3, iv (Prod.snd (Subtype.val s')).4, iv (Prod.snd (Subtype.val s')).5]))
   (Tree.chk (EntRel 5 [0, 1, 2, 3, 4] 5 (Ent.rw true 85 2 23 23 fun ii => [CV.v (Value.string (wordS ii)), CV.v (Value.string (hasS ii))]) (Ent.rw true 85 2 23 23 fun ii => [CV.v (Value.string (wordS ii)), CV.v (Value.string (hasS ii))]))
   (Tree.chk (EntRel 5 [0, 1, 2, 3, 4] 5 (Ent.mkBox 1000000 [CV.v (Value.string (hasS (Int.toNat x.1))), iv ((↑(Prod.fst (Subtype.val s)) : Int) + (1 : Int))]) (Ent.mkBox 1000000 [CV.v (Value.string (hasS (Int.toNat x.1))), iv (↑(Prod.fst (Subtype.val s')) : Int)]))
   (Tree.need True)))))))))))))))
   (Tree.chk (((Prod.snd (Subtype.val s)).1 == x.1 && ((Prod.snd (Subtype.val s)).2 == (0 : Int) && ((Prod.snd (Subtype.val s)).3 == (0 : Int) && ((Prod.snd (Subtype.val s)).4 == (0 : Int) && (Prod.snd (Subtype.val s)).5 == (0 : Int))))) = true → ((Prod.snd (Subtype.val s)).1 == x.1 && ((Prod.snd (Subtype.val s)).2 == (0 : Int) && ((Prod.snd (Subtype.val s)).3 == (0 : Int) && ((Prod.snd (Subtype.val s)).4 == (0 : Int) && (Prod.snd (Subtype.val s)).5 == (0 : Int))))) = true)
   (Tree.br ((Prod.snd (Subtype.val s)).1 == x.1 && ((Prod.snd (Subtype.val s)).2 == (0 : Int) && ((Prod.snd (Subtype.val s)).3 == (0 : Int) && ((Prod.snd (Subtype.val s)).4 == (0 : Int) && (Prod.snd (Subtype.val s)).5 == (0 : Int)))))
   (Tree.chk (((Prod.snd (Subtype.val s)).1 == x.1 && ((Prod.snd (Subtype.val s)).2 == (0 : Int) && ((Prod.snd (Subtype.val s)).3 == (0 : Int) && ((Prod.snd (Subtype.val s)).4 == (0 : Int) && (Prod.snd (Subtype.val s)).5 == (0 : Int))))) = true)
   (Tree.chk (((Prod.snd (Subtype.val s)).1 == x.1 && ((Prod.snd (Subtype.val s)).2 == (0 : Int) && ((Prod.snd (Subtype.val s)).3 == (0 : Int) && ((Prod.snd (Subtype.val s)).4 == (0 : Int) && (Prod.snd (Subtype.val s)).5 == (0 : Int))))) = true)
   (Tree.callf 32 [AV.c (iv x.2)] [(Ent.mkBox 40 [iv x.1, iv x.2, iv x.3, iv x.4, iv x.5]), (Ent.rw true 85 2 23 23 fun ii => [CV.v (Value.string (wordS ii)), CV.v (Value.string (hasS ii))]), (Ent.mkBox 40 [iv (Prod.snd (Subtype.val s)).1, iv (Prod.snd (Subtype.val s)).2, iv (Prod.snd (Subtype.val s)).3, iv (Prod.snd (Subtype.val s)).4, iv (Prod.snd (Subtype.val s)).5]), (Ent.rw true 85 2 23 23 fun ii => [CV.v (Value.string (wordS ii)), CV.v (Value.string (hasS ii))]), (Ent.mkBox 1000000 [CV.v (Value.string (hasS (Int.toNat x.1))), iv ((↑(Prod.fst (Subtype.val s)) : Int) + (1 : Int))])] (inC x.2) fun c => Tree.chk ((bif (Prod.snd (Subtype.val s)).1 == x.1 && ((Prod.snd (Subtype.val s)).2 == (0 : Int) && ((Prod.snd (Subtype.val s)).3 == (0 : Int) && ((Prod.snd (Subtype.val s)).4 == (0 : Int) && (Prod.snd (Subtype.val s)).5 == (0 : Int)))) then inF x.2 else false) = true → (bif (Prod.snd (Subtype.val s)).1 == x.1 && ((Prod.snd (Subtype.val s)).2 == (0 : Int) && ((Prod.snd (Subtype.val s)).3 == (0 : Int) && ((Prod.snd (Subtype.val s)).4 == (0 : Int) && (Prod.snd (Subtype.val s)).5 == (0 : Int)))) then inF x.2 else false) = true)
   (Tree.br (bif (Prod.snd (Subtype.val s)).1 == x.1 && ((Prod.snd (Subtype.val s)).2 == (0 : Int) && ((Prod.snd (Subtype.val s)).3 == (0 : Int) && ((Prod.snd (Subtype.val s)).4 == (0 : Int) && (Prod.snd (Subtype.val s)).5 == (0 : Int)))) then inF x.2 else false)
   (Tree.chk ((bif (Prod.snd (Subtype.val s)).1 == x.1 && ((Prod.snd (Subtype.val s)).2 == (0 : Int) && ((Prod.snd (Subtype.val s)).3 == (0 : Int) && ((Prod.snd (Subtype.val s)).4 == (0 : Int) && (Prod.snd (Subtype.val s)).5 == (0 : Int)))) then inF x.2 else false) = true)
   (Tree.chk ((bif (Prod.snd (Subtype.val s)).1 == x.1 && ((Prod.snd (Subtype.val s)).2 == (0 : Int) && ((Prod.snd (Subtype.val s)).3 == (0 : Int) && ((Prod.snd (Subtype.val s)).4 == (0 : Int) && (Prod.snd (Subtype.val s)).5 == (0 : Int)))) then inF x.2 else false) = true)
   (Tree.callf 32 [AV.c (iv x.3)] [(Ent.mkBox 40 [iv x.1, iv x.2, iv x.3, iv x.4, iv x.5]), (Ent.rw true 85 2 23 23 fun ii => [CV.v (Value.string (wordS ii)), CV.v (Value.string (hasS ii))]), (Ent.mkBox 40 [iv (Prod.snd (Subtype.val s)).1, iv (Prod.snd (Subtype.val s)).2, iv (Prod.snd (Subtype.val s)).3, iv (Prod.snd (Subtype.val s)).4, iv (Prod.snd (Subtype.val s)).5]), (Ent.rw true 85 2 23 23 fun ii => [CV.v (Value.string (wordS ii)), CV.v (Value.string (hasS ii))]), (Ent.mkBox 1000000 [CV.v (Value.string (hasS (Int.toNat x.1))), iv ((↑(Prod.fst (Subtype.val s)) : Int) + (1 : Int))])] (inC x.3) fun c => Tree.chk ((bif bif (Prod.snd (Subtype.val s)).1 == x.1 && ((Prod.snd (Subtype.val s)).2 == (0 : Int) && ((Prod.snd (Subtype.val s)).3 == (0 : Int) && ((Prod.snd (Subtype.val s)).4 == (0 : Int) && (Prod.snd (Subtype.val s)).5 == (0 : Int)))) then inF x.2 else false then inF x.3 else false) = true → (bif bif (Prod.snd (Subtype.val s)).1 == x.1 && ((Prod.snd (Subtype.val s)).2 == (0 : Int) && ((Prod.snd (Subtype.val s)).3 == (0 : Int) && ((Prod.snd (Subtype.val s)).4 == (0 : Int) && (Prod.snd (Subtype.val s)).5 == (0 : Int)))) then inF x.2 else false then inF x.3 else false) = true)
   (Tree.br (bif bif (Prod.snd (Subtype.val s)).1 == x.1 && ((Prod.snd (Subtype.val s)).2 == (0 : Int) && ((Prod.snd (Subtype.val s)).3 == (0 : Int) && ((Prod.snd (Subtype.val s)).4 == (0 : Int) && (Prod.snd (Subtype.val s)).5 == (0 : Int)))) then inF x.2 else false then inF x.3 else false)
   (Tree.chk ((bif bif (Prod.snd (Subtype.val s)).1 == x.1 && ((Prod.snd (Subtype.val s)).2 == (0 : Int) && ((Prod.snd (Subtype.val s)).3 == (0 : Int) && ((Prod.snd (Subtype.val s)).4 == (0 : Int) && (Prod.snd (Subtype.val s)).5 == (0 : Int)))) then inF x.2 else false then inF x.3 else false) = true)
   (Tree.chk ((bif bif (Prod.snd (Subtype.val s)).1 == x.1 && ((Prod.snd (Subtype.val s)).2 == (0 : Int) && ((Prod.snd (Subtype.val s)).3 == (0 : Int) && ((Prod.snd (Subtype.val s)).4 == (0 : Int) && (Prod.snd (Subtype.val s)).5 == (0 : Int)))) then inF x.2 else false then inF x.3 else false) = true)
   (Tree.callf 32 [AV.c (iv x.4)] [(Ent.mkBox 40 [iv x.1, iv x.2, iv x.3, iv x.4, iv x.5]), (Ent.rw true 85 2 23 23 fun ii => [CV.v (Value.string (wordS ii)), CV.v (Value.string (hasS ii))]), (Ent.mkBox 40 [iv (Prod.snd (Subtype.val s)).1, iv (Prod.snd (Subtype.val s)).2, iv (Prod.snd (Subtype.val s)).3, iv (Prod.snd (Subtype.val s)).4, iv (Prod.snd (Subtype.val s)).5]), (Ent.rw true 85 2 23 23 fun ii => [CV.v (Value.string (wordS ii)), CV.v (Value.string (hasS ii))]), (Ent.mkBox 1000000 [CV.v (Value.string (hasS (Int.toNat x.1))), iv ((↑(Prod.fst (Subtype.val s)) : Int) + (1 : Int))])] (inC x.4) fun c => Tree.done (XV.a (AV.c (CV.v (Value.bool (bif bif bif (Prod.snd (Subtype.val s)).1 == x.1 && ((Prod.snd (Subtype.val s)).2 == (0 : Int) && ((Prod.snd (Subtype.val s)).3 == (0 : Int) && ((Prod.snd (Subtype.val s)).4 == (0 : Int) && (Prod.snd (Subtype.val s)).5 == (0 : Int)))) then inF x.2 else false then inF x.3 else false then inF x.4 else false))))) [Ent.dead, Ent.dead, Ent.dead, Ent.dead, Ent.dead])))
   (Tree.chk ((bif bif (Prod.snd (Subtype.val s)).1 == x.1 && ((Prod.snd (Subtype.val s)).2 == (0 : Int) && ((Prod.snd (Subtype.val s)).3 == (0 : Int) && ((Prod.snd (Subtype.val s)).4 == (0 : Int) && (Prod.snd (Subtype.val s)).5 == (0 : Int)))) then inF x.2 else false then inF x.3 else false) = false)
   (Tree.done (XV.a (AV.c (CV.v (Value.bool false)))) [Ent.dead, Ent.dead, Ent.dead, Ent.dead, Ent.dead]))))))
   (Tree.chk ((bif (Prod.snd (Subtype.val s)).1 == x.1 && ((Prod.snd (Subtype.val s)).2 == (0 : Int) && ((Prod.snd (Subtype.val s)).3 == (0 : Int) && ((Prod.snd (Subtype.val s)).4 == (0 : Int) && (Prod.snd (Subtype.val s)).5 == (0 : Int)))) then inF x.2 else false) = false)
   (Tree.chk (false = true → false = true)
   (Tree.br false
   (Tree.chk (false = true)
   (Tree.chk (false = true)
   (Tree.callf 32 [AV.c (iv x.4)] [(Ent.mkBox 40 [iv x.1, iv x.2, iv x.3, iv x.4, iv x.5]), (Ent.rw true 85 2 23 23 fun ii => [CV.v (Value.string (wordS ii)), CV.v (Value.string (hasS ii))]), (Ent.mkBox 40 [iv (Prod.snd (Subtype.val s)).1, iv (Prod.snd (Subtype.val s)).2, iv (Prod.snd (Subtype.val s)).3, iv (Prod.snd (Subtype.val s)).4, iv (Prod.snd (Subtype.val s)).5]), (Ent.rw true 85 2 23 23 fun ii => [CV.v (Value.string (wordS ii)), CV.v (Value.string (hasS ii))]), (Ent.mkBox 1000000 [CV.v (Value.string (hasS (Int.toNat x.1))), iv ((↑(Prod.fst (Subtype.val s)) : Int) + (1 : Int))])] (inC x.4) fun c => Tree.done (XV.a (AV.c (CV.v (Value.bool false)))) [Ent.dead, Ent.dead, Ent.dead, Ent.dead, Ent.dead])))
   (Tree.chk (false = false)
   (Tree.done (XV.a (AV.c (CV.v (Value.bool false)))) [Ent.dead, Ent.dead, Ent.dead, Ent.dead, Ent.dead])))))))))
   (Tree.chk (((Prod.snd (Subtype.val s)).1 == x.1 && ((Prod.snd (Subtype.val s)).2 == (0 : Int) && ((Prod.snd (Subtype.val s)).3 == (0 : Int) && ((Prod.snd (Subtype.val s)).4 == (0 : Int) && (Prod.snd (Subtype.val s)).5 == (0 : Int))))) = false)
   (Tree.chk (false = true → false = true)
   (Tree.br false
   (Tree.chk (false = true)
   (Tree.chk (false = true)
   (Tree.callf 32 [AV.c (iv x.3)] [(Ent.mkBox 40 [iv x.1, iv x.2, iv x.3, iv x.4, iv x.5]), (Ent.rw true 85 2 23 23 fun ii => [CV.v (Value.string (wordS ii)), CV.v (Value.string (hasS ii))]), (Ent.mkBox 40 [iv (Prod.snd (Subtype.val s)).1, iv (Prod.snd (Subtype.val s)).2, iv (Prod.snd (Subtype.val s)).3, iv (Prod.snd (Subtype.val s)).4, iv (Prod.snd (Subtype.val s)).5]), (Ent.rw true 85 2 23 23 fun ii => [CV.v (Value.string (wordS ii)), CV.v (Value.string (hasS ii))]), (Ent.mkBox 1000000 [CV.v (Value.string (hasS (Int.toNat x.1))), iv ((↑(Prod.fst (Subtype.val s)) : Int) + (1 : Int))])] (inC x.3) fun c => Tree.chk (false = true → false = true)
   (Tree.br false
   (Tree.chk (false = true)
   (Tree.chk (false = true)
   (Tree.callf 32 [AV.c (iv x.4)] [(Ent.mkBox 40 [iv x.1, iv x.2, iv x.3, iv x.4, iv x.5]), (Ent.rw true 85 2 23 23 fun ii => [CV.v (Value.string (wordS ii)), CV.v (Value.string (hasS ii))]), (Ent.mkBox 40 [iv (Prod.snd (Subtype.val s)).1, iv (Prod.snd (Subtype.val s)).2, iv (Prod.snd (Subtype.val s)).3, iv (Prod.snd (Subtype.val s)).4, iv (Prod.snd (Subtype.val s)).5]), (Ent.rw true 85 2 23 23 fun ii => [CV.v (Value.string (wordS ii)), CV.v (Value.string (hasS ii))]), (Ent.mkBox 1000000 [CV.v (Value.string (hasS (Int.toNat x.1))), iv ((↑(Prod.fst (Subtype.val s)) : Int) + (1 : Int))])] (inC x.4) fun c => Tree.done (XV.a (AV.c (CV.v (Value.bool false)))) [Ent.dead, Ent.dead, Ent.dead, Ent.dead, Ent.dead])))
   (Tree.chk (false = false)
   (Tree.done (XV.a (AV.c (CV.v (Value.bool false)))) [Ent.dead, Ent.dead, Ent.dead, Ent.dead, Ent.dead]))))))
   (Tree.chk (false = false)
   (Tree.chk (false = true → false = true)
   (Tree.br false
   (Tree.chk (false = true)
   (Tree.chk (false = true)
   (Tree.callf 32 [AV.c (iv x.4)] [(Ent.mkBox 40 [iv x.1, iv x.2, iv x.3, iv x.4, iv x.5]), (Ent.rw true 85 2 23 23 fun ii => [CV.v (Value.string (wordS ii)), CV.v (Value.string (hasS ii))]), (Ent.mkBox 40 [iv (Prod.snd (Subtype.val s)).1, iv (Prod.snd (Subtype.val s)).2, iv (Prod.snd (Subtype.val s)).3, iv (Prod.snd (Subtype.val s)).4, iv (Prod.snd (Subtype.val s)).5]), (Ent.rw true 85 2 23 23 fun ii => [CV.v (Value.string (wordS ii)), CV.v (Value.string (hasS ii))]), (Ent.mkBox 1000000 [CV.v (Value.string (hasS (Int.toNat x.1))), iv ((↑(Prod.fst (Subtype.val s)) : Int) + (1 : Int))])] (inC x.4) fun c => Tree.done (XV.a (AV.c (CV.v (Value.bool false)))) [Ent.dead, Ent.dead, Ent.dead, Ent.dead, Ent.dead])))
   (Tree.chk (false = false)
   (Tree.done (XV.a (AV.c (CV.v (Value.bool false)))) [Ent.dead, Ent.dead, Ent.dead, Ent.dead, Ent.dead])))))))))))
   (Tree.br false
   (Tree.fail 93)
   (Tree.chk (((Prod.snd (Subtype.val s)).1 == x.1 && ((Prod.snd (Subtype.val s)).2 == (0 : Int) && ((Prod.snd (Subtype.val s)).3 == (0 : Int) && ((Prod.snd (Subtype.val s)).4 == (0 : Int) && (Prod.snd (Subtype.val s)).5 == (0 : Int))))) = true → ((Prod.snd (Subtype.val s)).1 == x.1 && ((Prod.snd (Subtype.val s)).2 == (0 : Int) && ((Prod.snd (Subtype.val s)).3 == (0 : Int) && ((Prod.snd (Subtype.val s)).4 == (0 : Int) && (Prod.snd (Subtype.val s)).5 == (0 : Int))))) = true)
   (Tree.br ((Prod.snd (Subtype.val s)).1 == x.1 && ((Prod.snd (Subtype.val s)).2 == (0 : Int) && ((Prod.snd (Subtype.val s)).3 == (0 : Int) && ((Prod.snd (Subtype.val s)).4 == (0 : Int) && (Prod.snd (Subtype.val s)).5 == (0 : Int)))))
   (Tree.chk (((Prod.snd (Subtype.val s)).1 == x.1 && ((Prod.snd (Subtype.val s)).2 == (0 : Int) && ((Prod.snd (Subtype.val s)).3 == (0 : Int) && ((Prod.snd (Subtype.val s)).4 == (0 : Int) && (Prod.snd (Subtype.val s)).5 == (0 : Int))))) = true)
   (Tree.chk (((Prod.snd (Subtype.val s)).1 == x.1 && ((Prod.snd (Subtype.val s)).2 == (0 : Int) && ((Prod.snd (Subtype.val s)).3 == (0 : Int) && ((Prod.snd (Subtype.val s)).4 == (0 : Int) && (Prod.snd (Subtype.val s)).5 == (0 : Int))))) = true)
   (Tree.callf 32 [AV.c (iv x.2)] [(Ent.mkBox 40 [iv x.1, iv x.2, iv x.3, iv x.4, iv x.5]), (Ent.rw true 85 2 23 23 fun ii => [CV.v (Value.string (wordS ii)), CV.v (Value.string (hasS ii))]), (Ent.mkBox 40 [iv (Prod.snd (Subtype.val s)).1, iv (Prod.snd (Subtype.val s)).2, iv (Prod.snd (Subtype.val s)).3, iv (Prod.snd (Subtype.val s)).4, iv (Prod.snd (Subtype.val s)).5]), (Ent.rw true 85 2 23 23 fun ii => [CV.v (Value.string (wordS ii)), CV.v (Value.string (hasS ii))]), (Ent.mkBox 1000000 [CV.v (Value.string (hasS (Int.toNat x.1))), iv (↑(Prod.fst (Subtype.val s)) : Int)])] (inC x.2) fun c => Tree.chk ((bif (Prod.snd (Subtype.val s)).1 == x.1 && ((Prod.snd (Subtype.val s)).2 == (0 : Int) && ((Prod.snd (Subtype.val s)).3 == (0 : Int) && ((Prod.snd (Subtype.val s)).4 == (0 : Int) && (Prod.snd (Subtype.val s)).5 == (0 : Int)))) then inF x.2 else false) = true → (bif (Prod.snd (Subtype.val s)).1 == x.1 && ((Prod.snd (Subtype.val s)).2 == (0 : Int) && ((Prod.snd (Subtype.val s)).3 == (0 : Int) && ((Prod.snd (Subtype.val s)).4 == (0 : Int) && (Prod.snd (Subtype.val s)).5 == (0 : Int)))) then inF x.2 else false) = true)
   (Tree.br (bif (Prod.snd (Subtype.val s)).1 == x.1 && ((Prod.snd (Subtype.val s)).2 == (0 : Int) && ((Prod.snd (Subtype.val s)).3 == (0 : Int) && ((Prod.snd (Subtype.val s)).4 == (0 : Int) && (Prod.snd (Subtype.val s)).5 == (0 : Int)))) then inF x.2 else false)
   (Tree.chk ((bif (Prod.snd (Subtype.val s)).1 == x.1 && ((Prod.snd (Subtype.val s)).2 == (0 : Int) && ((Prod.snd (Subtype.val s)).3 == (0 : Int) && ((Prod.snd (Subtype.val s)).4 == (0 : Int) && (Prod.snd (Subtype.val s)).5 == (0 : Int)))) then inF x.2 else false) = true)
   (Tree.chk ((bif (Prod.snd (Subtype.val s)).1 == x.1 && ((Prod.snd (Subtype.val s)).2 == (0 : Int) && ((Prod.snd (Subtype.val s)).3 == (0 : Int) && ((Prod.snd (Subtype.val s)).4 == (0 : Int) && (Prod.snd (Subtype.val s)).5 == (0 : Int)))) then inF x.2 else false) = true)
   (Tree.callf 32 [AV.c (iv x.3)] [(Ent.mkBox 40 [iv x.1, iv x.2, iv x.3, iv x.4, iv x.5]), (Ent.rw true 85 2 23 23 fun ii => [CV.v (Value.string (wordS ii)), CV.v (Value.string (hasS ii))]), (Ent.mkBox 40 [iv (Prod.snd (Subtype.val s)).1, iv (Prod.snd (Subtype.val s)).2, iv (Prod.snd (Subtype.val s)).3, iv (Prod.snd (Subtype.val s)).4, iv (Prod.snd (Subtype.val s)).5]), (Ent.rw true 85 2 23 23 fun ii => [CV.v (Value.string (wordS ii)), CV.v (Value.string (hasS ii))]), (Ent.mkBox 1000000 [CV.v (Value.string (hasS (Int.toNat x.1))), iv (↑(Prod.fst (Subtype.val s)) : Int)])] (inC x.3) fun c => Tree.chk ((bif bif (Prod.snd (Subtype.val s)).1 == x.1 && ((Prod.snd (Subtype.val s)).2 == (0 : Int) && ((Prod.snd (Subtype.val s)).3 == (0 : Int) && ((Prod.snd (Subtype.val s)).4 == (0 : Int) && (Prod.snd (Subtype.val s)).5 == (0 : Int)))) then inF x.2 else false then inF x.3 else false) = true → (bif bif (Prod.snd (Subtype.val s)).1 == x.1 && ((Prod.snd (Subtype.val s)).2 == (0 : Int) && ((Prod.snd (Subtype.val s)).3 == (0 : Int) && ((Prod.snd (Subtype.val s)).4 == (0 : Int) && (Prod.snd (Subtype.val s)).5 == (0 : Int)))) then inF x.2 else false then inF x.3 else false) = true)
   (Tree.br (bif bif (Prod.snd (Subtype.val s)).1 == x.1 && ((Prod.snd (Subtype.val s)).2 == (0 : Int) && ((Prod.snd (Subtype.val s)).3 == (0 : Int) && ((Prod.snd (Subtype.val s)).4 == (0 : Int) && (Prod.snd (Subtype.val s)).5 == (0 : Int)))) then inF x.2 else false then inF x.3 else false)
   (Tree.chk ((bif bif (Prod.snd (Subtype.val s)).1 == x.1 && ((Prod.snd (Subtype.val s)).2 == (0 : Int) && ((Prod.snd (Subtype.val s)).3 == (0 : Int) && ((Prod.snd (Subtype.val s)).4 == (0 : Int) && (Prod.snd (Subtype.val s)).5 == (0 : Int)))) then inF x.2 else false then inF x.3 else false) = true)
   (Tree.chk ((bif bif (Prod.snd (Subtype.val s)).1 == x.1 && ((Prod.snd (Subtype.val s)).2 == (0 : Int) && ((Prod.snd (Subtype.val s)).3 == (0 : Int) && ((Prod.snd (Subtype.val s)).4 == (0 : Int) && (Prod.snd (Subtype.val s)).5 == (0 : Int)))) then inF x.2 else false then inF x.3 else false) = true)
   (Tree.callf 32 [AV.c (iv x.4)] [(Ent.mkBox 40 [iv x.1, iv x.2, iv x.3, iv x.4, iv x.5]), (Ent.rw true 85 2 23 23 fun ii => [CV.v (Value.string (wordS ii)), CV.v (Value.string (hasS ii))]), (Ent.mkBox 40 [iv (Prod.snd (Subtype.val s)).1, iv (Prod.snd (Subtype.val s)).2, iv (Prod.snd (Subtype.val s)).3, iv (Prod.snd (Subtype.val s)).4, iv (Prod.snd (Subtype.val s)).5]), (Ent.rw true 85 2 23 23 fun ii => [CV.v (Value.string (wordS ii)), CV.v (Value.string (hasS ii))]), (Ent.mkBox 1000000 [CV.v (Value.string (hasS (Int.toNat x.1))), iv (↑(Prod.fst (Subtype.val s)) : Int)])] (inC x.4) fun c => Tree.done (XV.a (AV.c (CV.v (Value.bool (bif bif bif (Prod.snd (Subtype.val s)).1 == x.1 && ((Prod.snd (Subtype.val s)).2 == (0 : Int) && ((Prod.snd (Subtype.val s)).3 == (0 : Int) && ((Prod.snd (Subtype.val s)).4 == (0 : Int) && (Prod.snd (Subtype.val s)).5 == (0 : Int)))) then inF x.2 else false then inF x.3 else false then inF x.4 else false))))) [Ent.dead, Ent.dead, Ent.dead, Ent.dead, Ent.dead])))
   (Tree.chk ((bif bif (Prod.snd (Subtype.val s)).1 == x.1 && ((Prod.snd (Subtype.val s)).2 == (0 : Int) && ((Prod.snd (Subtype.val s)).3 == (0 : Int) && ((Prod.snd (Subtype.val s)).4 == (0 : Int) && (Prod.snd (Subtype.val s)).5 == (0 : Int)))) then inF x.2 else false then inF x.3 else false) = false)
   (Tree.done (XV.a (AV.c (CV.v (Value.bool false)))) [Ent.dead, Ent.dead, Ent.dead, Ent.dead, Ent.dead]))))))
   (Tree.chk ((bif (Prod.snd (Subtype.val s)).1 == x.1 && ((Prod.snd (Subtype.val s)).2 == (0 : Int) && ((Prod.snd (Subtype.val s)).3 == (0 : Int) && ((Prod.snd (Subtype.val s)).4 == (0 : Int) && (Prod.snd (Subtype.val s)).5 == (0 : Int)))) then inF x.2 else false) = false)
   (Tree.chk (false = true → false = true)
   (Tree.br false
   (Tree.chk (false = true)
   (Tree.chk (false = true)
   (Tree.callf 32 [AV.c (iv x.4)] [(Ent.mkBox 40 [iv x.1, iv x.2, iv x.3, iv x.4, iv x.5]), (Ent.rw true 85 2 23 23 fun ii => [CV.v (Value.string (wordS ii)), CV.v (Value.string (hasS ii))]), (Ent.mkBox 40 [iv (Prod.snd (Subtype.val s)).1, iv (Prod.snd (Subtype.val s)).2, iv (Prod.snd (Subtype.val s)).3, iv (Prod.snd (Subtype.val s)).4, iv (Prod.snd (Subtype.val s)).5]), (Ent.rw true 85 2 23 23 fun ii => [CV.v (Value.string (wordS ii)), CV.v (Value.string (hasS ii))]), (Ent.mkBox 1000000 [CV.v (Value.string (hasS (Int.toNat x.1))), iv (↑(Prod.fst (Subtype.val s)) : Int)])] (inC x.4) fun c => Tree.done (XV.a (AV.c (CV.v (Value.bool false)))) [Ent.dead, Ent.dead, Ent.dead, Ent.dead, Ent.dead])))
   (Tree.chk (false = false)
   (Tree.done (XV.a (AV.c (CV.v (Value.bool false)))) [Ent.dead, Ent.dead, Ent.dead, Ent.dead, Ent.dead])))))))))
   (Tree.chk (((Prod.snd (Subtype.val s)).1 == x.1 && ((Prod.snd (Subtype.val s)).2 == (0 : Int) && ((Prod.snd (Subtype.val s)).3 == (0 : Int) && ((Prod.snd (Subtype.val s)).4 == (0 : Int) && (Prod.snd (Subtype.val s)).5 == (0 : Int))))) = false)
   (Tree.chk (false = true → false = true)
   (Tree.br false
   (Tree.chk (false = true)
   (Tree.chk (false = true)
   (Tree.callf 32 [AV.c (iv x.3)] [(Ent.mkBox 40 [iv x.1, iv x.2, iv x.3, iv x.4, iv x.5]), (Ent.rw true 85 2 23 23 fun ii => [CV.v (Value.string (wordS ii)), CV.v (Value.string (hasS ii))]), (Ent.mkBox 40 [iv (Prod.snd (Subtype.val s)).1, iv (Prod.snd (Subtype.val s)).2, iv (Prod.snd (Subtype.val s)).3, iv (Prod.snd (Subtype.val s)).4, iv (Prod.snd (Subtype.val s)).5]), (Ent.rw true 85 2 23 23 fun ii => [CV.v (Value.string (wordS ii)), CV.v (Value.string (hasS ii))]), (Ent.mkBox 1000000 [CV.v (Value.string (hasS (Int.toNat x.1))), iv (↑(Prod.fst (Subtype.val s)) : Int)])] (inC x.3) fun c => Tree.chk (false = true → false = true)
   (Tree.br false
   (Tree.chk (false = true)
   (Tree.chk (false = true)
   (Tree.callf 32 [AV.c (iv x.4)] [(Ent.mkBox 40 [iv x.1, iv x.2, iv x.3, iv x.4, iv x.5]), (Ent.rw true 85 2 23 23 fun ii => [CV.v (Value.string (wordS ii)), CV.v (Value.string (hasS ii))]), (Ent.mkBox 40 [iv (Prod.snd (Subtype.val s)).1, iv (Prod.snd (Subtype.val s)).2, iv (Prod.snd (Subtype.val s)).3, iv (Prod.snd (Subtype.val s)).4, iv (Prod.snd (Subtype.val s)).5]), (Ent.rw true 85 2 23 23 fun ii => [CV.v (Value.string (wordS ii)), CV.v (Value.string (hasS ii))]), (Ent.mkBox 1000000 [CV.v (Value.string (hasS (Int.toNat x.1))), iv (↑(Prod.fst (Subtype.val s)) : Int)])] (inC x.4) fun c => Tree.done (XV.a (AV.c (CV.v (Value.bool false)))) [Ent.dead, Ent.dead, Ent.dead, Ent.dead, Ent.dead])))
   (Tree.chk (false = false)
   (Tree.done (XV.a (AV.c (CV.v (Value.bool false)))) [Ent.dead, Ent.dead, Ent.dead, Ent.dead, Ent.dead]))))))
   (Tree.chk (false = false)
   (Tree.chk (false = true → false = true)
   (Tree.br false
   (Tree.chk (false = true)
   (Tree.chk (false = true)
   (Tree.callf 32 [AV.c (iv x.4)] [(Ent.mkBox 40 [iv x.1, iv x.2, iv x.3, iv x.4, iv x.5]), (Ent.rw true 85 2 23 23 fun ii => [CV.v (Value.string (wordS ii)), CV.v (Value.string (hasS ii))]), (Ent.mkBox 40 [iv (Prod.snd (Subtype.val s)).1, iv (Prod.snd (Subtype.val s)).2, iv (Prod.snd (Subtype.val s)).3, iv (Prod.snd (Subtype.val s)).4, iv (Prod.snd (Subtype.val s)).5]), (Ent.rw true 85 2 23 23 fun ii => [CV.v (Value.string (wordS ii)), CV.v (Value.string (hasS ii))]), (Ent.mkBox 1000000 [CV.v (Value.string (hasS (Int.toNat x.1))), iv (↑(Prod.fst (Subtype.val s)) : Int)])] (inC x.4) fun c => Tree.done (XV.a (AV.c (CV.v (Value.bool false)))) [Ent.dead, Ent.dead, Ent.dead, Ent.dead, Ent.dead])))
   (Tree.chk (false = false)
   (Tree.done (XV.a (AV.c (CV.v (Value.bool false)))) [Ent.dead, Ent.dead, Ent.dead, Ent.dead, Ent.dead])))))))))))))))))))))))))))))))))
   (Tree.chk ((!decide (x.1 < (1 : Int))) = true → False)
   (Tree.chk ((!decide (x.1 < (1 : Int))) = true → False)
   (Tree.chk (decide (x.1 < (1 : Int)) = true)
   (Tree.chk (false = true → false = true)
   (Tree.chk (false = true → false = true)
   (Tree.chk (false = true → false = true)
   (Tree.chk (false = true → false = true)
   (Tree.chk (false = true → false = true)
   (Tree.chk (false = true → false = true)
   (Tree.chk (false = true → (x.1 == (7 : Int)) = true → false = true)
   (Tree.chk (true = false → false = true)
   (Tree.br true
   (Tree.done (XV.a (AV.c (CV.v (Value.bool false)))) [Ent.dead])
   (Tree.callf 31 [] [(Ent.mkBox 40 [iv x.1, iv x.2, iv x.3, iv x.4, iv x.5]), (Ent.mkBox 40 [iv x.1, iv x.2, iv x.3, iv x.4, iv x.5])] (shapesC 2) fun c => Tree.chk (AV.c (iv x.1) = AV.c (iv x.1))
   (Tree.chk (AV.c (CV.ptr ⟨0, 0, 0, 5, 0, 0, 0, 0⟩) = AV.c (CV.ptr ⟨0, 0, 0, 5, 0, 0, 0, 0⟩))
   (Tree.chk ((0 : Int) ≤ x.1 ∧ x.1 < (↑23 : Int) ∧ Int.toNat x.1 < 23 ∧ 0 < 1)
   (Tree.chk (0 < 1 ∧ Int.toNat x.1 < 23)
   (Tree.both
   (Tree.fail 230)
   (Tree.every (MayS x (hasS (Int.toNat x.1))) fun s => Tree.fail 270)))))))))))))))))))
theorem tmay_eq (x : In) : xfunc tab mayG (lpI fun _ tm H => mayI x tm H) Go.Proofs.Try.f24 [x.av] [] [] = tmay x := by kernel_rfl
end Go.Proofs.Ytehecaipmdfjmaa.X.Mi

set_option linter.unusedVariables false
set_option linter.unusedSimpArgs false
namespace Go.Proofs.Ytehecaipmdfjmaa.X.Mi
open Go Go.RowKit Go.Proofs.YtehecaipmdfjmaaW.PrintWords Go.Proofs.Ytehecaipmdfjmaa.Base Go.Proofs.Ytehecaipmdfjmaa.X
section
variable {P : Program} {R : Root} {nt : Nat} {Rp : Ending → World → Prop} {t e : Tree}
theorem ok_brT (h : ok P R nt Rp t) : ok P R nt Rp (.br true t e) := ⟨fun _ => h, fun h => absurd h.symm Bool.false_ne_true⟩
theorem ok_brF (h : ok P R nt Rp e) : ok P R nt Rp (.br false t e) := ⟨fun h => absurd h Bool.false_ne_true, fun _ => h⟩
end
theorem far_eq (x : In) : farF x = !(decide (-999999999999999999 ≤ x.n) && decide (x.n ≤ 999999999999999999)) := by
  unfold farF
  by_cases h1 : x.n < -999999999999999999
  · have h2 : ¬ (-999999999999999999 ≤ x.n) := by omega
    simp [h1, h2]
  · have h2 : -999999999999999999 ≤ x.n := by omega
    simp only [h1, h2, decide_true, decide_false, cond_false, Bool.true_and]
    by_cases h3 : x.n > 999999999999999999
    · have h4 : ¬ (x.n ≤ 999999999999999999) := by omega
      simp [h3, h4]
    · have h4 : x.n ≤ 999999999999999999 := by omega
      simp [h3, h4]
theorem may_1 (a b c n : Int) : mayL ⟨1, a, b, c, n⟩ (hasS 1) (hasS 1).size 0 ⟨1, a, b, c, n⟩ = mayF ⟨1, a, b, c, n⟩ := by
  show (bif farF ⟨1, a, b, c, n⟩ then false else bif (bif (bif (true && (true && ((b == 0) && ((c == 0) && true)))) then inF a else false) then inF b else false) then inF c else false) = (true && true && !(false && decide (a > 13)) && inF a && inF b && inF c && (true || a == 0) && (false || b == 0) && (false || c == 0) && (decide (-999999999999999999 ≤ n) && decide (n ≤ 999999999999999999)))
  rw [far_eq]
  generalize inF a = ia
  generalize inF b = ib
  generalize inF c = ic
  generalize (decide (-999999999999999999 ≤ n) && decide (n ≤ 999999999999999999)) = nn
  generalize (a == 0) = a0
  generalize (b == 0) = b0
  generalize (c == 0) = c0
  generalize decide (a > 13) = a13
  cases ia <;> cases ib <;> cases ic <;> (revert nn a0 b0 c0 a13; decide)
theorem may_2 (a b c n : Int) : mayL ⟨2, a, b, c, n⟩ (hasS 2) (hasS 2).size 0 ⟨2, a, b, c, n⟩ = mayF ⟨2, a, b, c, n⟩ := by
  show (bif (bif (bif (true && (true && (true && ((c == 0) && (n == 0))))) then inF a else false) then inF b else false) then inF c else false) = (true && true && !(false && decide (a > 13)) && inF a && inF b && inF c && (true || a == 0) && (true || b == 0) && (false || c == 0) && (n == 0))
  generalize inF a = ia
  generalize inF b = ib
  generalize inF c = ic
  generalize (n == 0) = n0
  generalize (a == 0) = a0
  generalize (b == 0) = b0
  generalize (c == 0) = c0
  generalize decide (a > 13) = a13
  cases ia <;> cases ib <;> cases ic <;> (revert n0 a0 b0 c0 a13; decide)
theorem may_3 (a b c n : Int) : mayL ⟨3, a, b, c, n⟩ (hasS 3) (hasS 3).size 0 ⟨3, a, b, c, n⟩ = mayF ⟨3, a, b, c, n⟩ := by
  show (bif (bif (bif (true && (true && (true && (true && (n == 0))))) then inF a else false) then inF b else false) then inF c else false) = (true && true && !(false && decide (a > 13)) && inF a && inF b && inF c && (true || a == 0) && (true || b == 0) && (true || c == 0) && (n == 0))
  generalize inF a = ia
  generalize inF b = ib
  generalize inF c = ic
  generalize (n == 0) = n0
  generalize (a == 0) = a0
  generalize (b == 0) = b0
  generalize (c == 0) = c0
  generalize decide (a > 13) = a13
  cases ia <;> cases ib <;> cases ic <;> (revert n0 a0 b0 c0 a13; decide)
theorem may_4 (a b c n : Int) : mayL ⟨4, a, b, c, n⟩ (hasS 4) (hasS 4).size 0 ⟨4, a, b, c, n⟩ = mayF ⟨4, a, b, c, n⟩ := by
  show (bif farF ⟨4, a, b, c, n⟩ then false else bif (bif (bif (true && (true && (true && ((c == 0) && true)))) then inF a else false) then inF b else false) then inF c else false) = (true && true && !(false && decide (a > 13)) && inF a && inF b && inF c && (true || a == 0) && (true || b == 0) && (false || c == 0) && (decide (-999999999999999999 ≤ n) && decide (n ≤ 999999999999999999)))
  rw [far_eq]
  generalize inF a = ia
  generalize inF b = ib
  generalize inF c = ic
  generalize (decide (-999999999999999999 ≤ n) && decide (n ≤ 999999999999999999)) = nn
  generalize (a == 0) = a0
  generalize (b == 0) = b0
  generalize (c == 0) = c0
  generalize decide (a > 13) = a13
  cases ia <;> cases ib <;> cases ic <;> (revert nn a0 b0 c0 a13; decide)
theorem may_5 (a b c n : Int) : mayL ⟨5, a, b, c, n⟩ (hasS 5) (hasS 5).size 0 ⟨5, a, b, c, n⟩ = mayF ⟨5, a, b, c, n⟩ := by
  show (bif farF ⟨5, a, b, c, n⟩ then false else bif (bif (bif (true && (true && (true && ((c == 0) && true)))) then inF a else false) then inF b else false) then inF c else false) = (true && true && !(false && decide (a > 13)) && inF a && inF b && inF c && (true || a == 0) && (true || b == 0) && (false || c == 0) && (decide (-999999999999999999 ≤ n) && decide (n ≤ 999999999999999999)))
  rw [far_eq]
  generalize inF a = ia
  generalize inF b = ib
  generalize inF c = ic
  generalize (decide (-999999999999999999 ≤ n) && decide (n ≤ 999999999999999999)) = nn
  generalize (a == 0) = a0
  generalize (b == 0) = b0
  generalize (c == 0) = c0
  generalize decide (a > 13) = a13
  cases ia <;> cases ib <;> cases ic <;> (revert nn a0 b0 c0 a13; decide)
theorem may_6 (a b c n : Int) : mayL ⟨6, a, b, c, n⟩ (hasS 6) (hasS 6).size 0 ⟨6, a, b, c, n⟩ = mayF ⟨6, a, b, c, n⟩ := by
  show (bif farF ⟨6, a, b, c, n⟩ then false else bif (bif (bif (true && (true && (true && ((c == 0) && true)))) then inF a else false) then inF b else false) then inF c else false) = (true && true && !(false && decide (a > 13)) && inF a && inF b && inF c && (true || a == 0) && (true || b == 0) && (false || c == 0) && (decide (-999999999999999999 ≤ n) && decide (n ≤ 999999999999999999)))
  rw [far_eq]
  generalize inF a = ia
  generalize inF b = ib
  generalize inF c = ic
  generalize (decide (-999999999999999999 ≤ n) && decide (n ≤ 999999999999999999)) = nn
  generalize (a == 0) = a0
  generalize (b == 0) = b0
  generalize (c == 0) = c0
  generalize decide (a > 13) = a13
  cases ia <;> cases ib <;> cases ic <;> (revert nn a0 b0 c0 a13; decide)
theorem may_7 (a b c n : Int) (h7 : decide (a > 13) = false) : mayL ⟨7, a, b, c, n⟩ (hasS 7) (hasS 7).size 0 ⟨7, a, b, c, n⟩ = mayF ⟨7, a, b, c, n⟩ := by
  show (bif farF ⟨7, a, b, c, n⟩ then false else bif (bif (bif (true && (true && (true && ((c == 0) && true)))) then inF a else false) then inF b else false) then inF c else false) = (true && true && !(true && decide (a > 13)) && inF a && inF b && inF c && (true || a == 0) && (true || b == 0) && (false || c == 0) && (decide (-999999999999999999 ≤ n) && decide (n ≤ 999999999999999999)))
  rw [far_eq]
  rw [h7]
  generalize inF a = ia
  generalize inF b = ib
  generalize inF c = ic
  generalize (decide (-999999999999999999 ≤ n) && decide (n ≤ 999999999999999999)) = nn
  generalize (a == 0) = a0
  generalize (b == 0) = b0
  generalize (c == 0) = c0
  cases ia <;> cases ib <;> cases ic <;> (revert nn a0 b0 c0; decide)
theorem may_8 (a b c n : Int) : mayL ⟨8, a, b, c, n⟩ (hasS 8) (hasS 8).size 0 ⟨8, a, b, c, n⟩ = mayF ⟨8, a, b, c, n⟩ := by
  show (bif (bif (bif (true && ((a == 0) && ((b == 0) && ((c == 0) && true)))) then inF a else false) then inF b else false) then inF c else false) = (true && true && !(false && decide (a > 13)) && inF a && inF b && inF c && (false || a == 0) && (false || b == 0) && (false || c == 0) && (true))
  generalize inF a = ia
  generalize inF b = ib
  generalize inF c = ic
  generalize (a == 0) = a0
  generalize (b == 0) = b0
  generalize (c == 0) = c0
  generalize decide (a > 13) = a13
  cases ia <;> cases ib <;> cases ic <;> (revert a0 b0 c0 a13; decide)
theorem may_9 (a b c n : Int) : mayL ⟨9, a, b, c, n⟩ (hasS 9) (hasS 9).size 0 ⟨9, a, b, c, n⟩ = mayF ⟨9, a, b, c, n⟩ := by
  show (bif (bif (bif (true && (true && (true && ((c == 0) && true)))) then inF a else false) then inF b else false) then inF c else false) = (true && true && !(false && decide (a > 13)) && inF a && inF b && inF c && (true || a == 0) && (true || b == 0) && (false || c == 0) && (true))
  generalize inF a = ia
  generalize inF b = ib
  generalize inF c = ic
  generalize (a == 0) = a0
  generalize (b == 0) = b0
  generalize (c == 0) = c0
  generalize decide (a > 13) = a13
  cases ia <;> cases ib <;> cases ic <;> (revert a0 b0 c0 a13; decide)
theorem may_10 (a b c n : Int) : mayL ⟨10, a, b, c, n⟩ (hasS 10) (hasS 10).size 0 ⟨10, a, b, c, n⟩ = mayF ⟨10, a, b, c, n⟩ := by
  show (bif (bif (bif (true && (true && (true && ((c == 0) && true)))) then inF a else false) then inF b else false) then inF c else false) = (true && true && !(false && decide (a > 13)) && inF a && inF b && inF c && (true || a == 0) && (true || b == 0) && (false || c == 0) && (true))
  generalize inF a = ia
  generalize inF b = ib
  generalize inF c = ic
  generalize (a == 0) = a0
  generalize (b == 0) = b0
  generalize (c == 0) = c0
  generalize decide (a > 13) = a13
  cases ia <;> cases ib <;> cases ic <;> (revert a0 b0 c0 a13; decide)
theorem may_11 (a b c n : Int) : mayL ⟨11, a, b, c, n⟩ (hasS 11) (hasS 11).size 0 ⟨11, a, b, c, n⟩ = mayF ⟨11, a, b, c, n⟩ := by
  show (bif (bif (bif (true && (true && (true && ((c == 0) && true)))) then inF a else false) then inF b else false) then inF c else false) = (true && true && !(false && decide (a > 13)) && inF a && inF b && inF c && (true || a == 0) && (true || b == 0) && (false || c == 0) && (true))
  generalize inF a = ia
  generalize inF b = ib
  generalize inF c = ic
  generalize (a == 0) = a0
  generalize (b == 0) = b0
  generalize (c == 0) = c0
  generalize decide (a > 13) = a13
  cases ia <;> cases ib <;> cases ic <;> (revert a0 b0 c0 a13; decide)
theorem may_12 (a b c n : Int) : mayL ⟨12, a, b, c, n⟩ (hasS 12) (hasS 12).size 0 ⟨12, a, b, c, n⟩ = mayF ⟨12, a, b, c, n⟩ := by
  show (bif (bif (bif (true && ((a == 0) && ((b == 0) && ((c == 0) && true)))) then inF a else false) then inF b else false) then inF c else false) = (true && true && !(false && decide (a > 13)) && inF a && inF b && inF c && (false || a == 0) && (false || b == 0) && (false || c == 0) && (true))
  generalize inF a = ia
  generalize inF b = ib
  generalize inF c = ic
  generalize (a == 0) = a0
  generalize (b == 0) = b0
  generalize (c == 0) = c0
  generalize decide (a > 13) = a13
  cases ia <;> cases ib <;> cases ic <;> (revert a0 b0 c0 a13; decide)
theorem may_13 (a b c n : Int) : mayL ⟨13, a, b, c, n⟩ (hasS 13) (hasS 13).size 0 ⟨13, a, b, c, n⟩ = mayF ⟨13, a, b, c, n⟩ := by
  show (bif (bif (bif (true && ((a == 0) && ((b == 0) && ((c == 0) && (n == 0))))) then inF a else false) then inF b else false) then inF c else false) = (true && true && !(false && decide (a > 13)) && inF a && inF b && inF c && (false || a == 0) && (false || b == 0) && (false || c == 0) && (n == 0))
  generalize inF a = ia
  generalize inF b = ib
  generalize inF c = ic
  generalize (n == 0) = n0
  generalize (a == 0) = a0
  generalize (b == 0) = b0
  generalize (c == 0) = c0
  generalize decide (a > 13) = a13
  cases ia <;> cases ib <;> cases ic <;> (revert n0 a0 b0 c0 a13; decide)
theorem may_14 (a b c n : Int) : mayL ⟨14, a, b, c, n⟩ (hasS 14) (hasS 14).size 0 ⟨14, a, b, c, n⟩ = mayF ⟨14, a, b, c, n⟩ := by
  show (bif (bif (bif (true && (true && ((b == 0) && ((c == 0) && (n == 0))))) then inF a else false) then inF b else false) then inF c else false) = (true && true && !(false && decide (a > 13)) && inF a && inF b && inF c && (true || a == 0) && (false || b == 0) && (false || c == 0) && (n == 0))
  generalize inF a = ia
  generalize inF b = ib
  generalize inF c = ic
  generalize (n == 0) = n0
  generalize (a == 0) = a0
  generalize (b == 0) = b0
  generalize (c == 0) = c0
  generalize decide (a > 13) = a13
  cases ia <;> cases ib <;> cases ic <;> (revert n0 a0 b0 c0 a13; decide)
theorem may_15 (a b c n : Int) : mayL ⟨15, a, b, c, n⟩ (hasS 15) (hasS 15).size 0 ⟨15, a, b, c, n⟩ = mayF ⟨15, a, b, c, n⟩ := by
  show (bif (bif (bif (true && (true && ((b == 0) && ((c == 0) && (n == 0))))) then inF a else false) then inF b else false) then inF c else false) = (true && true && !(false && decide (a > 13)) && inF a && inF b && inF c && (true || a == 0) && (false || b == 0) && (false || c == 0) && (n == 0))
  generalize inF a = ia
  generalize inF b = ib
  generalize inF c = ic
  generalize (n == 0) = n0
  generalize (a == 0) = a0
  generalize (b == 0) = b0
  generalize (c == 0) = c0
  generalize decide (a > 13) = a13
  cases ia <;> cases ib <;> cases ic <;> (revert n0 a0 b0 c0 a13; decide)
theorem may_16 (a b c n : Int) : mayL ⟨16, a, b, c, n⟩ (hasS 16) (hasS 16).size 0 ⟨16, a, b, c, n⟩ = mayF ⟨16, a, b, c, n⟩ := by
  show (bif farF ⟨16, a, b, c, n⟩ then false else bif (bif (bif (true && (true && ((b == 0) && ((c == 0) && true)))) then inF a else false) then inF b else false) then inF c else false) = (true && true && !(false && decide (a > 13)) && inF a && inF b && inF c && (true || a == 0) && (false || b == 0) && (false || c == 0) && (decide (-999999999999999999 ≤ n) && decide (n ≤ 999999999999999999)))
  rw [far_eq]
  generalize inF a = ia
  generalize inF b = ib
  generalize inF c = ic
  generalize (decide (-999999999999999999 ≤ n) && decide (n ≤ 999999999999999999)) = nn
  generalize (a == 0) = a0
  generalize (b == 0) = b0
  generalize (c == 0) = c0
  generalize decide (a > 13) = a13
  cases ia <;> cases ib <;> cases ic <;> (revert nn a0 b0 c0 a13; decide)
theorem may_17 (a b c n : Int) : mayL ⟨17, a, b, c, n⟩ (hasS 17) (hasS 17).size 0 ⟨17, a, b, c, n⟩ = mayF ⟨17, a, b, c, n⟩ := by
  show (bif (bif (bif (true && (true && ((b == 0) && ((c == 0) && (n == 0))))) then inF a else false) then inF b else false) then inF c else false) = (true && true && !(false && decide (a > 13)) && inF a && inF b && inF c && (true || a == 0) && (false || b == 0) && (false || c == 0) && (n == 0))
  generalize inF a = ia
  generalize inF b = ib
  generalize inF c = ic
  generalize (n == 0) = n0
  generalize (a == 0) = a0
  generalize (b == 0) = b0
  generalize (c == 0) = c0
  generalize decide (a > 13) = a13
  cases ia <;> cases ib <;> cases ic <;> (revert n0 a0 b0 c0 a13; decide)
theorem may_18 (a b c n : Int) : mayL ⟨18, a, b, c, n⟩ (hasS 18) (hasS 18).size 0 ⟨18, a, b, c, n⟩ = mayF ⟨18, a, b, c, n⟩ := by
  show (bif (bif (bif (true && (true && ((b == 0) && ((c == 0) && (n == 0))))) then inF a else false) then inF b else false) then inF c else false) = (true && true && !(false && decide (a > 13)) && inF a && inF b && inF c && (true || a == 0) && (false || b == 0) && (false || c == 0) && (n == 0))
  generalize inF a = ia
  generalize inF b = ib
  generalize inF c = ic
  generalize (n == 0) = n0
  generalize (a == 0) = a0
  generalize (b == 0) = b0
  generalize (c == 0) = c0
  generalize decide (a > 13) = a13
  cases ia <;> cases ib <;> cases ic <;> (revert n0 a0 b0 c0 a13; decide)
theorem may_19 (a b c n : Int) : mayL ⟨19, a, b, c, n⟩ (hasS 19) (hasS 19).size 0 ⟨19, a, b, c, n⟩ = mayF ⟨19, a, b, c, n⟩ := by
  show (bif (bif (bif (true && (true && ((b == 0) && ((c == 0) && (n == 0))))) then inF a else false) then inF b else false) then inF c else false) = (true && true && !(false && decide (a > 13)) && inF a && inF b && inF c && (true || a == 0) && (false || b == 0) && (false || c == 0) && (n == 0))
  generalize inF a = ia
  generalize inF b = ib
  generalize inF c = ic
  generalize (n == 0) = n0
  generalize (a == 0) = a0
  generalize (b == 0) = b0
  generalize (c == 0) = c0
  generalize decide (a > 13) = a13
  cases ia <;> cases ib <;> cases ic <;> (revert n0 a0 b0 c0 a13; decide)
theorem may_20 (a b c n : Int) : mayL ⟨20, a, b, c, n⟩ (hasS 20) (hasS 20).size 0 ⟨20, a, b, c, n⟩ = mayF ⟨20, a, b, c, n⟩ := by
  show (bif (bif (bif (true && ((a == 0) && ((b == 0) && ((c == 0) && (n == 0))))) then inF a else false) then inF b else false) then inF c else false) = (true && true && !(false && decide (a > 13)) && inF a && inF b && inF c && (false || a == 0) && (false || b == 0) && (false || c == 0) && (n == 0))
  generalize inF a = ia
  generalize inF b = ib
  generalize inF c = ic
  generalize (n == 0) = n0
  generalize (a == 0) = a0
  generalize (b == 0) = b0
  generalize (c == 0) = c0
  generalize decide (a > 13) = a13
  cases ia <;> cases ib <;> cases ic <;> (revert n0 a0 b0 c0 a13; decide)
theorem may_21 (a b c n : Int) : mayL ⟨21, a, b, c, n⟩ (hasS 21) (hasS 21).size 0 ⟨21, a, b, c, n⟩ = mayF ⟨21, a, b, c, n⟩ := by
  show (bif farF ⟨21, a, b, c, n⟩ then false else bif (bif (bif (true && (true && ((b == 0) && ((c == 0) && true)))) then inF a else false) then inF b else false) then inF c else false) = (true && true && !(false && decide (a > 13)) && inF a && inF b && inF c && (true || a == 0) && (false || b == 0) && (false || c == 0) && (decide (-999999999999999999 ≤ n) && decide (n ≤ 999999999999999999)))
  rw [far_eq]
  generalize inF a = ia
  generalize inF b = ib
  generalize inF c = ic
  generalize (decide (-999999999999999999 ≤ n) && decide (n ≤ 999999999999999999)) = nn
  generalize (a == 0) = a0
  generalize (b == 0) = b0
  generalize (c == 0) = c0
  generalize decide (a > 13) = a13
  cases ia <;> cases ib <;> cases ic <;> (revert nn a0 b0 c0 a13; decide)
theorem may_22 (a b c n : Int) : mayL ⟨22, a, b, c, n⟩ (hasS 22) (hasS 22).size 0 ⟨22, a, b, c, n⟩ = mayF ⟨22, a, b, c, n⟩ := by
  show (bif (bif (bif (true && (true && ((b == 0) && ((c == 0) && (n == 0))))) then inF a else false) then inF b else false) then inF c else false) = (true && true && !(false && decide (a > 13)) && inF a && inF b && inF c && (true || a == 0) && (false || b == 0) && (false || c == 0) && (n == 0))
  generalize inF a = ia
  generalize inF b = ib
  generalize inF c = ic
  generalize (n == 0) = n0
  generalize (a == 0) = a0
  generalize (b == 0) = b0
  generalize (c == 0) = c0
  generalize decide (a > 13) = a13
  cases ia <;> cases ib <;> cases ic <;> (revert n0 a0 b0 c0 a13; decide)

theorem may_eq (x : In) (h1 : 1 ≤ x.op) (h2 : x.op ≤ 22) (h7 : (bif x.op == 7 then decide (x.a > 13) else false) = false) : mayL x (hasS x.op.toNat) (hasS x.op.toNat).size 0 x = mayF x := by
  obtain ⟨op, a, b, c, n⟩ := x
  have h1 : 1 ≤ op := h1
  have h2 : op ≤ 22 := h2
  obtain ⟨k, rfl⟩ : ∃ k : Nat, op = k := ⟨op.toNat, by omega⟩
  have hk : k ≤ 22 := by omega
  have hk1 : 1 ≤ k := by omega
  match k, hk, hk1, h7 with
  | 1, _, _, _ => exact may_1 a b c n
  | 2, _, _, _ => exact may_2 a b c n
  | 3, _, _, _ => exact may_3 a b c n
  | 4, _, _, _ => exact may_4 a b c n
  | 5, _, _, _ => exact may_5 a b c n
  | 6, _, _, _ => exact may_6 a b c n
  | 7, _, _, h7 => exact may_7 a b c n h7
  | 8, _, _, _ => exact may_8 a b c n
  | 9, _, _, _ => exact may_9 a b c n
  | 10, _, _, _ => exact may_10 a b c n
  | 11, _, _, _ => exact may_11 a b c n
  | 12, _, _, _ => exact may_12 a b c n
  | 13, _, _, _ => exact may_13 a b c n
  | 14, _, _, _ => exact may_14 a b c n
  | 15, _, _, _ => exact may_15 a b c n
  | 16, _, _, _ => exact may_16 a b c n
  | 17, _, _, _ => exact may_17 a b c n
  | 18, _, _, _ => exact may_18 a b c n
  | 19, _, _, _ => exact may_19 a b c n
  | 20, _, _, _ => exact may_20 a b c n
  | 21, _, _, _ => exact may_21 a b c n
  | 22, _, _, _ => exact may_22 a b c n
  | 0, _, h, _ => exact absurd h (by omega)
  | k + 23, h, _, _ => exact absurd h (by omega)

theorem ascii_has (k : Nat) : asciiB (hasS k) = true := by
  match k with
  | 0 => simp [asciiB, hasS, shapeF]
  | 1 => simp [asciiB, hasS, shapeF]
  | 2 => simp [asciiB, hasS, shapeF]
  | 3 => simp [asciiB, hasS, shapeF]
  | 4 => simp [asciiB, hasS, shapeF]
  | 5 => simp [asciiB, hasS, shapeF]
  | 6 => simp [asciiB, hasS, shapeF]
  | 7 => simp [asciiB, hasS, shapeF]
  | 8 => simp [asciiB, hasS, shapeF]
  | 9 => simp [asciiB, hasS, shapeF]
  | 10 => simp [asciiB, hasS, shapeF]
  | 11 => simp [asciiB, hasS, shapeF]
  | 12 => simp [asciiB, hasS, shapeF]
  | 13 => simp [asciiB, hasS, shapeF]
  | 14 => simp [asciiB, hasS, shapeF]
  | 15 => simp [asciiB, hasS, shapeF]
  | 16 => simp [asciiB, hasS, shapeF]
  | 17 => simp [asciiB, hasS, shapeF]
  | 18 => simp [asciiB, hasS, shapeF]
  | 19 => simp [asciiB, hasS, shapeF]
  | 20 => simp [asciiB, hasS, shapeF]
  | 21 => simp [asciiB, hasS, shapeF]
  | 22 => simp [asciiB, hasS, shapeF]
  | k + 23 => simp [asciiB, hasS, shapeF]
theorem shapes_call : Callable Try.prog 31 := ⟨_, Try.func31, by kernel_rfl, rfl⟩
theorem in_call : Callable Try.prog 32 := ⟨_, Try.func32, by kernel_rfl, rfl⟩
theorem in_local (n : Int) : (inC n).Local Try.prog 32 := by
  refine local_of Try.func32 rfl (tin_eq n) fun ν w => ?_
  repeat refine ok_chk' (fun h => h) ?_
  exact ok_leaf (fun _ => 0) [] [] trivial rfl trivial rfl
theorem shapes_local (k : Nat) : (shapesC k).Local Try.prog 31 := by
  refine local_of Try.func31 rfl (tshapes_eq ()) fun ν w => ?_
  refine ok_leaf (fun _ => 0) [] [0] trivial rfl ⟨⟨_, rfl, EntRel.rw rfl rfl (fun i hi => ?_) fun _ _ => rfl⟩, trivial⟩ rfl
  match i, hi with
  | 0, _ => rfl
  | 1, _ => rfl
  | 2, _ => rfl
  | 3, _ => rfl
  | 4, _ => rfl
  | 5, _ => rfl
  | 6, _ => rfl
  | 7, _ => rfl
  | 8, _ => rfl
  | 9, _ => rfl
  | 10, _ => rfl
  | 11, _ => rfl
  | 12, _ => rfl
  | 13, _ => rfl
  | 14, _ => rfl
  | 15, _ => rfl
  | 16, _ => rfl
  | 17, _ => rfl
  | 18, _ => rfl
  | 19, _ => rfl
  | 20, _ => rfl
  | 21, _ => rfl
  | 22, _ => rfl
  | k + 23, h => exact absurd h (by omega)
theorem mayL_step {x : In} {s : ByteArray} {p : Nat × In} (h : mayL x s (s.size - p.1) p.1 p.2 = mayL x s s.size 0 x) (hp : p.1 < s.size) (hc : (bt' s p.1 == 78 && farF x) = false) {b : In} (hb : b = zeroF p.2 (bt' s p.1)) : mayL x s (s.size - (p.1 + 1)) (p.1 + 1) b = mayL x s s.size 0 x := by
  rw [← h]
  obtain ⟨g, hg⟩ : ∃ g, s.size - p.1 = g + 1 := ⟨s.size - p.1 - 1, by omega⟩
  rw [hg, show s.size - (p.1 + 1) = g by omega, hb]
  simp only [mayL, hc, cond_false]
theorem mayL_far {x : In} {s : ByteArray} {p : Nat × In} (h : mayL x s (s.size - p.1) p.1 p.2 = mayL x s s.size 0 x) (hp : p.1 < s.size) (hc : (bt' s p.1 == 78 && farF x) = true) : mayL x s s.size 0 x = false := by
  rw [← h]
  obtain ⟨g, hg⟩ : ∃ g, s.size - p.1 = g + 1 := ⟨s.size - p.1 - 1, by omega⟩
  rw [hg]
  simp only [mayL, hc, cond_true]
theorem mayL_end {x : In} {s : ByteArray} {p : Nat × In} (h : mayL x s (s.size - p.1) p.1 p.2 = mayL x s s.size 0 x) (hp : ¬ p.1 < s.size) : mayL x s s.size 0 x = endF x p.2 := by
  rw [← h, show s.size - p.1 = 0 by omega]
  rfl
set_option maxHeartbeats 2000000 in
theorem may_local (x : In) : (mayC x).Local Try.prog 24 := by
  refine local_of Try.func24 rfl (tmay_eq x) fun ν w => ?_
  refine ok_chk' (fun h => h) (ok_br' (fun h1 => ?_) fun h1 => ?_)
  · have h1' : 1 ≤ x.op := by simp at h1; omega
    refine ok_callf' shapes_call (fits_of rfl rfl trivial fun c _ => ⟨⟨Nat.zero_le _, rfl⟩, ⟨rfl, rfl⟩, ⟨⟨EntRel.rw rfl rfl (fun _ _ => rfl) fun _ _ => rfl, rfl, (fun h => by cases h), .inr rfl⟩, trivial⟩⟩) (shapes_local 1) fun c _ => ?_
    repeat refine ok_chk' (by first | rfl | exact fun h => h | exact fun _ => rfl | (exact fun h => by rw [h]; rfl) | assumption | exact EntRel.box' rfl rfl rfl rfl rfl | exact EntRel.rw rfl rfl (fun _ _ => rfl) fun _ _ => rfl | omega | (simp_all; done) | (simp_all; omega)) ?_
    refine ok_br' (fun h2 => ?_) fun h2 => ?_
    · have hres : mayF x = false := by
        unfold mayF
        cases h3 : decide (x.op ≤ 22) with
        | false => simp
        | true =>
          have h4 : x.op == 7 ∧ x.a > 13 := by simp at h2 h3; exact ⟨by simp; omega, by omega⟩
          simp [h4.1, h4.2]
      exact ok_leaf (fun _ => 0) [] [] trivial (by show _ = XV.nilz _ (XV.ren _ (bool (mayF x))); rw [hres]; rfl) trivial rfl
    · have h3 : x.op ≤ 22 := by simp at h2; omega
      have h7 : (bif x.op == 7 then decide (x.a > 13) else false) = false := by
        cases h4 : (bif x.op == 7 then decide (x.a > 13) else false) with
        | false => rfl
        | true => rw [show (bif x.op == 7 then decide (x.a > 13) else false) = true from h4] at h2; simp at h2
      have heq := may_eq x h1' h3 h7
      refine ok_callf' shapes_call (fits_of rfl rfl trivial fun c _ => ⟨⟨Nat.zero_le _, rfl⟩, ⟨rfl, rfl⟩, ⟨⟨EntRel.rw rfl rfl (fun _ _ => rfl) fun _ _ => rfl, rfl, (fun h => by cases h), .inr rfl⟩, trivial⟩⟩) (shapes_local 3) fun c _ => ?_
      repeat (refine ok_chk' rfl ?_)
      refine (ok_chk' ⟨by omega, by omega, by omega, Nat.one_pos⟩ (ok_chk' ⟨Nat.one_pos, by omega⟩ (ok_both' ?_ (ok_every' fun s => ?_))))
      · repeat (refine ok_chk' rfl ?_)
        exact ok_chk' (EntRel.box' rfl rfl rfl rfl rfl) (ok_chk' (EntRel.rw rfl rfl (fun _ _ => rfl) fun _ _ => rfl) (ok_chk' (EntRel.box' rfl rfl rfl rfl rfl) (ok_chk' (EntRel.rw rfl rfl (fun _ _ => rfl) fun _ _ => rfl) (ok_chk' (EntRel.box' rfl rfl rfl rfl rfl) trivial))))
      · have hp1 := s.2.1
        have hp := s.2.2
        refine ok_chk' ⟨Int.natCast_nonneg _, ascii_has _⟩ (ok_br' (fun hlt => ?_) fun hlt => ?_)
        · have hlt : s.1.1 < (hasS x.op.toNat).size := by simpa using hlt
          refine ok_br' (fun _ => ?_) fun h => by cases h
          refine ok_br' (fun c1 => ?_) fun c1 => ok_br' (fun c2 => ?_) fun c2 => ok_br' (fun c3 => ?_) fun c3 => ok_br' (fun c4 => ?_) fun c4 => ?_
          · have c1 : (bt' (hasS x.op.toNat) s.1.1 == 65) = true := by simpa using c1
            have hc : (bt' (hasS x.op.toNat) s.1.1 == 78 && farF x) = false := by simp at c1; simp [c1]
            (refine ok_some' ⟨(s.1.1 + 1, zeroF s.1.2 (bt' (hasS x.op.toNat) s.1.1)), hlt, mayL_step hp hlt hc rfl⟩ (ok_chk' (by show _ - (s.1.1 + 1) < _ - s.1.1; omega) ?_)); (repeat (refine ok_chk' rfl ?_)); (exact ok_chk' (EntRel.box' rfl rfl rfl rfl rfl) (ok_chk' (EntRel.rw rfl rfl (fun _ _ => rfl) fun _ _ => rfl) (ok_chk' (EntRel.box' (by simp only [zeroF, *, cond_true, cond_false]; rfl) rfl rfl rfl rfl) (ok_chk' (EntRel.rw rfl rfl (fun _ _ => rfl) fun _ _ => rfl) (ok_chk' (EntRel.box' rfl rfl rfl rfl rfl) trivial)))))
          · have c1 : (bt' (hasS x.op.toNat) s.1.1 == 65) = false := by simpa using c1
            have c2 : (bt' (hasS x.op.toNat) s.1.1 == 66) = true := by simpa using c2
            have hc : (bt' (hasS x.op.toNat) s.1.1 == 78 && farF x) = false := by simp at c2; simp [c2]
            (refine ok_some' ⟨(s.1.1 + 1, zeroF s.1.2 (bt' (hasS x.op.toNat) s.1.1)), hlt, mayL_step hp hlt hc rfl⟩ (ok_chk' (by show _ - (s.1.1 + 1) < _ - s.1.1; omega) ?_)); (repeat (refine ok_chk' rfl ?_)); (exact ok_chk' (EntRel.box' rfl rfl rfl rfl rfl) (ok_chk' (EntRel.rw rfl rfl (fun _ _ => rfl) fun _ _ => rfl) (ok_chk' (EntRel.box' (by simp only [zeroF, *, cond_true, cond_false]; rfl) rfl rfl rfl rfl) (ok_chk' (EntRel.rw rfl rfl (fun _ _ => rfl) fun _ _ => rfl) (ok_chk' (EntRel.box' rfl rfl rfl rfl rfl) trivial)))))
          · have c1 : (bt' (hasS x.op.toNat) s.1.1 == 65) = false := by simpa using c1
            have c2 : (bt' (hasS x.op.toNat) s.1.1 == 66) = false := by simpa using c2
            have c3 : (bt' (hasS x.op.toNat) s.1.1 == 67) = true := by simpa using c3
            have hc : (bt' (hasS x.op.toNat) s.1.1 == 78 && farF x) = false := by simp at c3; simp [c3]
            (refine ok_some' ⟨(s.1.1 + 1, zeroF s.1.2 (bt' (hasS x.op.toNat) s.1.1)), hlt, mayL_step hp hlt hc rfl⟩ (ok_chk' (by show _ - (s.1.1 + 1) < _ - s.1.1; omega) ?_)); (repeat (refine ok_chk' rfl ?_)); (exact ok_chk' (EntRel.box' rfl rfl rfl rfl rfl) (ok_chk' (EntRel.rw rfl rfl (fun _ _ => rfl) fun _ _ => rfl) (ok_chk' (EntRel.box' (by simp only [zeroF, *, cond_true, cond_false]; rfl) rfl rfl rfl rfl) (ok_chk' (EntRel.rw rfl rfl (fun _ _ => rfl) fun _ _ => rfl) (ok_chk' (EntRel.box' rfl rfl rfl rfl rfl) trivial)))))
          · have c1 : (bt' (hasS x.op.toNat) s.1.1 == 65) = false := by simpa using c1
            have c2 : (bt' (hasS x.op.toNat) s.1.1 == 66) = false := by simpa using c2
            have c3 : (bt' (hasS x.op.toNat) s.1.1 == 67) = false := by simpa using c3
            have c4 : (bt' (hasS x.op.toNat) s.1.1 == 78) = true := by simpa using c4
            repeat refine ok_chk' (by first | exact fun h => h | (exact fun h => by rw [h]; rfl)) ?_
            refine ok_br' (fun c5 => ?_) fun c5 => ?_
            · have c5 : farF x = true := c5
              have hres : mayF x = false := heq.symm.trans (mayL_far hp hlt (by rw [c4, c5]; rfl))
              exact ok_leaf (fun _ => 0) [] [] trivial (by show _ = XV.nilz _ (XV.ren _ (bool (mayF x))); rw [hres]; rfl) trivial rfl
            · have c5 : farF x = false := c5
              have hc : (bt' (hasS x.op.toNat) s.1.1 == 78 && farF x) = false := by rw [c5, Bool.and_false]
              (refine ok_some' ⟨(s.1.1 + 1, zeroF s.1.2 (bt' (hasS x.op.toNat) s.1.1)), hlt, mayL_step hp hlt hc rfl⟩ (ok_chk' (by show _ - (s.1.1 + 1) < _ - s.1.1; omega) ?_)); (repeat (refine ok_chk' rfl ?_)); (exact ok_chk' (EntRel.box' rfl rfl rfl rfl rfl) (ok_chk' (EntRel.rw rfl rfl (fun _ _ => rfl) fun _ _ => rfl) (ok_chk' (EntRel.box' (by simp only [zeroF, *, cond_true, cond_false]; rfl) rfl rfl rfl rfl) (ok_chk' (EntRel.rw rfl rfl (fun _ _ => rfl) fun _ _ => rfl) (ok_chk' (EntRel.box' rfl rfl rfl rfl rfl) trivial)))))
          · have c1 : (bt' (hasS x.op.toNat) s.1.1 == 65) = false := by simpa using c1
            have c2 : (bt' (hasS x.op.toNat) s.1.1 == 66) = false := by simpa using c2
            have c3 : (bt' (hasS x.op.toNat) s.1.1 == 67) = false := by simpa using c3
            have c4 : (bt' (hasS x.op.toNat) s.1.1 == 78) = false := by simpa using c4
            have hc : (bt' (hasS x.op.toNat) s.1.1 == 78 && farF x) = false := by rw [c4]; rfl
            (refine ok_some' ⟨(s.1.1 + 1, zeroF s.1.2 (bt' (hasS x.op.toNat) s.1.1)), hlt, mayL_step hp hlt hc rfl⟩ (ok_chk' (by show _ - (s.1.1 + 1) < _ - s.1.1; omega) ?_)); (repeat (refine ok_chk' rfl ?_)); (exact ok_chk' (EntRel.box' rfl rfl rfl rfl rfl) (ok_chk' (EntRel.rw rfl rfl (fun _ _ => rfl) fun _ _ => rfl) (ok_chk' (EntRel.box' (by simp only [zeroF, *, cond_true, cond_false]; rfl) rfl rfl rfl rfl) (ok_chk' (EntRel.rw rfl rfl (fun _ _ => rfl) fun _ _ => rfl) (ok_chk' (EntRel.box' rfl rfl rfl rfl rfl) trivial)))))
        · have hlt : ¬ s.1.1 < (hasS x.op.toNat).size := by simpa using hlt
          have hres : mayF x = endF x s.1.2 := heq.symm.trans (mayL_end hp hlt)
          refine ok_br' (fun h => by cases h) fun _ => ?_
          unfold endF at hres
          generalize (s.1.2.op == x.op && (s.1.2.a == 0 && (s.1.2.b == 0 && (s.1.2.c == 0 && s.1.2.n == 0)))) = E at hres ⊢
          generalize inF x.a = A at hres ⊢
          generalize inF x.b = B at hres ⊢
          generalize inF x.c = C at hres ⊢
          cases E <;> cases A <;> cases B <;> cases C <;> simp only [cond_true, cond_false] at hres <;>
            repeat' first | exact ok_leaf (fun _ => 0) [] [] trivial (by show _ = XV.nilz _ (XV.ren _ (bool (mayF x))); rw [hres]; rfl) trivial rfl | (refine ok_brT ?_) | (refine ok_brF ?_) | (refine ok_callf' in_call (fits_of rfl rfl trivial fun c _ => ⟨⟨Nat.le_refl _, rfl⟩, ⟨rfl, rfl⟩, trivial⟩) (in_local _) fun c _ => ?_) | (refine ok_chk' rfl ?_) | (refine ok_chk' (fun h => h) ?_) | (refine ok_chk' (fun h => absurd h Bool.false_ne_true) ?_)
  · have h1' : ¬ 1 ≤ x.op := by simp at h1; omega
    have hres : mayF x = false := by simp [mayF, h1']
    have h1b : decide (x.op < 1) = true := by simp; omega
    repeat refine ok_chk' (by first | exact fun h => h | exact h1b | exact (fun h => by rw [h1] at h; cases h) | exact (fun h => by cases h) | exact (fun h _ => by cases h)) ?_
    refine ok_br' (fun _ => ?_) fun h => by cases h
    exact ok_leaf (fun _ => 0) [] [] trivial (by show _ = XV.nilz _ (XV.ren _ (bool (mayF x))); rw [hres]; rfl) trivial rfl
end Go.Proofs.Ytehecaipmdfjmaa.X.Mi

