/- A symbolic run of functions' texts, proved, and what it tells of the functions that the law MicroOne reaches; no conditions. -/
import Derived.Test.YtehecaipmdfjmaaKMicroOne1
import Derived.ScopeJumps
set_option linter.unusedVariables false
set_option linter.unusedSimpArgs false
namespace Go.Proofs.Ytehecaipmdfjmaa.X
open Go.RowKit Go.Proofs.YtehecaipmdfjmaaW.PrintWords Go.Proofs.Ytehecaipmdfjmaa.Base
section
variable {P : Program} {R : Root} {nt : Nat} {Rp : Ending → World → Prop}
def Left (P : Program) (R : Root) (nt : Nat) (Rp : Ending → World → Prop) (K : Ex → Tm → Hp → Tree) (e : Exit) (a : Act) (w : World) : Prop := ∃ ex tm H ν, e = ex.to ∧ StOk R nt ν tm H a w ∧ ok P R nt Rp (K ex tm H)
theorem labelOf_has {l : Nat} : ∀ {c : Code}, labelOf c = some l → hasLabel l c = true
  | .seq a b, h => by
    unfold labelOf at h
    unfold hasLabel
    cases ha : labelOf a with
    | some l' => rw [ha] at h; cases h; rw [labelOf_has ha]; rfl
    | none => rw [ha] at h; rw [labelOf_has (c := b) h, Bool.or_true]
  | .label l', h => by
    have h : some l' = some l := h
    cases h
    exact Nat.beq_refl l
theorem hasLabel_find {l : Nat} : ∀ {c : Code}, hasLabel l c = true → ∃ rest, findLabel c l = some rest
  | .seq a b, h => by
    unfold findLabel
    cases ha : findLabel a l with
    | some r => exact ⟨_, rfl⟩
    | none =>
      unfold hasLabel at h
      rcases (Bool.or_eq_true _ _).mp h with h | h
      · obtain ⟨r, hr⟩ := hasLabel_find h
        rw [ha] at hr; cases hr
      · exact hasLabel_find h
  | .label l', h => by
    have h : Nat.beq l' l = true := h
    have := Nat.eq_of_beq_eq_true h
    subst this
    exact ⟨.skip, by simp [findLabel]⟩
theorem hasLabel_none {l : Nat} : ∀ {c : Code}, hasLabel l c = false → findLabel c l = none
  | .seq a b, h => by
    unfold hasLabel at h
    obtain ⟨h1, h2⟩ := (Bool.or_eq_false_iff).mp h
    unfold findLabel
    rw [hasLabel_none h1, hasLabel_none h2]
  | .label l', h => by
    have h : Nat.beq l' l = false := h
    have : l' ≠ l := fun e => by rw [e] at h; simp at h
    simp [findLabel, this]
  | .skip, _ => rfl
  | .region .., _ => rfl
  | .cond .., _ => rfl
  | .block .., _ => rfl
  | .loop _, _ => rfl
  | .exit _, _ => rfl
  | .goto _, _ => rfl
  | .ret, _ => rfl
  | .rangeFunc .., _ => rfl
  | .scope _, _ => rfl
  | .refuse _, _ => rfl
theorem least {p : Nat → Prop} (h : ∃ n, p n) : ∃ n, p n ∧ ∀ m, p m → n ≤ m := by
  obtain ⟨n, hn⟩ := h
  induction n using Nat.strongRecOn with
  | _ n ih =>
    by_cases hs : ∃ m, m < n ∧ p m
    · obtain ⟨m, hm, hp⟩ := hs
      exact ih m hm hp
    · exact ⟨n, hn, fun m hm => Nat.le_of_not_lt fun hlt => hs ⟨m, hlt, hm⟩⟩
open Classical in
noncomputable def leastN (p : Act → World → Nat → Prop) (a : Act) (w : World) : Nat := if h : ∃ n, p a w n then Classical.choose (least h) else 0
theorem leastN_spec {p : Act → World → Nat → Prop} {a : Act} {w : World} (h : ∃ n, p a w n) : p a w (leastN p a w) ∧ ∀ m, p a w m → leastN p a w ≤ m := by
  unfold leastN
  rw [dif_pos h]
  exact Classical.choose_spec (least h)
mutual
theorem ok_xcode {tab : Tab} {G : Ctr} {Z : Par} {I : Inv} {N : Nat} (hN : R.N = N) (ht : TabOk P tab) (hm : P.follows .mixedOrders = true) : ∀ {c : Code} {li : Nat} {K : Ex → Tm → Hp → Tree} {ν : Val} {tm : Tm} {H : Hp} {a : Act} {w : World}, StOk R nt ν tm H a w → ok P R nt Rp (xcode xpar tab G Z I nt N .run li c tm H K) → c.wp P (Left P R nt Rp K) a w
  | .skip, li, K, ν, tm, H, a, w, hs, h => wp_skip ⟨.normal, tm, H, ν, rfl, hs, h⟩
  | .label _, li, K, ν, tm, H, a, w, hs, h => wp_label ⟨.normal, tm, H, ν, rfl, hs, h⟩
  | .exit id, li, K, ν, tm, H, a, w, hs, h => wp_exit ⟨.exit id, tm, H, ν, rfl, hs, h⟩
  | .goto l, li, K, ν, tm, H, a, w, hs, h => wp_goto ⟨.goto l, tm, H, ν, rfl, hs, h⟩
  | .ret, li, K, ν, tm, H, a, w, hs, h => wp_ret ⟨.ret, tm, H, ν, rfl, hs, h⟩
  | .region id ops draw, li, K, ν, tm, H, a, w, hs, h => by
    have reg0 : ∀ {K' : Tm → Hp → Tree}, ok P R nt Rp (xregion tab G nt ops draw tm H K') → (∀ a w, After P R nt Rp K' a w → Left P R nt Rp K .normal a w) → (Code.region id ops draw).wp P (Left P R nt Rp K) a w := fun h hQ => by
      cases draw with
      | true =>
        obtain ⟨hsel, h⟩ := bif_not h (fun h => h)
        exact ok_region ht hm hsel h hs hQ
      | false => exact wp_region_list (ok_xlist ht hs h hQ)
    have reg : ∀ {K' : Tm → Hp → Tree}, ok P R nt Rp (xregionP xpar tab G Z nt id ops draw tm H K') → (∀ a w, After P R nt Rp K' a w → Left P R nt Rp K .normal a w) → (Code.region id ops draw).wp P (Left P R nt Rp K) a w := fun h hQ => by
      unfold xregionP at h
      split at h
      · exact reg0 h hQ
      · split at h
        · exact reg0 h hQ
        · obtain ⟨hsel, s, h⟩ := bif_not h (fun h => h)
          exact ok_xpar ht hm h hs hs.hp.agr.1 hQ
    unfold xcode at h
    split at h
    · exact reg h fun a w ⟨tm', H', ν', hs', h'⟩ => ⟨.normal, tm', H', ν', rfl, hs', h'⟩
    · rename_i L hL
      refine reg h.1 fun a w ⟨tm', H', ν', hs', s, h'⟩ => ?_
      obtain ⟨ν2, hs2, -⟩ := ok_imp hN hs' h'
      exact ⟨.normal, _, _, ν2, rfl, hs2, h.2 s⟩
  | .seq x y, li, K, ν, tm, H, a, w, hs, h => by
    refine wp_seq (Code.wp_mono ?_ (ok_xcode hN ht hm hs h))
    rintro e a' w' ⟨ex, tm', H', ν', rfl, hs', h'⟩
    cases ex with
    | normal => exact ok_xcode hN ht hm hs' h'
    | exit i => exact ⟨.exit i, tm', H', ν', rfl, hs', h'⟩
    | goto l => exact ⟨.goto l, tm', H', ν', rfl, hs', h'⟩
    | ret => exact ⟨.ret, tm', H', ν', rfl, hs', h'⟩
  | .cond c x y, li, K, ν, tm, H, a, w, hs, h => by
    obtain ⟨C, hC, h⟩ := ok_bnd h
    split at h
    · rename_i β
      have he : a.eval c = .bool β := eval_get hs.tm hC
      exact wp_cond_split he (fun hb => ok_xcode hN ht hm hs (h.1 hb)) (fun hb => ok_xcode hN ht hm hs (h.2 hb))
    · exact h.elim
  | .block id c, li, K, ν, tm, H, a, w, hs, h => by
    refine wp_block (Code.wp_mono ?_ (ok_xcode hN ht hm hs h))
    rintro e a' w' ⟨ex, tm', H', ν', rfl, hs', h'⟩
    cases ex with
    | normal => exact ⟨.normal, tm', H', ν', rfl, hs', h'⟩
    | exit i =>
      show if i = id then _ else _
      cases hb : Nat.beq i id with
      | true =>
        have := Nat.eq_of_beq_eq_true hb
        rw [if_pos this]
        simp only [hb, cond_true] at h'
        exact ⟨.normal, tm', H', ν', rfl, hs', h'⟩
      | false =>
        have : ¬ i = id := fun e => by rw [e] at hb; simp at hb
        rw [if_neg this]
        simp only [hb, cond_false] at h'
        exact ⟨.exit i, tm', H', ν', rfl, hs', h'⟩
    | goto l => exact ⟨.goto l, tm', H', ν', rfl, hs', h'⟩
    | ret => exact ⟨.ret, tm', H', ν', rfl, hs', h'⟩
  | .loop c, li, K, ν, tm, H, a, w, hs, h => by
    unfold xcode at h
    split at h
    · exact h ν a w hs
    · rename_i L hL
      obtain ⟨h0, hr⟩ := h
      obtain ⟨s0, h0⟩ : ∃ s, ok P R nt Rp (imp N tm H L.nil0 L.ρ0 (L.S s) (.need True)) := by
        split at h0
        · exact ⟨_, h0⟩
        · exact h0
      obtain ⟨ν0, hs0, -⟩ := ok_imp hN hs h0
      refine wp_loop_ghost (fun n a w => ∃ s ν, L.μ s = n ∧ StOk R nt ν (L.S s).1 (L.S s).2 a w) (L.μ s0) ⟨s0, ν0, rfl, hs0⟩ ?_
      rintro n a w ⟨s, ν, rfl, hs⟩
      refine Code.wp_mono ?_ (ok_xcode hN ht hm hs (hr s))
      rintro e a' w' ⟨ex, tm', H', ν', rfl, hs', h'⟩
      cases ex with
      | normal =>
        obtain ⟨s', hlt, h'⟩ := h'
        obtain ⟨ν2, hs2, -⟩ := ok_imp hN hs' h'
        exact ⟨_, hlt, s', ν2, rfl, hs2⟩
      | exit i => exact ⟨.exit i, tm', H', ν', rfl, hs', h'⟩
      | goto l => exact ⟨.goto l, tm', H', ν', rfl, hs', h'⟩
      | ret => exact ⟨.ret, tm', H', ν', rfl, hs', h'⟩
  | .rangeFunc .., li, K, ν, tm, H, a, w, hs, h => h.elim
  | .scope c, li, K, ν, tm, H, a, w, hs, h => by
    unfold xcode at h
    split at h
    · exact h.elim
    rename_i l hl
    split at h
    · exact h.elim
    rename_i L hL
    obtain ⟨h1, h2⟩ := h
    have hlab := labelOf_has hl
    obtain ⟨rest, hf⟩ := hasLabel_find hlab
    let J : Act → World → Prop := fun a w => ∃ s ν, StOk R nt ν (L.S s).1 (L.S s).2 a w
    let p : Act → World → Nat → Prop := fun a w n => ∃ s ν, L.μ s = n ∧ StOk R nt ν (L.S s).1 (L.S s).2 a w
    refine wp_scope_jumps l J (leastN p) hf ?_ ?_
    · refine ok_to hN ht hm (K1 := _) (K2 := _) (L := L) hlab hs h1 h2 ?_ ?_
      · rintro e a w ⟨ex, tm', H', ν', rfl, hs', h'⟩
        cases ex with
        | goto l' => exact h'.elim
        | normal => exact ⟨.normal, tm', H', ν', rfl, hs', h'⟩
        | exit i => exact ⟨.exit i, tm', H', ν', rfl, hs', h'⟩
        | ret => exact ⟨.ret, tm', H', ν', rfl, hs', h'⟩
      · rintro s e a w ⟨ex, tm', H', ν', rfl, hs', h'⟩
        cases ex with
        | goto l' =>
          dsimp only at h'
          cases hb : Nat.beq l' l with
          | false => rw [hb, cond_false] at h'; exact h'.elim
          | true =>
            rw [hb, cond_true] at h'
            obtain ⟨s', hlt, h'⟩ := h'
            obtain ⟨ν2, hs2, -⟩ := ok_imp hN hs' h'
            exact ⟨Nat.eq_of_beq_eq_true hb, s', ν2, hs2⟩
        | normal => exact ⟨.normal, tm', H', ν', rfl, hs', h'⟩
        | exit i => exact ⟨.exit i, tm', H', ν', rfl, hs', h'⟩
        | ret => exact ⟨.ret, tm', H', ν', rfl, hs', h'⟩
    · rintro a w ⟨s0, ν0, hs0⟩
      obtain ⟨⟨s, ν1, hμ, hs1⟩, -⟩ := leastN_spec (p := p) (a := a) (w := w) ⟨_, s0, ν0, rfl, hs0⟩
      refine Code.wp_mono ?_ (ok_from hN ht hm hlab hf hs1 (h2 s))
      rintro e a' w' ⟨ex, tm', H', ν', rfl, hs', h'⟩
      cases ex with
      | goto l' =>
        dsimp only at h'
        cases hb : Nat.beq l' l with
        | false => rw [hb, cond_false] at h'; exact h'.elim
        | true =>
          rw [hb, cond_true] at h'
          obtain ⟨s', hlt, h'⟩ := h'
          obtain ⟨ν2, hs2, -⟩ := ok_imp hN hs' h'
          have := (leastN_spec (p := p) (a := a') (w := w') ⟨_, s', ν2, rfl, hs2⟩).2 _ ⟨s', ν2, rfl, hs2⟩
          exact ⟨Nat.eq_of_beq_eq_true hb, ⟨s', ν2, hs2⟩, by omega⟩
      | normal => exact ⟨.normal, tm', H', ν', rfl, hs', h'⟩
      | exit i => exact ⟨.exit i, tm', H', ν', rfl, hs', h'⟩
      | ret => exact ⟨.ret, tm', H', ν', rfl, hs', h'⟩
  | .refuse _, li, K, ν, tm, H, a, w, hs, h => h.elim
theorem ok_from {tab : Tab} {G : Ctr} {Z : Par} {I : Inv} {N : Nat} (hN : R.N = N) (ht : TabOk P tab) (hm : P.follows .mixedOrders = true) : ∀ {c : Code} {l li : Nat} {K : Ex → Tm → Hp → Tree} {ν : Val} {tm : Tm} {H : Hp} {a : Act} {w : World} {rest : Code}, hasLabel l c = true → findLabel c l = some rest → StOk R nt ν tm H a w → ok P R nt Rp (xcode xpar tab G Z I nt N (.from_ l) li c tm H K) → rest.wp P (Left P R nt Rp K) a w
  | .seq x y, l, li, K, ν, tm, H, a, w, rest, hl, hf, hs, h => by
    unfold xcode at h
    unfold findLabel at hf
    cases hx : hasLabel l x with
    | true =>
      rw [hx] at h
      obtain ⟨r, hr⟩ := hasLabel_find hx
      rw [hr] at hf
      cases hf
      refine wp_seq (Code.wp_mono ?_ (ok_from hN ht hm hx hr hs h))
      rintro e a' w' ⟨ex, tm', H', ν', rfl, hs', h'⟩
      cases ex with
      | normal => exact ok_xcode hN ht hm hs' h'
      | exit i => exact ⟨.exit i, tm', H', ν', rfl, hs', h'⟩
      | goto l => exact ⟨.goto l, tm', H', ν', rfl, hs', h'⟩
      | ret => exact ⟨.ret, tm', H', ν', rfl, hs', h'⟩
    | false =>
      rw [hx] at h
      rw [hasLabel_none hx] at hf
      unfold hasLabel at hl
      rw [hx, Bool.false_or] at hl
      exact ok_from hN ht hm hl hf hs h
  | .label l', l, li, K, ν, tm, H, a, w, rest, hl, hf, hs, h => by
    have hl : Nat.beq l' l = true := hl
    have := Nat.eq_of_beq_eq_true hl
    subst this
    simp [findLabel] at hf
    subst hf
    exact wp_skip ⟨.normal, tm, H, ν, rfl, hs, h⟩
theorem ok_to {tab : Tab} {G : Ctr} {Z : Par} {I : Inv} {N : Nat} (hN : R.N = N) (ht : TabOk P tab) (hm : P.follows .mixedOrders = true) : ∀ {c : Code} {l li li' : Nat} {L : LoopInv} {K1 : Ex → Tm → Hp → Tree} {K2 : L.σ → Ex → Tm → Hp → Tree} {Q : Exit → Act → World → Prop} {ν : Val} {tm : Tm} {H : Hp} {a : Act} {w : World}, hasLabel l c = true → StOk R nt ν tm H a w → ok P R nt Rp (xcode xpar tab G Z I nt N (.to l L) li c tm H K1) →
    (∀ s, ok P R nt Rp (xcode xpar tab G Z I nt N (.from_ l) li' c (L.S s).1 (L.S s).2 (K2 s))) → (∀ e a w, Left P R nt Rp K1 e a w → Q e a w) → (∀ s e a w, Left P R nt Rp (K2 s) e a w → Q e a w) → c.wp P Q a w
  | .seq x y, l, li, li', L, K1, K2, Q, ν, tm, H, a, w, hl, hs, h, h2, q1, q2 => by
    unfold xcode at h h2
    cases hx : hasLabel l x with
    | true =>
      rw [hx] at h
      rw [hx] at h2
      refine wp_seq (ok_to hN ht hm hx hs h h2 ?_ ?_)
      · rintro e a' w' ⟨ex, tm', H', ν', rfl, hs', h'⟩
        cases ex with
        | normal => exact Code.wp_mono q1 (ok_xcode hN ht hm hs' h')
        | exit i => exact q1 _ _ _ ⟨.exit i, tm', H', ν', rfl, hs', h'⟩
        | goto l => exact q1 _ _ _ ⟨.goto l, tm', H', ν', rfl, hs', h'⟩
        | ret => exact q1 _ _ _ ⟨.ret, tm', H', ν', rfl, hs', h'⟩
      · rintro s e a' w' ⟨ex, tm', H', ν', rfl, hs', h'⟩
        cases ex with
        | normal => exact Code.wp_mono (q2 s) (ok_xcode hN ht hm hs' h')
        | exit i => exact q2 s _ _ _ ⟨.exit i, tm', H', ν', rfl, hs', h'⟩
        | goto l => exact q2 s _ _ _ ⟨.goto l, tm', H', ν', rfl, hs', h'⟩
        | ret => exact q2 s _ _ _ ⟨.ret, tm', H', ν', rfl, hs', h'⟩
    | false =>
      rw [hx] at h
      rw [hx] at h2
      unfold hasLabel at hl
      rw [hx, Bool.false_or] at hl
      refine wp_seq (Code.wp_mono ?_ (ok_xcode hN ht hm hs h))
      rintro e a' w' ⟨ex, tm', H', ν', rfl, hs', h'⟩
      cases ex with
      | normal => exact ok_to hN ht hm hl hs' h' h2 q1 q2
      | exit i => exact q1 _ _ _ ⟨.exit i, tm', H', ν', rfl, hs', h'⟩
      | goto l => exact q1 _ _ _ ⟨.goto l, tm', H', ν', rfl, hs', h'⟩
      | ret => exact q1 _ _ _ ⟨.ret, tm', H', ν', rfl, hs', h'⟩
  | .label l', l, li, li', L, K1, K2, Q, ν, tm, H, a, w, hl, hs, h, h2, q1, q2 => by
    unfold xcode at h h2
    obtain ⟨s, h⟩ := h
    obtain ⟨ν2, hs2, -⟩ := ok_imp hN hs h
    exact wp_label (q2 s _ _ _ ⟨.normal, _, _, ν2, rfl, hs2, h2 s⟩)
end
theorem ok_results {tab : Tab} (ht : TabOk P tab) {ν : Val} {tm : Tm} {H : Hp} {a : Act} {w : World} (hs : StOk R nt ν tm H a w) : ∀ {rs : List ResultVar} {K : List AV → Tree}, ok P R nt Rp (xresults tab rs tm H K) →
    ∃ l, ok P R nt Rp (K l) ∧ l.length = rs.length ∧ (rs.mapM fun x => match x with | ResultVar.tmp t => (pure (a.tmps.getD t undef) : Sem Value) | .cell p t => do loadVar t (← asAddr (a.tmps.getD p undef))).run P w = .ok (l.map (AV.den ν)) w
  | [], K, h => ⟨[], h, rfl, by simp⟩
  | .tmp t :: r, K, h => by
    unfold xresults at h
    obtain ⟨X, hX, h⟩ := ok_bnd h
    split at h
    · rename_i x
      obtain ⟨l, h, hl, hr⟩ := ok_results ht hs h
      have := (hs.tm t _ hX).2
      have hg : a.tmps.getD t undef = x.den ν := by simp [this]; rfl
      refine ⟨x :: l, h, by simp [hl], ?_⟩
      simp only [List.mapM_cons, Sem.run_bind, Sem.run_pure, Result.andThen_ok, hr, hg, List.map_cons]
    · exact h.elim
  | .cell p t :: r, K, h => by
    unfold xresults at h
    obtain ⟨X, hX, h⟩ := ok_bnd h
    split at h
    · rename_i q
      obtain ⟨x, h, hx⟩ := ok_xload ht hs.hp.wf h
      obtain ⟨l, h, hl, hr⟩ := ok_results ht hs h
      have := (hs.tm p _ hX).2
      have hg : a.tmps.getD p undef = .pointer (some (q.addr ν)) := by simp [this]; rfl
      refine ⟨x :: l, h, by simp [hl], ?_⟩
      have hld := (hx yes_none).2 ν w hs.hp
      have hadr : (asAddr (a.tmps.getD p undef)).run P w = .ok (q.addr ν) w := by rw [hg]; rfl
      simp only [List.mapM_cons, Sem.run_bind, Sem.run_pure, Result.andThen_ok, hr, List.map_cons, hadr, hld]
    · exact h.elim
theorem args_get : ∀ (l : List AV) (n : Nat) (t : Nat) (x : XV), (xargs n l).get t = some x → n ≤ t ∧ ∃ y, l[t - n]? = some y ∧ x = .a y
  | [], n, t, x, h => by simp [xargs, Tm.get] at h
  | y :: r, n, t, x, h => by
    simp only [xargs, Tm.get] at h
    cases hb : Nat.beq n t with
    | true =>
      rw [hb, cond_true] at h
      have := Nat.eq_of_beq_eq_true hb
      subst this
      exact ⟨Nat.le_refl _, y, by simp, by simpa using h.symm⟩
    | false =>
      rw [hb, cond_false] at h
      obtain ⟨h1, y', h2, h3⟩ := args_get r (n + 1) t x h
      refine ⟨by omega, y', ?_, h3⟩
      rw [show t - n = (t - (n + 1)) + 1 by omega]
      simpa using h2
end
theorem trim_get (keep : List Nat) : ∀ (H : Hp) (i k : Nat) (e : Ent), (trim keep i H).get k = some e → e = Ent.dead ∨ H.get k = some e
  | [], i, k, e, h => by cases k <;> cases h
  | x :: r, i, 0, e, h => by
    have h : some (match keep.any (Nat.beq i) with | true => x | false => Ent.dead) = some e := h
    injection h with h
    split at h
    · exact .inr (by rw [← h]; rfl)
    · exact .inl h.symm
  | x :: r, i, k + 1, e, h => trim_get keep r (i + 1) k e h
theorem trim_length (keep : List Nat) : ∀ (H : Hp) (i : Nat), (trim keep i H).length = H.length
  | [], _ => rfl
  | _ :: r, i => congrArg (· + 1) (trim_length keep r (i + 1))
theorem Holds.trim {R : Root} {ν : Val} {H : Hp} {w : World} (h : Holds R ν H w) (keep : List Nat) : Holds R ν (trim keep 0 H) w := by
  refine ⟨h.upd, fun k e he => ?_, fun k e1 j he1 ho1 hj k' e2 j' he2 hj' hne ad ad' hν hν' hl => ?_, by rw [trim_length]; exact h.agr⟩
  · rw [trim_length]
    rcases trim_get keep H 0 k e he with rfl | he
    · exact dead_ok ..
    · exact h.ent k e he
  · rcases trim_get keep H 0 k e1 he1 with rfl | he1
    · exact absurd hj (Nat.not_lt_zero _)
    · rcases trim_get keep H 0 k' e2 he2 with rfl | he2
      · exact absurd hj' (Nat.not_lt_zero _)
      · exact h.dj k e1 j he1 ho1 hj k' e2 j' he2 hj' hne ad ad' hν hν' hl
theorem calls_ofZ {P : Program} {tab : Tab} {G : Ctr} {Z : Par} {I : Inv} (ht : TabOk P tab) (hm : P.follows .mixedOrders = true) {f : FuncId} {fn : Func} (hf : P.funcs[f]? = some fn) {R : Root} {Rp : Ending → World → Prop} {ν : Val} {H : Hp} {w : World} {args : List AV} {keep : List Nat} (hN : R.N = H.length) (hh : Holds R ν H w)
    (hl : args.all (AV.lt H.length) = true) (h : ok P R fn.ntmps Rp (xfuncZ tab G Z I fn args H keep)) : Calls P f (args.map (AV.den ν)).toArray w Rp := by
  unfold xfuncZ xfuncP at h
  split at h
  · exact h.elim
  · rename_i c hb
    obtain ⟨hle, h⟩ := bif_not h (fun h => h)
    have hle : args.length ≤ fn.ntmps := Nat.le_of_ble_eq_true hle
    refine calls_of_wp hf hb (Code.wp_mono ?_ (ok_xcode hN ht hm (ν := ν) (tm := xargs 0 args) (H := H) ⟨fun t x hx => ?_, hh, rfl, by simp; omega⟩ h))
    · rintro e a' w' ⟨ex, tm', H', ν', rfl, hs', h'⟩
      have hres : ∀ {T : Tree}, T = xresults tab fn.results.toList tm' H' (fun l => match l with | [x] => .done (.a x) (trim keep 0 H') | l => .done (.tup l) (trim keep 0 H')) → ok P R fn.ntmps Rp T → a'.defers = [] ∧ ∃ v, (results fn a'.tmps).run P w' = .ok v w' ∧ Rp (.returned v) w' := fun hT hk => by
        subst hT
        obtain ⟨l, hk, hlen, hr⟩ := ok_results ht hs' hk
        have hm : (fn.results.mapM fun x => match x with | ResultVar.tmp t => (pure (a'.tmps.getD t undef) : Sem Value) | .cell p t => do loadVar t (← asAddr (a'.tmps.getD p undef))).run P w' = .ok (l.map (AV.den ν')).toArray w' := by
          rw [Array.mapM_eq_mapM_toList, ← bind_pure_comp, Sem.run_bind, hr]
          rfl
        refine ⟨hs'.df, if h : (l.map (AV.den ν')).toArray.size = 1 then (l.map (AV.den ν')).toArray[0] else .tuple (l.map (AV.den ν')).toArray, ?_, ?_⟩
        · unfold results
          rw [Sem.run_bind]
          refine Eq.trans (congrArg (fun r => Result.andThen r _) hm) ?_
          rfl
        · match l, hk with
          | [x], hk => exact hk ν' w' (hs'.hp.trim keep)
          | [], hk => exact hk ν' w' (hs'.hp.trim keep)
          | x :: y :: r, hk =>
            have := hk ν' w' (hs'.hp.trim keep)
            simpa [XV.den] using this
      cases ex with
      | normal => exact hres rfl h'
      | ret => exact hres rfl h'
      | exit i => exact h'.elim
      | goto l => exact h'.elim
    · obtain ⟨-, y, hy, rfl⟩ := args_get args 0 t x hx
      simp only [Nat.sub_zero] at hy
      refine ⟨List.all_eq_true.1 hl y (List.mem_of_getElem? hy), ?_⟩
      have hlt : t < args.length := (List.getElem?_eq_some_iff.1 hy).1
      rw [Array.getElem?_append_left (by simpa using hlt)]
      simp [hy, XV.den]
theorem calls_of {P : Program} {tab : Tab} {G : Ctr} {I : Inv} (ht : TabOk P tab) (hm : P.follows .mixedOrders = true) {f : FuncId} {fn : Func} (hf : P.funcs[f]? = some fn) {R : Root} {Rp : Ending → World → Prop} {ν : Val} {H : Hp} {w : World} {args : List AV} {keep : List Nat} (hN : R.N = H.length) (hh : Holds R ν H w)
    (hl : args.all (AV.lt H.length) = true) (h : ok P R fn.ntmps Rp (xfunc tab G I fn args H keep)) : Calls P f (args.map (AV.den ν)).toArray w Rp := calls_ofZ (Z := noPar) ht hm hf hN hh hl h
end Go.Proofs.Ytehecaipmdfjmaa.X

set_option linter.unusedVariables false
set_option linter.unusedSimpArgs false
namespace Go.Proofs.Ytehecaipmdfjmaa.X
open Go.RowKit Go.Proofs.YtehecaipmdfjmaaW.PrintWords Go.Proofs.Ytehecaipmdfjmaa.Base
theorem get_mem {t : Nat} {ti : TI} : ∀ {l : Tab}, l.get t = some ti → (t, ti) ∈ l
  | [], h => by cases h
  | (u, i) :: r, h => by
    unfold Tab.get at h
    cases hb : Nat.beq u t with
    | true =>
      rw [hb, cond_true] at h
      cases h
      rw [Nat.eq_of_beq_eq_true hb]
      exact List.mem_cons_self
    | false => rw [hb, cond_false] at h; exact List.mem_cons_of_mem _ (get_mem h)
theorem tab_ok : TabOk Try.prog tab := fun t ti h => by
  obtain ⟨i, hi⟩ := List.getElem?_of_mem (get_mem h)
  have := congrArg (·[i]?) tab_all
  simp only [List.getElem?_map, hi, Option.map_some, Option.some.injEq] at this
  exact this
theorem mixed : Try.prog.follows .mixedOrders = true := by kernel_rfl
def nov : Val := fun _ _ => none
theorem Holds.b0 {w w' : World} {ν : Val} {H : Hp} (h : Holds ⟨w, fun _ => False, 0, nov, fun _ => False⟩ ν H w') : Below w.heap.size w w' := h.upd.below (Nat.le_refl _) (fun k hk => hk.elim)
section
variable {P : Program} {R : Root} {nt : Nat} {Rp : Ending → World → Prop}
theorem ok_br' {b : Bool} {t e : Tree} (h1 : b = true → ok P R nt Rp t) (h2 : b = false → ok P R nt Rp e) : ok P R nt Rp (.br b t e) := ⟨h1, h2⟩
theorem ok_chk' {p : Prop} {t : Tree} (h1 : p) (h2 : ok P R nt Rp t) : ok P R nt Rp (.chk p t) := ⟨h1, h2⟩
theorem ok_both' {t e : Tree} (h1 : ok P R nt Rp t) (h2 : ok P R nt Rp e) : ok P R nt Rp (.both t e) := ⟨h1, h2⟩
theorem ok_all' {good : (Nat → Nat) → Prop} {k : (Nat → Nat) → Tree} (h : ∀ c, good c → ok P R nt Rp (k c)) : ok P R nt Rp (.all good k) := h
end
def Tree.val {α : Type} (leaf : XV → α) (d : α) : Tree → α
  | .done x _ => leaf x
  | .br b t e => bif b then t.val leaf d else e.val leaf d
  | .chk _ t => t.val leaf d
  | .callf _ _ _ _ k => (k fun _ => 0).val leaf d
  | .all _ k => (k fun _ => 0).val leaf d
  | _ => d
def plainB : List CV → Bool
  | [] => true
  | .v _ :: r => plainB r
  | _ :: _ => false
theorem plain_ren {n0 : Nat} {ρ : List Nat} {N : Nat} : ∀ {l : List CV}, plainB l = true → l = l.map (fun x => (x.ren ρ).nilz n0) ∧ ∀ x ∈ l, x.lt N = true
  | [], _ => ⟨rfl, fun x hx => by cases hx⟩
  | .v y :: r, h => by
    obtain ⟨h1, h2⟩ := plain_ren (l := r) h
    refine ⟨?_, fun x hx => ?_⟩
    · show _ = CV.v y :: List.map _ r
      rw [← h1]
    · rcases List.mem_cons.1 hx with rfl | hx
      · rfl
      · exact h2 x hx
  | .ptr _ :: r, h => by cases h
  | .sl .. :: r, h => by cases h
  | .fn .. :: r, h => by cases h
  | .ifp .. :: r, h => by cases h
theorem EntRel.plain {n0 : Nat} {ρ : List Nat} {N : Nat} {e e2 : Ent} (ho : e2.own = e.own) (ht : e2.ty = e.ty) (hs : e2.sz = e.sz) (hm : e2.m = e.m) (hb : e2.box = true → e.box = true ∧ e2.ov = [] ∧ e2.n 0 = 1) (hn : ∀ j, j < e.m → e2.n j = e.n j ∧ e2.cap j = e.cap j)
    (ha : ∀ j, j < e.m → ∀ i, i < e.n j → e.at j i = e2.at j i ∧ plainB (e2.at j i) = true) : EntRel n0 ρ N e e2 :=
  ⟨ho, ht, hs, hm, hb, hn, fun j hj i hi => ⟨(ha j hj i hi).1.trans (plain_ren (N := N) (ha j hj i hi).2).1, (plain_ren (N := N) (ρ := ρ) (n0 := n0) (ha j hj i hi).2).2⟩⟩
theorem EntRel.row {n0 : Nat} {ρ : List Nat} {N ty sz n cap n2 cap2 : Nat} {f f2 : Nat → List CV} (hn : n2 = n) (hc : cap2 = cap) (hf : ∀ i, i < n → f i = f2 i) (hp : ∀ i, i < n → plainB (f2 i) = true) : EntRel n0 ρ N (Ent.mkRow ty sz n cap f) (Ent.mkRow ty sz n2 cap2 f2) :=
  EntRel.plain rfl rfl rfl rfl (fun h => by cases h) (fun _ _ => ⟨hn, hc⟩) fun _ _ i hi => ⟨hf i hi, hp i hi⟩
def Ent.rw (own : Bool) (ty sz n cap : Nat) (f : Nat → List CV) : Ent := ⟨own, false, ty, sz, 1, fun _ => n, fun _ => cap, fun _ i => f i, []⟩
theorem EntRel.rw {n0 : Nat} {ρ : List Nat} {N ty sz n cap n2 cap2 : Nat} {own : Bool} {f f2 : Nat → List CV} (hn : n2 = n) (hc : cap2 = cap) (hf : ∀ i, i < n → f i = f2 i) (hp : ∀ i, i < n → plainB (f2 i) = true) : EntRel n0 ρ N (Ent.rw own ty sz n cap f) (Ent.rw own ty sz n2 cap2 f2) :=
  EntRel.plain rfl rfl rfl rfl (fun h => by cases h) (fun _ _ => ⟨hn, hc⟩) fun _ _ i hi => ⟨hf i hi, hp i hi⟩
theorem EntRel.dead {n0 : Nat} {ρ : List Nat} {N : Nat} : EntRel n0 ρ N Ent.dead Ent.dead := EntRel.plain rfl rfl rfl rfl (fun h => by cases h) (fun _ _ => ⟨rfl, rfl⟩) fun _ hj => absurd hj (Nat.not_lt_zero _)
theorem EntRel.box' {n0 : Nat} {ρ : List Nat} {N ty sz : Nat} {n n2 c c2 : Nat → Nat} {cs cs2 : List CV} (h1 : cs = cs2.map (fun x => (x.ren ρ).nilz n0)) (h2 : cs2.all (CV.lt N) = true) (hn : n 0 = n2 0) (hc : c 0 = c2 0) (h3 : n2 0 = 1) : EntRel n0 ρ N ⟨true, true, ty, sz, 1, n, c, fun _ _ => cs, []⟩ ⟨true, true, ty, sz, 1, n2, c2, fun _ _ => cs2, []⟩ :=
  ⟨rfl, rfl, rfl, rfl, fun _ => ⟨rfl, rfl, h3⟩, fun j hj => by
    have hj : j < 1 := hj
    obtain rfl : j = 0 := by omega
    exact ⟨hn.symm, hc.symm⟩, fun j _ i _ => ⟨h1, List.all_eq_true.1 h2⟩⟩
def Rels (n0 : Nat) (U : Hp) (ρ : List Nat) (N : Nat) : List Nat → Hp → Prop
  | _, [] => True
  | k :: ks, e2 :: r => (∃ e, U.get k = some e ∧ EntRel n0 ρ N e e2) ∧ Rels n0 U ρ N ks r
  | [], _ :: _ => False
def Rels2 (n0 : Nat) (U : Hp) (ρ : List Nat) (N : Nat) : List Nat → Hp → Prop
  | _, [] => True
  | k :: ks, e2 :: r => (e2 = Ent.dead ∨ ∃ e, U.get k = some e ∧ EntRel n0 ρ N e e2) ∧ Rels2 n0 U ρ N ks r
  | [], _ :: _ => False
theorem Rels2.get {n0 : Nat} {U : Hp} {ρ : List Nat} {N : Nat} : ∀ {ks : List Nat} {S : Hp}, Rels2 n0 U ρ N ks S → ∀ k e2, S.get k = some e2 → e2 = Ent.dead ∨ ∃ e, U.get (ks.getD k 0) = some e ∧ EntRel n0 ρ N e e2
  | _, [], _, k, e2, h => by cases k <;> cases h
  | k0 :: ks, e0 :: S, h, 0, e2, hx => by
    have hx : some e0 = some e2 := hx
    cases hx
    simpa using h.1
  | k0 :: ks, e0 :: S, h, k + 1, e2, hx => by simpa using Rels2.get h.2 k e2 hx
  | [], _ :: _, h, _, _, _ => h.elim
theorem Rels.get {n0 : Nat} {U : Hp} {ρ : List Nat} {N : Nat} : ∀ {ks : List Nat} {S : Hp}, Rels n0 U ρ N ks S → ∀ k e2, S.get k = some e2 → ∃ e, U.get (ks.getD k 0) = some e ∧ EntRel n0 ρ N e e2
  | _, [], _, k, e2, h => by cases k <;> cases h
  | k0 :: ks, e0 :: S, h, 0, e2, hx => by
    have hx : some e0 = some e2 := hx
    cases hx
    simpa using h.1
  | k0 :: ks, e0 :: S, h, k + 1, e2, hx => by simpa using Rels.get h.2 k e2 hx
  | [], _ :: _, h, _, _, _ => h.elim
def Back (n0 : Nat) (ρ : List Nat) (N : Nat) (H0 : Hp) : Nat → Hp → Hp → Prop
  | _, _, [] => True
  | k, e :: new, e2 :: r => (EntRel n0 ρ N e e2 ∧ e.box = e2.box ∧ (e.box = true → e.ov = [] ∧ e.n 0 = 1) ∧ (e2.own = true ∨ e2.own = e2.own)) ∧ Back n0 ρ N H0 (k + 1) new r
  | _, [], _ :: _ => False
theorem Back.get {n0 : Nat} {ρ : List Nat} {N : Nat} {H0 : Hp} : ∀ {k0 : Nat} {new S : Hp}, Back n0 ρ N H0 k0 new S → ∀ k e2, S.get k = some e2 → ∃ e, new.get k = some e ∧ EntRel n0 ρ N e e2 ∧ e.box = e2.box ∧ (e.box = true → e.ov = [] ∧ e.n 0 = 1) ∧ (e2.own = true ∨ e2.own = e2.own)
  | _, _, [], _, k, e2, h => by cases k <;> cases h
  | k0, e :: new, e0 :: S, h, 0, e2, hx => by
    have hx : some e0 = some e2 := hx
    cases hx
    exact ⟨e, rfl, h.1⟩
  | k0, e :: new, e0 :: S, h, k + 1, e2, hx => by
    obtain ⟨e', h1, h2, h3, h4, h5⟩ := Back.get h.2 k e2 hx
    exact ⟨e', h1, h2, h3, h4, h5⟩
  | _, [], _ :: _, h, _, _, _ => h.elim
theorem fits_of {C : CallSpec} {args : List AV} {H : Hp} (hb : (nodup C.ρ && Nat.beq C.ρ.length C.H0.length && C.ρ.all (fun k => Nat.blt k (C.up H).length) && C.args0.all (AV.lt C.H0.length)) = true)
    (ha : args = C.args0.map (fun x => (x.ren C.ρ).nilz H.length)) (hs : Rels H.length (C.up H) C.ρ C.H0.length C.ρ C.H0)
    (h1 : ∀ c, C.good c → (C.H0.length ≤ (C.H1 c).length ∧ (C.new c).length = (C.H1 c).length) ∧ (C.x c = (C.x0 c).ren (C.ρ' H c) ∧ (C.x0 c).lt (C.H1 c).length = true) ∧ Back ((C.up H).length + (C.H1 c).length) (C.ρ' H c) (C.H1 c).length C.H0 0 (C.new c) (C.H1 c)) : C.Fits args H := by
  simp only [Bool.and_eq_true] at hb
  obtain ⟨⟨⟨h2, h3⟩, h4⟩, h5⟩ := hb
  refine ⟨h2, Nat.eq_of_beq_eq_true h3, fun k hk => Nat.blt_eq.mp (List.all_eq_true.1 h4 k hk), ⟨ha, h5⟩, hs.get, fun c hc => (h1 c hc).1, fun c hc => (h1 c hc).2.1, fun c hc k e2 he => ?_⟩
  exact (h1 c hc).2.2.get k e2 he
def CallSpec.Post (C : CallSpec) (ν : Val) (w : World) (e : Ending) (w' : World) : Prop := ∃ ν' c, C.good c ∧ e = .returned ((C.x0 c).den ν') ∧ Holds (rootOf ν C.H0 w) ν' (C.H1 c) w'
theorem local_of {G : Ctr} {I : Inv} {f : FuncId} {fn : Func} (hf : Try.prog.funcs[f]? = some fn) {C : CallSpec} (hl : C.args0.all (AV.lt C.H0.length) = true) {keep : List Nat} {T : Tree} (he : xfunc tab G I fn C.args0 C.H0 keep = T) (h : ∀ ν w, ok Try.prog (rootOf ν C.H0 w) fn.ntmps (C.Post ν w) T) : C.Local Try.prog f :=
  fun ν w hh => calls_of tab_ok mixed hf rfl hh hl (he ▸ h ν w)
theorem ok_leaf {P : Program} {nt : Nat} {C : CallSpec} {ν : Val} {w : World} {x : XV} {H : Hp} (c : Nat → Nat) (nils : List (Nat × Nat)) (ρ : List Nat) (hg : C.good c) (hx : x = ((C.x0 c).ren ρ).nilz H.length) (hs : Rels H.length (H ++ nilRows nils) ρ (C.H1 c).length ρ (C.H1 c))
    (hb : (x.lt H.length && (C.x0 c).lt (C.H1 c).length && nodup ρ && Nat.beq ρ.length (C.H1 c).length && headId ρ 0 C.H0.length && Nat.ble C.H0.length (C.H1 c).length) = true) : ok P (rootOf ν C.H0 w) nt (C.Post ν w) (.done x H) := by
  simp only [Bool.and_eq_true] at hb
  obtain ⟨⟨⟨⟨⟨h1, h2⟩, h3⟩, h4⟩, h5⟩, h6⟩ := hb
  intro ν1 w' hh
  obtain ⟨ν2, hA, hnil, hh2⟩ := hh.nils nils
  have hlen := Nat.eq_of_beq_eq_true h4
  have hρ : ∀ q, q < (C.H1 c).length → ρ.getD q 0 < (H ++ nilRows nils).length := fun q hq => by
    obtain ⟨e, he, -⟩ := hs.get q _ (by rw [Hp.get_eq]; exact List.getElem?_eq_getElem hq)
    exact Hp.get_lt he
  refine ⟨ν2.ren ρ, c, hg, ?_, hh2.ren hnil (nodup_spec h3) hlen (take_id h5) (Nat.le_of_ble_eq_true h6) hs.get⟩
  rw [← XV.den_agr hA h1, hx, XV.den_nilz hnil (XV.lt_ren hρ h2), XV.den_ren]
section
variable {n0 : Nat} {ρ σ : Rn} {U : Hp} {N k : Nat}
theorem EntRg.dead : EntRg n0 ρ σ U N k Ent.dead := ⟨⟨(fun h => by cases h), .inl rfl⟩, fun j hj => absurd hj (Nat.not_lt_zero _)⟩
theorem EntRg.one {e e2 : Ent} (hb : BoxOk e2) (hm : e2.m = 1) (hu : U.get (ρ k 0).1 = some e) (mr : MemRel n0 ρ N e (ρ k 0).2 e2 0) (hσ : σ (ρ k 0).1 (ρ k 0).2 = (k, 0) ∨ (e2.own = false ∧ (e.own = false ∨ e2.n 0 = 0))) : EntRg n0 ρ σ U N k e2 :=
  ⟨hb, fun j hj => by obtain rfl : j = 0 := (by omega); exact ⟨e, hu, mr, hσ⟩⟩
theorem EntRg.box {ty sz : Nat} {n n2 c c2 : Nat → Nat} {cs cs2 : List CV} (hu : U.get (ρ k 0).1 = some ⟨true, true, ty, sz, 1, n, c, fun _ _ => cs, []⟩) (h0 : (ρ k 0).2 = 0) (h1 : cs = cs2.map (fun x => (x.rg ρ).nilz n0)) (h2 : cs2.all (CV.lt N) = true) (hn : n2 0 = n 0) (hc : c2 0 = c 0) (h3 : n2 0 = 1) (hσ : σ (ρ k 0).1 (ρ k 0).2 = (k, 0)) : EntRg n0 ρ σ U N k ⟨true, true, ty, sz, 1, n2, c2, fun _ _ => cs2, []⟩ :=
  EntRg.one ⟨(fun _ => ⟨rfl, rfl, h3, rfl⟩), .inl rfl⟩ rfl hu ⟨by rw [h0]; exact Nat.one_pos, fun h => h, rfl, rfl, by rw [h0]; exact hn, by rw [h0]; exact hc, fun i _ => ⟨h1, List.all_eq_true.1 h2⟩, .inl rfl⟩ (.inl hσ)
theorem plain_rg : ∀ {l : List CV}, plainB l = true → l = l.map (fun x => (x.rg ρ).nilz n0) ∧ ∀ x ∈ l, x.lt N = true
  | [], _ => ⟨rfl, fun x hx => by cases hx⟩
  | .v y :: r, h => by
    obtain ⟨h1, h2⟩ := plain_rg (l := r) h
    refine ⟨?_, fun x hx => ?_⟩
    · show _ = CV.v y :: List.map _ r
      rw [← h1]
    · rcases List.mem_cons.1 hx with rfl | hx
      · rfl
      · exact h2 x hx
  | .ptr _ :: r, h => by cases h
  | .sl .. :: r, h => by cases h
  | .fn .. :: r, h => by cases h
  | .ifp .. :: r, h => by cases h
theorem EntRg.rw {own2 : Bool} {ty sz n2 cap2 : Nat} {f2 : Nat → List CV} {e : Ent} (hu : U.get (ρ k 0).1 = some e) (h0 : (ρ k 0).2 < e.m) (ho : own2 = true → e.own = true) (ho2 : own2 = true ∨ (0 < sz ∧ ty ≠ itTy)) (ht : ty = e.ty) (hsz : sz = e.sz) (hn : n2 = e.n (ρ k 0).2) (hc : cap2 = e.cap (ρ k 0).2)
    (hf : ∀ i, i < n2 → e.at (ρ k 0).2 i = f2 i) (hp : ∀ i, i < n2 → plainB (f2 i) = true) (hσ : σ (ρ k 0).1 (ρ k 0).2 = (k, 0) ∨ (own2 = false ∧ (e.own = false ∨ n2 = 0))) : EntRg n0 ρ σ U N k (Ent.rw own2 ty sz n2 cap2 f2) :=
  EntRg.one ⟨(fun h => by cases h), ho2.imp id And.left⟩ rfl hu ⟨h0, ho, ht, hsz, hn, hc, fun i hi => ⟨(hf i (hn ▸ hi)).trans (plain_rg (N := N) (hp i (hn ▸ hi))).1, (plain_rg (N := N) (ρ := ρ) (n0 := n0) (hp i (hn ▸ hi))).2⟩, ho2.imp id And.right⟩ hσ
end
def lr (l : List Nat) : Rn := fun k j => (l.getD k 0, j)
def idxL (i : Nat) : Nat → List Nat → Nat → Nat
  | _, [], a => a
  | q, k :: r, a => idxL i (q + 1) r (bif Nat.beq k i then q else a)
def invL (l : List Nat) (n : Nat) : List Nat := (List.range n).map fun i => idxL i 0 l 0
def Rm.of (l : List Nat) (n : Nat) : Rm := .g (lr l) (lr (invL l n))
theorem ok_leaf2 {P : Program} {nt : Nat} {C : CallSpec} {ν : Val} {w : World} {x : XV} {H : Hp} (c : Nat → Nat) (nils : List (Nat × Nat)) (ρ : List Nat) (hg : C.good c) (hx : x = ((C.x0 c).ren ρ).nilz H.length) (hs : Rels2 H.length (H ++ nilRows nils) ρ (C.H1 c).length ρ (C.H1 c))
    (hb : (x.lt H.length && (C.x0 c).lt (C.H1 c).length && liveNodup ρ (C.H1 c) && Nat.beq ρ.length (C.H1 c).length && headId ρ 0 C.H0.length && Nat.ble C.H0.length (C.H1 c).length && ρ.all (fun k => Nat.blt k (H ++ nilRows nils).length)) = true) : ok P (rootOf ν C.H0 w) nt (C.Post ν w) (.done x H) := by
  simp only [Bool.and_eq_true] at hb
  obtain ⟨⟨⟨⟨⟨⟨h1, h2⟩, h3⟩, h4⟩, h5⟩, h6⟩, h7⟩ := hb
  intro ν1 w' hh
  obtain ⟨ν2, hA, hnil, hh2⟩ := hh.nils nils
  have hlen := Nat.eq_of_beq_eq_true h4
  have hρ : ∀ q, q < (C.H1 c).length → ρ.getD q 0 < (H ++ nilRows nils).length := fun q hq => by
    rw [List.getD_eq_getElem?_getD, List.getElem?_eq_getElem (by omega), Option.getD_some]
    exact Nat.blt_eq.mp (List.all_eq_true.1 h7 _ (List.getElem_mem _))
  refine ⟨ν2.ren ρ, c, hg, ?_, hh2.ren2 hnil h3 hlen (take_id h5) (Nat.le_of_ble_eq_true h6) hρ hs.get⟩
  rw [← XV.den_agr hA h1, hx, XV.den_nilz hnil (XV.lt_ren hρ h2), XV.den_ren]
section
variable {P : Program} {R : Root} {nt : Nat} {Rp : Ending → World → Prop}
theorem ok_every' {σ : Type} {k : σ → Tree} (h : ∀ s, ok P R nt Rp (k s)) : ok P R nt Rp (.every σ k) := h
theorem ok_some' {σ : Type} {k : σ → Tree} (s : σ) (h : ok P R nt Rp (k s)) : ok P R nt Rp (.some_ σ k) := ⟨s, h⟩
theorem ok_callf' {f : FuncId} {args : List AV} {H : Hp} {C : CallSpec} {k : (Nat → Nat) → Tree} (hc : Callable P f) (hf : C.Fits args H) (hl : C.Local P f) (hk : ∀ c, C.good c → ok P R nt Rp (k c)) : ok P R nt Rp (.callf f args H C k) := ⟨hc, hf, hl, hk⟩
end
end Go.Proofs.Ytehecaipmdfjmaa.X

set_option linter.unusedVariables false
set_option linter.unusedSimpArgs false
namespace Go.Proofs.Ytehecaipmdfjmaa.X.Mi
open Go Go.RowKit Go.Proofs.YtehecaipmdfjmaaW.PrintWords Go.Proofs.Ytehecaipmdfjmaa.Base Go.Proofs.Ytehecaipmdfjmaa.X
abbrev iv (x : Int) : CV := .v (.int .i64 x)
abbrev bv (x : Bool) : CV := .v (.bool x)
abbrev iav (x : Int) : AV := .c (.v (.int .i64 x))
abbrev ia (x : Int) : XV := .a (.c (.v (.int .i64 x)))
abbrev nilE : CV := .v .nilIface
abbrev errE (n : Int) : CV := .v (.iface 36 (.int .i64 n))
abbrev bref (k sz : Nat) : Ref := ⟨k, 0, 0, sz, 0, 0, 0, 0⟩
abbrev bptr (k sz : Nat) : AV := .c (.ptr (bref k sz))
theorem wrap64 {x : Int} (h1 : -9223372036854775808 ≤ x) (h2 : x ≤ 9223372036854775807) : IntKind.wrap .i64 x = x := IntWalk.i64_in x ⟨h1, h2⟩
abbrev rl (r : Nat → Int) : List Int := [r 0, r 1, r 2, r 3, r 4, r 5, r 6, r 7, r 8, r 9, r 10, r 11, r 12, r 13, r 14, r 15]
abbrev rc (r : Nat → Int) : List CV := [iv (r 0), iv (r 1), iv (r 2), iv (r 3), iv (r 4), iv (r 5), iv (r 6), iv (r 7), iv (r 8), iv (r 9), iv (r 10), iv (r 11), iv (r 12), iv (r 13), iv (r 14), iv (r 15)]
structure Fr where
  at_ : Int
  r : Nat → Int
def Fr.cv (x : Fr) : List CV := [iv x.at_, iv (x.r 0), iv (x.r 1), iv (x.r 2), iv (x.r 3), iv (x.r 4), iv (x.r 5), iv (x.r 6), iv (x.r 7), iv (x.r 8), iv (x.r 9), iv (x.r 10), iv (x.r 11), iv (x.r 12), iv (x.r 13), iv (x.r 14), iv (x.r 15)]
structure In where
  op : Int
  a : Int
  b : Int
  c : Int
  n : Int
def In.cv (x : In) : List CV := [iv x.op, iv x.a, iv x.b, iv x.c, iv x.n]
abbrev In.av (x : In) : AV := .agg x.cv
structure Pk where
  p : Bool
  f : Bool
  b : Bool
  d : Int
def Pk.cv (x : Pk) : List CV := [bv x.p, bv x.f, bv x.b, iv x.d]
structure Ar where
  n : Nat
  cap : Nat
  C : Nat → Int
  most : Int
structure Tb where
  n : Nat
  cap : Nat
  P : Nat → Pk
  now : Int
abbrev Ar.box (a : Ar) (k : Nat) : Ent := Ent.mkBox 72 [.sl k 0 0 1 a.n a.cap, iv a.most]
abbrev Ar.row (a : Ar) : Ent := Ent.rw true 2 1 a.n a.cap fun i => [iv (a.C i)]
abbrev Tb.box (a : Tb) (k : Nat) : Ent := Ent.mkBox 78 [.sl k 0 0 4 a.n a.cap, iv a.now]
abbrev Tb.row (a : Tb) : Ent := Ent.rw true 59 4 a.n a.cap fun i => (a.P i).cv
def slAt (H : Hp) (k c : Nat) : Nat := match H.get k with
  | some e => (match cellsGet c (e.f 0 0) with | some (.sl k' _ _ _ _ _) => k' | some (.ptr r) => r.k | _ => 0)
  | none => 0
def rnE (ρ : List Nat) (e : Ent) : Ent := bif e.box then ⟨true, true, e.ty, e.sz, 1, e.n, e.cap, fun _ _ => (e.f 0 0).map (CV.ren ρ), []⟩ else e
def rnAll (ρ : List Nat) : Hp → Hp
  | [] => []
  | e :: r => rnE ρ e :: rnAll ρ r
def mSpec (ρ : List Nat) (k : Nat) (args0 : List AV) (H0 : Hp) (good : (Nat → Nat) → Prop) (x0 : (Nat → Nat) → XV) (H1 : (Nat → Nat) → Hp) : CallSpec :=
  ⟨[], ρ, args0, H0, good, x0, H1, fun c => (x0 c).ren (ρ ++ (List.range ((H1 c).length - ρ.length)).map (· + k)), fun c => rnAll (ρ ++ (List.range ((H1 c).length - ρ.length)).map (· + k)) (H1 c), [], []⟩
def rdSpec (ρ : List Nat) (args0 : List AV) (H0 : Hp) (x : XV) : CallSpec := mSpec ρ 0 args0 H0 (fun _ => True) (fun _ => x) fun _ => H0
def fitsC (n : Nat) (c : Nat → Nat) : Prop := n ≤ c 0 ∧ c 0 ≤ maxLen
structure Ar.Ok (a : Ar) : Prop where
  n1 : 1 ≤ a.n
  m0 : 0 ≤ a.most
  m1 : a.most ≤ 4096
  nm : (a.n : Int) ≤ a.most + 1
def lenF (a : Ar) : Int := IntKind.wrap .i64 ((a.n : Int) - 1)
def hereF (a : Ar) (at_ : Int) : Bool := bif decide (at_ ≥ 1) then decide (at_ < (a.n : Int)) else false
abbrev lenC (a : Ar) (ρ : List Nat) : CallSpec := rdSpec ρ [bptr 0 2] [a.box 1, a.row] (ia (lenF a))
abbrev hereC (a : Ar) (at_ : Int) (ρ : List Nat) : CallSpec := rdSpec ρ [bptr 0 2, iav at_] [a.box 1, a.row] (.a (.c (bv (hereF a at_))))
def Ar.set (a : Ar) (i : Nat) (v : Int) : Ar := { a with C := fun j => if j = i then v else a.C j }
def Ar.more (a : Ar) (n : Nat) : Ar := { a with n := a.n + n, C := fun j => if j < a.n then a.C j else 0 }
abbrev arC (a a' : Ar) (args : List AV) (x : XV) (ρ : List Nat) : CallSpec := mSpec ρ 0 (bptr 0 2 :: args) [a.box 1, a.row] (fun _ => True) (fun _ => x) fun _ => [a'.box 1, a'.row]
abbrev loadC (a : Ar) (at_ v : Int) (e : CV) (ρ : List Nat) : CallSpec := arC a a [iav at_] (.tup [iav v, .c e]) ρ
def loadG (a : Ar) (at_ : Int) (ρ : List Nat) : CallG := .br (hereF a at_) (.one (loadC a at_ (a.C at_.toNat) nilE ρ)) (.one (loadC a at_ 0 (errE 6) ρ))
abbrev storeC (a a' : Ar) (at_ v : Int) (e : CV) (ρ : List Nat) : CallSpec := arC a a' [iav at_, iav v] (.a (.c e)) ρ
def storeG (a : Ar) (at_ v : Int) (ρ : List Nat) : CallG := .br (hereF a at_) (.one (storeC a (a.set at_.toNat v) at_ v nilE ρ)) (.one (storeC a a at_ v (errE 6) ρ))
def swapF (a : Ar) (at_ old v : Int) : Ar := bif a.C at_.toNat == old then a.set at_.toNat v else a
abbrev swapC (a a' : Ar) (at_ old v : Int) (b : Bool) (e : CV) (ρ : List Nat) : CallSpec := arC a a' [iav at_, iav old, iav v] (.tup [.c (bv b), .c e]) ρ
def swapG (a : Ar) (at_ old v : Int) (ρ : List Nat) : CallG := .br (hereF a at_) (.one (swapC a (swapF a at_ old v) at_ old v (a.C at_.toNat == old) nilE ρ)) (.one (swapC a a at_ old v false (errE 6) ρ))
def fullF (a : Ar) (n : Int) : Bool := decide (n > IntKind.wrap .i64 (a.most - lenF a))
abbrev allocC (a a' : Ar) (n at_ : Int) (e : CV) (ρ : List Nat) (k : Nat) : CallSpec := mSpec ρ k [bptr 0 2, iav n] [a.box 1, a.row] (fun _ => True) (fun _ => .tup [iav at_, .c e]) fun c => [({ a' with cap := c 0 } : Ar).box 2, Ent.dead, ({ a' with cap := c 0 } : Ar).row]
def allocG (a : Ar) (n : Int) (ρ : List Nat) (k : Nat) : CallG := .br (decide (n < 1)) (.one (allocC a a n 0 (errE 1) ρ k)) (.br (fullF a n) (.one (allocC a a n 0 (errE 3) ρ k)) (.one (allocC a (a.more n.toNat) n a.n nilE ρ k)))
def arG (a : Ar) : Ctr := fun f args H => match args with
  | [.c (.ptr r)] => bif Nat.beq f 11 then some (lenC a [r.k, slAt H r.k 0]) else none
  | [.c (.ptr r), .c (.v (.int _ x))] =>
    bif Nat.beq f 27 then some (hereC a x [r.k, slAt H r.k 0]) else
    bif Nat.beq f 13 then some (loadG a x [r.k, slAt H r.k 0]) else
    bif Nat.beq f 20 then some (allocG a x [r.k, slAt H r.k 0] H.length) else none
  | [.c (.ptr r), .c (.v (.int _ x)), .c (.v (.int _ y))] => some (storeG a x y [r.k, slAt H r.k 0])
  | [.c (.ptr r), .c (.v (.int _ x)), .c (.v (.int _ y)), .c (.v (.int _ z))] => some (swapG a x y z [r.k, slAt H r.k 0])
  | _ => none
def tlen (a : Ar) : Tree :=
  Tree.done (XV.a (AV.c (iv (IntKind.wrap IntKind.i64 ((↑a.1 : Int) - (1 : Int)))))) [(Ar.box a 1), (Ar.row a)]
theorem tlen_eq (a : Ar) : xfunc tab noCtr noInv Go.Proofs.Try.f11 [bptr 0 2] [a.box 1, a.row] [0, 1] = tlen a := by kernel_rfl
def there_ (a : Ar) (x : Int) : Tree :=
  Tree.chk (decide (x ≥ (1 : Int)) = true → decide (x ≥ (1 : Int)) = true)
   (Tree.chk (decide (x ≥ (1 : Int)) = true → decide (x ≥ (1 : Int)) = true)
   (Tree.chk (decide (x ≥ (1 : Int)) = true → decide (x ≥ (1 : Int)) = true)
   (Tree.chk (decide (x ≥ (1 : Int)) = true → decide (x ≥ (1 : Int)) = true)
   (Tree.chk (decide (x ≥ (1 : Int)) = true → decide (x ≥ (1 : Int)) = true)
   (Tree.chk (decide (x ≥ (1 : Int)) = true → decide (x ≥ (1 : Int)) = true)
   (Tree.chk (decide (x ≥ (1 : Int)) = true → decide (x ≥ (1 : Int)) = true)
   (Tree.done (XV.a (AV.c (CV.v (Value.bool (bif decide (x ≥ (1 : Int)) then decide (x < (↑a.1 : Int)) else false))))) [(Ar.box a 1), (Ar.row a)])))))))
theorem there__eq (a : Ar) (x : Int) : xfunc tab noCtr noInv Go.Proofs.Try.f27 [bptr 0 2, iav x] [a.box 1, a.row] [0, 1] = there_ a x := by kernel_rfl
def tload (a : Ar) (x : Int) : Tree :=
  Tree.callf 27 [AV.c (CV.ptr ⟨0, 0, 0, 2, 0, 0, 0, 0⟩), AV.c (iv x)] [(Ar.box a 1), (Ar.row a)] (hereC a x [0, 1]) fun c => Tree.br (!hereF a x)
   (Tree.done (XV.tup [AV.c (iv (0 : Int)), AV.c (CV.v (Value.iface 36 (Value.int IntKind.i64 (6 : Int))))]) [(Ar.box a 1), (Ar.row a)])
   (Tree.chk ((0 : Int) ≤ x ∧ x < (↑a.1 : Int) ∧ Int.toNat x < a.1 ∧ 0 < 1)
   (Tree.chk (0 < 1 ∧ Int.toNat x < a.1)
   (Tree.done (XV.tup [AV.c (iv (a.3 (Int.toNat x))), AV.c (CV.v Value.nilIface)]) [(Ar.box a 1), (Ar.row a)])))
theorem tload_eq (a : Ar) (x : Int) : xfunc tab (arG a) noInv Go.Proofs.Try.f13 [bptr 0 2, iav x] [a.box 1, a.row] [0, 1] = tload a x := by kernel_rfl
def tstore (a : Ar) (x y : Int) : Tree :=
  Tree.callf 27 [AV.c (CV.ptr ⟨0, 0, 0, 2, 0, 0, 0, 0⟩), AV.c (iv x)] [(Ar.box a 1), (Ar.row a)] (hereC a x [0, 1]) fun c => Tree.br (!hereF a x)
   (Tree.done (XV.a (AV.c (CV.v (Value.iface 36 (Value.int IntKind.i64 (6 : Int)))))) [(Ar.box a 1), (Ar.row a)])
   (Tree.chk ((0 : Int) ≤ x ∧ x < (↑a.1 : Int) ∧ Int.toNat x < a.1 ∧ 0 < 1)
   (Tree.chk (0 < 1 ∧ Int.toNat x < a.1)
   (Tree.done (XV.a (AV.c (CV.v Value.nilIface))) [(Ar.box a 1), { own := true, box := false, ty := 2, sz := 1, m := 1, n := fun a_1 => a.1, cap := fun a_1 => a.2, f := fun a_1 a_2 => [iv (a.3 a_2)], ov := [(18, 0, Int.toNat x, [iv y])] }])))
theorem tstore_eq (a : Ar) (x y : Int) : xfunc tab (arG a) noInv Go.Proofs.Try.f21 [bptr 0 2, iav x, iav y] [a.box 1, a.row] [0, 1] = tstore a x y := by kernel_rfl
def tswap (a : Ar) (x y z : Int) : Tree :=
  Tree.callf 27 [AV.c (CV.ptr ⟨0, 0, 0, 2, 0, 0, 0, 0⟩), AV.c (iv x)] [(Ar.box a 1), (Ar.row a)] (hereC a x [0, 1]) fun c => Tree.br (!hereF a x)
   (Tree.done (XV.tup [AV.c (CV.v (Value.bool false)), AV.c (CV.v (Value.iface 36 (Value.int IntKind.i64 (6 : Int))))]) [(Ar.box a 1), (Ar.row a)])
   (Tree.chk ((0 : Int) ≤ x ∧ x < (↑a.1 : Int) ∧ Int.toNat x < a.1 ∧ 0 < 1)
   (Tree.chk (0 < 1 ∧ Int.toNat x < a.1)
   (Tree.br (a.3 (Int.toNat x) != y)
   (Tree.done (XV.tup [AV.c (CV.v (Value.bool false)), AV.c (CV.v Value.nilIface)]) [(Ar.box a 1), (Ar.row a)])
   (Tree.chk ((0 : Int) ≤ x ∧ x < (↑a.1 : Int) ∧ Int.toNat x < a.1 ∧ 0 < 1)
   (Tree.chk (0 < 1 ∧ Int.toNat x < a.1)
   (Tree.done (XV.tup [AV.c (CV.v (Value.bool true)), AV.c (CV.v Value.nilIface)]) [(Ar.box a 1), { own := true, box := false, ty := 2, sz := 1, m := 1, n := fun a_1 => a.1, cap := fun a_1 => a.2, f := fun a_1 a_2 => [iv (a.3 a_2)], ov := [(30, 0, Int.toNat x, [iv z])] }]))))))
theorem tswap_eq (a : Ar) (x y z : Int) : xfunc tab (arG a) noInv Go.Proofs.Try.f38 [bptr 0 2, iav x, iav y, iav z] [a.box 1, a.row] [0, 1] = tswap a x y z := by kernel_rfl
def talloc (a : Ar) (x : Int) : Tree :=
  Tree.br (decide (x < (1 : Int)))
   (Tree.done (XV.tup [AV.c (iv (0 : Int)), AV.c (CV.v (Value.iface 36 (Value.int IntKind.i64 (1 : Int))))]) [(Ar.box a 1), (Ar.row a)])
   (Tree.callf 11 [AV.c (CV.ptr ⟨0, 0, 0, 2, 0, 0, 0, 0⟩)] [(Ar.box a 1), (Ar.row a)] (lenC a [0, 1]) fun c => Tree.chk (AV.c (iv a.4) = AV.c (iv a.4))
   (Tree.chk (AV.c (CV.ptr ⟨0, 0, 0, 2, 1, 0, 0, 0⟩) = AV.c (CV.ptr ⟨0, 0, 0, 2, 1, 0, 0, 0⟩))
   (Tree.chk (AV.c (CV.ptr ⟨0, 0, 0, 2, 0, 0, 0, 0⟩) = AV.c (CV.ptr ⟨0, 0, 0, 2, 0, 0, 0, 0⟩))
   (Tree.chk (AV.c (CV.ptr ⟨0, 0, 0, 2, 0, 0, 0, 0⟩) = AV.c (CV.ptr ⟨0, 0, 0, 2, 0, 0, 0, 0⟩))
   (Tree.chk (AV.c (iv x) = AV.c (iv x))
   (Tree.br (decide (x > IntKind.wrap IntKind.i64 (a.4 - lenF a)))
   (Tree.done (XV.tup [AV.c (iv (0 : Int)), AV.c (CV.v (Value.iface 36 (Value.int IntKind.i64 (3 : Int))))]) [(Ar.box a 1), (Ar.row a)])
   (Tree.chk ((0 : Int) ≤ x ∧ (a.1 + Int.toNat x) * 8 ≤ 140737488355328)
   (Tree.chk (a.1 = a.1 ∧ a.2 = a.2)
   (Tree.all (fun c => a.1 + Int.toNat x ≤ c 0 ∧ c 0 ≤ maxLen) fun c => Tree.done (XV.tup [AV.c (iv (↑a.1 : Int)), AV.c (CV.v Value.nilIface)]) [(Ent.mkBox 72 [CV.sl 2 0 0 1 (a.1 + Int.toNat x) (c 0), iv a.4]), Ent.dead, (Ent.rw true 2 1 (a.1 + Int.toNat x) (c 0) fun ii => if ii < a.1 then [iv (a.3 ii)] else List.map CV.v [Value.int IntKind.i64 (0 : Int)])])))))))))
theorem talloc_eq (a : Ar) (x : Int) : xfunc tab (arG a) noInv Go.Proofs.Try.f20 [bptr 0 2, iav x] [a.box 1, a.row] [0, 1, 2] = talloc a x := by kernel_rfl
def tnew (x : Int) : Tree :=
  Tree.chk ((!decide (x < (1 : Int))) = true → (!decide (x < (1 : Int))) = true)
   (Tree.chk (decide (x < (1 : Int)) = false → (!decide (x < (1 : Int))) = true)
   (Tree.br (bif decide (x < (1 : Int)) then true else decide (x > (4096 : Int)))
   (Tree.done (XV.tup [AV.c (CV.v (Value.pointer none)), AV.c (CV.v (Value.iface 36 (Value.int IntKind.i64 (1 : Int))))]) [])
   (Tree.done (XV.tup [AV.c (CV.ptr ⟨1, 0, 0, 2, 0, 0, 0, 0⟩), AV.c (CV.v Value.nilIface)]) [(Ent.rw true 2 1 1 1 fun ii => [iv (0 : Int)]), (Ent.mkBox 72 [CV.sl 0 0 0 1 1 1, iv x])])))
theorem tnew_eq (x : Int) : xfunc tab noCtr noInv Go.Proofs.Try.f18 [iav x] [] [0, 1] = tnew x := by kernel_rfl
end Go.Proofs.Ytehecaipmdfjmaa.X.Mi

set_option linter.unusedVariables false
set_option linter.unusedSimpArgs false
namespace Go.Proofs.Ytehecaipmdfjmaa.X.Mi
open Go Go.RowKit Go.Proofs.YtehecaipmdfjmaaW.PrintWords Go.Proofs.Ytehecaipmdfjmaa.Base Go.Proofs.Ytehecaipmdfjmaa.X
def hasF (t : Tb) (i : Int) : Bool := bif decide (i ≥ 0) then decide (i < (t.n : Int)) else false
def dueF (now dl : Int) : Bool := bif decide (dl ≥ 0) then decide (now ≥ dl) else false
def Tb.upd (t : Tb) (i : Nat) (g : Pk → Pk) : Tb := { t with P := fun j => if j = i then g (t.P j) else t.P j }
def Pk.on (p : Pk) : Pk := { p with b := false, d := 0 }
def mayPF (t : Tb) (i dl : Int) : Bool := !(bif (t.P i.toNat).b then true else decide (dl < -1))
def waitF (t : Tb) (i dl : Int) : Bool := bif (t.P i.toNat).p then false else !(bif (t.P i.toNat).f then true else dueF t.now dl)
def parkF (t : Tb) (i dl : Int) : Tb := bif (t.P i.toNat).p then t.upd i.toNat fun p => { p with p := false } else bif waitF t i dl then t.upd i.toNat fun p => { p with b := true, d := dl } else t
def Pk.un (p : Pk) : Pk := { p with p := bif p.b then p.p else true, b := false, d := 0 }
def Pk.intr (p : Pk) : Pk := { p with f := true, b := false, d := 0 }
def Pk.clear (p : Pk) : Pk := { p with f := false }
abbrev tbC (t t' : Tb) (args : List AV) (x : XV) (ρ : List Nat) : CallSpec := mSpec ρ 0 (bptr 0 2 :: args) [t.box 1, t.row] (fun _ => True) (fun _ => x) fun _ => [t'.box 1, t'.row]
abbrev hasC (t : Tb) (i : Int) (ρ : List Nat) : CallSpec := tbC t t [iav i] (.a (.c (bv (hasF t i)))) ρ
abbrev dueC (now dl : Int) : CallSpec := mSpec [] 0 [iav now, iav dl] [] (fun _ => True) (fun _ => .a (.c (bv (dueF now dl)))) fun _ => []
abbrev onC (t : Tb) (i : Int) (ρ : List Nat) : CallSpec := tbC t (t.upd i.toNat Pk.on) [iav i] (.tup []) ρ
def parkG (t : Tb) (i dl : Int) (ρ : List Nat) : CallG := .br (hasF t i) (.br (mayPF t i dl) (.one (tbC t (parkF t i dl) [iav i, iav dl] (.tup [.c (bv (waitF t i dl)), .c nilE]) ρ)) (.one (tbC t t [iav i, iav dl] (.tup [.c (bv false), .c (errE 1)]) ρ))) (.one (tbC t t [iav i, iav dl] (.tup [.c (bv false), .c (errE 4)]) ρ))
def updG (t : Tb) (i : Int) (g : Pk → Pk) (ρ : List Nat) : CallG := .br (hasF t i) (.one (tbC t (t.upd i.toNat g) [iav i] (.a (.c nilE)) ρ)) (.one (tbC t t [iav i] (.a (.c (errE 4))) ρ))
def clearG (t : Tb) (i : Int) (ρ : List Nat) : CallG := .br (hasF t i) (.one (tbC t (t.upd i.toNat Pk.clear) [iav i] (.tup [.c (bv (t.P i.toNat).f), .c nilE]) ρ)) (.one (tbC t t [iav i] (.tup [.c (bv false), .c (errE 4)]) ρ))
def atG (t : Tb) (i : Int) (ρ : List Nat) : CallG := .br (hasF t i) (.one (tbC t t [iav i] (.tup [.agg (t.P i.toNat).cv, .c nilE]) ρ)) (.one (tbC t t [iav i] (.tup [.agg (Pk.cv ⟨false, false, false, 0⟩), .c (errE 4)]) ρ))
abbrev nowC (t : Tb) (ρ : List Nat) : CallSpec := tbC t t [] (ia t.now) ρ
def tbG (t : Tb) : Ctr := fun f args H => match args with
  | [.c (.v (.int _ x)), .c (.v (.int _ y))] => some (dueC x y)
  | [.c (.ptr r)] => some (nowC t [r.k, slAt H r.k 0])
  | [.c (.ptr r), .c (.v (.int _ x))] =>
    bif Nat.beq f 30 then some (hasC t x [r.k, slAt H r.k 0]) else
    bif Nat.beq f 44 then some (.ex Tb fun t => onC t x [r.k, slAt H r.k 0]) else
    bif Nat.beq f 40 then some (updG t x Pk.un [r.k, slAt H r.k 0]) else
    bif Nat.beq f 43 then some (updG t x Pk.intr [r.k, slAt H r.k 0]) else
    bif Nat.beq f 42 then some (clearG t x [r.k, slAt H r.k 0]) else
    bif Nat.beq f 22 then some (atG t x [r.k, slAt H r.k 0]) else none
  | [.c (.ptr r), .c (.v (.int _ x)), .c (.v (.int _ y))] => some (parkG t x y [r.k, slAt H r.k 0])
  | _ => none
def thas (t : Tb) (x : Int) : Tree :=
  Tree.chk (decide (x ≥ (0 : Int)) = true → decide (x ≥ (0 : Int)) = true)
   (Tree.chk (decide (x ≥ (0 : Int)) = true → decide (x ≥ (0 : Int)) = true)
   (Tree.chk (decide (x ≥ (0 : Int)) = true → decide (x ≥ (0 : Int)) = true)
   (Tree.chk (decide (x ≥ (0 : Int)) = true → decide (x ≥ (0 : Int)) = true)
   (Tree.chk (decide (x ≥ (0 : Int)) = true → decide (x ≥ (0 : Int)) = true)
   (Tree.chk (decide (x ≥ (0 : Int)) = true → decide (x ≥ (0 : Int)) = true)
   (Tree.chk (decide (x ≥ (0 : Int)) = true → decide (x ≥ (0 : Int)) = true)
   (Tree.done (XV.a (AV.c (CV.v (Value.bool (bif decide (x ≥ (0 : Int)) then decide (x < (↑t.1 : Int)) else false))))) [(Tb.box t 1), (Tb.row t)])))))))
theorem thas_eq (t : Tb) (x : Int) : xfunc tab noCtr noInv Go.Proofs.Try.f30 [bptr 0 2, iav x] [t.box 1, t.row] [0, 1] = thas t x := by kernel_rfl
def tdue (x y : Int) : Tree :=
  Tree.chk (decide (y ≥ (0 : Int)) = true → decide (y ≥ (0 : Int)) = true)
   (Tree.chk (decide (y ≥ (0 : Int)) = true → decide (y ≥ (0 : Int)) = true)
   (Tree.chk (decide (y ≥ (0 : Int)) = true → decide (y ≥ (0 : Int)) = true)
   (Tree.done (XV.a (AV.c (CV.v (Value.bool (bif decide (y ≥ (0 : Int)) then decide (x ≥ y) else false))))) [])))
theorem tdue_eq (x y : Int) : xfunc tab noCtr noInv Go.Proofs.Try.f39 [iav x, iav y] [] [] = tdue x y := by kernel_rfl
def ton (t : Tb) (x : Int) : Tree :=
  Tree.chk ((0 : Int) ≤ x ∧ x < (↑t.1 : Int) ∧ Int.toNat x < t.1 ∧ 0 < 1)
   (Tree.chk (0 < 1 ∧ Int.toNat x < t.1)
   (Tree.chk (AV.c (iv x) = AV.c (iv x))
   (Tree.chk ((0 : Int) ≤ x ∧ x < (↑t.1 : Int) ∧ Int.toNat x < t.1 ∧ 0 < 1)
   (Tree.chk (0 < 1 ∧ Int.toNat x < t.1)
   (Tree.br (decide (0 = 0 ∧ Int.toNat x = Int.toNat x))
   (Tree.done (XV.tup []) [(Tb.box t 1), { own := true, box := false, ty := 59, sz := 4, m := 1, n := fun a => t.1, cap := fun a => t.2, f := fun a a_1 => [CV.v (Value.bool (t.3 a_1).1), CV.v (Value.bool (t.3 a_1).2), CV.v (Value.bool (t.3 a_1).3), iv (t.3 a_1).4], ov := [(16, 0, Int.toNat x, [CV.v (Value.bool (t.3 (Int.toNat x)).1), CV.v (Value.bool (t.3 (Int.toNat x)).2), CV.v (Value.bool false), iv (0 : Int)]), (14, 0, Int.toNat x, [CV.v (Value.bool (t.3 (Int.toNat x)).1), CV.v (Value.bool (t.3 (Int.toNat x)).2), CV.v (Value.bool false), iv (t.3 (Int.toNat x)).4])] }])
   (Tree.done (XV.tup []) [(Tb.box t 1), { own := true, box := false, ty := 59, sz := 4, m := 1, n := fun a => t.1, cap := fun a => t.2, f := fun a a_1 => [CV.v (Value.bool (t.3 a_1).1), CV.v (Value.bool (t.3 a_1).2), CV.v (Value.bool (t.3 a_1).3), iv (t.3 a_1).4], ov := [(16, 0, Int.toNat x, [CV.v (Value.bool (t.3 (Int.toNat x)).1), CV.v (Value.bool (t.3 (Int.toNat x)).2), CV.v (Value.bool (t.3 (Int.toNat x)).3), iv (0 : Int)]), (14, 0, Int.toNat x, [CV.v (Value.bool (t.3 (Int.toNat x)).1), CV.v (Value.bool (t.3 (Int.toNat x)).2), CV.v (Value.bool false), iv (t.3 (Int.toNat x)).4])] }]))))))
theorem ton_eq (t : Tb) (x : Int) : xfunc tab noCtr noInv Go.Proofs.Try.f44 [bptr 0 2, iav x] [t.box 1, t.row] [0, 1] = ton t x := by kernel_rfl
def tnow (t : Tb) : Tree :=
  Tree.done (XV.a (AV.c (iv t.4))) [(Tb.box t 1), (Tb.row t)]
theorem tnow_eq (t : Tb) : xfunc tab noCtr noInv Go.Proofs.Try.f41 [bptr 0 2] [t.box 1, t.row] [0, 1] = tnow t := by kernel_rfl
def tat (t : Tb) (x : Int) : Tree :=
  Tree.callf 30 [AV.c (CV.ptr ⟨0, 0, 0, 2, 0, 0, 0, 0⟩), AV.c (iv x)] [(Tb.box t 1), (Tb.row t), (Ent.mkBox 59 [CV.v (Value.bool false), CV.v (Value.bool false), CV.v (Value.bool false), iv (0 : Int)])] (hasC t x [0, 1]) fun c => Tree.br (!hasF t x)
   (Tree.done (XV.tup [AV.agg [CV.v (Value.bool false), CV.v (Value.bool false), CV.v (Value.bool false), iv (0 : Int)], AV.c (CV.v (Value.iface 36 (Value.int IntKind.i64 (4 : Int))))]) [(Tb.box t 1), (Tb.row t), Ent.dead])
   (Tree.chk ((0 : Int) ≤ x ∧ x < (↑t.1 : Int) ∧ Int.toNat x < t.1 ∧ 0 < 1)
   (Tree.chk (0 < 1 ∧ Int.toNat x < t.1)
   (Tree.done (XV.tup [AV.agg [CV.v (Value.bool (t.3 (Int.toNat x)).1), CV.v (Value.bool (t.3 (Int.toNat x)).2), CV.v (Value.bool (t.3 (Int.toNat x)).3), iv (t.3 (Int.toNat x)).4], AV.c (CV.v Value.nilIface)]) [(Tb.box t 1), (Tb.row t), Ent.dead])))
theorem tat_eq (t : Tb) (x : Int) : xfunc tab (tbG t) noInv Go.Proofs.Try.f22 [bptr 0 2, iav x] [t.box 1, t.row] [0, 1] = tat t x := by kernel_rfl
def tpark (t : Tb) (x y : Int) : Tree :=
  Tree.callf 30 [AV.c (CV.ptr ⟨0, 0, 0, 2, 0, 0, 0, 0⟩), AV.c (iv x)] [(Tb.box t 1), (Tb.row t)] (hasC t x [0, 1]) fun c => Tree.br (!hasF t x)
   (Tree.done (XV.tup [AV.c (CV.v (Value.bool false)), AV.c (CV.v (Value.iface 36 (Value.int IntKind.i64 (4 : Int))))]) [(Tb.box t 1), (Tb.row t)])
   (Tree.chk ((0 : Int) ≤ x ∧ x < (↑t.1 : Int) ∧ Int.toNat x < t.1 ∧ 0 < 1)
   (Tree.chk (0 < 1 ∧ Int.toNat x < t.1)
   (Tree.chk ((!(t.3 (Int.toNat x)).3) = true → (!(t.3 (Int.toNat x)).3) = true)
   (Tree.chk ((t.3 (Int.toNat x)).3 = false → (!(t.3 (Int.toNat x)).3) = true)
   (Tree.br (bif (t.3 (Int.toNat x)).3 then true else decide (y < (-1 : Int)))
   (Tree.done (XV.tup [AV.c (CV.v (Value.bool false)), AV.c (CV.v (Value.iface 36 (Value.int IntKind.i64 (1 : Int))))]) [(Tb.box t 1), (Tb.row t)])
   (Tree.chk ((0 : Int) ≤ x ∧ x < (↑t.1 : Int) ∧ Int.toNat x < t.1 ∧ 0 < 1)
   (Tree.chk (0 < 1 ∧ Int.toNat x < t.1)
   (Tree.br (t.3 (Int.toNat x)).1
   (Tree.chk ((0 : Int) ≤ x ∧ x < (↑t.1 : Int) ∧ Int.toNat x < t.1 ∧ 0 < 1)
   (Tree.chk (0 < 1 ∧ Int.toNat x < t.1)
   (Tree.done (XV.tup [AV.c (CV.v (Value.bool false)), AV.c (CV.v Value.nilIface)]) [(Tb.box t 1), { own := true, box := false, ty := 59, sz := 4, m := 1, n := fun a => t.1, cap := fun a => t.2, f := fun a a_1 => [CV.v (Value.bool (t.3 a_1).1), CV.v (Value.bool (t.3 a_1).2), CV.v (Value.bool (t.3 a_1).3), iv (t.3 a_1).4], ov := [(42, 0, Int.toNat x, [CV.v (Value.bool false), CV.v (Value.bool (t.3 (Int.toNat x)).2), CV.v (Value.bool (t.3 (Int.toNat x)).3), iv (t.3 (Int.toNat x)).4])] }])))
   (Tree.chk ((0 : Int) ≤ x ∧ x < (↑t.1 : Int) ∧ Int.toNat x < t.1 ∧ 0 < 1)
   (Tree.chk (0 < 1 ∧ Int.toNat x < t.1)
   (Tree.chk ((!(t.3 (Int.toNat x)).2) = true → (!(t.3 (Int.toNat x)).2) = true)
   (Tree.chk ((!(t.3 (Int.toNat x)).2) = true → (!(t.3 (Int.toNat x)).2) = true)
   (Tree.chk ((!(t.3 (Int.toNat x)).2) = true → (!(t.3 (Int.toNat x)).2) = true)
   (Tree.br (!(t.3 (Int.toNat x)).2)
   (Tree.chk ((!(t.3 (Int.toNat x)).2) = true)
   (Tree.chk ((!(t.3 (Int.toNat x)).2) = true)
   (Tree.callf 39 [AV.c (iv t.4), AV.c (iv y)] [(Tb.box t 1), (Tb.row t)] (dueC t.4 y) fun c => Tree.br (bif (t.3 (Int.toNat x)).2 then true else dueF t.4 y)
   (Tree.done (XV.tup [AV.c (CV.v (Value.bool false)), AV.c (CV.v Value.nilIface)]) [(Tb.box t 1), (Tb.row t)])
   (Tree.chk ((0 : Int) ≤ x ∧ x < (↑t.1 : Int) ∧ Int.toNat x < t.1 ∧ 0 < 1)
   (Tree.chk (0 < 1 ∧ Int.toNat x < t.1)
   (Tree.chk (AV.c (iv y) = AV.c (iv y))
   (Tree.chk (AV.c (iv x) = AV.c (iv x))
   (Tree.chk ((0 : Int) ≤ x ∧ x < (↑t.1 : Int) ∧ Int.toNat x < t.1 ∧ 0 < 1)
   (Tree.chk (0 < 1 ∧ Int.toNat x < t.1)
   (Tree.br (decide (0 = 0 ∧ Int.toNat x = Int.toNat x))
   (Tree.done (XV.tup [AV.c (CV.v (Value.bool true)), AV.c (CV.v Value.nilIface)]) [(Tb.box t 1), { own := true, box := false, ty := 59, sz := 4, m := 1, n := fun a => t.1, cap := fun a => t.2, f := fun a a_1 => [CV.v (Value.bool (t.3 a_1).1), CV.v (Value.bool (t.3 a_1).2), CV.v (Value.bool (t.3 a_1).3), iv (t.3 a_1).4], ov := [(74, 0, Int.toNat x, [CV.v (Value.bool (t.3 (Int.toNat x)).1), CV.v (Value.bool (t.3 (Int.toNat x)).2), CV.v (Value.bool true), iv y]), (72, 0, Int.toNat x, [CV.v (Value.bool (t.3 (Int.toNat x)).1), CV.v (Value.bool (t.3 (Int.toNat x)).2), CV.v (Value.bool true), iv (t.3 (Int.toNat x)).4])] }])
   (Tree.done (XV.tup [AV.c (CV.v (Value.bool true)), AV.c (CV.v Value.nilIface)]) [(Tb.box t 1), { own := true, box := false, ty := 59, sz := 4, m := 1, n := fun a => t.1, cap := fun a => t.2, f := fun a a_1 => [CV.v (Value.bool (t.3 a_1).1), CV.v (Value.bool (t.3 a_1).2), CV.v (Value.bool (t.3 a_1).3), iv (t.3 a_1).4], ov := [(74, 0, Int.toNat x, [CV.v (Value.bool (t.3 (Int.toNat x)).1), CV.v (Value.bool (t.3 (Int.toNat x)).2), CV.v (Value.bool (t.3 (Int.toNat x)).3), iv y]), (72, 0, Int.toNat x, [CV.v (Value.bool (t.3 (Int.toNat x)).1), CV.v (Value.bool (t.3 (Int.toNat x)).2), CV.v (Value.bool true), iv (t.3 (Int.toNat x)).4])] }])))))))))))
   (Tree.chk ((t.3 (Int.toNat x)).2 = true)
   (Tree.br true
   (Tree.done (XV.tup [AV.c (CV.v (Value.bool false)), AV.c (CV.v Value.nilIface)]) [(Tb.box t 1), (Tb.row t)])
   (Tree.chk ((0 : Int) ≤ x ∧ x < (↑t.1 : Int) ∧ Int.toNat x < t.1 ∧ 0 < 1)
   (Tree.chk (0 < 1 ∧ Int.toNat x < t.1)
   (Tree.chk (AV.c (iv y) = AV.c (iv y))
   (Tree.chk (AV.c (iv x) = AV.c (iv x))
   (Tree.chk ((0 : Int) ≤ x ∧ x < (↑t.1 : Int) ∧ Int.toNat x < t.1 ∧ 0 < 1)
   (Tree.chk (0 < 1 ∧ Int.toNat x < t.1)
   (Tree.br (decide (0 = 0 ∧ Int.toNat x = Int.toNat x))
   (Tree.done (XV.tup [AV.c (CV.v (Value.bool true)), AV.c (CV.v Value.nilIface)]) [(Tb.box t 1), { own := true, box := false, ty := 59, sz := 4, m := 1, n := fun a => t.1, cap := fun a => t.2, f := fun a a_1 => [CV.v (Value.bool (t.3 a_1).1), CV.v (Value.bool (t.3 a_1).2), CV.v (Value.bool (t.3 a_1).3), iv (t.3 a_1).4], ov := [(74, 0, Int.toNat x, [CV.v (Value.bool (t.3 (Int.toNat x)).1), CV.v (Value.bool (t.3 (Int.toNat x)).2), CV.v (Value.bool true), iv y]), (72, 0, Int.toNat x, [CV.v (Value.bool (t.3 (Int.toNat x)).1), CV.v (Value.bool (t.3 (Int.toNat x)).2), CV.v (Value.bool true), iv (t.3 (Int.toNat x)).4])] }])
   (Tree.done (XV.tup [AV.c (CV.v (Value.bool true)), AV.c (CV.v Value.nilIface)]) [(Tb.box t 1), { own := true, box := false, ty := 59, sz := 4, m := 1, n := fun a => t.1, cap := fun a => t.2, f := fun a a_1 => [CV.v (Value.bool (t.3 a_1).1), CV.v (Value.bool (t.3 a_1).2), CV.v (Value.bool (t.3 a_1).3), iv (t.3 a_1).4], ov := [(74, 0, Int.toNat x, [CV.v (Value.bool (t.3 (Int.toNat x)).1), CV.v (Value.bool (t.3 (Int.toNat x)).2), CV.v (Value.bool (t.3 (Int.toNat x)).3), iv y]), (72, 0, Int.toNat x, [CV.v (Value.bool (t.3 (Int.toNat x)).1), CV.v (Value.bool (t.3 (Int.toNat x)).2), CV.v (Value.bool true), iv (t.3 (Int.toNat x)).4])] }]))))))))))))))))))))))))
theorem tpark_eq (t : Tb) (x y : Int) : xfunc tab (tbG t) noInv Go.Proofs.Try.f36 [bptr 0 2, iav x, iav y] [t.box 1, t.row] [0, 1] = tpark t x y := by kernel_rfl
def tunpark (t : Tb) (x : Int) : Tree :=
  Tree.callf 30 [AV.c (CV.ptr ⟨0, 0, 0, 2, 0, 0, 0, 0⟩), AV.c (iv x)] [(Tb.box t 1), (Tb.row t)] (hasC t x [0, 1]) fun c => Tree.br (!hasF t x)
   (Tree.done (XV.a (AV.c (CV.v (Value.iface 36 (Value.int IntKind.i64 (4 : Int)))))) [(Tb.box t 1), (Tb.row t)])
   (Tree.chk ((0 : Int) ≤ x ∧ x < (↑t.1 : Int) ∧ Int.toNat x < t.1 ∧ 0 < 1)
   (Tree.chk (0 < 1 ∧ Int.toNat x < t.1)
   (Tree.br (!(t.3 (Int.toNat x)).3)
   (Tree.chk ((0 : Int) ≤ x ∧ x < (↑t.1 : Int) ∧ Int.toNat x < t.1 ∧ 0 < 1)
   (Tree.chk (0 < 1 ∧ Int.toNat x < t.1)
   (Tree.some_ Tb fun s => Tree.callf 44 [AV.c (CV.ptr ⟨0, 0, 0, 2, 0, 0, 0, 0⟩), AV.c (iv x)] [(Tb.box t 1), { own := true, box := false, ty := 59, sz := 4, m := 1, n := fun a => t.1, cap := fun a => t.2, f := fun a a_1 => [CV.v (Value.bool (t.3 a_1).1), CV.v (Value.bool (t.3 a_1).2), CV.v (Value.bool (t.3 a_1).3), iv (t.3 a_1).4], ov := [(24, 0, Int.toNat x, [CV.v (Value.bool true), CV.v (Value.bool (t.3 (Int.toNat x)).2), CV.v (Value.bool (t.3 (Int.toNat x)).3), iv (t.3 (Int.toNat x)).4])] }] (onC s x [0, 1]) fun c => Tree.done (XV.a (AV.c (CV.v Value.nilIface))) [(Tb.box s 1), (Ent.rw true 59 4 s.1 s.2 fun ii => [CV.v (Value.bool (if ii = Int.toNat x then { p := (s.3 ii).1, f := (s.3 ii).2, b := false, d := (0 : Int) } else s.3 ii).1), CV.v (Value.bool (if ii = Int.toNat x then { p := (s.3 ii).1, f := (s.3 ii).2, b := false, d := (0 : Int) } else s.3 ii).2), CV.v (Value.bool (if ii = Int.toNat x then { p := (s.3 ii).1, f := (s.3 ii).2, b := false, d := (0 : Int) } else s.3 ii).3), iv (if ii = Int.toNat x then { p := (s.3 ii).1, f := (s.3 ii).2, b := false, d := (0 : Int) } else s.3 ii).4])])))
   (Tree.some_ Tb fun s => Tree.callf 44 [AV.c (CV.ptr ⟨0, 0, 0, 2, 0, 0, 0, 0⟩), AV.c (iv x)] [(Tb.box t 1), (Tb.row t)] (onC s x [0, 1]) fun c => Tree.done (XV.a (AV.c (CV.v Value.nilIface))) [(Tb.box s 1), (Ent.rw true 59 4 s.1 s.2 fun ii => [CV.v (Value.bool (if ii = Int.toNat x then { p := (s.3 ii).1, f := (s.3 ii).2, b := false, d := (0 : Int) } else s.3 ii).1), CV.v (Value.bool (if ii = Int.toNat x then { p := (s.3 ii).1, f := (s.3 ii).2, b := false, d := (0 : Int) } else s.3 ii).2), CV.v (Value.bool (if ii = Int.toNat x then { p := (s.3 ii).1, f := (s.3 ii).2, b := false, d := (0 : Int) } else s.3 ii).3), iv (if ii = Int.toNat x then { p := (s.3 ii).1, f := (s.3 ii).2, b := false, d := (0 : Int) } else s.3 ii).4])]))))
theorem tunpark_eq (t : Tb) (x : Int) : xfunc tab (tbG t) noInv Go.Proofs.Try.f40 [bptr 0 2, iav x] [t.box 1, t.row] [0, 1] = tunpark t x := by kernel_rfl
def tintr (t : Tb) (x : Int) : Tree :=
  Tree.callf 30 [AV.c (CV.ptr ⟨0, 0, 0, 2, 0, 0, 0, 0⟩), AV.c (iv x)] [(Tb.box t 1), (Tb.row t)] (hasC t x [0, 1]) fun c => Tree.br (!hasF t x)
   (Tree.done (XV.a (AV.c (CV.v (Value.iface 36 (Value.int IntKind.i64 (4 : Int)))))) [(Tb.box t 1), (Tb.row t)])
   (Tree.chk ((0 : Int) ≤ x ∧ x < (↑t.1 : Int) ∧ Int.toNat x < t.1 ∧ 0 < 1)
   (Tree.chk (0 < 1 ∧ Int.toNat x < t.1)
   (Tree.some_ Tb fun s => Tree.callf 44 [AV.c (CV.ptr ⟨0, 0, 0, 2, 0, 0, 0, 0⟩), AV.c (iv x)] [(Tb.box t 1), { own := true, box := false, ty := 59, sz := 4, m := 1, n := fun a => t.1, cap := fun a => t.2, f := fun a a_1 => [CV.v (Value.bool (t.3 a_1).1), CV.v (Value.bool (t.3 a_1).2), CV.v (Value.bool (t.3 a_1).3), iv (t.3 a_1).4], ov := [(15, 0, Int.toNat x, [CV.v (Value.bool (t.3 (Int.toNat x)).1), CV.v (Value.bool true), CV.v (Value.bool (t.3 (Int.toNat x)).3), iv (t.3 (Int.toNat x)).4])] }] (onC s x [0, 1]) fun c => Tree.done (XV.a (AV.c (CV.v Value.nilIface))) [(Tb.box s 1), (Ent.rw true 59 4 s.1 s.2 fun ii => [CV.v (Value.bool (if ii = Int.toNat x then { p := (s.3 ii).1, f := (s.3 ii).2, b := false, d := (0 : Int) } else s.3 ii).1), CV.v (Value.bool (if ii = Int.toNat x then { p := (s.3 ii).1, f := (s.3 ii).2, b := false, d := (0 : Int) } else s.3 ii).2), CV.v (Value.bool (if ii = Int.toNat x then { p := (s.3 ii).1, f := (s.3 ii).2, b := false, d := (0 : Int) } else s.3 ii).3), iv (if ii = Int.toNat x then { p := (s.3 ii).1, f := (s.3 ii).2, b := false, d := (0 : Int) } else s.3 ii).4])])))
theorem tintr_eq (t : Tb) (x : Int) : xfunc tab (tbG t) noInv Go.Proofs.Try.f43 [bptr 0 2, iav x] [t.box 1, t.row] [0, 1] = tintr t x := by kernel_rfl
def tclear (t : Tb) (x : Int) : Tree :=
  Tree.callf 30 [AV.c (CV.ptr ⟨0, 0, 0, 2, 0, 0, 0, 0⟩), AV.c (iv x)] [(Tb.box t 1), (Tb.row t)] (hasC t x [0, 1]) fun c => Tree.br (!hasF t x)
   (Tree.done (XV.tup [AV.c (CV.v (Value.bool false)), AV.c (CV.v (Value.iface 36 (Value.int IntKind.i64 (4 : Int))))]) [(Tb.box t 1), (Tb.row t)])
   (Tree.chk ((0 : Int) ≤ x ∧ x < (↑t.1 : Int) ∧ Int.toNat x < t.1 ∧ 0 < 1)
   (Tree.chk (0 < 1 ∧ Int.toNat x < t.1)
   (Tree.chk ((0 : Int) ≤ x ∧ x < (↑t.1 : Int) ∧ Int.toNat x < t.1 ∧ 0 < 1)
   (Tree.chk (0 < 1 ∧ Int.toNat x < t.1)
   (Tree.done (XV.tup [AV.c (CV.v (Value.bool (t.3 (Int.toNat x)).2)), AV.c (CV.v Value.nilIface)]) [(Tb.box t 1), { own := true, box := false, ty := 59, sz := 4, m := 1, n := fun a => t.1, cap := fun a => t.2, f := fun a a_1 => [CV.v (Value.bool (t.3 a_1).1), CV.v (Value.bool (t.3 a_1).2), CV.v (Value.bool (t.3 a_1).3), iv (t.3 a_1).4], ov := [(25, 0, Int.toNat x, [CV.v (Value.bool (t.3 (Int.toNat x)).1), CV.v (Value.bool false), CV.v (Value.bool (t.3 (Int.toNat x)).3), iv (t.3 (Int.toNat x)).4])] }])))))
theorem tclear_eq (t : Tb) (x : Int) : xfunc tab (tbG t) noInv Go.Proofs.Try.f42 [bptr 0 2, iav x] [t.box 1, t.row] [0, 1] = tclear t x := by kernel_rfl
def tnewt (x : Int) : Tree :=
  Tree.chk ((!decide (x < (1 : Int))) = true → (!decide (x < (1 : Int))) = true)
   (Tree.chk (decide (x < (1 : Int)) = false → (!decide (x < (1 : Int))) = true)
   (Tree.br (bif decide (x < (1 : Int)) then true else decide (x > (8 : Int)))
   (Tree.done (XV.tup [AV.c (CV.v (Value.pointer none)), AV.c (CV.v (Value.iface 36 (Value.int IntKind.i64 (1 : Int))))]) [])
   (Tree.chk ((0 : Int) ≤ x ∧ x ≤ x ∧ x * (↑16 : Int) ≤ (140737488355328 : Int))
   (Tree.done (XV.tup [AV.c (CV.ptr ⟨1, 0, 0, 2, 0, 0, 0, 0⟩), AV.c (CV.v Value.nilIface)]) [(Ent.rw true 59 4 (Int.toNat x) (Int.toNat x) fun ii => [CV.v (Value.bool false), CV.v (Value.bool false), CV.v (Value.bool false), iv (0 : Int)]), (Ent.mkBox 78 [CV.sl 0 0 0 4 (Int.toNat x) (Int.toNat x), iv (0 : Int)])]))))
theorem tnewt_eq (x : Int) : xfunc tab noCtr noInv Go.Proofs.Try.f19 [iav x] [] [0, 1] = tnewt x := by kernel_rfl
end Go.Proofs.Ytehecaipmdfjmaa.X.Mi

set_option linter.unusedVariables false
set_option linter.unusedSimpArgs false
namespace Go.Proofs.Ytehecaipmdfjmaa.X.Mi
open Go Go.RowKit Go.Proofs.YtehecaipmdfjmaaW.PrintWords Go.Proofs.Ytehecaipmdfjmaa.Base Go.Proofs.Ytehecaipmdfjmaa.X
theorem EntRel.ovs {n0 : Nat} {ρ : List Nat} {N ty sz : Nat} {n cap n2 cap2 : Nat → Nat} {own : Bool} {f : Nat → Nat → List CV} {f2 : Nat → List CV} {ov : List (Nat × Nat × Nat × List CV)} (hn : n2 0 = n 0) (hc : cap2 0 = cap 0) (h : ∀ i, i < n 0 → ovAt f 0 i ov = f2 i) (hp : ∀ i, plainB (f2 i) = true) :
    EntRel n0 ρ N ⟨own, false, ty, sz, 1, n, cap, f, ov⟩ ⟨own, false, ty, sz, 1, n2, cap2, fun _ i => f2 i, []⟩ :=
  EntRel.plain rfl rfl rfl rfl (fun h => by cases h) (fun j hj => by obtain rfl : j = 0 := Nat.lt_one_iff.1 hj; exact ⟨hn, hc⟩) fun j hj i hi => by
    obtain rfl : j = 0 := Nat.lt_one_iff.1 hj
    exact ⟨h i hi, hp i⟩
theorem here_of {a : Ar} {x : Int} (h : hereF a x = true) : 1 ≤ x ∧ x < a.n := by
  unfold hereF at h
  cases h1 : decide (x ≥ 1) with
  | true => rw [h1, cond_true] at h; simp at h1 h; omega
  | false => rw [h1, cond_false] at h; cases h
theorem has_of {t : Tb} {x : Int} (h : hasF t x = true) : 0 ≤ x ∧ x < t.n := by
  unfold hasF at h
  cases h1 : decide (x ≥ 0) with
  | true => rw [h1, cond_true] at h; simp at h1 h; omega
  | false => rw [h1, cond_false] at h; cases h
theorem len_call : Callable Try.prog 11 := ⟨_, Try.func11, by kernel_rfl, rfl⟩
theorem here_call : Callable Try.prog 27 := ⟨_, Try.func27, by kernel_rfl, rfl⟩
theorem len_local (a : Ar) (ρ : List Nat) : (lenC a ρ).Local Try.prog 11 := by
  refine local_of Try.func11 rfl (tlen_eq a) fun ν w => ?_
  exact ok_leaf (fun _ => 0) [] [0, 1] trivial rfl ⟨⟨_, rfl, EntRel.box' rfl rfl rfl rfl rfl⟩, ⟨_, rfl, EntRel.rw rfl rfl (fun _ _ => rfl) fun _ _ => rfl⟩, trivial⟩ rfl
theorem here_local (a : Ar) (x : Int) (ρ : List Nat) : (hereC a x ρ).Local Try.prog 27 := by
  refine local_of Try.func27 rfl (there__eq a x) fun ν w => ?_
  repeat refine ok_chk' (fun h => h) ?_
  exact ok_leaf (fun _ => 0) [] [0, 1] trivial rfl ⟨⟨_, rfl, EntRel.box' rfl rfl rfl rfl rfl⟩, ⟨_, rfl, EntRel.rw rfl rfl (fun _ _ => rfl) fun _ _ => rfl⟩, trivial⟩ rfl
theorem load_local (a : Ar) (x : Int) (ρ : List Nat) : (hereF a x = true → (loadC a x (a.C x.toNat) nilE ρ).Local Try.prog 13) ∧ (hereF a x = false → (loadC a x 0 (errE 6) ρ).Local Try.prog 13) := by
  refine ⟨fun h => ?_, fun h => ?_⟩
  · refine local_of Try.func13 rfl (tload_eq a x) fun ν w => ?_
    refine ok_callf' here_call (fits_of rfl rfl ⟨⟨_, rfl, EntRel.box' rfl rfl rfl rfl rfl⟩, ⟨_, rfl, EntRel.rw rfl rfl (fun _ _ => rfl) fun _ _ => rfl⟩, trivial⟩ fun c _ => ⟨⟨Nat.le_refl _, rfl⟩, ⟨rfl, rfl⟩, ⟨⟨EntRel.box' rfl rfl rfl rfl rfl, rfl, (fun _ => ⟨rfl, rfl⟩), .inr rfl⟩, ⟨EntRel.rw rfl rfl (fun _ _ => rfl) fun _ _ => rfl, rfl, (fun h => by cases h), .inr rfl⟩, trivial⟩⟩) (here_local a x _) fun c _ => ok_br' (fun h2 => by rw [h] at h2; cases h2) fun _ => ?_
    have := here_of h
    refine ok_chk' ⟨by omega, by omega, by omega, by omega⟩ (ok_chk' ⟨by omega, by omega⟩ ?_)
    exact ok_leaf (fun _ => 0) [] [0, 1] trivial rfl ⟨⟨_, rfl, EntRel.box' rfl rfl rfl rfl rfl⟩, ⟨_, rfl, EntRel.rw rfl rfl (fun _ _ => rfl) fun _ _ => rfl⟩, trivial⟩ rfl
  · refine local_of Try.func13 rfl (tload_eq a x) fun ν w => ?_
    refine ok_callf' here_call (fits_of rfl rfl ⟨⟨_, rfl, EntRel.box' rfl rfl rfl rfl rfl⟩, ⟨_, rfl, EntRel.rw rfl rfl (fun _ _ => rfl) fun _ _ => rfl⟩, trivial⟩ fun c _ => ⟨⟨Nat.le_refl _, rfl⟩, ⟨rfl, rfl⟩, ⟨⟨EntRel.box' rfl rfl rfl rfl rfl, rfl, (fun _ => ⟨rfl, rfl⟩), .inr rfl⟩, ⟨EntRel.rw rfl rfl (fun _ _ => rfl) fun _ _ => rfl, rfl, (fun h => by cases h), .inr rfl⟩, trivial⟩⟩) (here_local a x _) fun c _ => ok_br' (fun _ => ?_) fun h2 => by rw [h] at h2; cases h2
    exact ok_leaf (fun _ => 0) [] [0, 1] trivial rfl ⟨⟨_, rfl, EntRel.box' rfl rfl rfl rfl rfl⟩, ⟨_, rfl, EntRel.rw rfl rfl (fun _ _ => rfl) fun _ _ => rfl⟩, trivial⟩ rfl
theorem store_local (a : Ar) (x v : Int) (ρ : List Nat) : (hereF a x = true → (storeC a (a.set x.toNat v) x v nilE ρ).Local Try.prog 21) ∧ (hereF a x = false → (storeC a a x v (errE 6) ρ).Local Try.prog 21) := by
  refine ⟨fun h => ?_, fun h => ?_⟩
  · refine local_of Try.func21 rfl (tstore_eq a x v) fun ν w => ?_
    have hh := here_of h
    refine ok_callf' here_call (fits_of rfl rfl ⟨⟨_, rfl, EntRel.box' rfl rfl rfl rfl rfl⟩, ⟨_, rfl, EntRel.rw rfl rfl (fun _ _ => rfl) fun _ _ => rfl⟩, trivial⟩ fun c _ => ⟨⟨Nat.le_refl _, rfl⟩, ⟨rfl, rfl⟩, ⟨⟨EntRel.box' rfl rfl rfl rfl rfl, rfl, (fun _ => ⟨rfl, rfl⟩), .inr rfl⟩, ⟨EntRel.rw rfl rfl (fun _ _ => rfl) fun _ _ => rfl, rfl, (fun h => by cases h), .inr rfl⟩, trivial⟩⟩) (here_local a x _) fun c _ => ?_
    repeat' first | (exfalso; simp_all; done) | refine ok_br' (fun h => ?_) (fun h => ?_) | (refine ok_chk' ?_ ?_; focus (first | rfl | exact fun h => h | exact ⟨by omega, by omega, by omega, by omega⟩ | exact ⟨by omega, by omega⟩ | exact ⟨rfl, rfl⟩ | exact ⟨rfl, trivial⟩ | (simp_all; done)))
    first | exact ok_leaf (fun _ => 0) [] [0, 1] trivial rfl ⟨⟨_, rfl, EntRel.box' rfl rfl rfl rfl rfl⟩, ⟨_, rfl, EntRel.rw rfl rfl (fun _ _ => rfl) fun _ _ => rfl⟩, trivial⟩ rfl | exact ok_leaf (fun _ => 0) [] [0, 1] trivial rfl ⟨⟨_, rfl, EntRel.box' rfl rfl rfl rfl rfl⟩, ⟨_, rfl, EntRel.ovs rfl rfl (fun i _ => (by by_cases hq : i = x.toNat <;> simp [ovAt, hq, Ar.set, Tb.upd, Pk.cv, Pk.on, Pk.un, Pk.intr, Pk.clear, *])) fun _ => rfl⟩, trivial⟩ rfl
  · refine local_of Try.func21 rfl (tstore_eq a x v) fun ν w => ?_
    refine ok_callf' here_call (fits_of rfl rfl ⟨⟨_, rfl, EntRel.box' rfl rfl rfl rfl rfl⟩, ⟨_, rfl, EntRel.rw rfl rfl (fun _ _ => rfl) fun _ _ => rfl⟩, trivial⟩ fun c _ => ⟨⟨Nat.le_refl _, rfl⟩, ⟨rfl, rfl⟩, ⟨⟨EntRel.box' rfl rfl rfl rfl rfl, rfl, (fun _ => ⟨rfl, rfl⟩), .inr rfl⟩, ⟨EntRel.rw rfl rfl (fun _ _ => rfl) fun _ _ => rfl, rfl, (fun h => by cases h), .inr rfl⟩, trivial⟩⟩) (here_local a x _) fun c _ => ?_
    repeat' first | (exfalso; simp_all; done) | refine ok_br' (fun h => ?_) (fun h => ?_) | (refine ok_chk' ?_ ?_; focus (first | rfl | exact fun h => h | exact ⟨by omega, by omega, by omega, by omega⟩ | exact ⟨by omega, by omega⟩ | exact ⟨rfl, rfl⟩ | exact ⟨rfl, trivial⟩ | (simp_all; done)))
    first | exact ok_leaf (fun _ => 0) [] [0, 1] trivial rfl ⟨⟨_, rfl, EntRel.box' rfl rfl rfl rfl rfl⟩, ⟨_, rfl, EntRel.rw rfl rfl (fun _ _ => rfl) fun _ _ => rfl⟩, trivial⟩ rfl | exact ok_leaf (fun _ => 0) [] [0, 1] trivial rfl ⟨⟨_, rfl, EntRel.box' rfl rfl rfl rfl rfl⟩, ⟨_, rfl, EntRel.ovs rfl rfl (fun i _ => (by by_cases hq : i = x.toNat <;> simp [ovAt, hq, Ar.set, Tb.upd, Pk.cv, Pk.on, Pk.un, Pk.intr, Pk.clear, *])) fun _ => rfl⟩, trivial⟩ rfl
theorem swap_local (a : Ar) (x y z : Int) (ρ : List Nat) : (hereF a x = true → (swapC a (swapF a x y z) x y z (a.C x.toNat == y) nilE ρ).Local Try.prog 38) ∧ (hereF a x = false → (swapC a a x y z false (errE 6) ρ).Local Try.prog 38) := by
  refine ⟨fun h => ?_, fun h => ?_⟩
  · refine local_of Try.func38 rfl (tswap_eq a x y z) fun ν w => ?_
    have hh := here_of h
    refine ok_callf' here_call (fits_of rfl rfl ⟨⟨_, rfl, EntRel.box' rfl rfl rfl rfl rfl⟩, ⟨_, rfl, EntRel.rw rfl rfl (fun _ _ => rfl) fun _ _ => rfl⟩, trivial⟩ fun c _ => ⟨⟨Nat.le_refl _, rfl⟩, ⟨rfl, rfl⟩, ⟨⟨EntRel.box' rfl rfl rfl rfl rfl, rfl, (fun _ => ⟨rfl, rfl⟩), .inr rfl⟩, ⟨EntRel.rw rfl rfl (fun _ _ => rfl) fun _ _ => rfl, rfl, (fun h => by cases h), .inr rfl⟩, trivial⟩⟩) (here_local a x _) fun c _ => ok_br' (fun h2 => by rw [h] at h2; cases h2) fun _ => ?_
    refine ok_chk' ⟨by omega, by omega, by omega, by omega⟩ (ok_chk' ⟨by omega, by omega⟩ (ok_br' (fun h2 => ?_) fun h2 => ?_))
    · have h3 : (a.C x.toNat == y) = false := by simpa [bne] using h2
      have h4 : swapF a x y z = a := by simp only [swapF, h3, cond_false]
      rw [h3, h4]
      first | exact ok_leaf (fun _ => 0) [] [0, 1] trivial rfl ⟨⟨_, rfl, EntRel.box' rfl rfl rfl rfl rfl⟩, ⟨_, rfl, EntRel.rw rfl rfl (fun _ _ => rfl) fun _ _ => rfl⟩, trivial⟩ rfl | exact ok_leaf (fun _ => 0) [] [0, 1] trivial rfl ⟨⟨_, rfl, EntRel.box' rfl rfl rfl rfl rfl⟩, ⟨_, rfl, EntRel.ovs rfl rfl (fun i _ => (by by_cases hq : i = x.toNat <;> simp [ovAt, hq, Ar.set, Tb.upd, Pk.cv, Pk.on, Pk.un, Pk.intr, Pk.clear, *])) fun _ => rfl⟩, trivial⟩ rfl
    · have h3 : (a.C x.toNat == y) = true := by simpa [bne] using h2
      have h4 : swapF a x y z = a.set x.toNat z := by simp only [swapF, h3, cond_true]
      rw [h3, h4]
      refine ok_chk' ⟨by omega, by omega, by omega, by omega⟩ (ok_chk' ⟨by omega, by omega⟩ ?_)
      first | exact ok_leaf (fun _ => 0) [] [0, 1] trivial rfl ⟨⟨_, rfl, EntRel.box' rfl rfl rfl rfl rfl⟩, ⟨_, rfl, EntRel.rw rfl rfl (fun _ _ => rfl) fun _ _ => rfl⟩, trivial⟩ rfl | exact ok_leaf (fun _ => 0) [] [0, 1] trivial rfl ⟨⟨_, rfl, EntRel.box' rfl rfl rfl rfl rfl⟩, ⟨_, rfl, EntRel.ovs rfl rfl (fun i _ => (by by_cases hq : i = x.toNat <;> simp [ovAt, hq, Ar.set, Tb.upd, Pk.cv, Pk.on, Pk.un, Pk.intr, Pk.clear, *])) fun _ => rfl⟩, trivial⟩ rfl
  · refine local_of Try.func38 rfl (tswap_eq a x y z) fun ν w => ?_
    refine ok_callf' here_call (fits_of rfl rfl ⟨⟨_, rfl, EntRel.box' rfl rfl rfl rfl rfl⟩, ⟨_, rfl, EntRel.rw rfl rfl (fun _ _ => rfl) fun _ _ => rfl⟩, trivial⟩ fun c _ => ⟨⟨Nat.le_refl _, rfl⟩, ⟨rfl, rfl⟩, ⟨⟨EntRel.box' rfl rfl rfl rfl rfl, rfl, (fun _ => ⟨rfl, rfl⟩), .inr rfl⟩, ⟨EntRel.rw rfl rfl (fun _ _ => rfl) fun _ _ => rfl, rfl, (fun h => by cases h), .inr rfl⟩, trivial⟩⟩) (here_local a x _) fun c _ => ?_
    repeat' first | (exfalso; simp_all; done) | refine ok_br' (fun h => ?_) (fun h => ?_) | (refine ok_chk' ?_ ?_; focus (first | rfl | exact fun h => h | exact ⟨by omega, by omega, by omega, by omega⟩ | exact ⟨by omega, by omega⟩ | exact ⟨rfl, rfl⟩ | exact ⟨rfl, trivial⟩ | (simp_all; done)))
    first | exact ok_leaf (fun _ => 0) [] [0, 1] trivial rfl ⟨⟨_, rfl, EntRel.box' rfl rfl rfl rfl rfl⟩, ⟨_, rfl, EntRel.rw rfl rfl (fun _ _ => rfl) fun _ _ => rfl⟩, trivial⟩ rfl | exact ok_leaf (fun _ => 0) [] [0, 1] trivial rfl ⟨⟨_, rfl, EntRel.box' rfl rfl rfl rfl rfl⟩, ⟨_, rfl, EntRel.ovs rfl rfl (fun i _ => (by by_cases hq : i = x.toNat <;> simp [ovAt, hq, Ar.set, Tb.upd, Pk.cv, Pk.on, Pk.un, Pk.intr, Pk.clear, *])) fun _ => rfl⟩, trivial⟩ rfl
theorem lenF_eq {a : Ar} (h : a.Ok) : lenF a = (a.n : Int) - 1 := wrap64 (by have := h.n1; omega) (by have := h.nm; have := h.m1; omega)
theorem full_of {a : Ar} (ha : a.Ok) {n : Int} (h : fullF a n = false) : n ≤ a.most - ((a.n : Int) - 1) := by
  have h1 := ha.n1
  have h2 := ha.nm
  have h3 := ha.m1
  have h4 := ha.m0
  unfold fullF at h
  rw [lenF_eq ha, wrap64 (by omega) (by omega)] at h
  simpa using h
theorem alloc_local (a : Ar) (x : Int) (ρ : List Nat) (k : Nat) (ha : a.Ok) : (decide (x < 1) = true → (allocC a a x 0 (errE 1) ρ k).Local Try.prog 20) ∧ (decide (x < 1) = false → fullF a x = true → (allocC a a x 0 (errE 3) ρ k).Local Try.prog 20) ∧
    (decide (x < 1) = false → fullF a x = false → (allocC a (a.more x.toNat) x a.n nilE ρ k).Local Try.prog 20) := by
  refine ⟨fun h => ?_, fun h hf => ?_, fun h hf => ?_⟩
  · refine local_of Try.func20 rfl (talloc_eq a x) fun ν w => ok_br' (fun _ => ?_) fun h2 => by rw [h] at h2; cases h2
    exact ok_leaf2 (fun _ => a.cap) [] [0, 1, 1] trivial rfl ⟨.inr ⟨_, rfl, EntRel.box' rfl rfl rfl rfl rfl⟩, .inl rfl, .inr ⟨_, rfl, EntRel.rw rfl rfl (fun _ _ => rfl) fun _ _ => rfl⟩, trivial⟩ rfl
  · refine local_of Try.func20 rfl (talloc_eq a x) fun ν w => ok_br' (fun h2 => by rw [h] at h2; cases h2) fun _ => ?_
    refine ok_callf' len_call (fits_of rfl rfl ⟨⟨_, rfl, EntRel.box' rfl rfl rfl rfl rfl⟩, ⟨_, rfl, EntRel.rw rfl rfl (fun _ _ => rfl) fun _ _ => rfl⟩, trivial⟩ fun c _ => ⟨⟨Nat.le_refl _, rfl⟩, ⟨rfl, rfl⟩, ⟨⟨EntRel.box' rfl rfl rfl rfl rfl, rfl, (fun _ => ⟨rfl, rfl⟩), .inr rfl⟩, ⟨EntRel.rw rfl rfl (fun _ _ => rfl) fun _ _ => rfl, rfl, (fun h => by cases h), .inr rfl⟩, trivial⟩⟩) (len_local a _) fun c _ => ?_
    repeat refine ok_chk' rfl ?_
    refine ok_br' (fun h2 => ?_) fun h2 => by rw [show decide (x > IntKind.wrap IntKind.i64 (a.4 - lenF a)) = true from hf] at h2; cases h2
    exact ok_leaf2 (fun _ => a.cap) [] [0, 1, 1] trivial rfl ⟨.inr ⟨_, rfl, EntRel.box' rfl rfl rfl rfl rfl⟩, .inl rfl, .inr ⟨_, rfl, EntRel.rw rfl rfl (fun _ _ => rfl) fun _ _ => rfl⟩, trivial⟩ rfl
  · have h1 := full_of ha hf
    have h2 := ha.n1
    have h3 := ha.nm
    have h4 := ha.m1
    have h5 : 1 ≤ x := by simpa using h
    refine local_of Try.func20 rfl (talloc_eq a x) fun ν w => ok_br' (fun h2 => by rw [h] at h2; cases h2) fun _ => ?_
    refine ok_callf' len_call (fits_of rfl rfl ⟨⟨_, rfl, EntRel.box' rfl rfl rfl rfl rfl⟩, ⟨_, rfl, EntRel.rw rfl rfl (fun _ _ => rfl) fun _ _ => rfl⟩, trivial⟩ fun c _ => ⟨⟨Nat.le_refl _, rfl⟩, ⟨rfl, rfl⟩, ⟨⟨EntRel.box' rfl rfl rfl rfl rfl, rfl, (fun _ => ⟨rfl, rfl⟩), .inr rfl⟩, ⟨EntRel.rw rfl rfl (fun _ _ => rfl) fun _ _ => rfl, rfl, (fun h => by cases h), .inr rfl⟩, trivial⟩⟩) (len_local a _) fun c _ => ?_
    repeat refine ok_chk' rfl ?_
    refine ok_br' (fun h2 => by rw [show decide (x > IntKind.wrap IntKind.i64 (a.4 - lenF a)) = false from hf] at h2; cases h2) fun _ => ?_
    refine ok_chk' ⟨by omega, by omega⟩ (ok_chk' ⟨rfl, rfl⟩ (ok_all' fun c hc => ?_))
    refine ok_leaf2 c [] [0, 1, 2] trivial rfl ⟨.inr ⟨_, rfl, EntRel.box' rfl rfl rfl rfl rfl⟩, .inl rfl, .inr ⟨_, rfl, EntRel.rw rfl rfl (fun i _ => ?_) fun _ _ => rfl⟩, trivial⟩ rfl
    show (if i < a.n then [iv (a.C i)] else [iv 0]) = [iv (if i < a.n then a.C i else 0)]
    split <;> rfl
theorem has_call : Callable Try.prog 30 := ⟨_, Try.func30, by kernel_rfl, rfl⟩
theorem due_call : Callable Try.prog 39 := ⟨_, Try.func39, by kernel_rfl, rfl⟩
theorem on_call : Callable Try.prog 44 := ⟨_, Try.func44, by kernel_rfl, rfl⟩
theorem has_local (t : Tb) (x : Int) (ρ : List Nat) : (hasC t x ρ).Local Try.prog 30 := by
  refine local_of Try.func30 rfl (thas_eq t x) fun ν w => ?_
  repeat refine ok_chk' (fun h => h) ?_
  exact ok_leaf (fun _ => 0) [] [0, 1] trivial rfl ⟨⟨_, rfl, EntRel.box' rfl rfl rfl rfl rfl⟩, ⟨_, rfl, EntRel.rw rfl rfl (fun _ _ => rfl) fun _ _ => rfl⟩, trivial⟩ rfl
theorem due_local (x y : Int) : (dueC x y).Local Try.prog 39 := by
  refine local_of Try.func39 rfl (tdue_eq x y) fun ν w => ?_
  repeat refine ok_chk' (fun h => h) ?_
  exact ok_leaf (fun _ => 0) [] [] trivial rfl trivial rfl
theorem now_local (t : Tb) (ρ : List Nat) : (nowC t ρ).Local Try.prog 41 := by
  refine local_of Try.func41 rfl (tnow_eq t) fun ν w => ?_
  exact ok_leaf (fun _ => 0) [] [0, 1] trivial rfl ⟨⟨_, rfl, EntRel.box' rfl rfl rfl rfl rfl⟩, ⟨_, rfl, EntRel.rw rfl rfl (fun _ _ => rfl) fun _ _ => rfl⟩, trivial⟩ rfl
theorem on_local (t : Tb) (x : Int) (ρ : List Nat) (h : hasF t x = true) : (onC t x ρ).Local Try.prog 44 := by
  refine local_of Try.func44 rfl (ton_eq t x) fun ν w => ?_
  have hh := has_of h
  repeat' first | (exfalso; simp_all; done) | refine ok_br' (fun h => ?_) (fun h => ?_) | (refine ok_chk' ?_ ?_; focus (first | rfl | exact fun h => h | exact ⟨by omega, by omega, by omega, by omega⟩ | exact ⟨by omega, by omega⟩ | exact ⟨rfl, rfl⟩ | exact ⟨rfl, trivial⟩ | (simp_all; done)))
  all_goals first | exact ok_leaf (fun _ => 0) [] [0, 1] trivial rfl ⟨⟨_, rfl, EntRel.box' rfl rfl rfl rfl rfl⟩, ⟨_, rfl, EntRel.rw rfl rfl (fun _ _ => rfl) fun _ _ => rfl⟩, trivial⟩ rfl | exact ok_leaf (fun _ => 0) [] [0, 1] trivial rfl ⟨⟨_, rfl, EntRel.box' rfl rfl rfl rfl rfl⟩, ⟨_, rfl, EntRel.ovs rfl rfl (fun i _ => (by by_cases hq : i = x.toNat <;> simp [ovAt, hq, Ar.set, Tb.upd, Pk.cv, Pk.on, Pk.un, Pk.intr, Pk.clear, *])) fun _ => rfl⟩, trivial⟩ rfl
theorem at_local (t : Tb) (x : Int) (ρ : List Nat) : (hasF t x = true → (tbC t t [iav x] (.tup [.agg (t.P x.toNat).cv, .c nilE]) ρ).Local Try.prog 22) ∧ (hasF t x = false → (tbC t t [iav x] (.tup [.agg (Pk.cv ⟨false, false, false, 0⟩), .c (errE 4)]) ρ).Local Try.prog 22) := by
  refine ⟨fun h => ?_, fun h => ?_⟩
  all_goals
    refine local_of Try.func22 rfl (tat_eq t x) fun ν w => ?_
    have hh := fun hx => @has_of t x hx
    refine ok_callf' has_call (fits_of rfl rfl ⟨⟨_, rfl, EntRel.box' rfl rfl rfl rfl rfl⟩, ⟨_, rfl, EntRel.rw rfl rfl (fun _ _ => rfl) fun _ _ => rfl⟩, trivial⟩ fun c _ => ⟨⟨Nat.le_refl _, rfl⟩, ⟨rfl, rfl⟩, ⟨⟨EntRel.box' rfl rfl rfl rfl rfl, rfl, (fun _ => ⟨rfl, rfl⟩), .inr rfl⟩, ⟨EntRel.rw rfl rfl (fun _ _ => rfl) fun _ _ => rfl, rfl, (fun h => by cases h), .inr rfl⟩, trivial⟩⟩) (has_local t x _) fun c _ => ?_
    simp only [h, true_implies] at hh
    repeat' first | (exfalso; simp_all; done) | refine ok_br' (fun h => ?_) (fun h => ?_) | (refine ok_chk' ?_ ?_; focus (first | rfl | exact fun h => h | exact ⟨by omega, by omega, by omega, by omega⟩ | exact ⟨by omega, by omega⟩ | exact ⟨rfl, rfl⟩ | exact ⟨rfl, trivial⟩ | (simp_all; done)))
    first | exact ok_leaf (fun _ => 0) [] [0, 1] trivial rfl ⟨⟨_, rfl, EntRel.box' rfl rfl rfl rfl rfl⟩, ⟨_, rfl, EntRel.rw rfl rfl (fun _ _ => rfl) fun _ _ => rfl⟩, trivial⟩ rfl | exact ok_leaf (fun _ => 0) [] [0, 1] trivial rfl ⟨⟨_, rfl, EntRel.box' rfl rfl rfl rfl rfl⟩, ⟨_, rfl, EntRel.ovs rfl rfl (fun i _ => (by by_cases hq : i = x.toNat <;> simp [ovAt, hq, Ar.set, Tb.upd, Pk.cv, Pk.on, Pk.un, Pk.intr, Pk.clear, *])) fun _ => rfl⟩, trivial⟩ rfl
end Go.Proofs.Ytehecaipmdfjmaa.X.Mi

set_option linter.unusedVariables false
set_option linter.unusedSimpArgs false
namespace Go.Proofs.Ytehecaipmdfjmaa.X.Mi
open Go Go.RowKit Go.Proofs.YtehecaipmdfjmaaW.PrintWords Go.Proofs.Ytehecaipmdfjmaa.Base Go.Proofs.Ytehecaipmdfjmaa.X
structure Mc where
  ar : Ar
  tb : Tb
  i : Int
  v : Int
  nF : Nat
  cF : Nat
  F : Nat → Fr
  nN : Nat
  cN : Nat
  N : Nat → Int × Int
structure Cd where
  own : Bool
  n : Nat
  cap : Nat
  I : Nat → In
abbrev Cd.row (c : Cd) : Ent := Ent.rw c.own 40 5 c.n c.cap fun i => (c.I i).cv
abbrev frow (own : Bool) (n cap : Nat) (F : Nat → Fr) : Ent := Ent.rw own 66 17 n cap fun i => (F i).cv
abbrev nrow (own : Bool) (n cap : Nat) (N : Nat → Int × Int) : Ent := Ent.rw own 80 2 n cap fun i => [iv (N i).1, iv (N i).2]
abbrev Mc.box (m : Mc) (d : Cd) (kd ka kt kf kn : Nat) : Ent := Ent.mkBox 68 [.sl kd 0 0 5 d.n d.cap, .ptr (bref ka 2), .ptr (bref kt 2), iv m.i, .sl kf 0 0 17 m.nF m.cF, .sl kn 0 0 2 m.nN m.cN, iv m.v]
abbrev Mc.H (m : Mc) (d : Cd) : Hp := [m.box d 1 2 4 6 7, d.row, m.ar.box 3, m.ar.row, m.tb.box 5, m.tb.row, frow true m.nF m.cF m.F, nrow true m.nN m.cN m.N]
def Fr.set (f : Fr) (d : Nat) (v : Int) : Fr := { f with r := fun k => if d = k then v else f.r k }
def Mc.upd (m : Mc) (q : Nat) (g : Fr → Fr) : Mc := { m with F := fun j => if j = q then g (m.F j) else m.F j }
def Mc.setR (m : Mc) (q : Nat) (d : Int) (v : Int) : Mc := m.upd q fun f => f.set d.toNat v
abbrev wr (x : Int) : Int := IntKind.wrap .i64 x
def Mc.reg (m : Mc) (q : Nat) (d : Int) : Int := (m.F q).r d.toNat
def accAt (m : Mc) (x : In) (q : Nat) : Int := wr (m.reg q x.b + x.n)
def accF (m : Mc) (x : In) (q : Nat) : Mc × Bool :=
  bif hereF m.ar (accAt m x q) then
    bif x.op == 5 then (m.setR q x.a (m.ar.C (accAt m x q).toNat), true)
    else bif x.op == 6 then ({ m with ar := m.ar.set (accAt m x q).toNat (m.reg q x.a) }, true)
    else (({ m with ar := swapF m.ar (accAt m x q) (m.reg q x.a) (m.reg q (wr (x.a + 1))) }).setR q (wr (x.a + 2)) (bif m.ar.C (accAt m x q).toNat == m.reg q x.a then 1 else 0), true)
  else (m, false)
def jumpsF (f : Fr) (x : In) : Bool :=
  bif x.op == 8 then true
  else bif x.op == 9 then f.r x.a.toNat == f.r x.b.toNat
  else bif x.op == 10 then f.r x.a.toNat != f.r x.b.toNat
  else decide (f.r x.a.toNat < f.r x.b.toNat)
def Mc.note (m : Mc) (k v : Int) : Mc := { m with nN := m.nN + 1, N := fun j => if j < m.nN then m.N j else (k, v) }
def posF (n : Int) : Int := if 0 > n then 0 else n
def plainF (m : Mc) (x : In) (q : Nat) : Mc × Bool :=
  bif x.op == 1 then (m.setR q x.a x.n, true)
  else bif x.op == 2 then (m.setR q x.a (m.reg q x.b), true)
  else bif x.op == 3 then (m.setR q x.a (wr (m.reg q x.b + m.reg q x.c)), true)
  else bif x.op == 4 then (m.setR q x.a (wr (m.reg q x.b + x.n)), true)
  else bif x.op == 15 then
    bif (bif decide (m.reg q x.a ≥ 0) then decide (m.reg q x.a < 8) else false) then
      bif hasF m.tb (m.reg q x.a) then ({ m with tb := m.tb.upd (m.reg q x.a).toNat Pk.un }, true) else (m, false)
    else (m, false)
  else bif x.op == 16 then
    bif decide (posF x.n < 1) then (m.setR q x.a 0, true)
    else bif fullF m.ar (posF x.n) then (m.setR q x.a 0, true)
    else (({ m with ar := m.ar.more (posF x.n).toNat }).setR q x.a m.ar.n, true)
  else bif x.op == 17 then (m.setR q x.a m.i, true)
  else bif x.op == 18 then (m.setR q x.a m.tb.now, true)
  else bif x.op == 19 then
    bif hasF m.tb m.i then (({ m with tb := m.tb.upd m.i.toNat Pk.clear }).setR q x.a (bif (m.tb.P m.i.toNat).f then 1 else 0), true) else (m.setR q x.a 0, false)
  else bif x.op == 20 then bif hasF m.tb m.i then ({ m with tb := m.tb.upd m.i.toNat Pk.intr }, true) else (m, false)
  else bif x.op == 21 then (m.note x.n (m.reg q x.a), true)
  else (m, true)
def framesF (m : Mc) (x : In) : Mc × Bool :=
  bif x.op == 12 then
    bif decide ((m.nF : Int) ≥ 16) then (m, false)
    else ({ m with nF := m.nF + 1, F := fun j => if j < m.nF then (if j = (wr ((m.nF : Int) - 1)).toNat then { m.F j with at_ := wr ((m.F j).at_ + 1) } else m.F j) else ⟨x.n, (m.F (wr ((m.nF : Int) - 1)).toNat).r⟩ }, true)
  else bif (m.nF : Int) == 1 then (m, false)
  else ({ m with nF := m.nF - 1, F := fun j => if j = m.nF - 2 then ((m.F j).set 0 ((m.F (m.nF - 1)).r 0)).set 1 ((m.F (m.nF - 1)).r 1) else m.F j }, true)
abbrev fref (q : Nat) : AV := .c (.ptr ⟨6, 0, q, 17, 0, 0, 0, 19⟩)
abbrev bool (b : Bool) : XV := .a (.c (bv b))
abbrev accC (m m' : Mc) (b : Bool) (d : Cd) (x : In) (q : Nat) : CallSpec := mSpec (List.range 8) 8 [bptr 0 7, x.av, fref q] (m.H d) (fun _ => True) (fun _ => bool b) fun _ => m'.H d
abbrev jumpsC (f : Fr) (n cap q : Nat) (F : Nat → Fr) (x : In) : CallSpec := mSpec [6] 0 [x.av, .c (.ptr ⟨0, 0, q, 17, 0, 0, 0, 19⟩)] [frow true n cap F] (fun _ => True) (fun _ => bool (jumpsF (F q) x)) fun _ => [frow true n cap F]
abbrev Mc.H2 (m : Mc) (d : Cd) (cA cN : Nat) : Hp := [({ m with cN := cN }).box d 1 2 4 6 9, d.row, ({ m.ar with cap := cA }).box 8, Ent.dead, m.tb.box 5, m.tb.row, frow true m.nF m.cF m.F, Ent.dead, ({ m.ar with cap := cA }).row, nrow true m.nN cN m.N]
abbrev plainC (m m' : Mc) (b : Bool) (d : Cd) (x : In) (q k : Nat) : CallSpec := mSpec (List.range 8) k [bptr 0 7, x.av, fref q] (m.H d) (fun _ => True) (fun _ => bool b) fun c => m'.H2 d (c 0) (c 1)
abbrev Mc.H3 (m : Mc) (d : Cd) (cF : Nat) : Hp := [({ m with cF := cF }).box d 1 2 4 8 7, d.row, m.ar.box 3, m.ar.row, m.tb.box 5, m.tb.row, Ent.dead, nrow true m.nN m.cN m.N, frow true m.nF cF m.F]
abbrev framesC (m m' : Mc) (b : Bool) (d : Cd) (x : In) (k : Nat) : CallSpec := mSpec (List.range 8) k [bptr 0 7, x.av] (m.H d) (fun c => m'.nF ≤ c 0) (fun _ => bool b) fun c => m'.H3 d (c 0)
def intAt (l : List CV) (q : Nat) : Int := match cellsGet q l with | some (.v (.int _ z)) => z | _ => 0
def inOf (l : List CV) : In := ⟨intAt l 0, intAt l 1, intAt l 2, intAt l 3, intAt l 4⟩
def mcG (a : Ar) (t : Tb) : Ctr := fun f args H =>
  bif Nat.beq f 13 || Nat.beq f 21 || Nat.beq f 38 || Nat.beq f 20 then arG a f args H else tbG t f args H
def tacc (m : Mc) (d : Cd) (x : In) (q : Nat) : Tree :=
  Tree.chk ((0 : Int) ≤ x.3 ∧ x.3 < (↑16 : Int))
   (Tree.chk (0 < 1 ∧ q < Mc.nF m)
   (Tree.chk (Int.toNat x.3 < 16)
   (Tree.br (x.1 == (5 : Int))
   (Tree.br (hereF m.1 (IntKind.wrap IntKind.i64 (List.getD (rl fun k => (Mc.F m q).2 k) (Int.toNat x.3) (0 : Int) + x.5)))
   (Tree.callf 13 [AV.c (CV.ptr ⟨2, 0, 0, 2, 0, 0, 0, 0⟩), AV.c (iv (IntKind.wrap IntKind.i64 (List.getD (rl fun k => (Mc.F m q).2 k) (Int.toNat x.3) (0 : Int) + x.5)))] [(Ent.mkBox 68 [CV.sl 1 0 0 5 d.2 d.3, CV.ptr ⟨2, 0, 0, 2, 0, 0, 0, 0⟩, CV.ptr ⟨4, 0, 0, 2, 0, 0, 0, 0⟩, iv m.3, CV.sl 6 0 0 17 (Mc.nF m) (Mc.cF m), CV.sl 7 0 0 2 m.8 m.9, iv m.4]), (Cd.row d), (Ar.box m.1 3), (Ar.row m.1), (Tb.box m.2 5), (Tb.row m.2), (frow true (Mc.nF m) (Mc.cF m) (Mc.F m)), (nrow true m.8 m.9 m.10), (Ent.mkBox 40 [iv x.1, iv x.2, iv x.3, iv x.4, iv x.5])] (loadC m.1 (IntKind.wrap IntKind.i64 (List.getD (rl fun k => (Mc.F m q).2 k) (Int.toNat x.3) (0 : Int) + x.5)) (m.1.3 (Int.toNat (IntKind.wrap IntKind.i64 (List.getD (rl fun k => (Mc.F m q).2 k) (Int.toNat x.3) (0 : Int) + x.5)))) (CV.v Value.nilIface) [2, 3]) fun c => Tree.br false
   (Tree.done (XV.a (AV.c (CV.v (Value.bool false)))) [(Ent.mkBox 68 [CV.sl 1 0 0 5 d.2 d.3, CV.ptr ⟨2, 0, 0, 2, 0, 0, 0, 0⟩, CV.ptr ⟨4, 0, 0, 2, 0, 0, 0, 0⟩, iv m.3, CV.sl 6 0 0 17 (Mc.nF m) (Mc.cF m), CV.sl 7 0 0 2 m.8 m.9, iv m.4]), (Cd.row d), (Ar.box m.1 3), (Ar.row m.1), (Tb.box m.2 5), (Tb.row m.2), (frow true (Mc.nF m) (Mc.cF m) (Mc.F m)), (nrow true m.8 m.9 m.10), Ent.dead])
   (Tree.chk ((0 : Int) ≤ x.2 ∧ x.2 < (↑16 : Int))
   (Tree.chk (0 < 1 ∧ q < Mc.nF m)
   (Tree.chk (Int.toNat x.2 < 16)
   (Tree.done (XV.a (AV.c (CV.v (Value.bool true)))) [(Ent.mkBox 68 [CV.sl 1 0 0 5 d.2 d.3, CV.ptr ⟨2, 0, 0, 2, 0, 0, 0, 0⟩, CV.ptr ⟨4, 0, 0, 2, 0, 0, 0, 0⟩, iv m.3, CV.sl 6 0 0 17 (Mc.nF m) (Mc.cF m), CV.sl 7 0 0 2 m.8 m.9, iv m.4]), (Cd.row d), (Ar.box m.1 3), (Ar.row m.1), (Tb.box m.2 5), (Tb.row m.2), { own := true, box := false, ty := 66, sz := 17, m := 1, n := fun a => Mc.nF m, cap := fun a => Mc.cF m, f := fun a a_1 => (Fr.cv (Mc.F m a_1)), ov := [(19, 0, q, (Fr.cv ⟨(Mc.F m q).1, fun k => if Int.toNat x.2 = k then m.1.3 (Int.toNat (IntKind.wrap IntKind.i64 (List.getD (rl fun k => (Mc.F m q).2 k) (Int.toNat x.3) (0 : Int) + x.5))) else (Mc.F m q).2 k⟩))] }, (nrow true m.8 m.9 m.10), Ent.dead])))))
   (Tree.callf 13 [AV.c (CV.ptr ⟨2, 0, 0, 2, 0, 0, 0, 0⟩), AV.c (iv (IntKind.wrap IntKind.i64 (List.getD (rl fun k => (Mc.F m q).2 k) (Int.toNat x.3) (0 : Int) + x.5)))] [(Ent.mkBox 68 [CV.sl 1 0 0 5 d.2 d.3, CV.ptr ⟨2, 0, 0, 2, 0, 0, 0, 0⟩, CV.ptr ⟨4, 0, 0, 2, 0, 0, 0, 0⟩, iv m.3, CV.sl 6 0 0 17 (Mc.nF m) (Mc.cF m), CV.sl 7 0 0 2 m.8 m.9, iv m.4]), (Cd.row d), (Ar.box m.1 3), (Ar.row m.1), (Tb.box m.2 5), (Tb.row m.2), (frow true (Mc.nF m) (Mc.cF m) (Mc.F m)), (nrow true m.8 m.9 m.10), (Ent.mkBox 40 [iv x.1, iv x.2, iv x.3, iv x.4, iv x.5])] (loadC m.1 (IntKind.wrap IntKind.i64 (List.getD (rl fun k => (Mc.F m q).2 k) (Int.toNat x.3) (0 : Int) + x.5)) (0 : Int) (CV.v (Value.iface 36 (Value.int IntKind.i64 (6 : Int)))) [2, 3]) fun c => Tree.br true
   (Tree.done (XV.a (AV.c (CV.v (Value.bool false)))) [(Ent.mkBox 68 [CV.sl 1 0 0 5 d.2 d.3, CV.ptr ⟨2, 0, 0, 2, 0, 0, 0, 0⟩, CV.ptr ⟨4, 0, 0, 2, 0, 0, 0, 0⟩, iv m.3, CV.sl 6 0 0 17 (Mc.nF m) (Mc.cF m), CV.sl 7 0 0 2 m.8 m.9, iv m.4]), (Cd.row d), (Ar.box m.1 3), (Ar.row m.1), (Tb.box m.2 5), (Tb.row m.2), (frow true (Mc.nF m) (Mc.cF m) (Mc.F m)), (nrow true m.8 m.9 m.10), Ent.dead])
   (Tree.chk ((0 : Int) ≤ x.2 ∧ x.2 < (↑16 : Int))
   (Tree.chk (0 < 1 ∧ q < Mc.nF m)
   (Tree.chk (Int.toNat x.2 < 16)
   (Tree.done (XV.a (AV.c (CV.v (Value.bool true)))) [(Ent.mkBox 68 [CV.sl 1 0 0 5 d.2 d.3, CV.ptr ⟨2, 0, 0, 2, 0, 0, 0, 0⟩, CV.ptr ⟨4, 0, 0, 2, 0, 0, 0, 0⟩, iv m.3, CV.sl 6 0 0 17 (Mc.nF m) (Mc.cF m), CV.sl 7 0 0 2 m.8 m.9, iv m.4]), (Cd.row d), (Ar.box m.1 3), (Ar.row m.1), (Tb.box m.2 5), (Tb.row m.2), { own := true, box := false, ty := 66, sz := 17, m := 1, n := fun a => Mc.nF m, cap := fun a => Mc.cF m, f := fun a a_1 => (Fr.cv (Mc.F m a_1)), ov := [(19, 0, q, (Fr.cv ⟨(Mc.F m q).1, fun k => if Int.toNat x.2 = k then (0 : Int) else (Mc.F m q).2 k⟩))] }, (nrow true m.8 m.9 m.10), Ent.dead]))))))
   (Tree.br (x.1 == (6 : Int))
   (Tree.chk ((0 : Int) ≤ x.2 ∧ x.2 < (↑16 : Int))
   (Tree.chk (0 < 1 ∧ q < Mc.nF m)
   (Tree.chk (Int.toNat x.2 < 16)
   (Tree.br (hereF m.1 (IntKind.wrap IntKind.i64 (List.getD (rl fun k => (Mc.F m q).2 k) (Int.toNat x.3) (0 : Int) + x.5)))
   (Tree.callf 21 [AV.c (CV.ptr ⟨2, 0, 0, 2, 0, 0, 0, 0⟩), AV.c (iv (IntKind.wrap IntKind.i64 (List.getD (rl fun k => (Mc.F m q).2 k) (Int.toNat x.3) (0 : Int) + x.5))), AV.c (iv (List.getD (rl fun k => (Mc.F m q).2 k) (Int.toNat x.2) (0 : Int)))] [(Ent.mkBox 68 [CV.sl 1 0 0 5 d.2 d.3, CV.ptr ⟨2, 0, 0, 2, 0, 0, 0, 0⟩, CV.ptr ⟨4, 0, 0, 2, 0, 0, 0, 0⟩, iv m.3, CV.sl 6 0 0 17 (Mc.nF m) (Mc.cF m), CV.sl 7 0 0 2 m.8 m.9, iv m.4]), (Cd.row d), (Ar.box m.1 3), (Ar.row m.1), (Tb.box m.2 5), (Tb.row m.2), (frow true (Mc.nF m) (Mc.cF m) (Mc.F m)), (nrow true m.8 m.9 m.10), (Ent.mkBox 40 [iv x.1, iv x.2, iv x.3, iv x.4, iv x.5])] (storeC m.1 { n := m.1.1, cap := m.1.2, C := fun j => if j = Int.toNat (IntKind.wrap IntKind.i64 (List.getD (rl fun k => (Mc.F m q).2 k) (Int.toNat x.3) (0 : Int) + x.5)) then List.getD (rl fun k => (Mc.F m q).2 k) (Int.toNat x.2) (0 : Int) else m.1.3 j, most := m.1.4 } (IntKind.wrap IntKind.i64 (List.getD (rl fun k => (Mc.F m q).2 k) (Int.toNat x.3) (0 : Int) + x.5)) (List.getD (rl fun k => (Mc.F m q).2 k) (Int.toNat x.2) (0 : Int)) (CV.v Value.nilIface) [2, 3]) fun c => Tree.done (XV.a (AV.c (CV.v (Value.bool true)))) [(Ent.mkBox 68 [CV.sl 1 0 0 5 d.2 d.3, CV.ptr ⟨2, 0, 0, 2, 0, 0, 0, 0⟩, CV.ptr ⟨4, 0, 0, 2, 0, 0, 0, 0⟩, iv m.3, CV.sl 6 0 0 17 (Mc.nF m) (Mc.cF m), CV.sl 7 0 0 2 m.8 m.9, iv m.4]), (Cd.row d), (Ar.box m.1 3), (Ent.rw true 2 1 m.1.1 m.1.2 fun ii => [iv (if ii = Int.toNat (IntKind.wrap IntKind.i64 (List.getD (rl fun k => (Mc.F m q).2 k) (Int.toNat x.3) (0 : Int) + x.5)) then List.getD (rl fun k => (Mc.F m q).2 k) (Int.toNat x.2) (0 : Int) else m.1.3 ii)]), (Tb.box m.2 5), (Tb.row m.2), (frow true (Mc.nF m) (Mc.cF m) (Mc.F m)), (nrow true m.8 m.9 m.10), Ent.dead])
   (Tree.callf 21 [AV.c (CV.ptr ⟨2, 0, 0, 2, 0, 0, 0, 0⟩), AV.c (iv (IntKind.wrap IntKind.i64 (List.getD (rl fun k => (Mc.F m q).2 k) (Int.toNat x.3) (0 : Int) + x.5))), AV.c (iv (List.getD (rl fun k => (Mc.F m q).2 k) (Int.toNat x.2) (0 : Int)))] [(Ent.mkBox 68 [CV.sl 1 0 0 5 d.2 d.3, CV.ptr ⟨2, 0, 0, 2, 0, 0, 0, 0⟩, CV.ptr ⟨4, 0, 0, 2, 0, 0, 0, 0⟩, iv m.3, CV.sl 6 0 0 17 (Mc.nF m) (Mc.cF m), CV.sl 7 0 0 2 m.8 m.9, iv m.4]), (Cd.row d), (Ar.box m.1 3), (Ar.row m.1), (Tb.box m.2 5), (Tb.row m.2), (frow true (Mc.nF m) (Mc.cF m) (Mc.F m)), (nrow true m.8 m.9 m.10), (Ent.mkBox 40 [iv x.1, iv x.2, iv x.3, iv x.4, iv x.5])] (storeC m.1 m.1 (IntKind.wrap IntKind.i64 (List.getD (rl fun k => (Mc.F m q).2 k) (Int.toNat x.3) (0 : Int) + x.5)) (List.getD (rl fun k => (Mc.F m q).2 k) (Int.toNat x.2) (0 : Int)) (CV.v (Value.iface 36 (Value.int IntKind.i64 (6 : Int)))) [2, 3]) fun c => Tree.done (XV.a (AV.c (CV.v (Value.bool false)))) [(Ent.mkBox 68 [CV.sl 1 0 0 5 d.2 d.3, CV.ptr ⟨2, 0, 0, 2, 0, 0, 0, 0⟩, CV.ptr ⟨4, 0, 0, 2, 0, 0, 0, 0⟩, iv m.3, CV.sl 6 0 0 17 (Mc.nF m) (Mc.cF m), CV.sl 7 0 0 2 m.8 m.9, iv m.4]), (Cd.row d), (Ar.box m.1 3), (Ar.row m.1), (Tb.box m.2 5), (Tb.row m.2), (frow true (Mc.nF m) (Mc.cF m) (Mc.F m)), (nrow true m.8 m.9 m.10), Ent.dead])))))
   (Tree.chk ((0 : Int) ≤ x.2 ∧ x.2 < (↑16 : Int))
   (Tree.chk (0 < 1 ∧ q < Mc.nF m)
   (Tree.chk (Int.toNat x.2 < 16)
   (Tree.chk ((0 : Int) ≤ IntKind.wrap IntKind.i64 (x.2 + (1 : Int)) ∧ IntKind.wrap IntKind.i64 (x.2 + (1 : Int)) < (↑16 : Int))
   (Tree.chk (0 < 1 ∧ q < Mc.nF m)
   (Tree.chk (Int.toNat (IntKind.wrap IntKind.i64 (x.2 + (1 : Int))) < 16)
   (Tree.br (hereF m.1 (IntKind.wrap IntKind.i64 (List.getD (rl fun k => (Mc.F m q).2 k) (Int.toNat x.3) (0 : Int) + x.5)))
   (Tree.callf 38 [AV.c (CV.ptr ⟨2, 0, 0, 2, 0, 0, 0, 0⟩), AV.c (iv (IntKind.wrap IntKind.i64 (List.getD (rl fun k => (Mc.F m q).2 k) (Int.toNat x.3) (0 : Int) + x.5))), AV.c (iv (List.getD (rl fun k => (Mc.F m q).2 k) (Int.toNat x.2) (0 : Int))), AV.c (iv (List.getD (rl fun k => (Mc.F m q).2 k) (Int.toNat (IntKind.wrap IntKind.i64 (x.2 + (1 : Int)))) (0 : Int)))] [(Ent.mkBox 68 [CV.sl 1 0 0 5 d.2 d.3, CV.ptr ⟨2, 0, 0, 2, 0, 0, 0, 0⟩, CV.ptr ⟨4, 0, 0, 2, 0, 0, 0, 0⟩, iv m.3, CV.sl 6 0 0 17 (Mc.nF m) (Mc.cF m), CV.sl 7 0 0 2 m.8 m.9, iv m.4]), (Cd.row d), (Ar.box m.1 3), (Ar.row m.1), (Tb.box m.2 5), (Tb.row m.2), (frow true (Mc.nF m) (Mc.cF m) (Mc.F m)), (nrow true m.8 m.9 m.10), (Ent.mkBox 40 [iv x.1, iv x.2, iv x.3, iv x.4, iv x.5])] (swapC m.1 (swapF m.1 (IntKind.wrap IntKind.i64 (List.getD (rl fun k => (Mc.F m q).2 k) (Int.toNat x.3) (0 : Int) + x.5)) (List.getD (rl fun k => (Mc.F m q).2 k) (Int.toNat x.2) (0 : Int)) (List.getD (rl fun k => (Mc.F m q).2 k) (Int.toNat (IntKind.wrap IntKind.i64 (x.2 + (1 : Int)))) (0 : Int))) (IntKind.wrap IntKind.i64 (List.getD (rl fun k => (Mc.F m q).2 k) (Int.toNat x.3) (0 : Int) + x.5)) (List.getD (rl fun k => (Mc.F m q).2 k) (Int.toNat x.2) (0 : Int)) (List.getD (rl fun k => (Mc.F m q).2 k) (Int.toNat (IntKind.wrap IntKind.i64 (x.2 + (1 : Int)))) (0 : Int)) (m.1.3 (Int.toNat (IntKind.wrap IntKind.i64 (List.getD (rl fun k => (Mc.F m q).2 k) (Int.toNat x.3) (0 : Int) + x.5))) == List.getD (rl fun k => (Mc.F m q).2 k) (Int.toNat x.2) (0 : Int)) (CV.v Value.nilIface) [2, 3]) fun c => Tree.br false
   (Tree.done (XV.a (AV.c (CV.v (Value.bool false)))) [(Ent.mkBox 68 [CV.sl 1 0 0 5 d.2 d.3, CV.ptr ⟨2, 0, 0, 2, 0, 0, 0, 0⟩, CV.ptr ⟨4, 0, 0, 2, 0, 0, 0, 0⟩, iv m.3, CV.sl 6 0 0 17 (Mc.nF m) (Mc.cF m), CV.sl 7 0 0 2 m.8 m.9, iv m.4]), (Cd.row d), (Ent.mkBox 72 [CV.sl 3 0 0 1 (swapF m.1 (IntKind.wrap IntKind.i64 (List.getD (rl fun k => (Mc.F m q).2 k) (Int.toNat x.3) (0 : Int) + x.5)) (List.getD (rl fun k => (Mc.F m q).2 k) (Int.toNat x.2) (0 : Int)) (List.getD (rl fun k => (Mc.F m q).2 k) (Int.toNat (IntKind.wrap IntKind.i64 (x.2 + (1 : Int)))) (0 : Int))).1 (swapF m.1 (IntKind.wrap IntKind.i64 (List.getD (rl fun k => (Mc.F m q).2 k) (Int.toNat x.3) (0 : Int) + x.5)) (List.getD (rl fun k => (Mc.F m q).2 k) (Int.toNat x.2) (0 : Int)) (List.getD (rl fun k => (Mc.F m q).2 k) (Int.toNat (IntKind.wrap IntKind.i64 (x.2 + (1 : Int)))) (0 : Int))).2, iv (swapF m.1 (IntKind.wrap IntKind.i64 (List.getD (rl fun k => (Mc.F m q).2 k) (Int.toNat x.3) (0 : Int) + x.5)) (List.getD (rl fun k => (Mc.F m q).2 k) (Int.toNat x.2) (0 : Int)) (List.getD (rl fun k => (Mc.F m q).2 k) (Int.toNat (IntKind.wrap IntKind.i64 (x.2 + (1 : Int)))) (0 : Int))).4]), (Ent.rw true 2 1 (swapF m.1 (IntKind.wrap IntKind.i64 (List.getD (rl fun k => (Mc.F m q).2 k) (Int.toNat x.3) (0 : Int) + x.5)) (List.getD (rl fun k => (Mc.F m q).2 k) (Int.toNat x.2) (0 : Int)) (List.getD (rl fun k => (Mc.F m q).2 k) (Int.toNat (IntKind.wrap IntKind.i64 (x.2 + (1 : Int)))) (0 : Int))).1 (swapF m.1 (IntKind.wrap IntKind.i64 (List.getD (rl fun k => (Mc.F m q).2 k) (Int.toNat x.3) (0 : Int) + x.5)) (List.getD (rl fun k => (Mc.F m q).2 k) (Int.toNat x.2) (0 : Int)) (List.getD (rl fun k => (Mc.F m q).2 k) (Int.toNat (IntKind.wrap IntKind.i64 (x.2 + (1 : Int)))) (0 : Int))).2 fun ii => [iv ((swapF m.1 (IntKind.wrap IntKind.i64 (List.getD (rl fun k => (Mc.F m q).2 k) (Int.toNat x.3) (0 : Int) + x.5)) (List.getD (rl fun k => (Mc.F m q).2 k) (Int.toNat x.2) (0 : Int)) (List.getD (rl fun k => (Mc.F m q).2 k) (Int.toNat (IntKind.wrap IntKind.i64 (x.2 + (1 : Int)))) (0 : Int))).3 ii)]), (Tb.box m.2 5), (Tb.row m.2), (frow true (Mc.nF m) (Mc.cF m) (Mc.F m)), (nrow true m.8 m.9 m.10), Ent.dead])
   (Tree.chk ((0 : Int) ≤ IntKind.wrap IntKind.i64 (x.2 + (2 : Int)) ∧ IntKind.wrap IntKind.i64 (x.2 + (2 : Int)) < (↑16 : Int))
   (Tree.chk (0 < 1 ∧ q < Mc.nF m)
   (Tree.chk (Int.toNat (IntKind.wrap IntKind.i64 (x.2 + (2 : Int))) < 16)
   (Tree.br (m.1.3 (Int.toNat (IntKind.wrap IntKind.i64 (List.getD (rl fun k => (Mc.F m q).2 k) (Int.toNat x.3) (0 : Int) + x.5))) == List.getD (rl fun k => (Mc.F m q).2 k) (Int.toNat x.2) (0 : Int))
   (Tree.chk ((0 : Int) ≤ IntKind.wrap IntKind.i64 (x.2 + (2 : Int)) ∧ IntKind.wrap IntKind.i64 (x.2 + (2 : Int)) < (↑16 : Int))
   (Tree.chk (0 < 1 ∧ q < Mc.nF m)
   (Tree.chk (0 = 0 ∧ q = q)
   (Tree.chk (Int.toNat (IntKind.wrap IntKind.i64 (x.2 + (2 : Int))) < 16)
   (Tree.done (XV.a (AV.c (CV.v (Value.bool true)))) [(Ent.mkBox 68 [CV.sl 1 0 0 5 d.2 d.3, CV.ptr ⟨2, 0, 0, 2, 0, 0, 0, 0⟩, CV.ptr ⟨4, 0, 0, 2, 0, 0, 0, 0⟩, iv m.3, CV.sl 6 0 0 17 (Mc.nF m) (Mc.cF m), CV.sl 7 0 0 2 m.8 m.9, iv m.4]), (Cd.row d), (Ent.mkBox 72 [CV.sl 3 0 0 1 (swapF m.1 (IntKind.wrap IntKind.i64 (List.getD (rl fun k => (Mc.F m q).2 k) (Int.toNat x.3) (0 : Int) + x.5)) (List.getD (rl fun k => (Mc.F m q).2 k) (Int.toNat x.2) (0 : Int)) (List.getD (rl fun k => (Mc.F m q).2 k) (Int.toNat (IntKind.wrap IntKind.i64 (x.2 + (1 : Int)))) (0 : Int))).1 (swapF m.1 (IntKind.wrap IntKind.i64 (List.getD (rl fun k => (Mc.F m q).2 k) (Int.toNat x.3) (0 : Int) + x.5)) (List.getD (rl fun k => (Mc.F m q).2 k) (Int.toNat x.2) (0 : Int)) (List.getD (rl fun k => (Mc.F m q).2 k) (Int.toNat (IntKind.wrap IntKind.i64 (x.2 + (1 : Int)))) (0 : Int))).2, iv (swapF m.1 (IntKind.wrap IntKind.i64 (List.getD (rl fun k => (Mc.F m q).2 k) (Int.toNat x.3) (0 : Int) + x.5)) (List.getD (rl fun k => (Mc.F m q).2 k) (Int.toNat x.2) (0 : Int)) (List.getD (rl fun k => (Mc.F m q).2 k) (Int.toNat (IntKind.wrap IntKind.i64 (x.2 + (1 : Int)))) (0 : Int))).4]), (Ent.rw true 2 1 (swapF m.1 (IntKind.wrap IntKind.i64 (List.getD (rl fun k => (Mc.F m q).2 k) (Int.toNat x.3) (0 : Int) + x.5)) (List.getD (rl fun k => (Mc.F m q).2 k) (Int.toNat x.2) (0 : Int)) (List.getD (rl fun k => (Mc.F m q).2 k) (Int.toNat (IntKind.wrap IntKind.i64 (x.2 + (1 : Int)))) (0 : Int))).1 (swapF m.1 (IntKind.wrap IntKind.i64 (List.getD (rl fun k => (Mc.F m q).2 k) (Int.toNat x.3) (0 : Int) + x.5)) (List.getD (rl fun k => (Mc.F m q).2 k) (Int.toNat x.2) (0 : Int)) (List.getD (rl fun k => (Mc.F m q).2 k) (Int.toNat (IntKind.wrap IntKind.i64 (x.2 + (1 : Int)))) (0 : Int))).2 fun ii => [iv ((swapF m.1 (IntKind.wrap IntKind.i64 (List.getD (rl fun k => (Mc.F m q).2 k) (Int.toNat x.3) (0 : Int) + x.5)) (List.getD (rl fun k => (Mc.F m q).2 k) (Int.toNat x.2) (0 : Int)) (List.getD (rl fun k => (Mc.F m q).2 k) (Int.toNat (IntKind.wrap IntKind.i64 (x.2 + (1 : Int)))) (0 : Int))).3 ii)]), (Tb.box m.2 5), (Tb.row m.2), { own := true, box := false, ty := 66, sz := 17, m := 1, n := fun a => Mc.nF m, cap := fun a => Mc.cF m, f := fun a a_1 => (Fr.cv (Mc.F m a_1)), ov := [(19, 0, q, (Fr.cv ⟨(Mc.F m q).1, fun k => if Int.toNat (IntKind.wrap IntKind.i64 (x.2 + (2 : Int))) = k then (1 : Int) else if Int.toNat (IntKind.wrap IntKind.i64 (x.2 + (2 : Int))) = k then (0 : Int) else (Mc.F m q).2 k⟩)), (19, 0, q, (Fr.cv ⟨(Mc.F m q).1, fun k => if Int.toNat (IntKind.wrap IntKind.i64 (x.2 + (2 : Int))) = k then (0 : Int) else (Mc.F m q).2 k⟩))] }, (nrow true m.8 m.9 m.10), Ent.dead])))))
   (Tree.done (XV.a (AV.c (CV.v (Value.bool true)))) [(Ent.mkBox 68 [CV.sl 1 0 0 5 d.2 d.3, CV.ptr ⟨2, 0, 0, 2, 0, 0, 0, 0⟩, CV.ptr ⟨4, 0, 0, 2, 0, 0, 0, 0⟩, iv m.3, CV.sl 6 0 0 17 (Mc.nF m) (Mc.cF m), CV.sl 7 0 0 2 m.8 m.9, iv m.4]), (Cd.row d), (Ent.mkBox 72 [CV.sl 3 0 0 1 (swapF m.1 (IntKind.wrap IntKind.i64 (List.getD (rl fun k => (Mc.F m q).2 k) (Int.toNat x.3) (0 : Int) + x.5)) (List.getD (rl fun k => (Mc.F m q).2 k) (Int.toNat x.2) (0 : Int)) (List.getD (rl fun k => (Mc.F m q).2 k) (Int.toNat (IntKind.wrap IntKind.i64 (x.2 + (1 : Int)))) (0 : Int))).1 (swapF m.1 (IntKind.wrap IntKind.i64 (List.getD (rl fun k => (Mc.F m q).2 k) (Int.toNat x.3) (0 : Int) + x.5)) (List.getD (rl fun k => (Mc.F m q).2 k) (Int.toNat x.2) (0 : Int)) (List.getD (rl fun k => (Mc.F m q).2 k) (Int.toNat (IntKind.wrap IntKind.i64 (x.2 + (1 : Int)))) (0 : Int))).2, iv (swapF m.1 (IntKind.wrap IntKind.i64 (List.getD (rl fun k => (Mc.F m q).2 k) (Int.toNat x.3) (0 : Int) + x.5)) (List.getD (rl fun k => (Mc.F m q).2 k) (Int.toNat x.2) (0 : Int)) (List.getD (rl fun k => (Mc.F m q).2 k) (Int.toNat (IntKind.wrap IntKind.i64 (x.2 + (1 : Int)))) (0 : Int))).4]), (Ent.rw true 2 1 (swapF m.1 (IntKind.wrap IntKind.i64 (List.getD (rl fun k => (Mc.F m q).2 k) (Int.toNat x.3) (0 : Int) + x.5)) (List.getD (rl fun k => (Mc.F m q).2 k) (Int.toNat x.2) (0 : Int)) (List.getD (rl fun k => (Mc.F m q).2 k) (Int.toNat (IntKind.wrap IntKind.i64 (x.2 + (1 : Int)))) (0 : Int))).1 (swapF m.1 (IntKind.wrap IntKind.i64 (List.getD (rl fun k => (Mc.F m q).2 k) (Int.toNat x.3) (0 : Int) + x.5)) (List.getD (rl fun k => (Mc.F m q).2 k) (Int.toNat x.2) (0 : Int)) (List.getD (rl fun k => (Mc.F m q).2 k) (Int.toNat (IntKind.wrap IntKind.i64 (x.2 + (1 : Int)))) (0 : Int))).2 fun ii => [iv ((swapF m.1 (IntKind.wrap IntKind.i64 (List.getD (rl fun k => (Mc.F m q).2 k) (Int.toNat x.3) (0 : Int) + x.5)) (List.getD (rl fun k => (Mc.F m q).2 k) (Int.toNat x.2) (0 : Int)) (List.getD (rl fun k => (Mc.F m q).2 k) (Int.toNat (IntKind.wrap IntKind.i64 (x.2 + (1 : Int)))) (0 : Int))).3 ii)]), (Tb.box m.2 5), (Tb.row m.2), { own := true, box := false, ty := 66, sz := 17, m := 1, n := fun a => Mc.nF m, cap := fun a => Mc.cF m, f := fun a a_1 => (Fr.cv (Mc.F m a_1)), ov := [(19, 0, q, (Fr.cv ⟨(Mc.F m q).1, fun k => if Int.toNat (IntKind.wrap IntKind.i64 (x.2 + (2 : Int))) = k then (0 : Int) else (Mc.F m q).2 k⟩))] }, (nrow true m.8 m.9 m.10), Ent.dead]))))))
   (Tree.callf 38 [AV.c (CV.ptr ⟨2, 0, 0, 2, 0, 0, 0, 0⟩), AV.c (iv (IntKind.wrap IntKind.i64 (List.getD (rl fun k => (Mc.F m q).2 k) (Int.toNat x.3) (0 : Int) + x.5))), AV.c (iv (List.getD (rl fun k => (Mc.F m q).2 k) (Int.toNat x.2) (0 : Int))), AV.c (iv (List.getD (rl fun k => (Mc.F m q).2 k) (Int.toNat (IntKind.wrap IntKind.i64 (x.2 + (1 : Int)))) (0 : Int)))] [(Ent.mkBox 68 [CV.sl 1 0 0 5 d.2 d.3, CV.ptr ⟨2, 0, 0, 2, 0, 0, 0, 0⟩, CV.ptr ⟨4, 0, 0, 2, 0, 0, 0, 0⟩, iv m.3, CV.sl 6 0 0 17 (Mc.nF m) (Mc.cF m), CV.sl 7 0 0 2 m.8 m.9, iv m.4]), (Cd.row d), (Ar.box m.1 3), (Ar.row m.1), (Tb.box m.2 5), (Tb.row m.2), (frow true (Mc.nF m) (Mc.cF m) (Mc.F m)), (nrow true m.8 m.9 m.10), (Ent.mkBox 40 [iv x.1, iv x.2, iv x.3, iv x.4, iv x.5])] (swapC m.1 m.1 (IntKind.wrap IntKind.i64 (List.getD (rl fun k => (Mc.F m q).2 k) (Int.toNat x.3) (0 : Int) + x.5)) (List.getD (rl fun k => (Mc.F m q).2 k) (Int.toNat x.2) (0 : Int)) (List.getD (rl fun k => (Mc.F m q).2 k) (Int.toNat (IntKind.wrap IntKind.i64 (x.2 + (1 : Int)))) (0 : Int)) false (CV.v (Value.iface 36 (Value.int IntKind.i64 (6 : Int)))) [2, 3]) fun c => Tree.br true
   (Tree.done (XV.a (AV.c (CV.v (Value.bool false)))) [(Ent.mkBox 68 [CV.sl 1 0 0 5 d.2 d.3, CV.ptr ⟨2, 0, 0, 2, 0, 0, 0, 0⟩, CV.ptr ⟨4, 0, 0, 2, 0, 0, 0, 0⟩, iv m.3, CV.sl 6 0 0 17 (Mc.nF m) (Mc.cF m), CV.sl 7 0 0 2 m.8 m.9, iv m.4]), (Cd.row d), (Ar.box m.1 3), (Ar.row m.1), (Tb.box m.2 5), (Tb.row m.2), (frow true (Mc.nF m) (Mc.cF m) (Mc.F m)), (nrow true m.8 m.9 m.10), Ent.dead])
   (Tree.chk ((0 : Int) ≤ IntKind.wrap IntKind.i64 (x.2 + (2 : Int)) ∧ IntKind.wrap IntKind.i64 (x.2 + (2 : Int)) < (↑16 : Int))
   (Tree.chk (0 < 1 ∧ q < Mc.nF m)
   (Tree.chk (Int.toNat (IntKind.wrap IntKind.i64 (x.2 + (2 : Int))) < 16)
   (Tree.br false
   (Tree.chk ((0 : Int) ≤ IntKind.wrap IntKind.i64 (x.2 + (2 : Int)) ∧ IntKind.wrap IntKind.i64 (x.2 + (2 : Int)) < (↑16 : Int))
   (Tree.chk (0 < 1 ∧ q < Mc.nF m)
   (Tree.chk (0 = 0 ∧ q = q)
   (Tree.chk (Int.toNat (IntKind.wrap IntKind.i64 (x.2 + (2 : Int))) < 16)
   (Tree.done (XV.a (AV.c (CV.v (Value.bool true)))) [(Ent.mkBox 68 [CV.sl 1 0 0 5 d.2 d.3, CV.ptr ⟨2, 0, 0, 2, 0, 0, 0, 0⟩, CV.ptr ⟨4, 0, 0, 2, 0, 0, 0, 0⟩, iv m.3, CV.sl 6 0 0 17 (Mc.nF m) (Mc.cF m), CV.sl 7 0 0 2 m.8 m.9, iv m.4]), (Cd.row d), (Ar.box m.1 3), (Ar.row m.1), (Tb.box m.2 5), (Tb.row m.2), { own := true, box := false, ty := 66, sz := 17, m := 1, n := fun a => Mc.nF m, cap := fun a => Mc.cF m, f := fun a a_1 => (Fr.cv (Mc.F m a_1)), ov := [(19, 0, q, (Fr.cv ⟨(Mc.F m q).1, fun k => if Int.toNat (IntKind.wrap IntKind.i64 (x.2 + (2 : Int))) = k then (1 : Int) else if Int.toNat (IntKind.wrap IntKind.i64 (x.2 + (2 : Int))) = k then (0 : Int) else (Mc.F m q).2 k⟩)), (19, 0, q, (Fr.cv ⟨(Mc.F m q).1, fun k => if Int.toNat (IntKind.wrap IntKind.i64 (x.2 + (2 : Int))) = k then (0 : Int) else (Mc.F m q).2 k⟩))] }, (nrow true m.8 m.9 m.10), Ent.dead])))))
   (Tree.done (XV.a (AV.c (CV.v (Value.bool true)))) [(Ent.mkBox 68 [CV.sl 1 0 0 5 d.2 d.3, CV.ptr ⟨2, 0, 0, 2, 0, 0, 0, 0⟩, CV.ptr ⟨4, 0, 0, 2, 0, 0, 0, 0⟩, iv m.3, CV.sl 6 0 0 17 (Mc.nF m) (Mc.cF m), CV.sl 7 0 0 2 m.8 m.9, iv m.4]), (Cd.row d), (Ar.box m.1 3), (Ar.row m.1), (Tb.box m.2 5), (Tb.row m.2), { own := true, box := false, ty := 66, sz := 17, m := 1, n := fun a => Mc.nF m, cap := fun a => Mc.cF m, f := fun a a_1 => (Fr.cv (Mc.F m a_1)), ov := [(19, 0, q, (Fr.cv ⟨(Mc.F m q).1, fun k => if Int.toNat (IntKind.wrap IntKind.i64 (x.2 + (2 : Int))) = k then (0 : Int) else (Mc.F m q).2 k⟩))] }, (nrow true m.8 m.9 m.10), Ent.dead])))))))))))))))))
theorem tacc_eq (m : Mc) (d : Cd) (x : In) (q : Nat) : xfunc tab (mcG m.ar m.tb) noInv Go.Proofs.Try.f33 [bptr 0 7, x.av, fref q] (m.H d) [0, 1, 2, 3, 4, 5, 6, 7] = tacc m d x q := by kernel_rfl
def tjumps (n cap q : Nat) (F : Nat → Fr) (x : In) : Tree :=
  Tree.chk ((0 : Int) ≤ x.2 ∧ x.2 < (↑16 : Int))
   (Tree.chk (0 < 1 ∧ q < n)
   (Tree.chk (Int.toNat x.2 < 16)
   (Tree.chk ((0 : Int) ≤ x.3 ∧ x.3 < (↑16 : Int))
   (Tree.chk (0 < 1 ∧ q < n)
   (Tree.chk (Int.toNat x.3 < 16)
   (Tree.br (x.1 == (8 : Int))
   (Tree.done (XV.a (AV.c (CV.v (Value.bool true)))) [(Ent.rw true 66 17 n cap fun ii => (Fr.cv (F ii))), Ent.dead])
   (Tree.br (x.1 == (9 : Int))
   (Tree.done (XV.a (AV.c (CV.v (Value.bool (List.getD (rl fun k => (F q).2 k) (Int.toNat x.2) (0 : Int) == List.getD (rl fun k => (F q).2 k) (Int.toNat x.3) (0 : Int)))))) [(Ent.rw true 66 17 n cap fun ii => (Fr.cv (F ii))), Ent.dead])
   (Tree.br (x.1 == (10 : Int))
   (Tree.done (XV.a (AV.c (CV.v (Value.bool (List.getD (rl fun k => (F q).2 k) (Int.toNat x.2) (0 : Int) != List.getD (rl fun k => (F q).2 k) (Int.toNat x.3) (0 : Int)))))) [(Ent.rw true 66 17 n cap fun ii => (Fr.cv (F ii))), Ent.dead])
   (Tree.done (XV.a (AV.c (CV.v (Value.bool (decide (List.getD (rl fun k => (F q).2 k) (Int.toNat x.2) (0 : Int) < List.getD (rl fun k => (F q).2 k) (Int.toNat x.3) (0 : Int))))))) [(Ent.rw true 66 17 n cap fun ii => (Fr.cv (F ii))), Ent.dead])))))))))
theorem tjumps_eq (n cap q : Nat) (F : Nat → Fr) (x : In) : xfunc tab noCtr noInv Go.Proofs.Try.f34 [x.av, .c (.ptr ⟨0, 0, q, 17, 0, 0, 0, 19⟩)] [frow true n cap F] [0] = tjumps n cap q F x := by kernel_rfl
def tplain (m : Mc) (d : Cd) (x : In) (q : Nat) : Tree :=
  Tree.br (x.1 == (1 : Int))
   (Tree.chk ((0 : Int) ≤ x.2 ∧ x.2 < (↑16 : Int))
   (Tree.chk (0 < 1 ∧ q < Mc.nF m)
   (Tree.chk (Int.toNat x.2 < 16)
   (Tree.done (XV.a (AV.c (CV.v (Value.bool true)))) [(Ent.mkBox 68 [CV.sl 1 0 0 5 d.2 d.3, CV.ptr ⟨2, 0, 0, 2, 0, 0, 0, 0⟩, CV.ptr ⟨4, 0, 0, 2, 0, 0, 0, 0⟩, iv m.3, CV.sl 6 0 0 17 (Mc.nF m) (Mc.cF m), CV.sl 7 0 0 2 m.8 m.9, iv m.4]), (Cd.row d), (Ar.box m.1 3), (Ar.row m.1), (Tb.box m.2 5), (Tb.row m.2), { own := true, box := false, ty := 66, sz := 17, m := 1, n := fun a => Mc.nF m, cap := fun a => Mc.cF m, f := fun a a_1 => (Fr.cv (Mc.F m a_1)), ov := [(19, 0, q, (Fr.cv ⟨(Mc.F m q).1, fun k => if Int.toNat x.2 = k then x.5 else (Mc.F m q).2 k⟩))] }, (nrow true m.8 m.9 m.10), (Ent.mkBox 40 [iv x.1, iv x.2, iv x.3, iv x.4, iv x.5])]))))
   (Tree.br (x.1 == (2 : Int))
   (Tree.chk ((0 : Int) ≤ x.3 ∧ x.3 < (↑16 : Int))
   (Tree.chk (0 < 1 ∧ q < Mc.nF m)
   (Tree.chk (Int.toNat x.3 < 16)
   (Tree.chk ((0 : Int) ≤ x.2 ∧ x.2 < (↑16 : Int))
   (Tree.chk (0 < 1 ∧ q < Mc.nF m)
   (Tree.chk (Int.toNat x.2 < 16)
   (Tree.done (XV.a (AV.c (CV.v (Value.bool true)))) [(Ent.mkBox 68 [CV.sl 1 0 0 5 d.2 d.3, CV.ptr ⟨2, 0, 0, 2, 0, 0, 0, 0⟩, CV.ptr ⟨4, 0, 0, 2, 0, 0, 0, 0⟩, iv m.3, CV.sl 6 0 0 17 (Mc.nF m) (Mc.cF m), CV.sl 7 0 0 2 m.8 m.9, iv m.4]), (Cd.row d), (Ar.box m.1 3), (Ar.row m.1), (Tb.box m.2 5), (Tb.row m.2), { own := true, box := false, ty := 66, sz := 17, m := 1, n := fun a => Mc.nF m, cap := fun a => Mc.cF m, f := fun a a_1 => (Fr.cv (Mc.F m a_1)), ov := [(19, 0, q, (Fr.cv ⟨(Mc.F m q).1, fun k => if Int.toNat x.2 = k then List.getD (rl fun k => (Mc.F m q).2 k) (Int.toNat x.3) (0 : Int) else (Mc.F m q).2 k⟩))] }, (nrow true m.8 m.9 m.10), (Ent.mkBox 40 [iv x.1, iv x.2, iv x.3, iv x.4, iv x.5])])))))))
   (Tree.br (x.1 == (3 : Int))
   (Tree.chk ((0 : Int) ≤ x.3 ∧ x.3 < (↑16 : Int))
   (Tree.chk (0 < 1 ∧ q < Mc.nF m)
   (Tree.chk (Int.toNat x.3 < 16)
   (Tree.chk ((0 : Int) ≤ x.4 ∧ x.4 < (↑16 : Int))
   (Tree.chk (0 < 1 ∧ q < Mc.nF m)
   (Tree.chk (Int.toNat x.4 < 16)
   (Tree.chk ((0 : Int) ≤ x.2 ∧ x.2 < (↑16 : Int))
   (Tree.chk (0 < 1 ∧ q < Mc.nF m)
   (Tree.chk (Int.toNat x.2 < 16)
   (Tree.done (XV.a (AV.c (CV.v (Value.bool true)))) [(Ent.mkBox 68 [CV.sl 1 0 0 5 d.2 d.3, CV.ptr ⟨2, 0, 0, 2, 0, 0, 0, 0⟩, CV.ptr ⟨4, 0, 0, 2, 0, 0, 0, 0⟩, iv m.3, CV.sl 6 0 0 17 (Mc.nF m) (Mc.cF m), CV.sl 7 0 0 2 m.8 m.9, iv m.4]), (Cd.row d), (Ar.box m.1 3), (Ar.row m.1), (Tb.box m.2 5), (Tb.row m.2), { own := true, box := false, ty := 66, sz := 17, m := 1, n := fun a => Mc.nF m, cap := fun a => Mc.cF m, f := fun a a_1 => (Fr.cv (Mc.F m a_1)), ov := [(19, 0, q, (Fr.cv ⟨(Mc.F m q).1, fun k => if Int.toNat x.2 = k then IntKind.wrap IntKind.i64 (List.getD (rl fun k => (Mc.F m q).2 k) (Int.toNat x.3) (0 : Int) + List.getD (rl fun k => (Mc.F m q).2 k) (Int.toNat x.4) (0 : Int)) else (Mc.F m q).2 k⟩))] }, (nrow true m.8 m.9 m.10), (Ent.mkBox 40 [iv x.1, iv x.2, iv x.3, iv x.4, iv x.5])]))))))))))
   (Tree.br (x.1 == (4 : Int))
   (Tree.chk ((0 : Int) ≤ x.3 ∧ x.3 < (↑16 : Int))
   (Tree.chk (0 < 1 ∧ q < Mc.nF m)
   (Tree.chk (Int.toNat x.3 < 16)
   (Tree.chk ((0 : Int) ≤ x.2 ∧ x.2 < (↑16 : Int))
   (Tree.chk (0 < 1 ∧ q < Mc.nF m)
   (Tree.chk (Int.toNat x.2 < 16)
   (Tree.done (XV.a (AV.c (CV.v (Value.bool true)))) [(Ent.mkBox 68 [CV.sl 1 0 0 5 d.2 d.3, CV.ptr ⟨2, 0, 0, 2, 0, 0, 0, 0⟩, CV.ptr ⟨4, 0, 0, 2, 0, 0, 0, 0⟩, iv m.3, CV.sl 6 0 0 17 (Mc.nF m) (Mc.cF m), CV.sl 7 0 0 2 m.8 m.9, iv m.4]), (Cd.row d), (Ar.box m.1 3), (Ar.row m.1), (Tb.box m.2 5), (Tb.row m.2), { own := true, box := false, ty := 66, sz := 17, m := 1, n := fun a => Mc.nF m, cap := fun a => Mc.cF m, f := fun a a_1 => (Fr.cv (Mc.F m a_1)), ov := [(19, 0, q, (Fr.cv ⟨(Mc.F m q).1, fun k => if Int.toNat x.2 = k then IntKind.wrap IntKind.i64 (List.getD (rl fun k => (Mc.F m q).2 k) (Int.toNat x.3) (0 : Int) + x.5) else (Mc.F m q).2 k⟩))] }, (nrow true m.8 m.9 m.10), (Ent.mkBox 40 [iv x.1, iv x.2, iv x.3, iv x.4, iv x.5])])))))))
   (Tree.br (x.1 == (15 : Int))
   (Tree.chk ((0 : Int) ≤ x.2 ∧ x.2 < (↑16 : Int))
   (Tree.chk (0 < 1 ∧ q < Mc.nF m)
   (Tree.chk (Int.toNat x.2 < 16)
   (Tree.chk (decide (List.getD (rl fun k => (Mc.F m q).2 k) (Int.toNat x.2) (0 : Int) ≥ (0 : Int)) = true → decide (List.getD (rl fun k => (Mc.F m q).2 k) (Int.toNat x.2) (0 : Int) ≥ (0 : Int)) = true)
   (Tree.chk (decide (List.getD (rl fun k => (Mc.F m q).2 k) (Int.toNat x.2) (0 : Int) ≥ (0 : Int)) = true → decide (List.getD (rl fun k => (Mc.F m q).2 k) (Int.toNat x.2) (0 : Int) ≥ (0 : Int)) = true)
   (Tree.chk ((bif decide (List.getD (rl fun k => (Mc.F m q).2 k) (Int.toNat x.2) (0 : Int) ≥ (0 : Int)) then decide (List.getD (rl fun k => (Mc.F m q).2 k) (Int.toNat x.2) (0 : Int) < (8 : Int)) else false) = true → (bif decide (List.getD (rl fun k => (Mc.F m q).2 k) (Int.toNat x.2) (0 : Int) ≥ (0 : Int)) then decide (List.getD (rl fun k => (Mc.F m q).2 k) (Int.toNat x.2) (0 : Int) < (8 : Int)) else false) = true)
   (Tree.chk ((bif decide (List.getD (rl fun k => (Mc.F m q).2 k) (Int.toNat x.2) (0 : Int) ≥ (0 : Int)) then decide (List.getD (rl fun k => (Mc.F m q).2 k) (Int.toNat x.2) (0 : Int) < (8 : Int)) else false) = true → (bif decide (List.getD (rl fun k => (Mc.F m q).2 k) (Int.toNat x.2) (0 : Int) ≥ (0 : Int)) then decide (List.getD (rl fun k => (Mc.F m q).2 k) (Int.toNat x.2) (0 : Int) < (8 : Int)) else false) = true)
   (Tree.chk ((bif decide (List.getD (rl fun k => (Mc.F m q).2 k) (Int.toNat x.2) (0 : Int) ≥ (0 : Int)) then decide (List.getD (rl fun k => (Mc.F m q).2 k) (Int.toNat x.2) (0 : Int) < (8 : Int)) else false) = true → (bif decide (List.getD (rl fun k => (Mc.F m q).2 k) (Int.toNat x.2) (0 : Int) ≥ (0 : Int)) then decide (List.getD (rl fun k => (Mc.F m q).2 k) (Int.toNat x.2) (0 : Int) < (8 : Int)) else false) = true)
   (Tree.br (bif decide (List.getD (rl fun k => (Mc.F m q).2 k) (Int.toNat x.2) (0 : Int) ≥ (0 : Int)) then decide (List.getD (rl fun k => (Mc.F m q).2 k) (Int.toNat x.2) (0 : Int) < (8 : Int)) else false)
   (Tree.chk ((bif decide (List.getD (rl fun k => (Mc.F m q).2 k) (Int.toNat x.2) (0 : Int) ≥ (0 : Int)) then decide (List.getD (rl fun k => (Mc.F m q).2 k) (Int.toNat x.2) (0 : Int) < (8 : Int)) else false) = true)
   (Tree.chk ((bif decide (List.getD (rl fun k => (Mc.F m q).2 k) (Int.toNat x.2) (0 : Int) ≥ (0 : Int)) then decide (List.getD (rl fun k => (Mc.F m q).2 k) (Int.toNat x.2) (0 : Int) < (8 : Int)) else false) = true)
   (Tree.br (hasF m.2 (List.getD (rl fun k => (Mc.F m q).2 k) (Int.toNat x.2) (0 : Int)))
   (Tree.callf 40 [AV.c (CV.ptr ⟨4, 0, 0, 2, 0, 0, 0, 0⟩), AV.c (iv (List.getD (rl fun k => (Mc.F m q).2 k) (Int.toNat x.2) (0 : Int)))] [(Ent.mkBox 68 [CV.sl 1 0 0 5 d.2 d.3, CV.ptr ⟨2, 0, 0, 2, 0, 0, 0, 0⟩, CV.ptr ⟨4, 0, 0, 2, 0, 0, 0, 0⟩, iv m.3, CV.sl 6 0 0 17 (Mc.nF m) (Mc.cF m), CV.sl 7 0 0 2 m.8 m.9, iv m.4]), (Cd.row d), (Ar.box m.1 3), (Ar.row m.1), (Tb.box m.2 5), (Tb.row m.2), (frow true (Mc.nF m) (Mc.cF m) (Mc.F m)), (nrow true m.8 m.9 m.10), (Ent.mkBox 40 [iv x.1, iv x.2, iv x.3, iv x.4, iv x.5])] (tbC m.2 { n := m.2.1, cap := m.2.2, P := fun j => if j = Int.toNat (List.getD (rl fun k => (Mc.F m q).2 k) (Int.toNat x.2) (0 : Int)) then { p := bif (m.2.3 j).3 then (m.2.3 j).1 else true, f := (m.2.3 j).2, b := false, d := (0 : Int) } else m.2.3 j, now := m.2.4 } [AV.c (iv (List.getD (rl fun k => (Mc.F m q).2 k) (Int.toNat x.2) (0 : Int)))] (XV.a (AV.c (CV.v Value.nilIface))) [4, 5]) fun c => Tree.chk ((bif decide (List.getD (rl fun k => (Mc.F m q).2 k) (Int.toNat x.2) (0 : Int) ≥ (0 : Int)) then decide (List.getD (rl fun k => (Mc.F m q).2 k) (Int.toNat x.2) (0 : Int) < (8 : Int)) else false) = true → (bif decide (List.getD (rl fun k => (Mc.F m q).2 k) (Int.toNat x.2) (0 : Int) ≥ (0 : Int)) then decide (List.getD (rl fun k => (Mc.F m q).2 k) (Int.toNat x.2) (0 : Int) < (8 : Int)) else false) = true)
   (Tree.done (XV.a (AV.c (CV.v (Value.bool (bif bif decide (List.getD (rl fun k => (Mc.F m q).2 k) (Int.toNat x.2) (0 : Int) ≥ (0 : Int)) then decide (List.getD (rl fun k => (Mc.F m q).2 k) (Int.toNat x.2) (0 : Int) < (8 : Int)) else false then true else false))))) [(Ent.mkBox 68 [CV.sl 1 0 0 5 d.2 d.3, CV.ptr ⟨2, 0, 0, 2, 0, 0, 0, 0⟩, CV.ptr ⟨4, 0, 0, 2, 0, 0, 0, 0⟩, iv m.3, CV.sl 6 0 0 17 (Mc.nF m) (Mc.cF m), CV.sl 7 0 0 2 m.8 m.9, iv m.4]), (Cd.row d), (Ar.box m.1 3), (Ar.row m.1), (Tb.box m.2 5), (Ent.rw true 59 4 m.2.1 m.2.2 fun ii => [CV.v (Value.bool (if ii = Int.toNat (List.getD (rl fun k => (Mc.F m q).2 k) (Int.toNat x.2) (0 : Int)) then { p := bif (m.2.3 ii).3 then (m.2.3 ii).1 else true, f := (m.2.3 ii).2, b := false, d := (0 : Int) } else m.2.3 ii).1), CV.v (Value.bool (if ii = Int.toNat (List.getD (rl fun k => (Mc.F m q).2 k) (Int.toNat x.2) (0 : Int)) then { p := bif (m.2.3 ii).3 then (m.2.3 ii).1 else true, f := (m.2.3 ii).2, b := false, d := (0 : Int) } else m.2.3 ii).2), CV.v (Value.bool (if ii = Int.toNat (List.getD (rl fun k => (Mc.F m q).2 k) (Int.toNat x.2) (0 : Int)) then { p := bif (m.2.3 ii).3 then (m.2.3 ii).1 else true, f := (m.2.3 ii).2, b := false, d := (0 : Int) } else m.2.3 ii).3), iv (if ii = Int.toNat (List.getD (rl fun k => (Mc.F m q).2 k) (Int.toNat x.2) (0 : Int)) then { p := bif (m.2.3 ii).3 then (m.2.3 ii).1 else true, f := (m.2.3 ii).2, b := false, d := (0 : Int) } else m.2.3 ii).4]), (frow true (Mc.nF m) (Mc.cF m) (Mc.F m)), (nrow true m.8 m.9 m.10), (Ent.mkBox 40 [iv x.1, iv x.2, iv x.3, iv x.4, iv x.5])]))
   (Tree.callf 40 [AV.c (CV.ptr ⟨4, 0, 0, 2, 0, 0, 0, 0⟩), AV.c (iv (List.getD (rl fun k => (Mc.F m q).2 k) (Int.toNat x.2) (0 : Int)))] [(Ent.mkBox 68 [CV.sl 1 0 0 5 d.2 d.3, CV.ptr ⟨2, 0, 0, 2, 0, 0, 0, 0⟩, CV.ptr ⟨4, 0, 0, 2, 0, 0, 0, 0⟩, iv m.3, CV.sl 6 0 0 17 (Mc.nF m) (Mc.cF m), CV.sl 7 0 0 2 m.8 m.9, iv m.4]), (Cd.row d), (Ar.box m.1 3), (Ar.row m.1), (Tb.box m.2 5), (Tb.row m.2), (frow true (Mc.nF m) (Mc.cF m) (Mc.F m)), (nrow true m.8 m.9 m.10), (Ent.mkBox 40 [iv x.1, iv x.2, iv x.3, iv x.4, iv x.5])] (tbC m.2 m.2 [AV.c (iv (List.getD (rl fun k => (Mc.F m q).2 k) (Int.toNat x.2) (0 : Int)))] (XV.a (AV.c (CV.v (Value.iface 36 (Value.int IntKind.i64 (4 : Int)))))) [4, 5]) fun c => Tree.chk ((bif decide (List.getD (rl fun k => (Mc.F m q).2 k) (Int.toNat x.2) (0 : Int) ≥ (0 : Int)) then decide (List.getD (rl fun k => (Mc.F m q).2 k) (Int.toNat x.2) (0 : Int) < (8 : Int)) else false) = true → (bif decide (List.getD (rl fun k => (Mc.F m q).2 k) (Int.toNat x.2) (0 : Int) ≥ (0 : Int)) then decide (List.getD (rl fun k => (Mc.F m q).2 k) (Int.toNat x.2) (0 : Int) < (8 : Int)) else false) = true)
   (Tree.done (XV.a (AV.c (CV.v (Value.bool (bif bif decide (List.getD (rl fun k => (Mc.F m q).2 k) (Int.toNat x.2) (0 : Int) ≥ (0 : Int)) then decide (List.getD (rl fun k => (Mc.F m q).2 k) (Int.toNat x.2) (0 : Int) < (8 : Int)) else false then false else false))))) [(Ent.mkBox 68 [CV.sl 1 0 0 5 d.2 d.3, CV.ptr ⟨2, 0, 0, 2, 0, 0, 0, 0⟩, CV.ptr ⟨4, 0, 0, 2, 0, 0, 0, 0⟩, iv m.3, CV.sl 6 0 0 17 (Mc.nF m) (Mc.cF m), CV.sl 7 0 0 2 m.8 m.9, iv m.4]), (Cd.row d), (Ar.box m.1 3), (Ar.row m.1), (Tb.box m.2 5), (Tb.row m.2), (frow true (Mc.nF m) (Mc.cF m) (Mc.F m)), (nrow true m.8 m.9 m.10), (Ent.mkBox 40 [iv x.1, iv x.2, iv x.3, iv x.4, iv x.5])])))))
   (Tree.chk ((bif decide (List.getD (rl fun k => (Mc.F m q).2 k) (Int.toNat x.2) (0 : Int) ≥ (0 : Int)) then decide (List.getD (rl fun k => (Mc.F m q).2 k) (Int.toNat x.2) (0 : Int) < (8 : Int)) else false) = true → False)
   (Tree.chk ((bif decide (List.getD (rl fun k => (Mc.F m q).2 k) (Int.toNat x.2) (0 : Int) ≥ (0 : Int)) then decide (List.getD (rl fun k => (Mc.F m q).2 k) (Int.toNat x.2) (0 : Int) < (8 : Int)) else false) = false)
   (Tree.done (XV.a (AV.c (CV.v (Value.bool false)))) [(Ent.mkBox 68 [CV.sl 1 0 0 5 d.2 d.3, CV.ptr ⟨2, 0, 0, 2, 0, 0, 0, 0⟩, CV.ptr ⟨4, 0, 0, 2, 0, 0, 0, 0⟩, iv m.3, CV.sl 6 0 0 17 (Mc.nF m) (Mc.cF m), CV.sl 7 0 0 2 m.8 m.9, iv m.4]), (Cd.row d), (Ar.box m.1 3), (Ar.row m.1), (Tb.box m.2 5), (Tb.row m.2), (frow true (Mc.nF m) (Mc.cF m) (Mc.F m)), (nrow true m.8 m.9 m.10), (Ent.mkBox 40 [iv x.1, iv x.2, iv x.3, iv x.4, iv x.5])]))))))))))))
   (Tree.br (x.1 == (16 : Int))
   (Tree.br (decide ((if (0 : Int) > x.5 then (0 : Int) else x.5) < (1 : Int)))
   (Tree.callf 20 [AV.c (CV.ptr ⟨2, 0, 0, 2, 0, 0, 0, 0⟩), AV.c (iv (if (0 : Int) > x.5 then (0 : Int) else x.5))] [(Ent.mkBox 68 [CV.sl 1 0 0 5 d.2 d.3, CV.ptr ⟨2, 0, 0, 2, 0, 0, 0, 0⟩, CV.ptr ⟨4, 0, 0, 2, 0, 0, 0, 0⟩, iv m.3, CV.sl 6 0 0 17 (Mc.nF m) (Mc.cF m), CV.sl 7 0 0 2 m.8 m.9, iv m.4]), (Cd.row d), (Ar.box m.1 3), (Ar.row m.1), (Tb.box m.2 5), (Tb.row m.2), (frow true (Mc.nF m) (Mc.cF m) (Mc.F m)), (nrow true m.8 m.9 m.10), (Ent.mkBox 40 [iv x.1, iv x.2, iv x.3, iv x.4, iv x.5])] (allocC m.1 m.1 (if (0 : Int) > x.5 then (0 : Int) else x.5) (0 : Int) (CV.v (Value.iface 36 (Value.int IntKind.i64 (1 : Int)))) [2, 3] 9) fun c => Tree.chk ((0 : Int) ≤ x.2 ∧ x.2 < (↑16 : Int))
   (Tree.chk (0 < 1 ∧ q < Mc.nF m)
   (Tree.chk (Int.toNat x.2 < 16)
   (Tree.br false
   (Tree.chk ((0 : Int) ≤ x.2 ∧ x.2 < (↑16 : Int))
   (Tree.chk (0 < 1 ∧ q < Mc.nF m)
   (Tree.chk (0 = 0 ∧ q = q)
   (Tree.chk (Int.toNat x.2 < 16)
   (Tree.done (XV.a (AV.c (CV.v (Value.bool true)))) [(Ent.mkBox 68 [CV.sl 1 0 0 5 d.2 d.3, CV.ptr ⟨2, 0, 0, 2, 0, 0, 0, 0⟩, CV.ptr ⟨4, 0, 0, 2, 0, 0, 0, 0⟩, iv m.3, CV.sl 6 0 0 17 (Mc.nF m) (Mc.cF m), CV.sl 7 0 0 2 m.8 m.9, iv m.4]), (Cd.row d), (Ent.mkBox 72 [CV.sl 9 0 0 1 m.1.1 (c 0), iv m.1.4]), Ent.dead, (Tb.box m.2 5), (Tb.row m.2), { own := true, box := false, ty := 66, sz := 17, m := 1, n := fun a => Mc.nF m, cap := fun a => Mc.cF m, f := fun a a_1 => (Fr.cv (Mc.F m a_1)), ov := [(19, 0, q, (Fr.cv ⟨(Mc.F m q).1, fun k => if Int.toNat x.2 = k then (0 : Int) else if Int.toNat x.2 = k then (0 : Int) else (Mc.F m q).2 k⟩)), (19, 0, q, (Fr.cv ⟨(Mc.F m q).1, fun k => if Int.toNat x.2 = k then (0 : Int) else (Mc.F m q).2 k⟩))] }, (nrow true m.8 m.9 m.10), (Ent.mkBox 40 [iv x.1, iv x.2, iv x.3, iv x.4, iv x.5]), (Ent.rw true 2 1 m.1.1 (c 0) fun ii => [iv (m.1.3 ii)])])))))
   (Tree.done (XV.a (AV.c (CV.v (Value.bool true)))) [(Ent.mkBox 68 [CV.sl 1 0 0 5 d.2 d.3, CV.ptr ⟨2, 0, 0, 2, 0, 0, 0, 0⟩, CV.ptr ⟨4, 0, 0, 2, 0, 0, 0, 0⟩, iv m.3, CV.sl 6 0 0 17 (Mc.nF m) (Mc.cF m), CV.sl 7 0 0 2 m.8 m.9, iv m.4]), (Cd.row d), (Ent.mkBox 72 [CV.sl 9 0 0 1 m.1.1 (c 0), iv m.1.4]), Ent.dead, (Tb.box m.2 5), (Tb.row m.2), { own := true, box := false, ty := 66, sz := 17, m := 1, n := fun a => Mc.nF m, cap := fun a => Mc.cF m, f := fun a a_1 => (Fr.cv (Mc.F m a_1)), ov := [(19, 0, q, (Fr.cv ⟨(Mc.F m q).1, fun k => if Int.toNat x.2 = k then (0 : Int) else (Mc.F m q).2 k⟩))] }, (nrow true m.8 m.9 m.10), (Ent.mkBox 40 [iv x.1, iv x.2, iv x.3, iv x.4, iv x.5]), (Ent.rw true 2 1 m.1.1 (c 0) fun ii => [iv (m.1.3 ii)])])))))
   (Tree.br (fullF m.1 (if (0 : Int) > x.5 then (0 : Int) else x.5))
   (Tree.callf 20 [AV.c (CV.ptr ⟨2, 0, 0, 2, 0, 0, 0, 0⟩), AV.c (iv (if (0 : Int) > x.5 then (0 : Int) else x.5))] [(Ent.mkBox 68 [CV.sl 1 0 0 5 d.2 d.3, CV.ptr ⟨2, 0, 0, 2, 0, 0, 0, 0⟩, CV.ptr ⟨4, 0, 0, 2, 0, 0, 0, 0⟩, iv m.3, CV.sl 6 0 0 17 (Mc.nF m) (Mc.cF m), CV.sl 7 0 0 2 m.8 m.9, iv m.4]), (Cd.row d), (Ar.box m.1 3), (Ar.row m.1), (Tb.box m.2 5), (Tb.row m.2), (frow true (Mc.nF m) (Mc.cF m) (Mc.F m)), (nrow true m.8 m.9 m.10), (Ent.mkBox 40 [iv x.1, iv x.2, iv x.3, iv x.4, iv x.5])] (allocC m.1 m.1 (if (0 : Int) > x.5 then (0 : Int) else x.5) (0 : Int) (CV.v (Value.iface 36 (Value.int IntKind.i64 (3 : Int)))) [2, 3] 9) fun c => Tree.chk ((0 : Int) ≤ x.2 ∧ x.2 < (↑16 : Int))
   (Tree.chk (0 < 1 ∧ q < Mc.nF m)
   (Tree.chk (Int.toNat x.2 < 16)
   (Tree.br false
   (Tree.chk ((0 : Int) ≤ x.2 ∧ x.2 < (↑16 : Int))
   (Tree.chk (0 < 1 ∧ q < Mc.nF m)
   (Tree.chk (0 = 0 ∧ q = q)
   (Tree.chk (Int.toNat x.2 < 16)
   (Tree.done (XV.a (AV.c (CV.v (Value.bool true)))) [(Ent.mkBox 68 [CV.sl 1 0 0 5 d.2 d.3, CV.ptr ⟨2, 0, 0, 2, 0, 0, 0, 0⟩, CV.ptr ⟨4, 0, 0, 2, 0, 0, 0, 0⟩, iv m.3, CV.sl 6 0 0 17 (Mc.nF m) (Mc.cF m), CV.sl 7 0 0 2 m.8 m.9, iv m.4]), (Cd.row d), (Ent.mkBox 72 [CV.sl 9 0 0 1 m.1.1 (c 0), iv m.1.4]), Ent.dead, (Tb.box m.2 5), (Tb.row m.2), { own := true, box := false, ty := 66, sz := 17, m := 1, n := fun a => Mc.nF m, cap := fun a => Mc.cF m, f := fun a a_1 => (Fr.cv (Mc.F m a_1)), ov := [(19, 0, q, (Fr.cv ⟨(Mc.F m q).1, fun k => if Int.toNat x.2 = k then (0 : Int) else if Int.toNat x.2 = k then (0 : Int) else (Mc.F m q).2 k⟩)), (19, 0, q, (Fr.cv ⟨(Mc.F m q).1, fun k => if Int.toNat x.2 = k then (0 : Int) else (Mc.F m q).2 k⟩))] }, (nrow true m.8 m.9 m.10), (Ent.mkBox 40 [iv x.1, iv x.2, iv x.3, iv x.4, iv x.5]), (Ent.rw true 2 1 m.1.1 (c 0) fun ii => [iv (m.1.3 ii)])])))))
   (Tree.done (XV.a (AV.c (CV.v (Value.bool true)))) [(Ent.mkBox 68 [CV.sl 1 0 0 5 d.2 d.3, CV.ptr ⟨2, 0, 0, 2, 0, 0, 0, 0⟩, CV.ptr ⟨4, 0, 0, 2, 0, 0, 0, 0⟩, iv m.3, CV.sl 6 0 0 17 (Mc.nF m) (Mc.cF m), CV.sl 7 0 0 2 m.8 m.9, iv m.4]), (Cd.row d), (Ent.mkBox 72 [CV.sl 9 0 0 1 m.1.1 (c 0), iv m.1.4]), Ent.dead, (Tb.box m.2 5), (Tb.row m.2), { own := true, box := false, ty := 66, sz := 17, m := 1, n := fun a => Mc.nF m, cap := fun a => Mc.cF m, f := fun a a_1 => (Fr.cv (Mc.F m a_1)), ov := [(19, 0, q, (Fr.cv ⟨(Mc.F m q).1, fun k => if Int.toNat x.2 = k then (0 : Int) else (Mc.F m q).2 k⟩))] }, (nrow true m.8 m.9 m.10), (Ent.mkBox 40 [iv x.1, iv x.2, iv x.3, iv x.4, iv x.5]), (Ent.rw true 2 1 m.1.1 (c 0) fun ii => [iv (m.1.3 ii)])])))))
   (Tree.callf 20 [AV.c (CV.ptr ⟨2, 0, 0, 2, 0, 0, 0, 0⟩), AV.c (iv (if (0 : Int) > x.5 then (0 : Int) else x.5))] [(Ent.mkBox 68 [CV.sl 1 0 0 5 d.2 d.3, CV.ptr ⟨2, 0, 0, 2, 0, 0, 0, 0⟩, CV.ptr ⟨4, 0, 0, 2, 0, 0, 0, 0⟩, iv m.3, CV.sl 6 0 0 17 (Mc.nF m) (Mc.cF m), CV.sl 7 0 0 2 m.8 m.9, iv m.4]), (Cd.row d), (Ar.box m.1 3), (Ar.row m.1), (Tb.box m.2 5), (Tb.row m.2), (frow true (Mc.nF m) (Mc.cF m) (Mc.F m)), (nrow true m.8 m.9 m.10), (Ent.mkBox 40 [iv x.1, iv x.2, iv x.3, iv x.4, iv x.5])] (allocC m.1 { n := m.1.1 + Int.toNat (if (0 : Int) > x.5 then (0 : Int) else x.5), cap := m.1.2, C := fun j => if j < m.1.1 then m.1.3 j else (0 : Int), most := m.1.4 } (if (0 : Int) > x.5 then (0 : Int) else x.5) (↑m.1.1 : Int) (CV.v Value.nilIface) [2, 3] 9) fun c => Tree.chk ((0 : Int) ≤ x.2 ∧ x.2 < (↑16 : Int))
   (Tree.chk (0 < 1 ∧ q < Mc.nF m)
   (Tree.chk (Int.toNat x.2 < 16)
   (Tree.br true
   (Tree.chk ((0 : Int) ≤ x.2 ∧ x.2 < (↑16 : Int))
   (Tree.chk (0 < 1 ∧ q < Mc.nF m)
   (Tree.chk (0 = 0 ∧ q = q)
   (Tree.chk (Int.toNat x.2 < 16)
   (Tree.done (XV.a (AV.c (CV.v (Value.bool true)))) [(Ent.mkBox 68 [CV.sl 1 0 0 5 d.2 d.3, CV.ptr ⟨2, 0, 0, 2, 0, 0, 0, 0⟩, CV.ptr ⟨4, 0, 0, 2, 0, 0, 0, 0⟩, iv m.3, CV.sl 6 0 0 17 (Mc.nF m) (Mc.cF m), CV.sl 7 0 0 2 m.8 m.9, iv m.4]), (Cd.row d), (Ent.mkBox 72 [CV.sl 9 0 0 1 (m.1.1 + Int.toNat (if (0 : Int) > x.5 then (0 : Int) else x.5)) (c 0), iv m.1.4]), Ent.dead, (Tb.box m.2 5), (Tb.row m.2), { own := true, box := false, ty := 66, sz := 17, m := 1, n := fun a => Mc.nF m, cap := fun a => Mc.cF m, f := fun a a_1 => (Fr.cv (Mc.F m a_1)), ov := [(19, 0, q, (Fr.cv ⟨(Mc.F m q).1, fun k => if Int.toNat x.2 = k then (↑m.1.1 : Int) else if Int.toNat x.2 = k then (0 : Int) else (Mc.F m q).2 k⟩)), (19, 0, q, (Fr.cv ⟨(Mc.F m q).1, fun k => if Int.toNat x.2 = k then (0 : Int) else (Mc.F m q).2 k⟩))] }, (nrow true m.8 m.9 m.10), (Ent.mkBox 40 [iv x.1, iv x.2, iv x.3, iv x.4, iv x.5]), (Ent.rw true 2 1 (m.1.1 + Int.toNat (if (0 : Int) > x.5 then (0 : Int) else x.5)) (c 0) fun ii => [iv (if ii < m.1.1 then m.1.3 ii else (0 : Int))])])))))
   (Tree.done (XV.a (AV.c (CV.v (Value.bool true)))) [(Ent.mkBox 68 [CV.sl 1 0 0 5 d.2 d.3, CV.ptr ⟨2, 0, 0, 2, 0, 0, 0, 0⟩, CV.ptr ⟨4, 0, 0, 2, 0, 0, 0, 0⟩, iv m.3, CV.sl 6 0 0 17 (Mc.nF m) (Mc.cF m), CV.sl 7 0 0 2 m.8 m.9, iv m.4]), (Cd.row d), (Ent.mkBox 72 [CV.sl 9 0 0 1 (m.1.1 + Int.toNat (if (0 : Int) > x.5 then (0 : Int) else x.5)) (c 0), iv m.1.4]), Ent.dead, (Tb.box m.2 5), (Tb.row m.2), { own := true, box := false, ty := 66, sz := 17, m := 1, n := fun a => Mc.nF m, cap := fun a => Mc.cF m, f := fun a a_1 => (Fr.cv (Mc.F m a_1)), ov := [(19, 0, q, (Fr.cv ⟨(Mc.F m q).1, fun k => if Int.toNat x.2 = k then (0 : Int) else (Mc.F m q).2 k⟩))] }, (nrow true m.8 m.9 m.10), (Ent.mkBox 40 [iv x.1, iv x.2, iv x.3, iv x.4, iv x.5]), (Ent.rw true 2 1 (m.1.1 + Int.toNat (if (0 : Int) > x.5 then (0 : Int) else x.5)) (c 0) fun ii => [iv (if ii < m.1.1 then m.1.3 ii else (0 : Int))])])))))))
   (Tree.br (x.1 == (17 : Int))
   (Tree.chk ((0 : Int) ≤ x.2 ∧ x.2 < (↑16 : Int))
   (Tree.chk (0 < 1 ∧ q < Mc.nF m)
   (Tree.chk (Int.toNat x.2 < 16)
   (Tree.done (XV.a (AV.c (CV.v (Value.bool true)))) [(Ent.mkBox 68 [CV.sl 1 0 0 5 d.2 d.3, CV.ptr ⟨2, 0, 0, 2, 0, 0, 0, 0⟩, CV.ptr ⟨4, 0, 0, 2, 0, 0, 0, 0⟩, iv m.3, CV.sl 6 0 0 17 (Mc.nF m) (Mc.cF m), CV.sl 7 0 0 2 m.8 m.9, iv m.4]), (Cd.row d), (Ar.box m.1 3), (Ar.row m.1), (Tb.box m.2 5), (Tb.row m.2), { own := true, box := false, ty := 66, sz := 17, m := 1, n := fun a => Mc.nF m, cap := fun a => Mc.cF m, f := fun a a_1 => (Fr.cv (Mc.F m a_1)), ov := [(19, 0, q, (Fr.cv ⟨(Mc.F m q).1, fun k => if Int.toNat x.2 = k then m.3 else (Mc.F m q).2 k⟩))] }, (nrow true m.8 m.9 m.10), (Ent.mkBox 40 [iv x.1, iv x.2, iv x.3, iv x.4, iv x.5])]))))
   (Tree.br (x.1 == (18 : Int))
   (Tree.callf 41 [AV.c (CV.ptr ⟨4, 0, 0, 2, 0, 0, 0, 0⟩)] [(Ent.mkBox 68 [CV.sl 1 0 0 5 d.2 d.3, CV.ptr ⟨2, 0, 0, 2, 0, 0, 0, 0⟩, CV.ptr ⟨4, 0, 0, 2, 0, 0, 0, 0⟩, iv m.3, CV.sl 6 0 0 17 (Mc.nF m) (Mc.cF m), CV.sl 7 0 0 2 m.8 m.9, iv m.4]), (Cd.row d), (Ar.box m.1 3), (Ar.row m.1), (Tb.box m.2 5), (Tb.row m.2), (frow true (Mc.nF m) (Mc.cF m) (Mc.F m)), (nrow true m.8 m.9 m.10), (Ent.mkBox 40 [iv x.1, iv x.2, iv x.3, iv x.4, iv x.5])] (nowC m.2 [4, 5]) fun c => Tree.chk (AV.c (CV.ptr ⟨6, 0, q, 17, 1, 0, 0, 19⟩) = AV.c (CV.ptr ⟨6, 0, q, 17, 1, 0, 0, 19⟩))
   (Tree.chk (AV.c (CV.ptr ⟨6, 0, q, 17, 0, 0, 0, 19⟩) = AV.c (CV.ptr ⟨6, 0, q, 17, 0, 0, 0, 19⟩))
   (Tree.chk (AV.c (iv x.2) = AV.c (iv x.2))
   (Tree.chk (AV.c (CV.ptr ⟨8, 0, 0, 5, 1, 0, 0, 0⟩) = AV.c (CV.ptr ⟨8, 0, 0, 5, 1, 0, 0, 0⟩))
   (Tree.chk (AV.c (CV.ptr ⟨6, 0, q, 17, 0, 0, 0, 19⟩) = AV.c (CV.ptr ⟨6, 0, q, 17, 0, 0, 0, 19⟩))
   (Tree.chk ((0 : Int) ≤ x.2 ∧ x.2 < (↑16 : Int))
   (Tree.chk (0 < 1 ∧ q < Mc.nF m)
   (Tree.chk (Int.toNat x.2 < 16)
   (Tree.done (XV.a (AV.c (CV.v (Value.bool true)))) [(Ent.mkBox 68 [CV.sl 1 0 0 5 d.2 d.3, CV.ptr ⟨2, 0, 0, 2, 0, 0, 0, 0⟩, CV.ptr ⟨4, 0, 0, 2, 0, 0, 0, 0⟩, iv m.3, CV.sl 6 0 0 17 (Mc.nF m) (Mc.cF m), CV.sl 7 0 0 2 m.8 m.9, iv m.4]), (Cd.row d), (Ar.box m.1 3), (Ar.row m.1), (Tb.box m.2 5), (Tb.row m.2), { own := true, box := false, ty := 66, sz := 17, m := 1, n := fun a => Mc.nF m, cap := fun a => Mc.cF m, f := fun a a_1 => (Fr.cv (Mc.F m a_1)), ov := [(19, 0, q, (Fr.cv ⟨(Mc.F m q).1, fun k => if Int.toNat x.2 = k then m.2.4 else (Mc.F m q).2 k⟩))] }, (nrow true m.8 m.9 m.10), (Ent.mkBox 40 [iv x.1, iv x.2, iv x.3, iv x.4, iv x.5])])))))))))
   (Tree.br (x.1 == (19 : Int))
   (Tree.br (hasF m.2 m.3)
   (Tree.callf 42 [AV.c (CV.ptr ⟨4, 0, 0, 2, 0, 0, 0, 0⟩), AV.c (iv m.3)] [(Ent.mkBox 68 [CV.sl 1 0 0 5 d.2 d.3, CV.ptr ⟨2, 0, 0, 2, 0, 0, 0, 0⟩, CV.ptr ⟨4, 0, 0, 2, 0, 0, 0, 0⟩, iv m.3, CV.sl 6 0 0 17 (Mc.nF m) (Mc.cF m), CV.sl 7 0 0 2 m.8 m.9, iv m.4]), (Cd.row d), (Ar.box m.1 3), (Ar.row m.1), (Tb.box m.2 5), (Tb.row m.2), (frow true (Mc.nF m) (Mc.cF m) (Mc.F m)), (nrow true m.8 m.9 m.10), (Ent.mkBox 40 [iv x.1, iv x.2, iv x.3, iv x.4, iv x.5])] (tbC m.2 { n := m.2.1, cap := m.2.2, P := fun j => if j = Int.toNat m.3 then { p := (m.2.3 j).1, f := false, b := (m.2.3 j).3, d := (m.2.3 j).4 } else m.2.3 j, now := m.2.4 } [AV.c (iv m.3)] (XV.tup [AV.c (CV.v (Value.bool (m.2.3 (Int.toNat m.3)).2)), AV.c (CV.v Value.nilIface)]) [4, 5]) fun c => Tree.chk ((0 : Int) ≤ x.2 ∧ x.2 < (↑16 : Int))
   (Tree.chk (0 < 1 ∧ q < Mc.nF m)
   (Tree.chk (Int.toNat x.2 < 16)
   (Tree.br (m.2.3 (Int.toNat m.3)).2
   (Tree.chk ((0 : Int) ≤ x.2 ∧ x.2 < (↑16 : Int))
   (Tree.chk (0 < 1 ∧ q < Mc.nF m)
   (Tree.chk (0 = 0 ∧ q = q)
   (Tree.chk (Int.toNat x.2 < 16)
   (Tree.done (XV.a (AV.c (CV.v (Value.bool true)))) [(Ent.mkBox 68 [CV.sl 1 0 0 5 d.2 d.3, CV.ptr ⟨2, 0, 0, 2, 0, 0, 0, 0⟩, CV.ptr ⟨4, 0, 0, 2, 0, 0, 0, 0⟩, iv m.3, CV.sl 6 0 0 17 (Mc.nF m) (Mc.cF m), CV.sl 7 0 0 2 m.8 m.9, iv m.4]), (Cd.row d), (Ar.box m.1 3), (Ar.row m.1), (Tb.box m.2 5), (Ent.rw true 59 4 m.2.1 m.2.2 fun ii => [CV.v (Value.bool (if ii = Int.toNat m.3 then { p := (m.2.3 ii).1, f := false, b := (m.2.3 ii).3, d := (m.2.3 ii).4 } else m.2.3 ii).1), CV.v (Value.bool (if ii = Int.toNat m.3 then { p := (m.2.3 ii).1, f := false, b := (m.2.3 ii).3, d := (m.2.3 ii).4 } else m.2.3 ii).2), CV.v (Value.bool (if ii = Int.toNat m.3 then { p := (m.2.3 ii).1, f := false, b := (m.2.3 ii).3, d := (m.2.3 ii).4 } else m.2.3 ii).3), iv (if ii = Int.toNat m.3 then { p := (m.2.3 ii).1, f := false, b := (m.2.3 ii).3, d := (m.2.3 ii).4 } else m.2.3 ii).4]), { own := true, box := false, ty := 66, sz := 17, m := 1, n := fun a => Mc.nF m, cap := fun a => Mc.cF m, f := fun a a_1 => (Fr.cv (Mc.F m a_1)), ov := [(19, 0, q, (Fr.cv ⟨(Mc.F m q).1, fun k => if Int.toNat x.2 = k then (1 : Int) else if Int.toNat x.2 = k then (0 : Int) else (Mc.F m q).2 k⟩)), (19, 0, q, (Fr.cv ⟨(Mc.F m q).1, fun k => if Int.toNat x.2 = k then (0 : Int) else (Mc.F m q).2 k⟩))] }, (nrow true m.8 m.9 m.10), (Ent.mkBox 40 [iv x.1, iv x.2, iv x.3, iv x.4, iv x.5])])))))
   (Tree.done (XV.a (AV.c (CV.v (Value.bool true)))) [(Ent.mkBox 68 [CV.sl 1 0 0 5 d.2 d.3, CV.ptr ⟨2, 0, 0, 2, 0, 0, 0, 0⟩, CV.ptr ⟨4, 0, 0, 2, 0, 0, 0, 0⟩, iv m.3, CV.sl 6 0 0 17 (Mc.nF m) (Mc.cF m), CV.sl 7 0 0 2 m.8 m.9, iv m.4]), (Cd.row d), (Ar.box m.1 3), (Ar.row m.1), (Tb.box m.2 5), (Ent.rw true 59 4 m.2.1 m.2.2 fun ii => [CV.v (Value.bool (if ii = Int.toNat m.3 then { p := (m.2.3 ii).1, f := false, b := (m.2.3 ii).3, d := (m.2.3 ii).4 } else m.2.3 ii).1), CV.v (Value.bool (if ii = Int.toNat m.3 then { p := (m.2.3 ii).1, f := false, b := (m.2.3 ii).3, d := (m.2.3 ii).4 } else m.2.3 ii).2), CV.v (Value.bool (if ii = Int.toNat m.3 then { p := (m.2.3 ii).1, f := false, b := (m.2.3 ii).3, d := (m.2.3 ii).4 } else m.2.3 ii).3), iv (if ii = Int.toNat m.3 then { p := (m.2.3 ii).1, f := false, b := (m.2.3 ii).3, d := (m.2.3 ii).4 } else m.2.3 ii).4]), { own := true, box := false, ty := 66, sz := 17, m := 1, n := fun a => Mc.nF m, cap := fun a => Mc.cF m, f := fun a a_1 => (Fr.cv (Mc.F m a_1)), ov := [(19, 0, q, (Fr.cv ⟨(Mc.F m q).1, fun k => if Int.toNat x.2 = k then (0 : Int) else (Mc.F m q).2 k⟩))] }, (nrow true m.8 m.9 m.10), (Ent.mkBox 40 [iv x.1, iv x.2, iv x.3, iv x.4, iv x.5])])))))
   (Tree.callf 42 [AV.c (CV.ptr ⟨4, 0, 0, 2, 0, 0, 0, 0⟩), AV.c (iv m.3)] [(Ent.mkBox 68 [CV.sl 1 0 0 5 d.2 d.3, CV.ptr ⟨2, 0, 0, 2, 0, 0, 0, 0⟩, CV.ptr ⟨4, 0, 0, 2, 0, 0, 0, 0⟩, iv m.3, CV.sl 6 0 0 17 (Mc.nF m) (Mc.cF m), CV.sl 7 0 0 2 m.8 m.9, iv m.4]), (Cd.row d), (Ar.box m.1 3), (Ar.row m.1), (Tb.box m.2 5), (Tb.row m.2), (frow true (Mc.nF m) (Mc.cF m) (Mc.F m)), (nrow true m.8 m.9 m.10), (Ent.mkBox 40 [iv x.1, iv x.2, iv x.3, iv x.4, iv x.5])] (tbC m.2 m.2 [AV.c (iv m.3)] (XV.tup [AV.c (CV.v (Value.bool false)), AV.c (CV.v (Value.iface 36 (Value.int IntKind.i64 (4 : Int))))]) [4, 5]) fun c => Tree.chk ((0 : Int) ≤ x.2 ∧ x.2 < (↑16 : Int))
   (Tree.chk (0 < 1 ∧ q < Mc.nF m)
   (Tree.chk (Int.toNat x.2 < 16)
   (Tree.br false
   (Tree.chk ((0 : Int) ≤ x.2 ∧ x.2 < (↑16 : Int))
   (Tree.chk (0 < 1 ∧ q < Mc.nF m)
   (Tree.chk (0 = 0 ∧ q = q)
   (Tree.chk (Int.toNat x.2 < 16)
   (Tree.done (XV.a (AV.c (CV.v (Value.bool false)))) [(Ent.mkBox 68 [CV.sl 1 0 0 5 d.2 d.3, CV.ptr ⟨2, 0, 0, 2, 0, 0, 0, 0⟩, CV.ptr ⟨4, 0, 0, 2, 0, 0, 0, 0⟩, iv m.3, CV.sl 6 0 0 17 (Mc.nF m) (Mc.cF m), CV.sl 7 0 0 2 m.8 m.9, iv m.4]), (Cd.row d), (Ar.box m.1 3), (Ar.row m.1), (Tb.box m.2 5), (Tb.row m.2), { own := true, box := false, ty := 66, sz := 17, m := 1, n := fun a => Mc.nF m, cap := fun a => Mc.cF m, f := fun a a_1 => (Fr.cv (Mc.F m a_1)), ov := [(19, 0, q, (Fr.cv ⟨(Mc.F m q).1, fun k => if Int.toNat x.2 = k then (1 : Int) else if Int.toNat x.2 = k then (0 : Int) else (Mc.F m q).2 k⟩)), (19, 0, q, (Fr.cv ⟨(Mc.F m q).1, fun k => if Int.toNat x.2 = k then (0 : Int) else (Mc.F m q).2 k⟩))] }, (nrow true m.8 m.9 m.10), (Ent.mkBox 40 [iv x.1, iv x.2, iv x.3, iv x.4, iv x.5])])))))
   (Tree.done (XV.a (AV.c (CV.v (Value.bool false)))) [(Ent.mkBox 68 [CV.sl 1 0 0 5 d.2 d.3, CV.ptr ⟨2, 0, 0, 2, 0, 0, 0, 0⟩, CV.ptr ⟨4, 0, 0, 2, 0, 0, 0, 0⟩, iv m.3, CV.sl 6 0 0 17 (Mc.nF m) (Mc.cF m), CV.sl 7 0 0 2 m.8 m.9, iv m.4]), (Cd.row d), (Ar.box m.1 3), (Ar.row m.1), (Tb.box m.2 5), (Tb.row m.2), { own := true, box := false, ty := 66, sz := 17, m := 1, n := fun a => Mc.nF m, cap := fun a => Mc.cF m, f := fun a a_1 => (Fr.cv (Mc.F m a_1)), ov := [(19, 0, q, (Fr.cv ⟨(Mc.F m q).1, fun k => if Int.toNat x.2 = k then (0 : Int) else (Mc.F m q).2 k⟩))] }, (nrow true m.8 m.9 m.10), (Ent.mkBox 40 [iv x.1, iv x.2, iv x.3, iv x.4, iv x.5])]))))))
   (Tree.br (x.1 == (20 : Int))
   (Tree.br (hasF m.2 m.3)
   (Tree.callf 43 [AV.c (CV.ptr ⟨4, 0, 0, 2, 0, 0, 0, 0⟩), AV.c (iv m.3)] [(Ent.mkBox 68 [CV.sl 1 0 0 5 d.2 d.3, CV.ptr ⟨2, 0, 0, 2, 0, 0, 0, 0⟩, CV.ptr ⟨4, 0, 0, 2, 0, 0, 0, 0⟩, iv m.3, CV.sl 6 0 0 17 (Mc.nF m) (Mc.cF m), CV.sl 7 0 0 2 m.8 m.9, iv m.4]), (Cd.row d), (Ar.box m.1 3), (Ar.row m.1), (Tb.box m.2 5), (Tb.row m.2), (frow true (Mc.nF m) (Mc.cF m) (Mc.F m)), (nrow true m.8 m.9 m.10), (Ent.mkBox 40 [iv x.1, iv x.2, iv x.3, iv x.4, iv x.5])] (tbC m.2 { n := m.2.1, cap := m.2.2, P := fun j => if j = Int.toNat m.3 then { p := (m.2.3 j).1, f := true, b := false, d := (0 : Int) } else m.2.3 j, now := m.2.4 } [AV.c (iv m.3)] (XV.a (AV.c (CV.v Value.nilIface))) [4, 5]) fun c => Tree.done (XV.a (AV.c (CV.v (Value.bool true)))) [(Ent.mkBox 68 [CV.sl 1 0 0 5 d.2 d.3, CV.ptr ⟨2, 0, 0, 2, 0, 0, 0, 0⟩, CV.ptr ⟨4, 0, 0, 2, 0, 0, 0, 0⟩, iv m.3, CV.sl 6 0 0 17 (Mc.nF m) (Mc.cF m), CV.sl 7 0 0 2 m.8 m.9, iv m.4]), (Cd.row d), (Ar.box m.1 3), (Ar.row m.1), (Tb.box m.2 5), (Ent.rw true 59 4 m.2.1 m.2.2 fun ii => [CV.v (Value.bool (if ii = Int.toNat m.3 then { p := (m.2.3 ii).1, f := true, b := false, d := (0 : Int) } else m.2.3 ii).1), CV.v (Value.bool (if ii = Int.toNat m.3 then { p := (m.2.3 ii).1, f := true, b := false, d := (0 : Int) } else m.2.3 ii).2), CV.v (Value.bool (if ii = Int.toNat m.3 then { p := (m.2.3 ii).1, f := true, b := false, d := (0 : Int) } else m.2.3 ii).3), iv (if ii = Int.toNat m.3 then { p := (m.2.3 ii).1, f := true, b := false, d := (0 : Int) } else m.2.3 ii).4]), (frow true (Mc.nF m) (Mc.cF m) (Mc.F m)), (nrow true m.8 m.9 m.10), (Ent.mkBox 40 [iv x.1, iv x.2, iv x.3, iv x.4, iv x.5])])
   (Tree.callf 43 [AV.c (CV.ptr ⟨4, 0, 0, 2, 0, 0, 0, 0⟩), AV.c (iv m.3)] [(Ent.mkBox 68 [CV.sl 1 0 0 5 d.2 d.3, CV.ptr ⟨2, 0, 0, 2, 0, 0, 0, 0⟩, CV.ptr ⟨4, 0, 0, 2, 0, 0, 0, 0⟩, iv m.3, CV.sl 6 0 0 17 (Mc.nF m) (Mc.cF m), CV.sl 7 0 0 2 m.8 m.9, iv m.4]), (Cd.row d), (Ar.box m.1 3), (Ar.row m.1), (Tb.box m.2 5), (Tb.row m.2), (frow true (Mc.nF m) (Mc.cF m) (Mc.F m)), (nrow true m.8 m.9 m.10), (Ent.mkBox 40 [iv x.1, iv x.2, iv x.3, iv x.4, iv x.5])] (tbC m.2 m.2 [AV.c (iv m.3)] (XV.a (AV.c (CV.v (Value.iface 36 (Value.int IntKind.i64 (4 : Int)))))) [4, 5]) fun c => Tree.done (XV.a (AV.c (CV.v (Value.bool false)))) [(Ent.mkBox 68 [CV.sl 1 0 0 5 d.2 d.3, CV.ptr ⟨2, 0, 0, 2, 0, 0, 0, 0⟩, CV.ptr ⟨4, 0, 0, 2, 0, 0, 0, 0⟩, iv m.3, CV.sl 6 0 0 17 (Mc.nF m) (Mc.cF m), CV.sl 7 0 0 2 m.8 m.9, iv m.4]), (Cd.row d), (Ar.box m.1 3), (Ar.row m.1), (Tb.box m.2 5), (Tb.row m.2), (frow true (Mc.nF m) (Mc.cF m) (Mc.F m)), (nrow true m.8 m.9 m.10), (Ent.mkBox 40 [iv x.1, iv x.2, iv x.3, iv x.4, iv x.5])]))
   (Tree.br (x.1 == (21 : Int))
   (Tree.chk ((0 : Int) ≤ x.2 ∧ x.2 < (↑16 : Int))
   (Tree.chk (0 < 1 ∧ q < Mc.nF m)
   (Tree.chk (Int.toNat x.2 < 16)
   (Tree.chk (AV.c (CV.sl 7 0 0 2 m.8 m.9) = AV.c (CV.sl 7 0 0 2 m.8 m.9))
   (Tree.chk (AV.c (CV.ptr ⟨0, 0, 0, 7, 5, 0, 0, 0⟩) = AV.c (CV.ptr ⟨0, 0, 0, 7, 5, 0, 0, 0⟩))
   (Tree.chk (AV.c (CV.ptr ⟨0, 0, 0, 7, 0, 0, 0, 0⟩) = AV.c (CV.ptr ⟨0, 0, 0, 7, 0, 0, 0, 0⟩))
   (Tree.chk (AV.c (CV.ptr ⟨0, 0, 0, 7, 0, 0, 0, 0⟩) = AV.c (CV.ptr ⟨0, 0, 0, 7, 0, 0, 0, 0⟩))
   (Tree.chk (AV.c (CV.ptr ⟨0, 0, 0, 7, 0, 0, 0, 0⟩) = AV.c (CV.ptr ⟨0, 0, 0, 7, 0, 0, 0, 0⟩))
   (Tree.chk ((m.8 + 1) * 16 ≤ 140737488355328)
   (Tree.chk (0 < 1 ∧ 1 ≤ 1)
   (Tree.chk (m.8 = m.8 ∧ m.9 = m.9)
   (Tree.all (fun c => m.8 + 1 ≤ c 0 ∧ c 0 ≤ maxLen) fun c => Tree.chk (AV.c (CV.ptr ⟨0, 0, 0, 7, 0, 0, 0, 0⟩) = AV.c (CV.ptr ⟨0, 0, 0, 7, 0, 0, 0, 0⟩))
   (Tree.done (XV.a (AV.c (CV.v (Value.bool true)))) [(Ent.mkBox 68 [CV.sl 1 0 0 5 d.2 d.3, CV.ptr ⟨2, 0, 0, 2, 0, 0, 0, 0⟩, CV.ptr ⟨4, 0, 0, 2, 0, 0, 0, 0⟩, iv m.3, CV.sl 6 0 0 17 (Mc.nF m) (Mc.cF m), CV.sl 10 0 0 2 (m.8 + 1) (c 0), iv m.4]), (Cd.row d), (Ar.box m.1 3), (Ar.row m.1), (Tb.box m.2 5), (Tb.row m.2), (frow true (Mc.nF m) (Mc.cF m) (Mc.F m)), Ent.dead, (Ent.mkBox 40 [iv x.1, iv x.2, iv x.3, iv x.4, iv x.5]), (Ent.rw true 80 2 1 1 fun ii => [iv x.5, iv (List.getD (rl fun k => (Mc.F m q).2 k) (Int.toNat x.2) (0 : Int))]), (Ent.rw true 80 2 (m.8 + 1) (c 0) fun ii => if ii < m.8 then [iv (Prod.fst (m.10 ii)), iv (Prod.snd (m.10 ii))] else [iv x.5, iv (List.getD (rl fun k => (Mc.F m q).2 k) (Int.toNat x.2) (0 : Int))])])))))))))))))
   (Tree.done (XV.a (AV.c (CV.v (Value.bool true)))) [(Ent.mkBox 68 [CV.sl 1 0 0 5 d.2 d.3, CV.ptr ⟨2, 0, 0, 2, 0, 0, 0, 0⟩, CV.ptr ⟨4, 0, 0, 2, 0, 0, 0, 0⟩, iv m.3, CV.sl 6 0 0 17 (Mc.nF m) (Mc.cF m), CV.sl 7 0 0 2 m.8 m.9, iv m.4]), (Cd.row d), (Ar.box m.1 3), (Ar.row m.1), (Tb.box m.2 5), (Tb.row m.2), (frow true (Mc.nF m) (Mc.cF m) (Mc.F m)), (nrow true m.8 m.9 m.10), (Ent.mkBox 40 [iv x.1, iv x.2, iv x.3, iv x.4, iv x.5])])))))))))))
theorem tplain_eq (m : Mc) (d : Cd) (x : In) (q : Nat) : xfunc tab (mcG m.ar m.tb) noInv Go.Proofs.Try.f37 [bptr 0 7, x.av, fref q] (m.H d) [0, 1, 2, 3, 4, 5, 6, 7, 8, 9, 10] = tplain m d x q := by kernel_rfl
def tframes (m : Mc) (d : Cd) (x : In) : Tree :=
  Tree.chk ((0 : Int) ≤ IntKind.wrap IntKind.i64 ((↑(Mc.nF m) : Int) - (1 : Int)) ∧ IntKind.wrap IntKind.i64 ((↑(Mc.nF m) : Int) - (1 : Int)) < (↑(Mc.nF m) : Int) ∧ Int.toNat (IntKind.wrap IntKind.i64 ((↑(Mc.nF m) : Int) - (1 : Int))) < Mc.nF m ∧ 0 < 1)
   (Tree.br (x.1 == (12 : Int))
   (Tree.br (decide ((↑(Mc.nF m) : Int) ≥ (16 : Int)))
   (Tree.done (XV.a (AV.c (CV.v (Value.bool false)))) [(Ent.mkBox 68 [CV.sl 1 0 0 5 d.2 d.3, CV.ptr ⟨2, 0, 0, 2, 0, 0, 0, 0⟩, CV.ptr ⟨4, 0, 0, 2, 0, 0, 0, 0⟩, iv m.3, CV.sl 6 0 0 17 (Mc.nF m) (Mc.cF m), CV.sl 7 0 0 2 m.8 m.9, iv m.4]), (Cd.row d), (Ar.box m.1 3), (Ar.row m.1), (Tb.box m.2 5), (Tb.row m.2), (frow true (Mc.nF m) (Mc.cF m) (Mc.F m)), (nrow true m.8 m.9 m.10), (Ent.mkBox 40 [iv x.1, iv x.2, iv x.3, iv x.4, iv x.5])])
   (Tree.chk (0 < 1 ∧ Int.toNat (IntKind.wrap IntKind.i64 ((↑(Mc.nF m) : Int) - (1 : Int))) < Mc.nF m)
   (Tree.chk (0 < 1 ∧ Int.toNat (IntKind.wrap IntKind.i64 ((↑(Mc.nF m) : Int) - (1 : Int))) < Mc.nF m)
   (Tree.chk (0 < 1 ∧ Int.toNat (IntKind.wrap IntKind.i64 ((↑(Mc.nF m) : Int) - (1 : Int))) < Mc.nF m)
   (Tree.chk (0 = 0 ∧ Int.toNat (IntKind.wrap IntKind.i64 ((↑(Mc.nF m) : Int) - (1 : Int))) = Int.toNat (IntKind.wrap IntKind.i64 ((↑(Mc.nF m) : Int) - (1 : Int))))
   (Tree.chk (AV.c (CV.sl 6 0 0 17 (Mc.nF m) (Mc.cF m)) = AV.c (CV.sl 6 0 0 17 (Mc.nF m) (Mc.cF m)))
   (Tree.chk (AV.c (CV.ptr ⟨0, 0, 0, 7, 4, 0, 0, 0⟩) = AV.c (CV.ptr ⟨0, 0, 0, 7, 4, 0, 0, 0⟩))
   (Tree.chk (AV.c (CV.ptr ⟨0, 0, 0, 7, 0, 0, 0, 0⟩) = AV.c (CV.ptr ⟨0, 0, 0, 7, 0, 0, 0, 0⟩))
   (Tree.chk (AV.c (CV.ptr ⟨0, 0, 0, 7, 0, 0, 0, 0⟩) = AV.c (CV.ptr ⟨0, 0, 0, 7, 0, 0, 0, 0⟩))
   (Tree.chk (AV.c (CV.ptr ⟨0, 0, 0, 7, 0, 0, 0, 0⟩) = AV.c (CV.ptr ⟨0, 0, 0, 7, 0, 0, 0, 0⟩))
   (Tree.chk ((Mc.nF m + 1) * 136 ≤ 140737488355328)
   (Tree.chk (0 < 1 ∧ 1 ≤ 1)
   (Tree.chk (Mc.nF m = Mc.nF m ∧ Mc.cF m = Mc.cF m)
   (Tree.all (fun c => Mc.nF m + 1 ≤ c 0 ∧ c 0 ≤ maxLen) fun c => Tree.chk (AV.c (CV.ptr ⟨0, 0, 0, 7, 0, 0, 0, 0⟩) = AV.c (CV.ptr ⟨0, 0, 0, 7, 0, 0, 0, 0⟩))
   (Tree.done (XV.a (AV.c (CV.v (Value.bool true)))) [(Ent.mkBox 68 [CV.sl 1 0 0 5 d.2 d.3, CV.ptr ⟨2, 0, 0, 2, 0, 0, 0, 0⟩, CV.ptr ⟨4, 0, 0, 2, 0, 0, 0, 0⟩, iv m.3, CV.sl 10 0 0 17 (Mc.nF m + 1) (c 0), CV.sl 7 0 0 2 m.8 m.9, iv m.4]), (Cd.row d), (Ar.box m.1 3), (Ar.row m.1), (Tb.box m.2 5), (Tb.row m.2), Ent.dead, (nrow true m.8 m.9 m.10), (Ent.mkBox 40 [iv x.1, iv x.2, iv x.3, iv x.4, iv x.5]), (Ent.rw true 66 17 1 1 fun ii => (Fr.cv ⟨x.5, fun k => (Mc.F m (Int.toNat (IntKind.wrap IntKind.i64 ((↑(Mc.nF m) : Int) - (1 : Int))))).2 k⟩)), (Ent.rw true 66 17 (Mc.nF m + 1) (c 0) fun ii => if ii < Mc.nF m then if 0 = 0 ∧ ii = Int.toNat (IntKind.wrap IntKind.i64 ((↑(Mc.nF m) : Int) - (1 : Int))) then (Fr.cv ⟨IntKind.wrap IntKind.i64 ((Mc.F m (Int.toNat (IntKind.wrap IntKind.i64 ((↑(Mc.nF m) : Int) - (1 : Int))))).1 + (1 : Int)), fun k => (Mc.F m (Int.toNat (IntKind.wrap IntKind.i64 ((↑(Mc.nF m) : Int) - (1 : Int))))).2 k⟩) else (Fr.cv (Mc.F m ii)) else (Fr.cv ⟨x.5, fun k => (Mc.F m (Int.toNat (IntKind.wrap IntKind.i64 ((↑(Mc.nF m) : Int) - (1 : Int))))).2 k⟩))])))))))))))))))
   (Tree.br ((↑(Mc.nF m) : Int) == (1 : Int))
   (Tree.done (XV.a (AV.c (CV.v (Value.bool false)))) [(Ent.mkBox 68 [CV.sl 1 0 0 5 d.2 d.3, CV.ptr ⟨2, 0, 0, 2, 0, 0, 0, 0⟩, CV.ptr ⟨4, 0, 0, 2, 0, 0, 0, 0⟩, iv m.3, CV.sl 6 0 0 17 (Mc.nF m) (Mc.cF m), CV.sl 7 0 0 2 m.8 m.9, iv m.4]), (Cd.row d), (Ar.box m.1 3), (Ar.row m.1), (Tb.box m.2 5), (Tb.row m.2), (frow true (Mc.nF m) (Mc.cF m) (Mc.F m)), (nrow true m.8 m.9 m.10), (Ent.mkBox 40 [iv x.1, iv x.2, iv x.3, iv x.4, iv x.5])])
   (Tree.chk (0 < 1 ∧ Int.toNat (IntKind.wrap IntKind.i64 ((↑(Mc.nF m) : Int) - (1 : Int))) < Mc.nF m)
   (Tree.chk ((0 : Int) ≤ IntKind.wrap IntKind.i64 ((↑(Mc.nF m) : Int) - (1 : Int)) ∧ IntKind.wrap IntKind.i64 ((↑(Mc.nF m) : Int) - (1 : Int)) ≤ (↑(Mc.cF m) : Int))
   (Tree.chk ((0 : Int) ≤ IntKind.wrap IntKind.i64 ((↑(Int.toNat (IntKind.wrap IntKind.i64 ((↑(Mc.nF m) : Int) - (1 : Int)))) : Int) - (1 : Int)) ∧ IntKind.wrap IntKind.i64 ((↑(Int.toNat (IntKind.wrap IntKind.i64 ((↑(Mc.nF m) : Int) - (1 : Int)))) : Int) - (1 : Int)) < (↑(Int.toNat (IntKind.wrap IntKind.i64 ((↑(Mc.nF m) : Int) - (1 : Int)))) : Int) ∧ Int.toNat (IntKind.wrap IntKind.i64 ((↑(Int.toNat (IntKind.wrap IntKind.i64 ((↑(Mc.nF m) : Int) - (1 : Int)))) : Int) - (1 : Int))) < Mc.nF m ∧ 0 < 1)
   (Tree.chk ((0 : Int) ≤ (0 : Int) ∧ (0 : Int) < (↑16 : Int))
   (Tree.chk ((0 : Int) ≤ (1 : Int) ∧ (1 : Int) < (↑16 : Int))
   (Tree.chk ((0 : Int) ≤ (0 : Int) ∧ (0 : Int) < (↑16 : Int))
   (Tree.chk (0 < 1 ∧ Int.toNat (IntKind.wrap IntKind.i64 ((↑(Int.toNat (IntKind.wrap IntKind.i64 ((↑(Mc.nF m) : Int) - (1 : Int)))) : Int) - (1 : Int))) < Mc.nF m)
   (Tree.chk (AV.c (CV.ptr ⟨6, 0, Int.toNat (IntKind.wrap IntKind.i64 ((↑(Int.toNat (IntKind.wrap IntKind.i64 ((↑(Mc.nF m) : Int) - (1 : Int)))) : Int) - (1 : Int))), 17, 1, 0, 0, 84⟩) = AV.c (CV.ptr ⟨6, 0, Int.toNat (IntKind.wrap IntKind.i64 ((↑(Int.toNat (IntKind.wrap IntKind.i64 ((↑(Mc.nF m) : Int) - (1 : Int)))) : Int) - (1 : Int))), 17, 1, 0, 0, 84⟩))
   (Tree.chk (AV.c (CV.ptr ⟨6, 0, Int.toNat (IntKind.wrap IntKind.i64 ((↑(Int.toNat (IntKind.wrap IntKind.i64 ((↑(Mc.nF m) : Int) - (1 : Int)))) : Int) - (1 : Int))), 17, 0, 0, 0, 84⟩) = AV.c (CV.ptr ⟨6, 0, Int.toNat (IntKind.wrap IntKind.i64 ((↑(Int.toNat (IntKind.wrap IntKind.i64 ((↑(Mc.nF m) : Int) - (1 : Int)))) : Int) - (1 : Int))), 17, 0, 0, 0, 84⟩))
   (Tree.chk (AV.c (iv ((Mc.F m (Int.toNat (IntKind.wrap IntKind.i64 ((↑(Mc.nF m) : Int) - (1 : Int))))).2 1)) = AV.c (iv ((Mc.F m (Int.toNat (IntKind.wrap IntKind.i64 ((↑(Mc.nF m) : Int) - (1 : Int))))).2 1)))
   (Tree.chk ((0 : Int) ≤ (1 : Int) ∧ (1 : Int) < (↑16 : Int))
   (Tree.chk (AV.c (CV.ptr ⟨9, 0, 0, 16, 1, 0, 0, 0⟩) = AV.c (CV.ptr ⟨9, 0, 0, 16, 1, 0, 0, 0⟩))
   (Tree.chk (AV.c (CV.ptr ⟨6, 0, Int.toNat (IntKind.wrap IntKind.i64 ((↑(Int.toNat (IntKind.wrap IntKind.i64 ((↑(Mc.nF m) : Int) - (1 : Int)))) : Int) - (1 : Int))), 17, 0, 0, 0, 84⟩) = AV.c (CV.ptr ⟨6, 0, Int.toNat (IntKind.wrap IntKind.i64 ((↑(Int.toNat (IntKind.wrap IntKind.i64 ((↑(Mc.nF m) : Int) - (1 : Int)))) : Int) - (1 : Int))), 17, 0, 0, 0, 84⟩))
   (Tree.chk ((0 : Int) ≤ (1 : Int) ∧ (1 : Int) < (↑16 : Int))
   (Tree.chk (0 < 1 ∧ Int.toNat (IntKind.wrap IntKind.i64 ((↑(Int.toNat (IntKind.wrap IntKind.i64 ((↑(Mc.nF m) : Int) - (1 : Int)))) : Int) - (1 : Int))) < Mc.nF m)
   (Tree.chk (0 = 0 ∧ Int.toNat (IntKind.wrap IntKind.i64 ((↑(Int.toNat (IntKind.wrap IntKind.i64 ((↑(Mc.nF m) : Int) - (1 : Int)))) : Int) - (1 : Int))) = Int.toNat (IntKind.wrap IntKind.i64 ((↑(Int.toNat (IntKind.wrap IntKind.i64 ((↑(Mc.nF m) : Int) - (1 : Int)))) : Int) - (1 : Int))))
   (Tree.done (XV.a (AV.c (CV.v (Value.bool true)))) [(Ent.mkBox 68 [CV.sl 1 0 0 5 d.2 d.3, CV.ptr ⟨2, 0, 0, 2, 0, 0, 0, 0⟩, CV.ptr ⟨4, 0, 0, 2, 0, 0, 0, 0⟩, iv m.3, CV.sl 6 0 0 17 (Int.toNat (IntKind.wrap IntKind.i64 ((↑(Mc.nF m) : Int) - (1 : Int)))) (Mc.cF m), CV.sl 7 0 0 2 m.8 m.9, iv m.4]), (Cd.row d), (Ar.box m.1 3), (Ar.row m.1), (Tb.box m.2 5), (Tb.row m.2), { own := true, box := false, ty := 66, sz := 17, m := 1, n := fun a => Mc.nF m, cap := fun a => Mc.cF m, f := fun a a_1 => (Fr.cv (Mc.F m a_1)), ov := [(84, 0, Int.toNat (IntKind.wrap IntKind.i64 ((↑(Int.toNat (IntKind.wrap IntKind.i64 ((↑(Mc.nF m) : Int) - (1 : Int)))) : Int) - (1 : Int))), [iv (Mc.F m (Int.toNat (IntKind.wrap IntKind.i64 ((↑(Int.toNat (IntKind.wrap IntKind.i64 ((↑(Mc.nF m) : Int) - (1 : Int)))) : Int) - (1 : Int))))).1, iv ((Mc.F m (Int.toNat (IntKind.wrap IntKind.i64 ((↑(Mc.nF m) : Int) - (1 : Int))))).2 0), iv ((Mc.F m (Int.toNat (IntKind.wrap IntKind.i64 ((↑(Mc.nF m) : Int) - (1 : Int))))).2 1), iv ((Mc.F m (Int.toNat (IntKind.wrap IntKind.i64 ((↑(Int.toNat (IntKind.wrap IntKind.i64 ((↑(Mc.nF m) : Int) - (1 : Int)))) : Int) - (1 : Int))))).2 2), iv ((Mc.F m (Int.toNat (IntKind.wrap IntKind.i64 ((↑(Int.toNat (IntKind.wrap IntKind.i64 ((↑(Mc.nF m) : Int) - (1 : Int)))) : Int) - (1 : Int))))).2 3), iv ((Mc.F m (Int.toNat (IntKind.wrap IntKind.i64 ((↑(Int.toNat (IntKind.wrap IntKind.i64 ((↑(Mc.nF m) : Int) - (1 : Int)))) : Int) - (1 : Int))))).2 4), iv ((Mc.F m (Int.toNat (IntKind.wrap IntKind.i64 ((↑(Int.toNat (IntKind.wrap IntKind.i64 ((↑(Mc.nF m) : Int) - (1 : Int)))) : Int) - (1 : Int))))).2 5), iv ((Mc.F m (Int.toNat (IntKind.wrap IntKind.i64 ((↑(Int.toNat (IntKind.wrap IntKind.i64 ((↑(Mc.nF m) : Int) - (1 : Int)))) : Int) - (1 : Int))))).2 6), iv ((Mc.F m (Int.toNat (IntKind.wrap IntKind.i64 ((↑(Int.toNat (IntKind.wrap IntKind.i64 ((↑(Mc.nF m) : Int) - (1 : Int)))) : Int) - (1 : Int))))).2 7), iv ((Mc.F m (Int.toNat (IntKind.wrap IntKind.i64 ((↑(Int.toNat (IntKind.wrap IntKind.i64 ((↑(Mc.nF m) : Int) - (1 : Int)))) : Int) - (1 : Int))))).2 8), iv ((Mc.F m (Int.toNat (IntKind.wrap IntKind.i64 ((↑(Int.toNat (IntKind.wrap IntKind.i64 ((↑(Mc.nF m) : Int) - (1 : Int)))) : Int) - (1 : Int))))).2 9), iv ((Mc.F m (Int.toNat (IntKind.wrap IntKind.i64 ((↑(Int.toNat (IntKind.wrap IntKind.i64 ((↑(Mc.nF m) : Int) - (1 : Int)))) : Int) - (1 : Int))))).2 10), iv ((Mc.F m (Int.toNat (IntKind.wrap IntKind.i64 ((↑(Int.toNat (IntKind.wrap IntKind.i64 ((↑(Mc.nF m) : Int) - (1 : Int)))) : Int) - (1 : Int))))).2 11), iv ((Mc.F m (Int.toNat (IntKind.wrap IntKind.i64 ((↑(Int.toNat (IntKind.wrap IntKind.i64 ((↑(Mc.nF m) : Int) - (1 : Int)))) : Int) - (1 : Int))))).2 12), iv ((Mc.F m (Int.toNat (IntKind.wrap IntKind.i64 ((↑(Int.toNat (IntKind.wrap IntKind.i64 ((↑(Mc.nF m) : Int) - (1 : Int)))) : Int) - (1 : Int))))).2 13), iv ((Mc.F m (Int.toNat (IntKind.wrap IntKind.i64 ((↑(Int.toNat (IntKind.wrap IntKind.i64 ((↑(Mc.nF m) : Int) - (1 : Int)))) : Int) - (1 : Int))))).2 14), iv ((Mc.F m (Int.toNat (IntKind.wrap IntKind.i64 ((↑(Int.toNat (IntKind.wrap IntKind.i64 ((↑(Mc.nF m) : Int) - (1 : Int)))) : Int) - (1 : Int))))).2 15)]), (84, 0, Int.toNat (IntKind.wrap IntKind.i64 ((↑(Int.toNat (IntKind.wrap IntKind.i64 ((↑(Mc.nF m) : Int) - (1 : Int)))) : Int) - (1 : Int))), [iv (Mc.F m (Int.toNat (IntKind.wrap IntKind.i64 ((↑(Int.toNat (IntKind.wrap IntKind.i64 ((↑(Mc.nF m) : Int) - (1 : Int)))) : Int) - (1 : Int))))).1, iv ((Mc.F m (Int.toNat (IntKind.wrap IntKind.i64 ((↑(Mc.nF m) : Int) - (1 : Int))))).2 0), iv ((Mc.F m (Int.toNat (IntKind.wrap IntKind.i64 ((↑(Int.toNat (IntKind.wrap IntKind.i64 ((↑(Mc.nF m) : Int) - (1 : Int)))) : Int) - (1 : Int))))).2 1), iv ((Mc.F m (Int.toNat (IntKind.wrap IntKind.i64 ((↑(Int.toNat (IntKind.wrap IntKind.i64 ((↑(Mc.nF m) : Int) - (1 : Int)))) : Int) - (1 : Int))))).2 2), iv ((Mc.F m (Int.toNat (IntKind.wrap IntKind.i64 ((↑(Int.toNat (IntKind.wrap IntKind.i64 ((↑(Mc.nF m) : Int) - (1 : Int)))) : Int) - (1 : Int))))).2 3), iv ((Mc.F m (Int.toNat (IntKind.wrap IntKind.i64 ((↑(Int.toNat (IntKind.wrap IntKind.i64 ((↑(Mc.nF m) : Int) - (1 : Int)))) : Int) - (1 : Int))))).2 4), iv ((Mc.F m (Int.toNat (IntKind.wrap IntKind.i64 ((↑(Int.toNat (IntKind.wrap IntKind.i64 ((↑(Mc.nF m) : Int) - (1 : Int)))) : Int) - (1 : Int))))).2 5), iv ((Mc.F m (Int.toNat (IntKind.wrap IntKind.i64 ((↑(Int.toNat (IntKind.wrap IntKind.i64 ((↑(Mc.nF m) : Int) - (1 : Int)))) : Int) - (1 : Int))))).2 6), iv ((Mc.F m (Int.toNat (IntKind.wrap IntKind.i64 ((↑(Int.toNat (IntKind.wrap IntKind.i64 ((↑(Mc.nF m) : Int) - (1 : Int)))) : Int) - (1 : Int))))).2 7), iv ((Mc.F m (Int.toNat (IntKind.wrap IntKind.i64 ((↑(Int.toNat (IntKind.wrap IntKind.i64 ((↑(Mc.nF m) : Int) - (1 : Int)))) : Int) - (1 : Int))))).2 8), iv ((Mc.F m (Int.toNat (IntKind.wrap IntKind.i64 ((↑(Int.toNat (IntKind.wrap IntKind.i64 ((↑(Mc.nF m) : Int) - (1 : Int)))) : Int) - (1 : Int))))).2 9), iv ((Mc.F m (Int.toNat (IntKind.wrap IntKind.i64 ((↑(Int.toNat (IntKind.wrap IntKind.i64 ((↑(Mc.nF m) : Int) - (1 : Int)))) : Int) - (1 : Int))))).2 10), iv ((Mc.F m (Int.toNat (IntKind.wrap IntKind.i64 ((↑(Int.toNat (IntKind.wrap IntKind.i64 ((↑(Mc.nF m) : Int) - (1 : Int)))) : Int) - (1 : Int))))).2 11), iv ((Mc.F m (Int.toNat (IntKind.wrap IntKind.i64 ((↑(Int.toNat (IntKind.wrap IntKind.i64 ((↑(Mc.nF m) : Int) - (1 : Int)))) : Int) - (1 : Int))))).2 12), iv ((Mc.F m (Int.toNat (IntKind.wrap IntKind.i64 ((↑(Int.toNat (IntKind.wrap IntKind.i64 ((↑(Mc.nF m) : Int) - (1 : Int)))) : Int) - (1 : Int))))).2 13), iv ((Mc.F m (Int.toNat (IntKind.wrap IntKind.i64 ((↑(Int.toNat (IntKind.wrap IntKind.i64 ((↑(Mc.nF m) : Int) - (1 : Int)))) : Int) - (1 : Int))))).2 14), iv ((Mc.F m (Int.toNat (IntKind.wrap IntKind.i64 ((↑(Int.toNat (IntKind.wrap IntKind.i64 ((↑(Mc.nF m) : Int) - (1 : Int)))) : Int) - (1 : Int))))).2 15)])] }, (nrow true m.8 m.9 m.10), (Ent.mkBox 40 [iv x.1, iv x.2, iv x.3, iv x.4, iv x.5]), (Ent.mkBox 64 (rc fun k => (Mc.F m (Int.toNat (IntKind.wrap IntKind.i64 ((↑(Mc.nF m) : Int) - (1 : Int))))).2 k))])))))))))))))))))))
theorem tframes_eq (m : Mc) (d : Cd) (x : In) : xfunc tab noCtr noInv Go.Proofs.Try.f35 [bptr 0 7, x.av] (m.H d) [0, 1, 2, 3, 4, 5, 6, 7, 8, 9, 10, 11] = tframes m d x := by kernel_rfl
end Go.Proofs.Ytehecaipmdfjmaa.X.Mi

set_option linter.unusedVariables false
set_option linter.unusedSimpArgs false
namespace Go.Proofs.Ytehecaipmdfjmaa.X.Mi
open Go Go.RowKit Go.Proofs.YtehecaipmdfjmaaW.PrintWords Go.Proofs.Ytehecaipmdfjmaa.Base Go.Proofs.Ytehecaipmdfjmaa.X
theorem ov_tb {t : Tb} {q i c : Nat} {cs : List CV} {g : Pk → Pk} {F : Nat → Nat → List CV} {r : List (Nat × Nat × Nat × List CV)} (hF : F = fun _ i => (t.P i).cv) (h : cs = (g (t.P q)).cv) (hr : ∀ i, i ≠ q → ovAt F 0 i r = F 0 i) : ovAt F 0 i ((c, 0, q, cs) :: r) = ((t.upd q g).P i).cv := by
  subst hF
  show (if 0 = 0 ∧ i = q then cs else _) = Pk.cv (if i = q then g (t.P i) else t.P i)
  by_cases h1 : i = q
  · subst h1; rw [if_pos ⟨rfl, rfl⟩, if_pos rfl]; exact h
  · rw [if_neg (fun hh => h1 hh.2), if_neg h1]; exact hr i h1
theorem clear_local (t : Tb) (x : Int) (ρ : List Nat) : (hasF t x = true → (tbC t (t.upd x.toNat Pk.clear) [iav x] (.tup [.c (bv (t.P x.toNat).f), .c nilE]) ρ).Local Try.prog 42) ∧ (hasF t x = false → (tbC t t [iav x] (.tup [.c (bv false), .c (errE 4)]) ρ).Local Try.prog 42) := by
  refine ⟨fun h => ?_, fun h => ?_⟩
  · refine local_of Try.func42 rfl (tclear_eq t x) fun ν w => ?_
    have hh := has_of h
    refine ok_callf' has_call (fits_of rfl rfl ⟨⟨_, rfl, EntRel.box' rfl rfl rfl rfl rfl⟩, ⟨_, rfl, EntRel.rw rfl rfl (fun _ _ => rfl) fun _ _ => rfl⟩, trivial⟩ fun c _ => ⟨⟨Nat.le_refl _, rfl⟩, ⟨rfl, rfl⟩, ⟨⟨EntRel.box' rfl rfl rfl rfl rfl, rfl, (fun _ => ⟨rfl, rfl⟩), .inr rfl⟩, ⟨EntRel.rw rfl rfl (fun _ _ => rfl) fun _ _ => rfl, rfl, (fun h => by cases h), .inr rfl⟩, trivial⟩⟩) (has_local t x _) fun c _ => ok_br' (fun h2 => by rw [h] at h2; cases h2) fun _ => ?_
    repeat first | refine ok_chk' ⟨by omega, by omega, by omega, by omega⟩ ?_ | refine ok_chk' ⟨by omega, by omega⟩ ?_
    first | exact ok_leaf (fun _ => 0) [] [0, 1] trivial rfl ⟨⟨_, rfl, EntRel.box' rfl rfl rfl rfl rfl⟩, ⟨_, rfl, EntRel.rw rfl rfl (fun _ _ => rfl) fun _ _ => rfl⟩, trivial⟩ rfl | exact ok_leaf (fun _ => 0) [] [0, 1] trivial rfl ⟨⟨_, rfl, EntRel.box' rfl rfl rfl rfl rfl⟩, ⟨_, rfl, EntRel.ovs rfl rfl (fun i _ => ov_tb rfl rfl fun i hi => by first | rfl | simp [ovAt, hi]) fun _ => rfl⟩, trivial⟩ rfl
  · refine local_of Try.func42 rfl (tclear_eq t x) fun ν w => ?_
    refine ok_callf' has_call (fits_of rfl rfl ⟨⟨_, rfl, EntRel.box' rfl rfl rfl rfl rfl⟩, ⟨_, rfl, EntRel.rw rfl rfl (fun _ _ => rfl) fun _ _ => rfl⟩, trivial⟩ fun c _ => ⟨⟨Nat.le_refl _, rfl⟩, ⟨rfl, rfl⟩, ⟨⟨EntRel.box' rfl rfl rfl rfl rfl, rfl, (fun _ => ⟨rfl, rfl⟩), .inr rfl⟩, ⟨EntRel.rw rfl rfl (fun _ _ => rfl) fun _ _ => rfl, rfl, (fun h => by cases h), .inr rfl⟩, trivial⟩⟩) (has_local t x _) fun c _ => ok_br' (fun _ => ?_) fun h2 => by rw [h] at h2; cases h2
    first | exact ok_leaf (fun _ => 0) [] [0, 1] trivial rfl ⟨⟨_, rfl, EntRel.box' rfl rfl rfl rfl rfl⟩, ⟨_, rfl, EntRel.rw rfl rfl (fun _ _ => rfl) fun _ _ => rfl⟩, trivial⟩ rfl | exact ok_leaf (fun _ => 0) [] [0, 1] trivial rfl ⟨⟨_, rfl, EntRel.box' rfl rfl rfl rfl rfl⟩, ⟨_, rfl, EntRel.ovs rfl rfl (fun i _ => ov_tb rfl rfl fun i hi => by first | rfl | simp [ovAt, hi]) fun _ => rfl⟩, trivial⟩ rfl
theorem upd_upd (t : Tb) (i : Nat) (g h k : Pk → Pk) (hk : ∀ p, h (g p) = k p) : (t.upd i g).upd i h = t.upd i k := by
  have : (fun j => if j = i then h (if j = i then g (t.P j) else t.P j) else (if j = i then g (t.P j) else t.P j)) = fun j => if j = i then k (t.P j) else t.P j := by
    funext j
    by_cases hj : j = i
    · simp only [hj, if_true]; exact hk _
    · simp only [hj, if_false]
  show Tb.mk t.n t.cap (fun j => if j = i then h (if j = i then g (t.P j) else t.P j) else (if j = i then g (t.P j) else t.P j)) t.now = _
  rw [this]; rfl
theorem upd_at (t : Tb) (i : Nat) (g k : Pk → Pk) (hk : g (t.P i) = k (t.P i)) : t.upd i g = t.upd i k := by
  have : (fun j => if j = i then g (t.P j) else t.P j) = fun j => if j = i then k (t.P j) else t.P j := by
    funext j
    by_cases hj : j = i
    · simp only [hj, if_true]; exact hk
    · simp only [hj, if_false]
  show Tb.mk t.n t.cap (fun j => if j = i then g (t.P j) else t.P j) t.now = _
  rw [this]; rfl
theorem intr_local (t : Tb) (x : Int) (ρ : List Nat) : (hasF t x = true → (tbC t (t.upd x.toNat Pk.intr) [iav x] (.a (.c nilE)) ρ).Local Try.prog 43) ∧ (hasF t x = false → (tbC t t [iav x] (.a (.c (errE 4))) ρ).Local Try.prog 43) := by
  refine ⟨fun h => ?_, fun h => ?_⟩
  · rw [show t.upd x.toNat Pk.intr = (t.upd x.toNat fun p => { p with f := true }).upd x.toNat Pk.on from (upd_upd t x.toNat (fun p => { p with f := true }) Pk.on Pk.intr fun p => rfl).symm]
    refine local_of Try.func43 rfl (tintr_eq t x) fun ν w => ?_
    have hh := has_of h
    refine ok_callf' has_call (fits_of rfl rfl ⟨⟨_, rfl, EntRel.box' rfl rfl rfl rfl rfl⟩, ⟨_, rfl, EntRel.rw rfl rfl (fun _ _ => rfl) fun _ _ => rfl⟩, trivial⟩ fun c _ => ⟨⟨Nat.le_refl _, rfl⟩, ⟨rfl, rfl⟩, ⟨⟨EntRel.box' rfl rfl rfl rfl rfl, rfl, (fun _ => ⟨rfl, rfl⟩), .inr rfl⟩, ⟨EntRel.rw rfl rfl (fun _ _ => rfl) fun _ _ => rfl, rfl, (fun h => by cases h), .inr rfl⟩, trivial⟩⟩) (has_local t x _) fun c _ => ok_br' (fun h2 => by rw [h] at h2; cases h2) fun _ => ?_
    repeat first | refine ok_chk' ⟨by omega, by omega, by omega, by omega⟩ ?_ | refine ok_chk' ⟨by omega, by omega⟩ ?_
    refine ok_some' (t.upd x.toNat fun p => { p with f := true }) (ok_callf' on_call (fits_of rfl rfl ⟨⟨_, rfl, EntRel.box' rfl rfl rfl rfl rfl⟩, ⟨_, rfl, EntRel.ovs rfl rfl (fun i _ => ov_tb rfl rfl fun i hi => by first | rfl | simp [ovAt, hi]) fun _ => rfl⟩, trivial⟩ fun c _ => ⟨⟨Nat.le_refl _, rfl⟩, ⟨rfl, rfl⟩, ⟨⟨EntRel.box' rfl rfl rfl rfl rfl, rfl, (fun _ => ⟨rfl, rfl⟩), .inr rfl⟩, ⟨EntRel.rw rfl rfl (fun _ _ => rfl) fun _ _ => rfl, rfl, (fun h => by cases h), .inr rfl⟩, trivial⟩⟩) (on_local _ x _ h) fun c _ => ?_)
    first | exact ok_leaf (fun _ => 0) [] [0, 1] trivial rfl ⟨⟨_, rfl, EntRel.box' rfl rfl rfl rfl rfl⟩, ⟨_, rfl, EntRel.rw rfl rfl (fun _ _ => rfl) fun _ _ => rfl⟩, trivial⟩ rfl | exact ok_leaf (fun _ => 0) [] [0, 1] trivial rfl ⟨⟨_, rfl, EntRel.box' rfl rfl rfl rfl rfl⟩, ⟨_, rfl, EntRel.ovs rfl rfl (fun i _ => ov_tb rfl rfl fun i hi => by first | rfl | simp [ovAt, hi]) fun _ => rfl⟩, trivial⟩ rfl
  · refine local_of Try.func43 rfl (tintr_eq t x) fun ν w => ?_
    refine ok_callf' has_call (fits_of rfl rfl ⟨⟨_, rfl, EntRel.box' rfl rfl rfl rfl rfl⟩, ⟨_, rfl, EntRel.rw rfl rfl (fun _ _ => rfl) fun _ _ => rfl⟩, trivial⟩ fun c _ => ⟨⟨Nat.le_refl _, rfl⟩, ⟨rfl, rfl⟩, ⟨⟨EntRel.box' rfl rfl rfl rfl rfl, rfl, (fun _ => ⟨rfl, rfl⟩), .inr rfl⟩, ⟨EntRel.rw rfl rfl (fun _ _ => rfl) fun _ _ => rfl, rfl, (fun h => by cases h), .inr rfl⟩, trivial⟩⟩) (has_local t x _) fun c _ => ok_br' (fun _ => ?_) fun h2 => by rw [h] at h2; cases h2
    first | exact ok_leaf (fun _ => 0) [] [0, 1] trivial rfl ⟨⟨_, rfl, EntRel.box' rfl rfl rfl rfl rfl⟩, ⟨_, rfl, EntRel.rw rfl rfl (fun _ _ => rfl) fun _ _ => rfl⟩, trivial⟩ rfl | exact ok_leaf (fun _ => 0) [] [0, 1] trivial rfl ⟨⟨_, rfl, EntRel.box' rfl rfl rfl rfl rfl⟩, ⟨_, rfl, EntRel.ovs rfl rfl (fun i _ => ov_tb rfl rfl fun i hi => by first | rfl | simp [ovAt, hi]) fun _ => rfl⟩, trivial⟩ rfl
theorem unpark_local (t : Tb) (x : Int) (ρ : List Nat) : (hasF t x = true → (tbC t (t.upd x.toNat Pk.un) [iav x] (.a (.c nilE)) ρ).Local Try.prog 40) ∧ (hasF t x = false → (tbC t t [iav x] (.a (.c (errE 4))) ρ).Local Try.prog 40) := by
  refine ⟨fun h => ?_, fun h => ?_⟩
  · refine local_of Try.func40 rfl (tunpark_eq t x) fun ν w => ?_
    have hh := has_of h
    refine ok_callf' has_call (fits_of rfl rfl ⟨⟨_, rfl, EntRel.box' rfl rfl rfl rfl rfl⟩, ⟨_, rfl, EntRel.rw rfl rfl (fun _ _ => rfl) fun _ _ => rfl⟩, trivial⟩ fun c _ => ⟨⟨Nat.le_refl _, rfl⟩, ⟨rfl, rfl⟩, ⟨⟨EntRel.box' rfl rfl rfl rfl rfl, rfl, (fun _ => ⟨rfl, rfl⟩), .inr rfl⟩, ⟨EntRel.rw rfl rfl (fun _ _ => rfl) fun _ _ => rfl, rfl, (fun h => by cases h), .inr rfl⟩, trivial⟩⟩) (has_local t x _) fun c _ => ok_br' (fun h2 => by rw [h] at h2; cases h2) fun _ => ?_
    repeat first | refine ok_chk' ⟨by omega, by omega, by omega, by omega⟩ ?_ | refine ok_chk' ⟨by omega, by omega⟩ ?_
    refine ok_br' (fun h2 => ?_) fun h2 => ?_
    · have h2 : (t.P x.toNat).b = false := by simpa using h2
      rw [show t.upd x.toNat Pk.un = (t.upd x.toNat fun p => { p with p := true }).upd x.toNat Pk.on from ((upd_upd t _ _ _ (fun p => { p with p := true, b := false, d := 0 }) fun p => rfl).trans (upd_at t _ _ _ (by simp [Pk.un, h2]))).symm]
      repeat first | refine ok_chk' ⟨by omega, by omega, by omega, by omega⟩ ?_ | refine ok_chk' ⟨by omega, by omega⟩ ?_
      refine ok_some' (t.upd x.toNat fun p => { p with p := true }) (ok_callf' on_call (fits_of rfl rfl ⟨⟨_, rfl, EntRel.box' rfl rfl rfl rfl rfl⟩, ⟨_, rfl, EntRel.ovs rfl rfl (fun i _ => ov_tb rfl rfl fun i hi => by first | rfl | simp [ovAt, hi]) fun _ => rfl⟩, trivial⟩ fun c _ => ⟨⟨Nat.le_refl _, rfl⟩, ⟨rfl, rfl⟩, ⟨⟨EntRel.box' rfl rfl rfl rfl rfl, rfl, (fun _ => ⟨rfl, rfl⟩), .inr rfl⟩, ⟨EntRel.rw rfl rfl (fun _ _ => rfl) fun _ _ => rfl, rfl, (fun h => by cases h), .inr rfl⟩, trivial⟩⟩) (on_local _ x _ h) fun c _ => ?_)
      first | exact ok_leaf (fun _ => 0) [] [0, 1] trivial rfl ⟨⟨_, rfl, EntRel.box' rfl rfl rfl rfl rfl⟩, ⟨_, rfl, EntRel.rw rfl rfl (fun _ _ => rfl) fun _ _ => rfl⟩, trivial⟩ rfl | exact ok_leaf (fun _ => 0) [] [0, 1] trivial rfl ⟨⟨_, rfl, EntRel.box' rfl rfl rfl rfl rfl⟩, ⟨_, rfl, EntRel.ovs rfl rfl (fun i _ => ov_tb rfl rfl fun i hi => by first | rfl | simp [ovAt, hi]) fun _ => rfl⟩, trivial⟩ rfl
    · have h2 : (t.P x.toNat).b = true := by simpa using h2
      rw [show t.upd x.toNat Pk.un = t.upd x.toNat Pk.on from upd_at t _ _ _ (by simp [Pk.un, Pk.on, h2])]
      refine ok_some' t (ok_callf' on_call (fits_of rfl rfl ⟨⟨_, rfl, EntRel.box' rfl rfl rfl rfl rfl⟩, ⟨_, rfl, EntRel.rw rfl rfl (fun _ _ => rfl) fun _ _ => rfl⟩, trivial⟩ fun c _ => ⟨⟨Nat.le_refl _, rfl⟩, ⟨rfl, rfl⟩, ⟨⟨EntRel.box' rfl rfl rfl rfl rfl, rfl, (fun _ => ⟨rfl, rfl⟩), .inr rfl⟩, ⟨EntRel.rw rfl rfl (fun _ _ => rfl) fun _ _ => rfl, rfl, (fun h => by cases h), .inr rfl⟩, trivial⟩⟩) (on_local _ x _ h) fun c _ => ?_)
      first | exact ok_leaf (fun _ => 0) [] [0, 1] trivial rfl ⟨⟨_, rfl, EntRel.box' rfl rfl rfl rfl rfl⟩, ⟨_, rfl, EntRel.rw rfl rfl (fun _ _ => rfl) fun _ _ => rfl⟩, trivial⟩ rfl | exact ok_leaf (fun _ => 0) [] [0, 1] trivial rfl ⟨⟨_, rfl, EntRel.box' rfl rfl rfl rfl rfl⟩, ⟨_, rfl, EntRel.ovs rfl rfl (fun i _ => ov_tb rfl rfl fun i hi => by first | rfl | simp [ovAt, hi]) fun _ => rfl⟩, trivial⟩ rfl
  · refine local_of Try.func40 rfl (tunpark_eq t x) fun ν w => ?_
    refine ok_callf' has_call (fits_of rfl rfl ⟨⟨_, rfl, EntRel.box' rfl rfl rfl rfl rfl⟩, ⟨_, rfl, EntRel.rw rfl rfl (fun _ _ => rfl) fun _ _ => rfl⟩, trivial⟩ fun c _ => ⟨⟨Nat.le_refl _, rfl⟩, ⟨rfl, rfl⟩, ⟨⟨EntRel.box' rfl rfl rfl rfl rfl, rfl, (fun _ => ⟨rfl, rfl⟩), .inr rfl⟩, ⟨EntRel.rw rfl rfl (fun _ _ => rfl) fun _ _ => rfl, rfl, (fun h => by cases h), .inr rfl⟩, trivial⟩⟩) (has_local t x _) fun c _ => ok_br' (fun _ => ?_) fun h2 => by rw [h] at h2; cases h2
    first | exact ok_leaf (fun _ => 0) [] [0, 1] trivial rfl ⟨⟨_, rfl, EntRel.box' rfl rfl rfl rfl rfl⟩, ⟨_, rfl, EntRel.rw rfl rfl (fun _ _ => rfl) fun _ _ => rfl⟩, trivial⟩ rfl | exact ok_leaf (fun _ => 0) [] [0, 1] trivial rfl ⟨⟨_, rfl, EntRel.box' rfl rfl rfl rfl rfl⟩, ⟨_, rfl, EntRel.ovs rfl rfl (fun i _ => ov_tb rfl rfl fun i hi => by first | rfl | simp [ovAt, hi]) fun _ => rfl⟩, trivial⟩ rfl
theorem park_local (t : Tb) (x y : Int) (ρ : List Nat) : (hasF t x = true → mayPF t x y = true → (tbC t (parkF t x y) [iav x, iav y] (.tup [.c (bv (waitF t x y)), .c nilE]) ρ).Local Try.prog 36) ∧
    (hasF t x = true → mayPF t x y = false → (tbC t t [iav x, iav y] (.tup [.c (bv false), .c (errE 1)]) ρ).Local Try.prog 36) ∧
    (hasF t x = false → (tbC t t [iav x, iav y] (.tup [.c (bv false), .c (errE 4)]) ρ).Local Try.prog 36) := by
  refine ⟨fun h hm => ?_, fun h hm => ?_, fun h => ?_⟩
  · have hh := has_of h
    refine local_of Try.func36 rfl (tpark_eq t x y) fun ν w => ?_
    refine ok_callf' has_call (fits_of rfl rfl ⟨⟨_, rfl, EntRel.box' rfl rfl rfl rfl rfl⟩, ⟨_, rfl, EntRel.rw rfl rfl (fun _ _ => rfl) fun _ _ => rfl⟩, trivial⟩ fun c _ => ⟨⟨Nat.le_refl _, rfl⟩, ⟨rfl, rfl⟩, ⟨⟨EntRel.box' rfl rfl rfl rfl rfl, rfl, (fun _ => ⟨rfl, rfl⟩), .inr rfl⟩, ⟨EntRel.rw rfl rfl (fun _ _ => rfl) fun _ _ => rfl, rfl, (fun h => by cases h), .inr rfl⟩, trivial⟩⟩) (has_local t x _) fun c _ => ok_br' (fun h2 => by rw [h] at h2; cases h2) fun _ => ?_
    repeat first | refine ok_chk' ⟨by omega, by omega, by omega, by omega⟩ ?_ | refine ok_chk' ⟨by omega, by omega⟩ ?_
    refine ok_chk' (fun h => h) (ok_chk' (fun h => by rw [h]; rfl) (ok_br' (fun h2 => ?_) fun h2 => ?_))
    · unfold mayPF at hm
      rw [h2] at hm
      cases hm
    · repeat first | refine ok_chk' ⟨by omega, by omega, by omega, by omega⟩ ?_ | refine ok_chk' ⟨by omega, by omega⟩ ?_
      refine ok_br' (fun hp => ?_) fun hp => ?_
      · repeat first | refine ok_chk' ⟨by omega, by omega, by omega, by omega⟩ ?_ | refine ok_chk' ⟨by omega, by omega⟩ ?_
        have hp : (t.P x.toNat).p = true := hp
        have e1 : parkF t x y = t.upd x.toNat fun p => { p with p := false } := by simp only [parkF, hp, cond_true]
        have e2 : waitF t x y = false := by simp only [waitF, hp, cond_true]
        rw [e1, e2]
        first | exact ok_leaf (fun _ => 0) [] [0, 1] trivial rfl ⟨⟨_, rfl, EntRel.box' rfl rfl rfl rfl rfl⟩, ⟨_, rfl, EntRel.rw rfl rfl (fun _ _ => rfl) fun _ _ => rfl⟩, trivial⟩ rfl | exact ok_leaf (fun _ => 0) [] [0, 1] trivial rfl ⟨⟨_, rfl, EntRel.box' rfl rfl rfl rfl rfl⟩, ⟨_, rfl, EntRel.ovs rfl rfl (fun i _ => ov_tb rfl rfl fun i hi => by first | rfl | simp [ovAt, hi]) fun _ => rfl⟩, trivial⟩ rfl
      · have hp : (t.P x.toNat).p = false := hp
        repeat first | refine ok_chk' ⟨by omega, by omega, by omega, by omega⟩ ?_ | refine ok_chk' ⟨by omega, by omega⟩ ?_ | refine ok_chk' (fun h => h) ?_
        refine ok_br' (fun hf => ?_) fun hf => ?_
        · have hf : (t.P x.toNat).f = false := by simpa using hf
          repeat refine ok_chk' (by rw [show (t.P x.toNat).2 = false from hf]; rfl) ?_
          refine ok_callf' due_call (fits_of rfl rfl trivial fun c _ => ⟨⟨Nat.le_refl _, rfl⟩, ⟨rfl, rfl⟩, trivial⟩) (due_local t.now y) fun c _ => ok_br' (fun hd => ?_) fun hd => ?_
          · have hw : waitF t x y = false := by
              unfold waitF
              rw [hp, cond_false]
              simp only [hf, cond_false]
              have hd : dueF t.now y = true := by simpa [hf] using hd
              rw [hd]; rfl
            have e1 : parkF t x y = t := by simp only [parkF, hp, hw, cond_false]
            rw [e1, hw]
            first | exact ok_leaf (fun _ => 0) [] [0, 1] trivial rfl ⟨⟨_, rfl, EntRel.box' rfl rfl rfl rfl rfl⟩, ⟨_, rfl, EntRel.rw rfl rfl (fun _ _ => rfl) fun _ _ => rfl⟩, trivial⟩ rfl | exact ok_leaf (fun _ => 0) [] [0, 1] trivial rfl ⟨⟨_, rfl, EntRel.box' rfl rfl rfl rfl rfl⟩, ⟨_, rfl, EntRel.ovs rfl rfl (fun i _ => ov_tb rfl rfl fun i hi => by first | rfl | simp [ovAt, hi]) fun _ => rfl⟩, trivial⟩ rfl
          · have hw : waitF t x y = true := by
              unfold waitF
              rw [hp, cond_false]
              simp only [hf, cond_false]
              have hd : dueF t.now y = false := by simpa [hf] using hd
              rw [hd]; rfl
            have e1 : parkF t x y = t.upd x.toNat fun p => { p with b := true, d := y } := by simp only [parkF, hp, hw, cond_false, cond_true]
            rw [e1, hw]
            repeat first | refine ok_chk' ⟨by omega, by omega, by omega, by omega⟩ ?_ | refine ok_chk' ⟨by omega, by omega⟩ ?_ | refine ok_chk' rfl ?_
            refine ok_br' (fun _ => ?_) fun hd => by simp at hd
            first | exact ok_leaf (fun _ => 0) [] [0, 1] trivial rfl ⟨⟨_, rfl, EntRel.box' rfl rfl rfl rfl rfl⟩, ⟨_, rfl, EntRel.rw rfl rfl (fun _ _ => rfl) fun _ _ => rfl⟩, trivial⟩ rfl | exact ok_leaf (fun _ => 0) [] [0, 1] trivial rfl ⟨⟨_, rfl, EntRel.box' rfl rfl rfl rfl rfl⟩, ⟨_, rfl, EntRel.ovs rfl rfl (fun i _ => ov_tb rfl rfl fun i hi => by first | rfl | simp [ovAt, hi]) fun _ => rfl⟩, trivial⟩ rfl
        · have hf : (t.P x.toNat).f = true := by simpa using hf
          have hw : waitF t x y = false := by
            unfold waitF
            rw [hp, cond_false]
            simp only [hf, cond_true]
            rfl
          have e1 : parkF t x y = t := by simp only [parkF, hp, hw, cond_false]
          rw [e1, hw]
          refine ok_chk' hf (ok_br' (fun _ => ?_) fun h => by cases h)
          first | exact ok_leaf (fun _ => 0) [] [0, 1] trivial rfl ⟨⟨_, rfl, EntRel.box' rfl rfl rfl rfl rfl⟩, ⟨_, rfl, EntRel.rw rfl rfl (fun _ _ => rfl) fun _ _ => rfl⟩, trivial⟩ rfl | exact ok_leaf (fun _ => 0) [] [0, 1] trivial rfl ⟨⟨_, rfl, EntRel.box' rfl rfl rfl rfl rfl⟩, ⟨_, rfl, EntRel.ovs rfl rfl (fun i _ => ov_tb rfl rfl fun i hi => by first | rfl | simp [ovAt, hi]) fun _ => rfl⟩, trivial⟩ rfl
  · have hh := has_of h
    refine local_of Try.func36 rfl (tpark_eq t x y) fun ν w => ?_
    refine ok_callf' has_call (fits_of rfl rfl ⟨⟨_, rfl, EntRel.box' rfl rfl rfl rfl rfl⟩, ⟨_, rfl, EntRel.rw rfl rfl (fun _ _ => rfl) fun _ _ => rfl⟩, trivial⟩ fun c _ => ⟨⟨Nat.le_refl _, rfl⟩, ⟨rfl, rfl⟩, ⟨⟨EntRel.box' rfl rfl rfl rfl rfl, rfl, (fun _ => ⟨rfl, rfl⟩), .inr rfl⟩, ⟨EntRel.rw rfl rfl (fun _ _ => rfl) fun _ _ => rfl, rfl, (fun h => by cases h), .inr rfl⟩, trivial⟩⟩) (has_local t x _) fun c _ => ok_br' (fun h2 => by rw [h] at h2; cases h2) fun _ => ?_
    repeat first | refine ok_chk' ⟨by omega, by omega, by omega, by omega⟩ ?_ | refine ok_chk' ⟨by omega, by omega⟩ ?_
    refine ok_chk' (fun h => h) (ok_chk' (fun h => by rw [h]; rfl) (ok_br' (fun h2 => ?_) fun h2 => ?_))
    · first | exact ok_leaf (fun _ => 0) [] [0, 1] trivial rfl ⟨⟨_, rfl, EntRel.box' rfl rfl rfl rfl rfl⟩, ⟨_, rfl, EntRel.rw rfl rfl (fun _ _ => rfl) fun _ _ => rfl⟩, trivial⟩ rfl | exact ok_leaf (fun _ => 0) [] [0, 1] trivial rfl ⟨⟨_, rfl, EntRel.box' rfl rfl rfl rfl rfl⟩, ⟨_, rfl, EntRel.ovs rfl rfl (fun i _ => ov_tb rfl rfl fun i hi => by first | rfl | simp [ovAt, hi]) fun _ => rfl⟩, trivial⟩ rfl
    · unfold mayPF at hm
      rw [h2] at hm
      cases hm
  · refine local_of Try.func36 rfl (tpark_eq t x y) fun ν w => ?_
    refine ok_callf' has_call (fits_of rfl rfl ⟨⟨_, rfl, EntRel.box' rfl rfl rfl rfl rfl⟩, ⟨_, rfl, EntRel.rw rfl rfl (fun _ _ => rfl) fun _ _ => rfl⟩, trivial⟩ fun c _ => ⟨⟨Nat.le_refl _, rfl⟩, ⟨rfl, rfl⟩, ⟨⟨EntRel.box' rfl rfl rfl rfl rfl, rfl, (fun _ => ⟨rfl, rfl⟩), .inr rfl⟩, ⟨EntRel.rw rfl rfl (fun _ _ => rfl) fun _ _ => rfl, rfl, (fun h => by cases h), .inr rfl⟩, trivial⟩⟩) (has_local t x _) fun c _ => ok_br' (fun _ => ?_) fun h2 => by rw [h] at h2; cases h2
    first | exact ok_leaf (fun _ => 0) [] [0, 1] trivial rfl ⟨⟨_, rfl, EntRel.box' rfl rfl rfl rfl rfl⟩, ⟨_, rfl, EntRel.rw rfl rfl (fun _ _ => rfl) fun _ _ => rfl⟩, trivial⟩ rfl | exact ok_leaf (fun _ => 0) [] [0, 1] trivial rfl ⟨⟨_, rfl, EntRel.box' rfl rfl rfl rfl rfl⟩, ⟨_, rfl, EntRel.ovs rfl rfl (fun i _ => ov_tb rfl rfl fun i hi => by first | rfl | simp [ovAt, hi]) fun _ => rfl⟩, trivial⟩ rfl
end Go.Proofs.Ytehecaipmdfjmaa.X.Mi

set_option linter.unusedVariables false
set_option linter.unusedSimpArgs false
namespace Go.Proofs.Ytehecaipmdfjmaa.X.Mi
open Go Go.RowKit Go.Proofs.YtehecaipmdfjmaaW.PrintWords Go.Proofs.Ytehecaipmdfjmaa.Base Go.Proofs.Ytehecaipmdfjmaa.X
theorem rl_get {r : Nat → Int} : ∀ {d : Nat}, d < 16 → List.getD (rl r) d 0 = r d
  | 0, _ => rfl | 1, _ => rfl | 2, _ => rfl | 3, _ => rfl | 4, _ => rfl | 5, _ => rfl | 6, _ => rfl | 7, _ => rfl
  | 8, _ => rfl | 9, _ => rfl | 10, _ => rfl | 11, _ => rfl | 12, _ => rfl | 13, _ => rfl | 14, _ => rfl | 15, _ => rfl
  | d + 16, h => absurd h (by omega)
theorem ov_mc {m : Mc} {q i c : Nat} {cs : List CV} {g : Fr → Fr} {F : Nat → Nat → List CV} {r : List (Nat × Nat × Nat × List CV)} (hF : F = fun _ i => (m.F i).cv) (h : cs = (g (m.F q)).cv) (hr : ∀ i, i ≠ q → ovAt F 0 i r = F 0 i) : ovAt F 0 i ((c, 0, q, cs) :: r) = ((m.upd q g).F i).cv := by
  subst hF
  show (if 0 = 0 ∧ i = q then cs else _) = Fr.cv (if i = q then g (m.F i) else m.F i)
  by_cases h1 : i = q
  · subst h1; rw [if_pos ⟨rfl, rfl⟩, if_pos rfl]; exact h
  · rw [if_neg (fun hh => h1 hh.2), if_neg h1]; exact hr i h1
structure InOk (x : In) : Prop where
  a0 : 0 ≤ x.a
  a1 : x.a < 16
  b0 : 0 ≤ x.b
  b1 : x.b < 16
  c0 : 0 ≤ x.c
  c1 : x.c < 16
  cas : x.op = 7 → x.a ≤ 13
theorem load_call : Callable Try.prog 13 := ⟨_, Try.func13, by kernel_rfl, rfl⟩
theorem store_call : Callable Try.prog 21 := ⟨_, Try.func21, by kernel_rfl, rfl⟩
theorem swap_call : Callable Try.prog 38 := ⟨_, Try.func38, by kernel_rfl, rfl⟩
theorem jumps_local (n cap q : Nat) (F : Nat → Fr) (x : In) (hx : InOk x) (hq : q < n) : (jumpsC (F q) n cap q F x).Local Try.prog 34 := by
  have h1 := hx.a0; have h2 := hx.a1; have h3 := hx.b0; have h4 := hx.b1
  have ra : List.getD (rl fun k => (F q).r k) x.a.toNat 0 = (F q).r x.a.toNat := rl_get (by omega)
  have rb : List.getD (rl fun k => (F q).r k) x.b.toNat 0 = (F q).r x.b.toNat := rl_get (by omega)
  refine local_of Try.func34 rfl (tjumps_eq n cap q F x) fun ν w => ?_
  unfold tjumps
  simp only [ra, rb]
  repeat refine ok_chk' (by omega) ?_
  refine ok_br' (fun c1 => ?_) fun c1 => ok_br' (fun c2 => ?_) fun c2 => ok_br' (fun c3 => ?_) fun c3 => ?_
  · exact ok_leaf (fun _ => 0) [] [0] trivial (by show _ = XV.nilz _ (XV.ren _ (bool (jumpsF (F q) x))); simp only [jumpsF, c1, cond_true]; rfl) ⟨⟨_, rfl, EntRel.rw rfl rfl (fun _ _ => rfl) fun _ _ => rfl⟩, trivial⟩ rfl
  · exact ok_leaf (fun _ => 0) [] [0] trivial (by show _ = XV.nilz _ (XV.ren _ (bool (jumpsF (F q) x))); simp only [jumpsF, c1, c2, cond_true, cond_false]; rfl) ⟨⟨_, rfl, EntRel.rw rfl rfl (fun _ _ => rfl) fun _ _ => rfl⟩, trivial⟩ rfl
  · exact ok_leaf (fun _ => 0) [] [0] trivial (by show _ = XV.nilz _ (XV.ren _ (bool (jumpsF (F q) x))); simp only [jumpsF, c1, c2, c3, cond_true, cond_false]; rfl) ⟨⟨_, rfl, EntRel.rw rfl rfl (fun _ _ => rfl) fun _ _ => rfl⟩, trivial⟩ rfl
  · exact ok_leaf (fun _ => 0) [] [0] trivial (by show _ = XV.nilz _ (XV.ren _ (bool (jumpsF (F q) x))); simp only [jumpsF, c1, c2, c3, cond_true, cond_false]; rfl) ⟨⟨_, rfl, EntRel.rw rfl rfl (fun _ _ => rfl) fun _ _ => rfl⟩, trivial⟩ rfl
set_option maxHeartbeats 2000000 in
theorem acc_local (m m' : Mc) (b : Bool) (d : Cd) (x : In) (q : Nat) (hx : InOk x) (hop : 5 ≤ x.op ∧ x.op ≤ 7) (hq : q < m.nF) (h : accF m x q = (m', b)) : (accC m m' b d x q).Local Try.prog 33 := by
  have h1 := hx.a0; have h2 := hx.a1; have h3 := hx.b0; have h4 := hx.b1; have h5 := hx.cas
  have ra : List.getD (rl fun k => (m.F q).r k) x.a.toNat 0 = (m.F q).r x.a.toNat := rl_get (by omega)
  have rb : List.getD (rl fun k => (m.F q).r k) x.b.toNat 0 = (m.F q).r x.b.toNat := rl_get (by omega)
  refine local_of Try.func33 rfl (tacc_eq m d x q) fun ν w => ?_
  unfold tacc
  simp only [ra, rb]
  repeat refine ok_chk' (by omega) ?_
  refine ok_br' (fun c1 => ?_) fun c1 => ok_br' (fun c2 => ?_) fun c2 => ?_
  · refine ok_br' (fun hh => ?_) fun hh => ?_
    · refine ok_callf' load_call (fits_of rfl rfl ⟨⟨_, rfl, EntRel.box' rfl rfl rfl rfl rfl⟩, ⟨_, rfl, EntRel.rw rfl rfl (fun _ _ => rfl) fun _ _ => rfl⟩, trivial⟩ fun c _ => ⟨⟨Nat.le_refl _, rfl⟩, ⟨rfl, rfl⟩, ⟨⟨EntRel.box' rfl rfl rfl rfl rfl, rfl, (fun _ => ⟨rfl, rfl⟩), .inr rfl⟩, ⟨EntRel.rw rfl rfl (fun _ _ => rfl) fun _ _ => rfl, rfl, (fun h => by cases h), .inr rfl⟩, trivial⟩⟩) ((load_local m.ar _ _).1 hh) fun c _ => ok_br' (fun h => by cases h) fun _ => ?_
      repeat refine ok_chk' (by omega) ?_
      simp only [accF, accAt, Mc.reg, wr, hh, c1, cond_true] at h
      obtain ⟨rfl, rfl⟩ := Prod.mk.inj h
      exact ok_leaf (fun _ => 0) [] [0, 1, 2, 3, 4, 5, 6, 7] trivial rfl ⟨⟨_, rfl, EntRel.box' rfl rfl rfl rfl rfl⟩, ⟨_, rfl, EntRel.rw rfl rfl (fun _ _ => rfl) fun _ _ => rfl⟩, ⟨_, rfl, EntRel.box' rfl rfl rfl rfl rfl⟩, ⟨_, rfl, EntRel.rw rfl rfl (fun _ _ => rfl) fun _ _ => rfl⟩, ⟨_, rfl, EntRel.box' rfl rfl rfl rfl rfl⟩, ⟨_, rfl, EntRel.rw rfl rfl (fun _ _ => rfl) fun _ _ => rfl⟩, ⟨_, rfl, EntRel.ovs rfl rfl (fun i _ => ov_mc rfl rfl fun i hi => by first | rfl | simp [ovAt, hi]) fun _ => rfl⟩, ⟨_, rfl, EntRel.rw rfl rfl (fun _ _ => rfl) fun _ _ => rfl⟩, trivial⟩ rfl
    · refine ok_callf' load_call (fits_of rfl rfl ⟨⟨_, rfl, EntRel.box' rfl rfl rfl rfl rfl⟩, ⟨_, rfl, EntRel.rw rfl rfl (fun _ _ => rfl) fun _ _ => rfl⟩, trivial⟩ fun c _ => ⟨⟨Nat.le_refl _, rfl⟩, ⟨rfl, rfl⟩, ⟨⟨EntRel.box' rfl rfl rfl rfl rfl, rfl, (fun _ => ⟨rfl, rfl⟩), .inr rfl⟩, ⟨EntRel.rw rfl rfl (fun _ _ => rfl) fun _ _ => rfl, rfl, (fun h => by cases h), .inr rfl⟩, trivial⟩⟩) ((load_local m.ar _ _).2 hh) fun c _ => ok_br' (fun _ => ?_) fun h => by cases h
      simp only [accF, accAt, Mc.reg, wr, hh, cond_false] at h
      obtain ⟨rfl, rfl⟩ := Prod.mk.inj h
      exact ok_leaf (fun _ => 0) [] [0, 1, 2, 3, 4, 5, 6, 7] trivial rfl ⟨⟨_, rfl, EntRel.box' rfl rfl rfl rfl rfl⟩, ⟨_, rfl, EntRel.rw rfl rfl (fun _ _ => rfl) fun _ _ => rfl⟩, ⟨_, rfl, EntRel.box' rfl rfl rfl rfl rfl⟩, ⟨_, rfl, EntRel.rw rfl rfl (fun _ _ => rfl) fun _ _ => rfl⟩, ⟨_, rfl, EntRel.box' rfl rfl rfl rfl rfl⟩, ⟨_, rfl, EntRel.rw rfl rfl (fun _ _ => rfl) fun _ _ => rfl⟩, ⟨_, rfl, EntRel.rw rfl rfl (fun _ _ => rfl) fun _ _ => rfl⟩, ⟨_, rfl, EntRel.rw rfl rfl (fun _ _ => rfl) fun _ _ => rfl⟩, trivial⟩ rfl
  · repeat refine ok_chk' (by omega) ?_
    refine ok_br' (fun hh => ?_) fun hh => ?_
    · refine ok_callf' store_call (fits_of rfl rfl ⟨⟨_, rfl, EntRel.box' rfl rfl rfl rfl rfl⟩, ⟨_, rfl, EntRel.rw rfl rfl (fun _ _ => rfl) fun _ _ => rfl⟩, trivial⟩ fun c _ => ⟨⟨Nat.le_refl _, rfl⟩, ⟨rfl, rfl⟩, ⟨⟨EntRel.box' rfl rfl rfl rfl rfl, rfl, (fun _ => ⟨rfl, rfl⟩), .inr rfl⟩, ⟨EntRel.rw rfl rfl (fun _ _ => rfl) fun _ _ => rfl, rfl, (fun h => by cases h), .inr rfl⟩, trivial⟩⟩) ((store_local m.ar _ _ _).1 hh) fun c _ => ?_
      simp only [accF, accAt, Mc.reg, wr, hh, c1, c2, cond_true, cond_false] at h
      obtain ⟨rfl, rfl⟩ := Prod.mk.inj h
      exact ok_leaf (fun _ => 0) [] [0, 1, 2, 3, 4, 5, 6, 7] trivial rfl ⟨⟨_, rfl, EntRel.box' rfl rfl rfl rfl rfl⟩, ⟨_, rfl, EntRel.rw rfl rfl (fun _ _ => rfl) fun _ _ => rfl⟩, ⟨_, rfl, EntRel.box' rfl rfl rfl rfl rfl⟩, ⟨_, rfl, EntRel.rw rfl rfl (fun _ _ => rfl) fun _ _ => rfl⟩, ⟨_, rfl, EntRel.box' rfl rfl rfl rfl rfl⟩, ⟨_, rfl, EntRel.rw rfl rfl (fun _ _ => rfl) fun _ _ => rfl⟩, ⟨_, rfl, EntRel.rw rfl rfl (fun _ _ => rfl) fun _ _ => rfl⟩, ⟨_, rfl, EntRel.rw rfl rfl (fun _ _ => rfl) fun _ _ => rfl⟩, trivial⟩ rfl
    · refine ok_callf' store_call (fits_of rfl rfl ⟨⟨_, rfl, EntRel.box' rfl rfl rfl rfl rfl⟩, ⟨_, rfl, EntRel.rw rfl rfl (fun _ _ => rfl) fun _ _ => rfl⟩, trivial⟩ fun c _ => ⟨⟨Nat.le_refl _, rfl⟩, ⟨rfl, rfl⟩, ⟨⟨EntRel.box' rfl rfl rfl rfl rfl, rfl, (fun _ => ⟨rfl, rfl⟩), .inr rfl⟩, ⟨EntRel.rw rfl rfl (fun _ _ => rfl) fun _ _ => rfl, rfl, (fun h => by cases h), .inr rfl⟩, trivial⟩⟩) ((store_local m.ar _ _ _).2 hh) fun c _ => ?_
      simp only [accF, accAt, Mc.reg, wr, hh, cond_false] at h
      obtain ⟨rfl, rfl⟩ := Prod.mk.inj h
      exact ok_leaf (fun _ => 0) [] [0, 1, 2, 3, 4, 5, 6, 7] trivial rfl ⟨⟨_, rfl, EntRel.box' rfl rfl rfl rfl rfl⟩, ⟨_, rfl, EntRel.rw rfl rfl (fun _ _ => rfl) fun _ _ => rfl⟩, ⟨_, rfl, EntRel.box' rfl rfl rfl rfl rfl⟩, ⟨_, rfl, EntRel.rw rfl rfl (fun _ _ => rfl) fun _ _ => rfl⟩, ⟨_, rfl, EntRel.box' rfl rfl rfl rfl rfl⟩, ⟨_, rfl, EntRel.rw rfl rfl (fun _ _ => rfl) fun _ _ => rfl⟩, ⟨_, rfl, EntRel.rw rfl rfl (fun _ _ => rfl) fun _ _ => rfl⟩, ⟨_, rfl, EntRel.rw rfl rfl (fun _ _ => rfl) fun _ _ => rfl⟩, trivial⟩ rfl
  · have h7 : x.op = 7 := by simp at c1 c2; omega
    have h5 := h5 h7
    have w1 : IntKind.wrap .i64 (x.a + 1) = x.a + 1 := wrap64 (by omega) (by omega)
    have w2 : IntKind.wrap .i64 (x.a + 2) = x.a + 2 := wrap64 (by omega) (by omega)
    have ra1 : List.getD (rl fun k => (m.F q).r k) (IntKind.wrap .i64 (x.a + 1)).toNat 0 = (m.F q).r (IntKind.wrap .i64 (x.a + 1)).toNat := rl_get (by rw [w1]; omega)
    simp only [ra1]
    repeat refine ok_chk' (by first | omega | (rw [w1]; omega)) ?_
    refine ok_br' (fun hh => ?_) fun hh => ?_
    · refine ok_callf' swap_call (fits_of rfl rfl ⟨⟨_, rfl, EntRel.box' rfl rfl rfl rfl rfl⟩, ⟨_, rfl, EntRel.rw rfl rfl (fun _ _ => rfl) fun _ _ => rfl⟩, trivial⟩ fun c _ => ⟨⟨Nat.le_refl _, rfl⟩, ⟨rfl, rfl⟩, ⟨⟨EntRel.box' rfl rfl rfl rfl rfl, rfl, (fun _ => ⟨rfl, rfl⟩), .inr rfl⟩, ⟨EntRel.rw rfl rfl (fun _ _ => rfl) fun _ _ => rfl, rfl, (fun h => by cases h), .inr rfl⟩, trivial⟩⟩) ((swap_local m.ar _ _ _ _).1 hh) fun c _ => ok_br' (fun h => by cases h) fun _ => ?_
      repeat refine ok_chk' (by first | omega | (rw [w2]; omega)) ?_
      refine ok_br' (fun hs => ?_) fun hs => ?_
      · repeat refine ok_chk' (by first | omega | (rw [w2]; omega) | exact ⟨rfl, rfl⟩ | exact ⟨trivial, trivial⟩) ?_
        simp only [accF, accAt, Mc.reg, wr, hh, hs, c1, c2, cond_true, cond_false] at h
        obtain ⟨rfl, rfl⟩ := Prod.mk.inj h
        exact ok_leaf (fun _ => 0) [] [0, 1, 2, 3, 4, 5, 6, 7] trivial rfl ⟨⟨_, rfl, EntRel.box' rfl rfl rfl rfl rfl⟩, ⟨_, rfl, EntRel.rw rfl rfl (fun _ _ => rfl) fun _ _ => rfl⟩, ⟨_, rfl, EntRel.box' rfl rfl rfl rfl rfl⟩, ⟨_, rfl, EntRel.rw rfl rfl (fun _ _ => rfl) fun _ _ => rfl⟩, ⟨_, rfl, EntRel.box' rfl rfl rfl rfl rfl⟩, ⟨_, rfl, EntRel.rw rfl rfl (fun _ _ => rfl) fun _ _ => rfl⟩, ⟨_, rfl, EntRel.ovs rfl rfl (fun i _ => ov_mc rfl (congrArg (fun f => Fr.cv ⟨_, f⟩) (funext fun k => by show (if _ then _ else _) = if _ then _ else _; split <;> rfl)) fun i hi => by first | rfl | simp [ovAt, hi]) fun _ => rfl⟩, ⟨_, rfl, EntRel.rw rfl rfl (fun _ _ => rfl) fun _ _ => rfl⟩, trivial⟩ rfl
      · simp only [accF, accAt, Mc.reg, wr, hh, hs, c1, c2, cond_true, cond_false] at h
        obtain ⟨rfl, rfl⟩ := Prod.mk.inj h
        exact ok_leaf (fun _ => 0) [] [0, 1, 2, 3, 4, 5, 6, 7] trivial rfl ⟨⟨_, rfl, EntRel.box' rfl rfl rfl rfl rfl⟩, ⟨_, rfl, EntRel.rw rfl rfl (fun _ _ => rfl) fun _ _ => rfl⟩, ⟨_, rfl, EntRel.box' rfl rfl rfl rfl rfl⟩, ⟨_, rfl, EntRel.rw rfl rfl (fun _ _ => rfl) fun _ _ => rfl⟩, ⟨_, rfl, EntRel.box' rfl rfl rfl rfl rfl⟩, ⟨_, rfl, EntRel.rw rfl rfl (fun _ _ => rfl) fun _ _ => rfl⟩, ⟨_, rfl, EntRel.ovs rfl rfl (fun i _ => ov_mc rfl rfl fun i hi => by first | rfl | simp [ovAt, hi]) fun _ => rfl⟩, ⟨_, rfl, EntRel.rw rfl rfl (fun _ _ => rfl) fun _ _ => rfl⟩, trivial⟩ rfl
    · refine ok_callf' swap_call (fits_of rfl rfl ⟨⟨_, rfl, EntRel.box' rfl rfl rfl rfl rfl⟩, ⟨_, rfl, EntRel.rw rfl rfl (fun _ _ => rfl) fun _ _ => rfl⟩, trivial⟩ fun c _ => ⟨⟨Nat.le_refl _, rfl⟩, ⟨rfl, rfl⟩, ⟨⟨EntRel.box' rfl rfl rfl rfl rfl, rfl, (fun _ => ⟨rfl, rfl⟩), .inr rfl⟩, ⟨EntRel.rw rfl rfl (fun _ _ => rfl) fun _ _ => rfl, rfl, (fun h => by cases h), .inr rfl⟩, trivial⟩⟩) ((swap_local m.ar _ _ _ _).2 hh) fun c _ => ok_br' (fun _ => ?_) fun h => by cases h
      simp only [accF, accAt, Mc.reg, wr, hh, cond_false] at h
      obtain ⟨rfl, rfl⟩ := Prod.mk.inj h
      exact ok_leaf (fun _ => 0) [] [0, 1, 2, 3, 4, 5, 6, 7] trivial rfl ⟨⟨_, rfl, EntRel.box' rfl rfl rfl rfl rfl⟩, ⟨_, rfl, EntRel.rw rfl rfl (fun _ _ => rfl) fun _ _ => rfl⟩, ⟨_, rfl, EntRel.box' rfl rfl rfl rfl rfl⟩, ⟨_, rfl, EntRel.rw rfl rfl (fun _ _ => rfl) fun _ _ => rfl⟩, ⟨_, rfl, EntRel.box' rfl rfl rfl rfl rfl⟩, ⟨_, rfl, EntRel.rw rfl rfl (fun _ _ => rfl) fun _ _ => rfl⟩, ⟨_, rfl, EntRel.rw rfl rfl (fun _ _ => rfl) fun _ _ => rfl⟩, ⟨_, rfl, EntRel.rw rfl rfl (fun _ _ => rfl) fun _ _ => rfl⟩, trivial⟩ rfl
end Go.Proofs.Ytehecaipmdfjmaa.X.Mi

set_option linter.unusedVariables false
set_option linter.unusedSimpArgs false
namespace Go.Proofs.Ytehecaipmdfjmaa.X.Mi
open Go Go.RowKit Go.Proofs.YtehecaipmdfjmaaW.PrintWords Go.Proofs.Ytehecaipmdfjmaa.Base Go.Proofs.Ytehecaipmdfjmaa.X
def cap2 (a b : Nat) : Nat → Nat := fun j => bif Nat.beq j 0 then a else b
theorem unpark_call : Callable Try.prog 40 := ⟨_, Try.func40, by kernel_rfl, rfl⟩
theorem alloc_call : Callable Try.prog 20 := ⟨_, Try.func20, by kernel_rfl, rfl⟩
theorem now_call : Callable Try.prog 41 := ⟨_, Try.func41, by kernel_rfl, rfl⟩
theorem clear_call : Callable Try.prog 42 := ⟨_, Try.func42, by kernel_rfl, rfl⟩
theorem intr_call : Callable Try.prog 43 := ⟨_, Try.func43, by kernel_rfl, rfl⟩
set_option maxHeartbeats 4000000 in
theorem plain_local (m m' : Mc) (b : Bool) (d : Cd) (x : In) (q k : Nat) (hx : InOk x) (hq : q < m.nF) (ha : m.ar.Ok) (hn : m.nN ≤ 1000) (h : plainF m x q = (m', b)) : (plainC m m' b d x q k).Local Try.prog 37 := by
  have h1 := hx.a0; have h2 := hx.a1; have h3 := hx.b0; have h4 := hx.b1; have h5 := hx.c0; have h6 := hx.c1
  have ra : List.getD (rl fun k => (m.F q).r k) x.a.toNat 0 = (m.F q).r x.a.toNat := rl_get (by omega)
  have rb : List.getD (rl fun k => (m.F q).r k) x.b.toNat 0 = (m.F q).r x.b.toNat := rl_get (by omega)
  have rcc : List.getD (rl fun k => (m.F q).r k) x.c.toNat 0 = (m.F q).r x.c.toNat := rl_get (by omega)
  refine local_of Try.func37 rfl (tplain_eq m d x q) fun ν w => ?_
  unfold tplain
  simp only [ra, rb, rcc]
  refine ok_br' (fun c1 => ?_) fun c1 => ok_br' (fun c2 => ?_) fun c2 => ok_br' (fun c3 => ?_) fun c3 => ok_br' (fun c4 => ?_) fun c4 => ok_br' (fun c5 => ?_) fun c5 => ok_br' (fun c6 => ?_) fun c6 => ok_br' (fun c7 => ?_) fun c7 => ok_br' (fun c8 => ?_) fun c8 => ok_br' (fun c9 => ?_) fun c9 => ok_br' (fun c10 => ?_) fun c10 => ok_br' (fun c11 => ?_) fun c11 => ?_
  · clear ra rb rcc; repeat refine ok_chk' (by first | rfl | exact fun h => h | omega | exact ⟨rfl, rfl⟩ | exact ⟨trivial, trivial⟩ | assumption | (simp_all; done)) ?_
    (simp only [plainF, accAt, Mc.reg, wr, *, cond_true, cond_false] at h; obtain ⟨rfl, rfl⟩ := Prod.mk.inj h); exact ok_leaf2 (cap2 m.ar.cap m.cN) [] [0, 1, 2, 3, 4, 5, 6, 7, 3, 7] trivial rfl ⟨.inr ⟨_, rfl, EntRel.box' rfl rfl rfl rfl rfl⟩, .inr ⟨_, rfl, EntRel.rw rfl rfl (fun _ _ => rfl) fun _ _ => rfl⟩, .inr ⟨_, rfl, EntRel.box' rfl rfl rfl rfl rfl⟩, .inl rfl, .inr ⟨_, rfl, EntRel.box' rfl rfl rfl rfl rfl⟩, .inr ⟨_, rfl, EntRel.rw rfl rfl (fun _ _ => rfl) fun _ _ => rfl⟩, .inr ⟨_, rfl, EntRel.ovs rfl rfl (fun i _ => ov_mc rfl rfl fun i hi => by first | rfl | simp [ovAt, hi]) fun _ => rfl⟩, .inl rfl, .inr ⟨_, rfl, EntRel.rw rfl rfl (fun _ _ => rfl) fun _ _ => rfl⟩, .inr ⟨_, rfl, EntRel.rw rfl rfl (fun _ _ => rfl) fun _ _ => rfl⟩, trivial⟩ rfl
  · clear ra rb rcc; repeat refine ok_chk' (by first | rfl | exact fun h => h | omega | exact ⟨rfl, rfl⟩ | exact ⟨trivial, trivial⟩ | assumption | (simp_all; done)) ?_
    (simp only [plainF, accAt, Mc.reg, wr, *, cond_true, cond_false] at h; obtain ⟨rfl, rfl⟩ := Prod.mk.inj h); exact ok_leaf2 (cap2 m.ar.cap m.cN) [] [0, 1, 2, 3, 4, 5, 6, 7, 3, 7] trivial rfl ⟨.inr ⟨_, rfl, EntRel.box' rfl rfl rfl rfl rfl⟩, .inr ⟨_, rfl, EntRel.rw rfl rfl (fun _ _ => rfl) fun _ _ => rfl⟩, .inr ⟨_, rfl, EntRel.box' rfl rfl rfl rfl rfl⟩, .inl rfl, .inr ⟨_, rfl, EntRel.box' rfl rfl rfl rfl rfl⟩, .inr ⟨_, rfl, EntRel.rw rfl rfl (fun _ _ => rfl) fun _ _ => rfl⟩, .inr ⟨_, rfl, EntRel.ovs rfl rfl (fun i _ => ov_mc rfl rfl fun i hi => by first | rfl | simp [ovAt, hi]) fun _ => rfl⟩, .inl rfl, .inr ⟨_, rfl, EntRel.rw rfl rfl (fun _ _ => rfl) fun _ _ => rfl⟩, .inr ⟨_, rfl, EntRel.rw rfl rfl (fun _ _ => rfl) fun _ _ => rfl⟩, trivial⟩ rfl
  · clear ra rb rcc; repeat refine ok_chk' (by first | rfl | exact fun h => h | omega | exact ⟨rfl, rfl⟩ | exact ⟨trivial, trivial⟩ | assumption | (simp_all; done)) ?_
    (simp only [plainF, accAt, Mc.reg, wr, *, cond_true, cond_false] at h; obtain ⟨rfl, rfl⟩ := Prod.mk.inj h); exact ok_leaf2 (cap2 m.ar.cap m.cN) [] [0, 1, 2, 3, 4, 5, 6, 7, 3, 7] trivial rfl ⟨.inr ⟨_, rfl, EntRel.box' rfl rfl rfl rfl rfl⟩, .inr ⟨_, rfl, EntRel.rw rfl rfl (fun _ _ => rfl) fun _ _ => rfl⟩, .inr ⟨_, rfl, EntRel.box' rfl rfl rfl rfl rfl⟩, .inl rfl, .inr ⟨_, rfl, EntRel.box' rfl rfl rfl rfl rfl⟩, .inr ⟨_, rfl, EntRel.rw rfl rfl (fun _ _ => rfl) fun _ _ => rfl⟩, .inr ⟨_, rfl, EntRel.ovs rfl rfl (fun i _ => ov_mc rfl rfl fun i hi => by first | rfl | simp [ovAt, hi]) fun _ => rfl⟩, .inl rfl, .inr ⟨_, rfl, EntRel.rw rfl rfl (fun _ _ => rfl) fun _ _ => rfl⟩, .inr ⟨_, rfl, EntRel.rw rfl rfl (fun _ _ => rfl) fun _ _ => rfl⟩, trivial⟩ rfl
  · clear ra rb rcc; repeat refine ok_chk' (by first | rfl | exact fun h => h | omega | exact ⟨rfl, rfl⟩ | exact ⟨trivial, trivial⟩ | assumption | (simp_all; done)) ?_
    (simp only [plainF, accAt, Mc.reg, wr, *, cond_true, cond_false] at h; obtain ⟨rfl, rfl⟩ := Prod.mk.inj h); exact ok_leaf2 (cap2 m.ar.cap m.cN) [] [0, 1, 2, 3, 4, 5, 6, 7, 3, 7] trivial rfl ⟨.inr ⟨_, rfl, EntRel.box' rfl rfl rfl rfl rfl⟩, .inr ⟨_, rfl, EntRel.rw rfl rfl (fun _ _ => rfl) fun _ _ => rfl⟩, .inr ⟨_, rfl, EntRel.box' rfl rfl rfl rfl rfl⟩, .inl rfl, .inr ⟨_, rfl, EntRel.box' rfl rfl rfl rfl rfl⟩, .inr ⟨_, rfl, EntRel.rw rfl rfl (fun _ _ => rfl) fun _ _ => rfl⟩, .inr ⟨_, rfl, EntRel.ovs rfl rfl (fun i _ => ov_mc rfl rfl fun i hi => by first | rfl | simp [ovAt, hi]) fun _ => rfl⟩, .inl rfl, .inr ⟨_, rfl, EntRel.rw rfl rfl (fun _ _ => rfl) fun _ _ => rfl⟩, .inr ⟨_, rfl, EntRel.rw rfl rfl (fun _ _ => rfl) fun _ _ => rfl⟩, trivial⟩ rfl
  · clear ra rb rcc
    generalize hr : (m.F q).r x.a.toNat = r
    repeat refine ok_chk' (by first | rfl | exact fun h => h | omega | exact ⟨rfl, rfl⟩ | exact ⟨trivial, trivial⟩ | assumption | (simp_all; done)) ?_
    refine ok_br' (fun e1 => ?_) fun e1 => ?_
    · repeat refine ok_chk' (by first | rfl | exact fun h => h | omega | exact ⟨rfl, rfl⟩ | exact ⟨trivial, trivial⟩ | assumption | (simp_all; done)) ?_
      refine ok_br' (fun e2 => ?_) fun e2 => ?_
      · refine ok_callf' unpark_call (fits_of rfl rfl ⟨⟨_, rfl, EntRel.box' rfl rfl rfl rfl rfl⟩, ⟨_, rfl, EntRel.rw rfl rfl (fun _ _ => rfl) fun _ _ => rfl⟩, trivial⟩ fun c _ => ⟨⟨Nat.le_refl _, rfl⟩, ⟨rfl, rfl⟩, ⟨⟨EntRel.box' rfl rfl rfl rfl rfl, rfl, (fun _ => ⟨rfl, rfl⟩), .inr rfl⟩, ⟨EntRel.rw rfl rfl (fun _ _ => rfl) fun _ _ => rfl, rfl, (fun h => by cases h), .inr rfl⟩, trivial⟩⟩) ((unpark_local m.tb _ _).1 e2) fun c _ => ?_
        (simp only [plainF, accAt, Mc.reg, wr, *, cond_true, cond_false] at h; obtain ⟨rfl, rfl⟩ := Prod.mk.inj h)
        rw [e1]
        repeat refine ok_chk' (by first | rfl | exact fun h => h | omega | exact ⟨rfl, rfl⟩ | exact ⟨trivial, trivial⟩ | assumption | (simp_all; done)) ?_
        exact ok_leaf2 (cap2 m.ar.cap m.cN) [] [0, 1, 2, 3, 4, 5, 6, 7, 3, 7] trivial rfl ⟨.inr ⟨_, rfl, EntRel.box' rfl rfl rfl rfl rfl⟩, .inr ⟨_, rfl, EntRel.rw rfl rfl (fun _ _ => rfl) fun _ _ => rfl⟩, .inr ⟨_, rfl, EntRel.box' rfl rfl rfl rfl rfl⟩, .inl rfl, .inr ⟨_, rfl, EntRel.box' rfl rfl rfl rfl rfl⟩, .inr ⟨_, rfl, EntRel.rw rfl rfl (fun _ _ => rfl) fun _ _ => rfl⟩, .inr ⟨_, rfl, EntRel.rw rfl rfl (fun _ _ => rfl) fun _ _ => rfl⟩, .inl rfl, .inr ⟨_, rfl, EntRel.rw rfl rfl (fun _ _ => rfl) fun _ _ => rfl⟩, .inr ⟨_, rfl, EntRel.rw rfl rfl (fun _ _ => rfl) fun _ _ => rfl⟩, trivial⟩ rfl
      · refine ok_callf' unpark_call (fits_of rfl rfl ⟨⟨_, rfl, EntRel.box' rfl rfl rfl rfl rfl⟩, ⟨_, rfl, EntRel.rw rfl rfl (fun _ _ => rfl) fun _ _ => rfl⟩, trivial⟩ fun c _ => ⟨⟨Nat.le_refl _, rfl⟩, ⟨rfl, rfl⟩, ⟨⟨EntRel.box' rfl rfl rfl rfl rfl, rfl, (fun _ => ⟨rfl, rfl⟩), .inr rfl⟩, ⟨EntRel.rw rfl rfl (fun _ _ => rfl) fun _ _ => rfl, rfl, (fun h => by cases h), .inr rfl⟩, trivial⟩⟩) ((unpark_local m.tb _ _).2 e2) fun c _ => ?_
        (simp only [plainF, accAt, Mc.reg, wr, *, cond_true, cond_false] at h; obtain ⟨rfl, rfl⟩ := Prod.mk.inj h)
        rw [e1]
        repeat refine ok_chk' (by first | rfl | exact fun h => h | omega | exact ⟨rfl, rfl⟩ | exact ⟨trivial, trivial⟩ | assumption | (simp_all; done)) ?_
        exact ok_leaf2 (cap2 m.ar.cap m.cN) [] [0, 1, 2, 3, 4, 5, 6, 7, 3, 7] trivial rfl ⟨.inr ⟨_, rfl, EntRel.box' rfl rfl rfl rfl rfl⟩, .inr ⟨_, rfl, EntRel.rw rfl rfl (fun _ _ => rfl) fun _ _ => rfl⟩, .inr ⟨_, rfl, EntRel.box' rfl rfl rfl rfl rfl⟩, .inl rfl, .inr ⟨_, rfl, EntRel.box' rfl rfl rfl rfl rfl⟩, .inr ⟨_, rfl, EntRel.rw rfl rfl (fun _ _ => rfl) fun _ _ => rfl⟩, .inr ⟨_, rfl, EntRel.rw rfl rfl (fun _ _ => rfl) fun _ _ => rfl⟩, .inl rfl, .inr ⟨_, rfl, EntRel.rw rfl rfl (fun _ _ => rfl) fun _ _ => rfl⟩, .inr ⟨_, rfl, EntRel.rw rfl rfl (fun _ _ => rfl) fun _ _ => rfl⟩, trivial⟩ rfl
    · repeat refine ok_chk' (by first | rfl | exact fun h => h | omega | exact ⟨rfl, rfl⟩ | exact ⟨trivial, trivial⟩ | assumption | (simp_all; done)) ?_
      (simp only [plainF, accAt, Mc.reg, wr, *, cond_true, cond_false] at h; obtain ⟨rfl, rfl⟩ := Prod.mk.inj h)
      exact ok_leaf2 (cap2 m.ar.cap m.cN) [] [0, 1, 2, 3, 4, 5, 6, 7, 3, 7] trivial rfl ⟨.inr ⟨_, rfl, EntRel.box' rfl rfl rfl rfl rfl⟩, .inr ⟨_, rfl, EntRel.rw rfl rfl (fun _ _ => rfl) fun _ _ => rfl⟩, .inr ⟨_, rfl, EntRel.box' rfl rfl rfl rfl rfl⟩, .inl rfl, .inr ⟨_, rfl, EntRel.box' rfl rfl rfl rfl rfl⟩, .inr ⟨_, rfl, EntRel.rw rfl rfl (fun _ _ => rfl) fun _ _ => rfl⟩, .inr ⟨_, rfl, EntRel.rw rfl rfl (fun _ _ => rfl) fun _ _ => rfl⟩, .inl rfl, .inr ⟨_, rfl, EntRel.rw rfl rfl (fun _ _ => rfl) fun _ _ => rfl⟩, .inr ⟨_, rfl, EntRel.rw rfl rfl (fun _ _ => rfl) fun _ _ => rfl⟩, trivial⟩ rfl
  · clear ra rb rcc
    refine ok_br' (fun e1 => ?_) fun e1 => ?_
    · refine ok_callf' alloc_call (fits_of rfl rfl ⟨⟨_, rfl, EntRel.box' rfl rfl rfl rfl rfl⟩, ⟨_, rfl, EntRel.rw rfl rfl (fun _ _ => rfl) fun _ _ => rfl⟩, trivial⟩ fun c _ => ⟨⟨(by show 2 ≤ 3; decide), rfl⟩, ⟨rfl, rfl⟩, ⟨⟨EntRel.box' rfl rfl rfl rfl rfl, rfl, (fun _ => ⟨rfl, rfl⟩), .inr rfl⟩, ⟨EntRel.dead, rfl, (fun h => by cases h), .inr rfl⟩, ⟨EntRel.rw rfl rfl (fun _ _ => rfl) fun _ _ => rfl, rfl, (fun h => by cases h), .inr rfl⟩, trivial⟩⟩) ((alloc_local m.ar _ _ _ ha).1 e1) fun c _ => ?_
      repeat refine ok_chk' (by first | rfl | exact fun h => h | omega | exact ⟨rfl, rfl⟩ | exact ⟨trivial, trivial⟩ | assumption | (simp_all; done)) ?_
      refine ok_br' (fun e => by cases e) fun _ => ?_
      repeat refine ok_chk' (by first | rfl | exact fun h => h | omega | exact ⟨rfl, rfl⟩ | exact ⟨trivial, trivial⟩ | assumption | (simp_all; done)) ?_
      have e1 : decide (posF x.n < 1) = true := e1
      (simp only [plainF, accAt, Mc.reg, wr, *, cond_true, cond_false] at h; obtain ⟨rfl, rfl⟩ := Prod.mk.inj h); exact ok_leaf2 (cap2 (c 0) m.cN) [] [0, 1, 2, 3, 4, 5, 6, 7, 9, 7] trivial rfl ⟨.inr ⟨_, rfl, EntRel.box' rfl rfl rfl rfl rfl⟩, .inr ⟨_, rfl, EntRel.rw rfl rfl (fun _ _ => rfl) fun _ _ => rfl⟩, .inr ⟨_, rfl, EntRel.box' rfl rfl rfl rfl rfl⟩, .inl rfl, .inr ⟨_, rfl, EntRel.box' rfl rfl rfl rfl rfl⟩, .inr ⟨_, rfl, EntRel.rw rfl rfl (fun _ _ => rfl) fun _ _ => rfl⟩, .inr ⟨_, rfl, EntRel.ovs rfl rfl (fun i _ => ov_mc rfl rfl fun i hi => by first | rfl | simp [ovAt, hi]) fun _ => rfl⟩, .inl rfl, .inr ⟨_, rfl, EntRel.rw rfl rfl (fun _ _ => rfl) fun _ _ => rfl⟩, .inr ⟨_, rfl, EntRel.rw rfl rfl (fun _ _ => rfl) fun _ _ => rfl⟩, trivial⟩ rfl
    · have e3 : decide (posF x.n < 1) = false := e1
      refine ok_br' (fun e2 => ?_) fun e2 => ?_
      · refine ok_callf' alloc_call (fits_of rfl rfl ⟨⟨_, rfl, EntRel.box' rfl rfl rfl rfl rfl⟩, ⟨_, rfl, EntRel.rw rfl rfl (fun _ _ => rfl) fun _ _ => rfl⟩, trivial⟩ fun c _ => ⟨⟨(by show 2 ≤ 3; decide), rfl⟩, ⟨rfl, rfl⟩, ⟨⟨EntRel.box' rfl rfl rfl rfl rfl, rfl, (fun _ => ⟨rfl, rfl⟩), .inr rfl⟩, ⟨EntRel.dead, rfl, (fun h => by cases h), .inr rfl⟩, ⟨EntRel.rw rfl rfl (fun _ _ => rfl) fun _ _ => rfl, rfl, (fun h => by cases h), .inr rfl⟩, trivial⟩⟩) ((alloc_local m.ar _ _ _ ha).2.1 e1 e2) fun c _ => ?_
        repeat refine ok_chk' (by first | rfl | exact fun h => h | omega | exact ⟨rfl, rfl⟩ | exact ⟨trivial, trivial⟩ | assumption | (simp_all; done)) ?_
        refine ok_br' (fun e => by cases e) fun _ => ?_
        repeat refine ok_chk' (by first | rfl | exact fun h => h | omega | exact ⟨rfl, rfl⟩ | exact ⟨trivial, trivial⟩ | assumption | (simp_all; done)) ?_
        have e4 : fullF m.ar (posF x.n) = true := e2
        (simp only [plainF, accAt, Mc.reg, wr, *, cond_true, cond_false] at h; obtain ⟨rfl, rfl⟩ := Prod.mk.inj h); exact ok_leaf2 (cap2 (c 0) m.cN) [] [0, 1, 2, 3, 4, 5, 6, 7, 9, 7] trivial rfl ⟨.inr ⟨_, rfl, EntRel.box' rfl rfl rfl rfl rfl⟩, .inr ⟨_, rfl, EntRel.rw rfl rfl (fun _ _ => rfl) fun _ _ => rfl⟩, .inr ⟨_, rfl, EntRel.box' rfl rfl rfl rfl rfl⟩, .inl rfl, .inr ⟨_, rfl, EntRel.box' rfl rfl rfl rfl rfl⟩, .inr ⟨_, rfl, EntRel.rw rfl rfl (fun _ _ => rfl) fun _ _ => rfl⟩, .inr ⟨_, rfl, EntRel.ovs rfl rfl (fun i _ => ov_mc rfl rfl fun i hi => by first | rfl | simp [ovAt, hi]) fun _ => rfl⟩, .inl rfl, .inr ⟨_, rfl, EntRel.rw rfl rfl (fun _ _ => rfl) fun _ _ => rfl⟩, .inr ⟨_, rfl, EntRel.rw rfl rfl (fun _ _ => rfl) fun _ _ => rfl⟩, trivial⟩ rfl
      · refine ok_callf' alloc_call (fits_of rfl rfl ⟨⟨_, rfl, EntRel.box' rfl rfl rfl rfl rfl⟩, ⟨_, rfl, EntRel.rw rfl rfl (fun _ _ => rfl) fun _ _ => rfl⟩, trivial⟩ fun c _ => ⟨⟨(by show 2 ≤ 3; decide), rfl⟩, ⟨rfl, rfl⟩, ⟨⟨EntRel.box' rfl rfl rfl rfl rfl, rfl, (fun _ => ⟨rfl, rfl⟩), .inr rfl⟩, ⟨EntRel.dead, rfl, (fun h => by cases h), .inr rfl⟩, ⟨EntRel.rw rfl rfl (fun _ _ => rfl) fun _ _ => rfl, rfl, (fun h => by cases h), .inr rfl⟩, trivial⟩⟩) ((alloc_local m.ar _ _ _ ha).2.2 e1 e2) fun c _ => ?_
        repeat refine ok_chk' (by first | rfl | exact fun h => h | omega | exact ⟨rfl, rfl⟩ | exact ⟨trivial, trivial⟩ | assumption | (simp_all; done)) ?_
        refine ok_br' (fun _ => ?_) fun e => by cases e
        repeat refine ok_chk' (by first | rfl | exact fun h => h | omega | exact ⟨rfl, rfl⟩ | exact ⟨trivial, trivial⟩ | assumption | (simp_all; done)) ?_
        have e4 : fullF m.ar (posF x.n) = false := e2
        (simp only [plainF, accAt, Mc.reg, wr, *, cond_true, cond_false] at h; obtain ⟨rfl, rfl⟩ := Prod.mk.inj h); exact ok_leaf2 (cap2 (c 0) m.cN) [] [0, 1, 2, 3, 4, 5, 6, 7, 9, 7] trivial rfl ⟨.inr ⟨_, rfl, EntRel.box' rfl rfl rfl rfl rfl⟩, .inr ⟨_, rfl, EntRel.rw rfl rfl (fun _ _ => rfl) fun _ _ => rfl⟩, .inr ⟨_, rfl, EntRel.box' rfl rfl rfl rfl rfl⟩, .inl rfl, .inr ⟨_, rfl, EntRel.box' rfl rfl rfl rfl rfl⟩, .inr ⟨_, rfl, EntRel.rw rfl rfl (fun _ _ => rfl) fun _ _ => rfl⟩, .inr ⟨_, rfl, EntRel.ovs rfl rfl (fun i _ => ov_mc rfl (congrArg (fun f => Fr.cv ⟨_, f⟩) (funext fun k => by show (if _ then _ else _) = if _ then _ else _; split <;> rfl)) fun i hi => by first | rfl | simp [ovAt, hi]) fun _ => rfl⟩, .inl rfl, .inr ⟨_, rfl, EntRel.rw rfl rfl (fun _ _ => rfl) fun _ _ => rfl⟩, .inr ⟨_, rfl, EntRel.rw rfl rfl (fun _ _ => rfl) fun _ _ => rfl⟩, trivial⟩ rfl
  · clear ra rb rcc; repeat refine ok_chk' (by first | rfl | exact fun h => h | omega | exact ⟨rfl, rfl⟩ | exact ⟨trivial, trivial⟩ | assumption | (simp_all; done)) ?_
    (simp only [plainF, accAt, Mc.reg, wr, *, cond_true, cond_false] at h; obtain ⟨rfl, rfl⟩ := Prod.mk.inj h); exact ok_leaf2 (cap2 m.ar.cap m.cN) [] [0, 1, 2, 3, 4, 5, 6, 7, 3, 7] trivial rfl ⟨.inr ⟨_, rfl, EntRel.box' rfl rfl rfl rfl rfl⟩, .inr ⟨_, rfl, EntRel.rw rfl rfl (fun _ _ => rfl) fun _ _ => rfl⟩, .inr ⟨_, rfl, EntRel.box' rfl rfl rfl rfl rfl⟩, .inl rfl, .inr ⟨_, rfl, EntRel.box' rfl rfl rfl rfl rfl⟩, .inr ⟨_, rfl, EntRel.rw rfl rfl (fun _ _ => rfl) fun _ _ => rfl⟩, .inr ⟨_, rfl, EntRel.ovs rfl rfl (fun i _ => ov_mc rfl rfl fun i hi => by first | rfl | simp [ovAt, hi]) fun _ => rfl⟩, .inl rfl, .inr ⟨_, rfl, EntRel.rw rfl rfl (fun _ _ => rfl) fun _ _ => rfl⟩, .inr ⟨_, rfl, EntRel.rw rfl rfl (fun _ _ => rfl) fun _ _ => rfl⟩, trivial⟩ rfl
  · clear ra rb rcc
    refine ok_callf' now_call (fits_of rfl rfl ⟨⟨_, rfl, EntRel.box' rfl rfl rfl rfl rfl⟩, ⟨_, rfl, EntRel.rw rfl rfl (fun _ _ => rfl) fun _ _ => rfl⟩, trivial⟩ fun c _ => ⟨⟨Nat.le_refl _, rfl⟩, ⟨rfl, rfl⟩, ⟨⟨EntRel.box' rfl rfl rfl rfl rfl, rfl, (fun _ => ⟨rfl, rfl⟩), .inr rfl⟩, ⟨EntRel.rw rfl rfl (fun _ _ => rfl) fun _ _ => rfl, rfl, (fun h => by cases h), .inr rfl⟩, trivial⟩⟩) (now_local m.tb _) fun c _ => ?_
    repeat refine ok_chk' (by first | rfl | exact fun h => h | omega | exact ⟨rfl, rfl⟩ | exact ⟨trivial, trivial⟩ | assumption | (simp_all; done)) ?_
    (simp only [plainF, accAt, Mc.reg, wr, *, cond_true, cond_false] at h; obtain ⟨rfl, rfl⟩ := Prod.mk.inj h); exact ok_leaf2 (cap2 m.ar.cap m.cN) [] [0, 1, 2, 3, 4, 5, 6, 7, 3, 7] trivial rfl ⟨.inr ⟨_, rfl, EntRel.box' rfl rfl rfl rfl rfl⟩, .inr ⟨_, rfl, EntRel.rw rfl rfl (fun _ _ => rfl) fun _ _ => rfl⟩, .inr ⟨_, rfl, EntRel.box' rfl rfl rfl rfl rfl⟩, .inl rfl, .inr ⟨_, rfl, EntRel.box' rfl rfl rfl rfl rfl⟩, .inr ⟨_, rfl, EntRel.rw rfl rfl (fun _ _ => rfl) fun _ _ => rfl⟩, .inr ⟨_, rfl, EntRel.ovs rfl rfl (fun i _ => ov_mc rfl rfl fun i hi => by first | rfl | simp [ovAt, hi]) fun _ => rfl⟩, .inl rfl, .inr ⟨_, rfl, EntRel.rw rfl rfl (fun _ _ => rfl) fun _ _ => rfl⟩, .inr ⟨_, rfl, EntRel.rw rfl rfl (fun _ _ => rfl) fun _ _ => rfl⟩, trivial⟩ rfl
  · clear ra rb rcc
    refine ok_br' (fun e1 => ?_) fun e1 => ?_
    · refine ok_callf' clear_call (fits_of rfl rfl ⟨⟨_, rfl, EntRel.box' rfl rfl rfl rfl rfl⟩, ⟨_, rfl, EntRel.rw rfl rfl (fun _ _ => rfl) fun _ _ => rfl⟩, trivial⟩ fun c _ => ⟨⟨Nat.le_refl _, rfl⟩, ⟨rfl, rfl⟩, ⟨⟨EntRel.box' rfl rfl rfl rfl rfl, rfl, (fun _ => ⟨rfl, rfl⟩), .inr rfl⟩, ⟨EntRel.rw rfl rfl (fun _ _ => rfl) fun _ _ => rfl, rfl, (fun h => by cases h), .inr rfl⟩, trivial⟩⟩) ((clear_local m.tb _ _).1 e1) fun c _ => ?_
      repeat refine ok_chk' (by first | rfl | exact fun h => h | omega | exact ⟨rfl, rfl⟩ | exact ⟨trivial, trivial⟩ | assumption | (simp_all; done)) ?_
      refine ok_br' (fun e2 => ?_) fun e2 => ?_
      · repeat refine ok_chk' (by first | rfl | exact fun h => h | omega | exact ⟨rfl, rfl⟩ | exact ⟨trivial, trivial⟩ | assumption | (simp_all; done)) ?_
        have e2 : (m.tb.P m.i.toNat).f = true := e2
        (simp only [plainF, accAt, Mc.reg, wr, *, cond_true, cond_false] at h; obtain ⟨rfl, rfl⟩ := Prod.mk.inj h); exact ok_leaf2 (cap2 m.ar.cap m.cN) [] [0, 1, 2, 3, 4, 5, 6, 7, 3, 7] trivial rfl ⟨.inr ⟨_, rfl, EntRel.box' rfl rfl rfl rfl rfl⟩, .inr ⟨_, rfl, EntRel.rw rfl rfl (fun _ _ => rfl) fun _ _ => rfl⟩, .inr ⟨_, rfl, EntRel.box' rfl rfl rfl rfl rfl⟩, .inl rfl, .inr ⟨_, rfl, EntRel.box' rfl rfl rfl rfl rfl⟩, .inr ⟨_, rfl, EntRel.rw rfl rfl (fun _ _ => rfl) fun _ _ => rfl⟩, .inr ⟨_, rfl, EntRel.ovs rfl rfl (fun i _ => ov_mc rfl (congrArg (fun f => Fr.cv ⟨_, f⟩) (funext fun k => by show (if _ then _ else _) = if _ then _ else _; split <;> rfl)) fun i hi => by first | rfl | simp [ovAt, hi]) fun _ => rfl⟩, .inl rfl, .inr ⟨_, rfl, EntRel.rw rfl rfl (fun _ _ => rfl) fun _ _ => rfl⟩, .inr ⟨_, rfl, EntRel.rw rfl rfl (fun _ _ => rfl) fun _ _ => rfl⟩, trivial⟩ rfl
      · repeat refine ok_chk' (by first | rfl | exact fun h => h | omega | exact ⟨rfl, rfl⟩ | exact ⟨trivial, trivial⟩ | assumption | (simp_all; done)) ?_
        have e2 : (m.tb.P m.i.toNat).f = false := e2
        (simp only [plainF, accAt, Mc.reg, wr, *, cond_true, cond_false] at h; obtain ⟨rfl, rfl⟩ := Prod.mk.inj h); exact ok_leaf2 (cap2 m.ar.cap m.cN) [] [0, 1, 2, 3, 4, 5, 6, 7, 3, 7] trivial rfl ⟨.inr ⟨_, rfl, EntRel.box' rfl rfl rfl rfl rfl⟩, .inr ⟨_, rfl, EntRel.rw rfl rfl (fun _ _ => rfl) fun _ _ => rfl⟩, .inr ⟨_, rfl, EntRel.box' rfl rfl rfl rfl rfl⟩, .inl rfl, .inr ⟨_, rfl, EntRel.box' rfl rfl rfl rfl rfl⟩, .inr ⟨_, rfl, EntRel.rw rfl rfl (fun _ _ => rfl) fun _ _ => rfl⟩, .inr ⟨_, rfl, EntRel.ovs rfl rfl (fun i _ => ov_mc rfl rfl fun i hi => by first | rfl | simp [ovAt, hi]) fun _ => rfl⟩, .inl rfl, .inr ⟨_, rfl, EntRel.rw rfl rfl (fun _ _ => rfl) fun _ _ => rfl⟩, .inr ⟨_, rfl, EntRel.rw rfl rfl (fun _ _ => rfl) fun _ _ => rfl⟩, trivial⟩ rfl
    · refine ok_callf' clear_call (fits_of rfl rfl ⟨⟨_, rfl, EntRel.box' rfl rfl rfl rfl rfl⟩, ⟨_, rfl, EntRel.rw rfl rfl (fun _ _ => rfl) fun _ _ => rfl⟩, trivial⟩ fun c _ => ⟨⟨Nat.le_refl _, rfl⟩, ⟨rfl, rfl⟩, ⟨⟨EntRel.box' rfl rfl rfl rfl rfl, rfl, (fun _ => ⟨rfl, rfl⟩), .inr rfl⟩, ⟨EntRel.rw rfl rfl (fun _ _ => rfl) fun _ _ => rfl, rfl, (fun h => by cases h), .inr rfl⟩, trivial⟩⟩) ((clear_local m.tb _ _).2 e1) fun c _ => ?_
      repeat refine ok_chk' (by first | rfl | exact fun h => h | omega | exact ⟨rfl, rfl⟩ | exact ⟨trivial, trivial⟩ | assumption | (simp_all; done)) ?_
      refine ok_br' (fun e => by cases e) fun _ => ?_
      repeat refine ok_chk' (by first | rfl | exact fun h => h | omega | exact ⟨rfl, rfl⟩ | exact ⟨trivial, trivial⟩ | assumption | (simp_all; done)) ?_
      (simp only [plainF, accAt, Mc.reg, wr, *, cond_true, cond_false] at h; obtain ⟨rfl, rfl⟩ := Prod.mk.inj h); exact ok_leaf2 (cap2 m.ar.cap m.cN) [] [0, 1, 2, 3, 4, 5, 6, 7, 3, 7] trivial rfl ⟨.inr ⟨_, rfl, EntRel.box' rfl rfl rfl rfl rfl⟩, .inr ⟨_, rfl, EntRel.rw rfl rfl (fun _ _ => rfl) fun _ _ => rfl⟩, .inr ⟨_, rfl, EntRel.box' rfl rfl rfl rfl rfl⟩, .inl rfl, .inr ⟨_, rfl, EntRel.box' rfl rfl rfl rfl rfl⟩, .inr ⟨_, rfl, EntRel.rw rfl rfl (fun _ _ => rfl) fun _ _ => rfl⟩, .inr ⟨_, rfl, EntRel.ovs rfl rfl (fun i _ => ov_mc rfl rfl fun i hi => by first | rfl | simp [ovAt, hi]) fun _ => rfl⟩, .inl rfl, .inr ⟨_, rfl, EntRel.rw rfl rfl (fun _ _ => rfl) fun _ _ => rfl⟩, .inr ⟨_, rfl, EntRel.rw rfl rfl (fun _ _ => rfl) fun _ _ => rfl⟩, trivial⟩ rfl
  · clear ra rb rcc
    refine ok_br' (fun e1 => ?_) fun e1 => ?_
    · refine ok_callf' intr_call (fits_of rfl rfl ⟨⟨_, rfl, EntRel.box' rfl rfl rfl rfl rfl⟩, ⟨_, rfl, EntRel.rw rfl rfl (fun _ _ => rfl) fun _ _ => rfl⟩, trivial⟩ fun c _ => ⟨⟨Nat.le_refl _, rfl⟩, ⟨rfl, rfl⟩, ⟨⟨EntRel.box' rfl rfl rfl rfl rfl, rfl, (fun _ => ⟨rfl, rfl⟩), .inr rfl⟩, ⟨EntRel.rw rfl rfl (fun _ _ => rfl) fun _ _ => rfl, rfl, (fun h => by cases h), .inr rfl⟩, trivial⟩⟩) ((intr_local m.tb _ _).1 e1) fun c _ => ?_
      (simp only [plainF, accAt, Mc.reg, wr, *, cond_true, cond_false] at h; obtain ⟨rfl, rfl⟩ := Prod.mk.inj h); exact ok_leaf2 (cap2 m.ar.cap m.cN) [] [0, 1, 2, 3, 4, 5, 6, 7, 3, 7] trivial rfl ⟨.inr ⟨_, rfl, EntRel.box' rfl rfl rfl rfl rfl⟩, .inr ⟨_, rfl, EntRel.rw rfl rfl (fun _ _ => rfl) fun _ _ => rfl⟩, .inr ⟨_, rfl, EntRel.box' rfl rfl rfl rfl rfl⟩, .inl rfl, .inr ⟨_, rfl, EntRel.box' rfl rfl rfl rfl rfl⟩, .inr ⟨_, rfl, EntRel.rw rfl rfl (fun _ _ => rfl) fun _ _ => rfl⟩, .inr ⟨_, rfl, EntRel.rw rfl rfl (fun _ _ => rfl) fun _ _ => rfl⟩, .inl rfl, .inr ⟨_, rfl, EntRel.rw rfl rfl (fun _ _ => rfl) fun _ _ => rfl⟩, .inr ⟨_, rfl, EntRel.rw rfl rfl (fun _ _ => rfl) fun _ _ => rfl⟩, trivial⟩ rfl
    · refine ok_callf' intr_call (fits_of rfl rfl ⟨⟨_, rfl, EntRel.box' rfl rfl rfl rfl rfl⟩, ⟨_, rfl, EntRel.rw rfl rfl (fun _ _ => rfl) fun _ _ => rfl⟩, trivial⟩ fun c _ => ⟨⟨Nat.le_refl _, rfl⟩, ⟨rfl, rfl⟩, ⟨⟨EntRel.box' rfl rfl rfl rfl rfl, rfl, (fun _ => ⟨rfl, rfl⟩), .inr rfl⟩, ⟨EntRel.rw rfl rfl (fun _ _ => rfl) fun _ _ => rfl, rfl, (fun h => by cases h), .inr rfl⟩, trivial⟩⟩) ((intr_local m.tb _ _).2 e1) fun c _ => ?_
      (simp only [plainF, accAt, Mc.reg, wr, *, cond_true, cond_false] at h; obtain ⟨rfl, rfl⟩ := Prod.mk.inj h); exact ok_leaf2 (cap2 m.ar.cap m.cN) [] [0, 1, 2, 3, 4, 5, 6, 7, 3, 7] trivial rfl ⟨.inr ⟨_, rfl, EntRel.box' rfl rfl rfl rfl rfl⟩, .inr ⟨_, rfl, EntRel.rw rfl rfl (fun _ _ => rfl) fun _ _ => rfl⟩, .inr ⟨_, rfl, EntRel.box' rfl rfl rfl rfl rfl⟩, .inl rfl, .inr ⟨_, rfl, EntRel.box' rfl rfl rfl rfl rfl⟩, .inr ⟨_, rfl, EntRel.rw rfl rfl (fun _ _ => rfl) fun _ _ => rfl⟩, .inr ⟨_, rfl, EntRel.rw rfl rfl (fun _ _ => rfl) fun _ _ => rfl⟩, .inl rfl, .inr ⟨_, rfl, EntRel.rw rfl rfl (fun _ _ => rfl) fun _ _ => rfl⟩, .inr ⟨_, rfl, EntRel.rw rfl rfl (fun _ _ => rfl) fun _ _ => rfl⟩, trivial⟩ rfl
  · clear ra rb rcc; repeat refine ok_chk' (by first | rfl | exact fun h => h | omega | exact ⟨rfl, rfl⟩ | exact ⟨trivial, trivial⟩ | assumption | (simp_all; done)) ?_
    refine ok_all' fun c hc => ?_
    repeat refine ok_chk' (by first | rfl | exact fun h => h | omega | exact ⟨rfl, rfl⟩ | exact ⟨trivial, trivial⟩ | assumption | (simp_all; done)) ?_
    (simp only [plainF, accAt, Mc.reg, wr, *, cond_true, cond_false] at h; obtain ⟨rfl, rfl⟩ := Prod.mk.inj h)
    exact ok_leaf2 (cap2 m.ar.cap (c 0)) [] [0, 1, 2, 3, 4, 5, 6, 7, 3, 10] trivial rfl ⟨.inr ⟨_, rfl, EntRel.box' rfl rfl rfl rfl rfl⟩, .inr ⟨_, rfl, EntRel.rw rfl rfl (fun _ _ => rfl) fun _ _ => rfl⟩, .inr ⟨_, rfl, EntRel.box' rfl rfl rfl rfl rfl⟩, .inl rfl, .inr ⟨_, rfl, EntRel.box' rfl rfl rfl rfl rfl⟩, .inr ⟨_, rfl, EntRel.rw rfl rfl (fun _ _ => rfl) fun _ _ => rfl⟩, .inr ⟨_, rfl, EntRel.rw rfl rfl (fun _ _ => rfl) fun _ _ => rfl⟩, .inl rfl, .inr ⟨_, rfl, EntRel.rw rfl rfl (fun _ _ => rfl) fun _ _ => rfl⟩, .inr ⟨_, rfl, EntRel.rw rfl rfl (fun i _ => by show (if i < m.nN then [iv (m.N i).1, iv (m.N i).2] else [iv x.n, iv ((m.F q).r x.a.toNat)]) = [iv (if i < m.nN then m.N i else (x.n, (m.F q).r x.a.toNat)).1, iv (if i < m.nN then m.N i else (x.n, (m.F q).r x.a.toNat)).2]; split <;> rfl) fun _ _ => rfl⟩, trivial⟩ rfl
  · clear ra rb rcc; (simp only [plainF, accAt, Mc.reg, wr, *, cond_true, cond_false] at h; obtain ⟨rfl, rfl⟩ := Prod.mk.inj h); exact ok_leaf2 (cap2 m.ar.cap m.cN) [] [0, 1, 2, 3, 4, 5, 6, 7, 3, 7] trivial rfl ⟨.inr ⟨_, rfl, EntRel.box' rfl rfl rfl rfl rfl⟩, .inr ⟨_, rfl, EntRel.rw rfl rfl (fun _ _ => rfl) fun _ _ => rfl⟩, .inr ⟨_, rfl, EntRel.box' rfl rfl rfl rfl rfl⟩, .inl rfl, .inr ⟨_, rfl, EntRel.box' rfl rfl rfl rfl rfl⟩, .inr ⟨_, rfl, EntRel.rw rfl rfl (fun _ _ => rfl) fun _ _ => rfl⟩, .inr ⟨_, rfl, EntRel.rw rfl rfl (fun _ _ => rfl) fun _ _ => rfl⟩, .inl rfl, .inr ⟨_, rfl, EntRel.rw rfl rfl (fun _ _ => rfl) fun _ _ => rfl⟩, .inr ⟨_, rfl, EntRel.rw rfl rfl (fun _ _ => rfl) fun _ _ => rfl⟩, trivial⟩ rfl
end Go.Proofs.Ytehecaipmdfjmaa.X.Mi

set_option linter.unusedVariables false
set_option linter.unusedSimpArgs false
namespace Go.Proofs.Ytehecaipmdfjmaa.X
open Go Go.RowKit Go.Proofs.YtehecaipmdfjmaaW.PrintWords Go.Proofs.Ytehecaipmdfjmaa.Base
theorem Holds.shrink {R : Root} {ν : Val} {H : Hp} {w : World} (h : Holds R ν H w) {k : Nat} {e : Ent} (he : H.get k = some e) (hb : e.box = false) (ho : e.own = true) {n' : Nat → Nat} (hn : ∀ j, j < e.m → n' j ≤ e.n j) : Holds R ν (H.set k { e with n := n' }) w := by
  have hk := Hp.get_lt he
  have E := h.ent k e he
  refine ⟨h.upd, fun k' e' he' => ?_, fun k1 e1 j he1 ho1 hj k' e2 j' he2 hj' hne ad ad' hν hν' hl => ?_, by rw [set_length]; exact h.agr⟩
  · rw [set_length]
    rcases get_set he' hk with ⟨rfl, rfl⟩ | ⟨-, he'⟩
    · refine ⟨⟨(fun hh => by rw [show ({ e with n := n' } : Ent).box = e.box from rfl, hb] at hh; cases hh), .inl ho⟩, fun j hj i hi => E.cells j hj i (Nat.lt_of_lt_of_le hi (hn j hj)), fun _ j hj => ?_, fun hh => by rw [show ({ e with n := n' } : Ent).own = e.own from rfl, ho] at hh; cases hh⟩
      rcases E.own ho j hj with ⟨a, b, c⟩ | ⟨g, cs, a1, a2, a3, a4, a5, a6, a7⟩
      · exact .inl ⟨by have := hn j hj; show n' j = 0; omega, b, c⟩
      · exact .inr ⟨g, cs, a1, a2, a3, a4, Nat.le_trans (hn j hj) a5, a6, fun i hi => a7 i (Nat.lt_of_lt_of_le hi (hn j hj))⟩
    · exact h.ent k' e' he'
  · have back : ∀ {k1 : Nat} {e1 : Ent}, (H.set k { e with n := n' }).get k1 = some e1 → ∃ e0, H.get k1 = some e0 ∧ e0.own = e1.own ∧ e0.m = e1.m ∧ (e1.own = true ∨ ∀ j, e1.n j = e0.n j) := fun {k1 e1} h1 => by
      rcases get_set h1 hk with ⟨rfl, rfl⟩ | ⟨-, h1⟩
      · exact ⟨e, he, rfl, rfl, .inl ho⟩
      · exact ⟨e1, h1, rfl, rfl, .inr fun _ => rfl⟩
    obtain ⟨a, ha, ha1, ha2, -⟩ := back he1
    obtain ⟨b, hb1, hb2, hb3, hb4⟩ := back he2
    refine h.dj k1 a j ha (ha1.trans ho1) (by omega) k' b j' hb1 (by omega) hne ad ad' hν hν' ?_
    rcases hl with hl | hl
    · exact .inl (hb2.trans hl)
    · rcases hb4 with hb4 | hb4
      · exact .inl (hb2.trans hb4)
      · exact .inr (by rw [← hb4]; exact hl)
theorem ok_shrink {P : Program} {R : Root} {nt : Nat} {Rp : Ending → World → Prop} {x : XV} {H : Hp} (k : Nat) {e : Ent} (n' : Nat → Nat) (he : H.get k = some e) (hb : e.box = false) (ho : e.own = true) (hn : ∀ j, j < e.m → n' j ≤ e.n j) (h : ok P R nt Rp (.done x (H.set k { e with n := n' }))) : ok P R nt Rp (.done x H) :=
  fun ν w hh => h ν w (hh.shrink he hb ho hn)
end Go.Proofs.Ytehecaipmdfjmaa.X
namespace Go.Proofs.Ytehecaipmdfjmaa.X.Mi
open Go Go.RowKit Go.Proofs.YtehecaipmdfjmaaW.PrintWords Go.Proofs.Ytehecaipmdfjmaa.Base Go.Proofs.Ytehecaipmdfjmaa.X
set_option maxHeartbeats 1000000 in
theorem frames_local (m m' : Mc) (b : Bool) (d : Cd) (x : In) (k : Nat) (h1 : 1 ≤ m.nF) (h2 : m.nF ≤ 16) (hc : m.nF ≤ m.cF) (h : framesF m x = (m', b)) : (framesC m m' b d x k).Local Try.prog 35 := by
  have w1 : IntKind.wrap .i64 ((m.nF : Int) - 1) = (m.nF : Int) - 1 := wrap64 (by omega) (by omega)
  have w2 : ((m.nF : Int) - 1).toNat = m.nF - 1 := by omega
  have w3 : IntKind.wrap .i64 (((m.nF - 1 : Nat) : Int) - 1) = ((m.nF - 1 : Nat) : Int) - 1 := wrap64 (by omega) (by omega)
  have w4 : (((m.nF - 1 : Nat) : Int) - 1).toNat = m.nF - 2 := by omega
  refine local_of Try.func35 rfl (tframes_eq m d x) fun ν w => ?_
  unfold tframes
  simp only [w1, w2, w3, w4]
  refine ok_chk' ⟨by omega, by omega, by omega, by omega⟩ (ok_br' (fun c1 => ok_br' (fun c2 => ?_) fun c2 => ?_) fun c1 => ok_br' (fun c2 => ?_) fun c2 => ?_)
  · simp only [framesF, c1, c2, cond_true] at h
    obtain ⟨rfl, rfl⟩ := Prod.mk.inj h
    exact ok_leaf2 (fun _ => m.cF) [] [0, 1, 2, 3, 4, 5, 6, 7, 6] hc rfl ⟨.inr ⟨_, rfl, EntRel.box' rfl rfl rfl rfl rfl⟩, .inr ⟨_, rfl, EntRel.rw rfl rfl (fun _ _ => rfl) fun _ _ => rfl⟩, .inr ⟨_, rfl, EntRel.box' rfl rfl rfl rfl rfl⟩, .inr ⟨_, rfl, EntRel.rw rfl rfl (fun _ _ => rfl) fun _ _ => rfl⟩, .inr ⟨_, rfl, EntRel.box' rfl rfl rfl rfl rfl⟩, .inr ⟨_, rfl, EntRel.rw rfl rfl (fun _ _ => rfl) fun _ _ => rfl⟩, .inl rfl, .inr ⟨_, rfl, EntRel.rw rfl rfl (fun _ _ => rfl) fun _ _ => rfl⟩, .inr ⟨_, rfl, EntRel.rw rfl rfl (fun _ _ => rfl) fun _ _ => rfl⟩, trivial⟩ rfl
  · simp only [framesF, c1, c2, cond_true, cond_false, wr, w1, w2] at h
    obtain ⟨rfl, rfl⟩ := Prod.mk.inj h
    repeat refine ok_chk' (by first | rfl | exact trivial | omega | exact ⟨rfl, rfl⟩ | exact ⟨trivial, trivial⟩) ?_
    refine ok_all' fun c hc2 => ?_
    repeat refine ok_chk' (by first | rfl | exact trivial | omega | exact ⟨rfl, rfl⟩ | exact ⟨trivial, trivial⟩) ?_
    refine ok_leaf2 c [] [0, 1, 2, 3, 4, 5, 6, 7, 10] hc2.1 rfl ⟨.inr ⟨_, rfl, EntRel.box' rfl rfl rfl rfl rfl⟩, .inr ⟨_, rfl, EntRel.rw rfl rfl (fun _ _ => rfl) fun _ _ => rfl⟩, .inr ⟨_, rfl, EntRel.box' rfl rfl rfl rfl rfl⟩, .inr ⟨_, rfl, EntRel.rw rfl rfl (fun _ _ => rfl) fun _ _ => rfl⟩, .inr ⟨_, rfl, EntRel.box' rfl rfl rfl rfl rfl⟩, .inr ⟨_, rfl, EntRel.rw rfl rfl (fun _ _ => rfl) fun _ _ => rfl⟩, .inl rfl, .inr ⟨_, rfl, EntRel.rw rfl rfl (fun _ _ => rfl) fun _ _ => rfl⟩, .inr ⟨_, rfl, EntRel.rw rfl rfl (fun i hi => ?_) fun _ _ => rfl⟩, trivial⟩ rfl
    show _ = Fr.cv (if i < m.nF then (if i = m.nF - 1 then { m.F i with at_ := IntKind.wrap .i64 ((m.F i).at_ + 1) } else m.F i) else ⟨x.n, (m.F (m.nF - 1)).r⟩)
    by_cases h3 : i < m.nF
    · by_cases h4 : i = m.nF - 1
      · subst h4; simp only [h3, if_true, true_and]
      · simp only [h3, h4, if_true, if_false, and_false]
    · simp only [h3, if_false]
  · simp only [framesF, c1, c2, cond_true, cond_false] at h
    obtain ⟨rfl, rfl⟩ := Prod.mk.inj h
    exact ok_leaf2 (fun _ => m.cF) [] [0, 1, 2, 3, 4, 5, 6, 7, 6] hc rfl ⟨.inr ⟨_, rfl, EntRel.box' rfl rfl rfl rfl rfl⟩, .inr ⟨_, rfl, EntRel.rw rfl rfl (fun _ _ => rfl) fun _ _ => rfl⟩, .inr ⟨_, rfl, EntRel.box' rfl rfl rfl rfl rfl⟩, .inr ⟨_, rfl, EntRel.rw rfl rfl (fun _ _ => rfl) fun _ _ => rfl⟩, .inr ⟨_, rfl, EntRel.box' rfl rfl rfl rfl rfl⟩, .inr ⟨_, rfl, EntRel.rw rfl rfl (fun _ _ => rfl) fun _ _ => rfl⟩, .inl rfl, .inr ⟨_, rfl, EntRel.rw rfl rfl (fun _ _ => rfl) fun _ _ => rfl⟩, .inr ⟨_, rfl, EntRel.rw rfl rfl (fun _ _ => rfl) fun _ _ => rfl⟩, trivial⟩ rfl
  · simp only [framesF, c1, c2, cond_true, cond_false] at h
    obtain ⟨rfl, rfl⟩ := Prod.mk.inj h
    have h3 : 2 ≤ m.nF := by simp at c2; omega
    repeat refine ok_chk' (by first | rfl | exact trivial | omega | exact ⟨rfl, rfl⟩ | exact ⟨trivial, trivial⟩ | decide | exact ⟨by omega, by omega, by omega, by omega⟩) ?_
    refine ok_shrink 6 (fun _ => m.nF - 1) rfl rfl rfl (fun _ _ => Nat.sub_le _ _) ?_
    exact ok_leaf2 (fun _ => m.cF) [] [0, 1, 2, 3, 4, 5, 6, 7, 6] (show m.nF - 1 ≤ m.cF by omega) rfl ⟨.inr ⟨_, rfl, EntRel.box' rfl rfl rfl rfl rfl⟩, .inr ⟨_, rfl, EntRel.rw rfl rfl (fun _ _ => rfl) fun _ _ => rfl⟩, .inr ⟨_, rfl, EntRel.box' rfl rfl rfl rfl rfl⟩, .inr ⟨_, rfl, EntRel.rw rfl rfl (fun _ _ => rfl) fun _ _ => rfl⟩, .inr ⟨_, rfl, EntRel.box' rfl rfl rfl rfl rfl⟩, .inr ⟨_, rfl, EntRel.rw rfl rfl (fun _ _ => rfl) fun _ _ => rfl⟩, .inl rfl, .inr ⟨_, rfl, EntRel.rw rfl rfl (fun _ _ => rfl) fun _ _ => rfl⟩, .inr ⟨_, rfl, EntRel.ovs rfl rfl (fun i _ => ov_mc (g := fun f => (f.set 0 ((m.F (m.nF - 1)).r 0)).set 1 ((m.F (m.nF - 1)).r 1)) rfl rfl fun i hi => by first | rfl | simp [ovAt, hi]) fun _ => rfl⟩, trivial⟩ rfl
end Go.Proofs.Ytehecaipmdfjmaa.X.Mi

set_option linter.unusedVariables false
set_option linter.unusedSimpArgs false
namespace Go.Proofs.Ytehecaipmdfjmaa.X.Mi
open Go Go.RowKit Go.Proofs.YtehecaipmdfjmaaW.PrintWords Go.Proofs.Ytehecaipmdfjmaa.Base Go.Proofs.Ytehecaipmdfjmaa.X
def topF (m : Mc) : Nat := (wr ((m.nF : Int) - 1)).toNat
def Mc.bump (m : Mc) (q : Nat) : Mc := m.upd q fun f => { f with at_ := wr (f.at_ + 1) }
def accessF (x : In) : Bool := bif decide (x.op ≥ 5) then decide (x.op ≤ 7) else false
def jmpF (x : In) : Bool := bif decide (x.op ≥ 8) then decide (x.op ≤ 11) else false
def frmF (x : In) : Bool := bif x.op == 12 then true else x.op == 13
def oneF (m : Mc) (x : In) : Mc × Int :=
  bif accessF x then bif (accF m x (topF m)).2 then ((accF m x (topF m)).1.bump (topF m), 0) else ((accF m x (topF m)).1, 3)
  else bif jmpF x then bif jumpsF (m.F (topF m)) x then (m.upd (topF m) fun f => { f with at_ := x.n }, 0) else (m.bump (topF m), 0)
  else bif frmF x then bif (framesF m x).2 then ((framesF m x).1, 0) else ((framesF m x).1, 3)
  else bif x.op == 22 then (({ m with v := m.reg (topF m) x.a }).bump (topF m), 2)
  else bif x.op == 14 then
    bif hasF m.tb m.i then
      bif mayPF m.tb m.i (m.reg (topF m) x.a) then
        bif waitF m.tb m.i (m.reg (topF m) x.a) then (({ m with tb := parkF m.tb m.i (m.reg (topF m) x.a) }).bump (topF m), 1) else (({ m with tb := parkF m.tb m.i (m.reg (topF m) x.a) }).bump (topF m), -1)
      else (m, 3)
    else (m, 3)
  else bif (plainF m x (topF m)).2 then ((plainF m x (topF m)).1.bump (topF m), 0) else ((plainF m x (topF m)).1, 3)
abbrev accessC (x : In) : CallSpec := mSpec [] 0 [x.av] [] (fun _ => True) (fun _ => bool (accessF x)) fun _ => []
abbrev Mc.H4 (m : Mc) (d : Cd) (cA cF cN : Nat) : Hp := [({ m with cF := cF, cN := cN }).box d 1 2 4 9 10, d.row, ({ m.ar with cap := cA }).box 8, Ent.dead, m.tb.box 5, m.tb.row, Ent.dead, Ent.dead, ({ m.ar with cap := cA }).row, frow true m.nF cF m.F, nrow true m.nN cN m.N]
abbrev oneC (m m' : Mc) (how : Int) (d : Cd) (x : In) (ρ : List Nat) (k : Nat) : CallSpec := mSpec ρ k [bptr 0 7, x.av] (m.H d) (fun c => m'.nF ≤ c 1) (fun _ => ia how) fun c => m'.H4 d (c 0) (c 1) (c 2)
def oneG (m : Mc) (d : Cd) : Ctr := fun f args H => match args with
  | [.agg l] => some (accessC (inOf l))
  | [.agg l, .c (.ptr r)] => some (jumpsC (m.F r.i) m.nF m.cF r.i m.F (inOf l))
  | [.c (.ptr _), .agg l] => some (.ex (Mc × Bool) fun s => framesC m s.1 s.2 d (inOf l) H.length)
  | [.c (.ptr _), .agg l, .c (.ptr r)] => bif Nat.beq f 33 then some (.ex (Mc × Bool) fun s => accC m s.1 s.2 d (inOf l) r.i) else some (.ex (Mc × Bool) fun s => plainC m s.1 s.2 d (inOf l) r.i H.length)
  | [.c (.ptr _), .c (.v (.int _ i)), .c (.v (.int _ y))] => tbG m.tb f args H
  | _ => none
def taccess (x : In) : Tree :=
  Tree.chk (decide (x.1 ≥ (5 : Int)) = true → decide (x.1 ≥ (5 : Int)) = true)
   (Tree.chk (decide (x.1 ≥ (5 : Int)) = true → decide (x.1 ≥ (5 : Int)) = true)
   (Tree.chk (decide (x.1 ≥ (5 : Int)) = true → decide (x.1 ≥ (5 : Int)) = true)
   (Tree.done (XV.a (AV.c (CV.v (Value.bool (bif decide (x.1 ≥ (5 : Int)) then decide (x.1 ≤ (7 : Int)) else false))))) [Ent.dead])))
theorem taccess_eq (x : In) : xfunc tab noCtr noInv Go.Proofs.Try.f25 [x.av] [] [] = taccess x := by kernel_rfl
def tone (m : Mc) (d : Cd) (x : In) : Tree :=
  Tree.chk ((0 : Int) ≤ IntKind.wrap IntKind.i64 ((↑(Mc.nF m) : Int) - (1 : Int)) ∧ IntKind.wrap IntKind.i64 ((↑(Mc.nF m) : Int) - (1 : Int)) < (↑(Mc.nF m) : Int) ∧ Int.toNat (IntKind.wrap IntKind.i64 ((↑(Mc.nF m) : Int) - (1 : Int))) < Mc.nF m ∧ 0 < 1)
   (Tree.callf 25 [AV.agg [iv x.1, iv x.2, iv x.3, iv x.4, iv x.5]] [(Ent.mkBox 68 [CV.sl 1 0 0 5 d.2 d.3, CV.ptr ⟨2, 0, 0, 2, 0, 0, 0, 0⟩, CV.ptr ⟨4, 0, 0, 2, 0, 0, 0, 0⟩, iv m.3, CV.sl 6 0 0 17 (Mc.nF m) (Mc.cF m), CV.sl 7 0 0 2 m.8 m.9, iv m.4]), (Cd.row d), (Ar.box m.1 3), (Ar.row m.1), (Tb.box m.2 5), (Tb.row m.2), (frow true (Mc.nF m) (Mc.cF m) (Mc.F m)), (nrow true m.8 m.9 m.10), (Ent.mkBox 40 [iv x.1, iv x.2, iv x.3, iv x.4, iv x.5])] (accessC x) fun c => Tree.br (accessF x)
   (Tree.some_ (Mc × Bool) fun s => Tree.callf 33 [AV.c (CV.ptr ⟨0, 0, 0, 7, 0, 0, 0, 0⟩), AV.agg [iv x.1, iv x.2, iv x.3, iv x.4, iv x.5], AV.c (CV.ptr ⟨6, 0, Int.toNat (IntKind.wrap IntKind.i64 ((↑(Mc.nF m) : Int) - (1 : Int))), 17, 0, 0, 0, 19⟩)] [(Ent.mkBox 68 [CV.sl 1 0 0 5 d.2 d.3, CV.ptr ⟨2, 0, 0, 2, 0, 0, 0, 0⟩, CV.ptr ⟨4, 0, 0, 2, 0, 0, 0, 0⟩, iv m.3, CV.sl 6 0 0 17 (Mc.nF m) (Mc.cF m), CV.sl 7 0 0 2 m.8 m.9, iv m.4]), (Cd.row d), (Ar.box m.1 3), (Ar.row m.1), (Tb.box m.2 5), (Tb.row m.2), (frow true (Mc.nF m) (Mc.cF m) (Mc.F m)), (nrow true m.8 m.9 m.10), (Ent.mkBox 40 [iv x.1, iv x.2, iv x.3, iv x.4, iv x.5])] (accC m (Prod.fst s) (Prod.snd s) d x (Int.toNat (IntKind.wrap IntKind.i64 ((↑(Mc.nF m) : Int) - (1 : Int))))) fun c => Tree.br (!Prod.snd s)
   (Tree.done (XV.a (AV.c (iv (3 : Int)))) [(Ent.mkBox 68 [CV.sl 1 0 0 5 d.2 d.3, CV.ptr ⟨2, 0, 0, 2, 0, 0, 0, 0⟩, CV.ptr ⟨4, 0, 0, 2, 0, 0, 0, 0⟩, iv (Prod.fst s).3, CV.sl 6 0 0 17 (Mc.nF (Prod.fst s)) (Mc.cF (Prod.fst s)), CV.sl 7 0 0 2 (Prod.fst s).8 (Prod.fst s).9, iv (Prod.fst s).4]), (Cd.row d), (Ent.mkBox 72 [CV.sl 3 0 0 1 (Prod.fst s).1.1 (Prod.fst s).1.2, iv (Prod.fst s).1.4]), (Ent.rw true 2 1 (Prod.fst s).1.1 (Prod.fst s).1.2 fun ii => [iv ((Prod.fst s).1.3 ii)]), (Ent.mkBox 78 [CV.sl 5 0 0 4 (Prod.fst s).2.1 (Prod.fst s).2.2, iv (Prod.fst s).2.4]), (Ent.rw true 59 4 (Prod.fst s).2.1 (Prod.fst s).2.2 fun ii => [CV.v (Value.bool ((Prod.fst s).2.3 ii).1), CV.v (Value.bool ((Prod.fst s).2.3 ii).2), CV.v (Value.bool ((Prod.fst s).2.3 ii).3), iv ((Prod.fst s).2.3 ii).4]), (frow true (Mc.nF (Prod.fst s)) (Mc.cF (Prod.fst s)) (Mc.F (Prod.fst s))), (Ent.rw true 80 2 (Prod.fst s).8 (Prod.fst s).9 fun ii => [iv (Prod.fst ((Prod.fst s).10 ii)), iv (Prod.snd ((Prod.fst s).10 ii))]), (Ent.mkBox 40 [iv x.1, iv x.2, iv x.3, iv x.4, iv x.5])])
   (Tree.chk (0 < 1 ∧ Int.toNat (IntKind.wrap IntKind.i64 ((↑(Mc.nF m) : Int) - (1 : Int))) < Mc.nF (Prod.fst s))
   (Tree.chk (0 < 1 ∧ Int.toNat (IntKind.wrap IntKind.i64 ((↑(Mc.nF m) : Int) - (1 : Int))) < Mc.nF (Prod.fst s))
   (Tree.done (XV.a (AV.c (iv (0 : Int)))) [(Ent.mkBox 68 [CV.sl 1 0 0 5 d.2 d.3, CV.ptr ⟨2, 0, 0, 2, 0, 0, 0, 0⟩, CV.ptr ⟨4, 0, 0, 2, 0, 0, 0, 0⟩, iv (Prod.fst s).3, CV.sl 6 0 0 17 (Mc.nF (Prod.fst s)) (Mc.cF (Prod.fst s)), CV.sl 7 0 0 2 (Prod.fst s).8 (Prod.fst s).9, iv (Prod.fst s).4]), (Cd.row d), (Ent.mkBox 72 [CV.sl 3 0 0 1 (Prod.fst s).1.1 (Prod.fst s).1.2, iv (Prod.fst s).1.4]), (Ent.rw true 2 1 (Prod.fst s).1.1 (Prod.fst s).1.2 fun ii => [iv ((Prod.fst s).1.3 ii)]), (Ent.mkBox 78 [CV.sl 5 0 0 4 (Prod.fst s).2.1 (Prod.fst s).2.2, iv (Prod.fst s).2.4]), (Ent.rw true 59 4 (Prod.fst s).2.1 (Prod.fst s).2.2 fun ii => [CV.v (Value.bool ((Prod.fst s).2.3 ii).1), CV.v (Value.bool ((Prod.fst s).2.3 ii).2), CV.v (Value.bool ((Prod.fst s).2.3 ii).3), iv ((Prod.fst s).2.3 ii).4]), { own := true, box := false, ty := 66, sz := 17, m := 1, n := fun a => Mc.nF (Prod.fst s), cap := fun a => Mc.cF (Prod.fst s), f := fun a a_1 => (Fr.cv (Mc.F (Prod.fst s) a_1)), ov := [(19, 0, Int.toNat (IntKind.wrap IntKind.i64 ((↑(Mc.nF m) : Int) - (1 : Int))), (Fr.cv ⟨IntKind.wrap IntKind.i64 ((Mc.F (Prod.fst s) (Int.toNat (IntKind.wrap IntKind.i64 ((↑(Mc.nF m) : Int) - (1 : Int))))).1 + (1 : Int)), fun k => (Mc.F (Prod.fst s) (Int.toNat (IntKind.wrap IntKind.i64 ((↑(Mc.nF m) : Int) - (1 : Int))))).2 k⟩))] }, (Ent.rw true 80 2 (Prod.fst s).8 (Prod.fst s).9 fun ii => [iv (Prod.fst ((Prod.fst s).10 ii)), iv (Prod.snd ((Prod.fst s).10 ii))]), (Ent.mkBox 40 [iv x.1, iv x.2, iv x.3, iv x.4, iv x.5])]))))
   (Tree.chk (decide (x.1 ≥ (8 : Int)) = true → decide (x.1 ≥ (8 : Int)) = true)
   (Tree.chk (decide (x.1 ≥ (8 : Int)) = true → decide (x.1 ≥ (8 : Int)) = true)
   (Tree.chk (decide (x.1 ≥ (8 : Int)) = true → decide (x.1 ≥ (8 : Int)) = true)
   (Tree.br (bif decide (x.1 ≥ (8 : Int)) then decide (x.1 ≤ (11 : Int)) else false)
   (Tree.callf 34 [AV.agg [iv x.1, iv x.2, iv x.3, iv x.4, iv x.5], AV.c (CV.ptr ⟨6, 0, Int.toNat (IntKind.wrap IntKind.i64 ((↑(Mc.nF m) : Int) - (1 : Int))), 17, 0, 0, 0, 19⟩)] [(Ent.mkBox 68 [CV.sl 1 0 0 5 d.2 d.3, CV.ptr ⟨2, 0, 0, 2, 0, 0, 0, 0⟩, CV.ptr ⟨4, 0, 0, 2, 0, 0, 0, 0⟩, iv m.3, CV.sl 6 0 0 17 (Mc.nF m) (Mc.cF m), CV.sl 7 0 0 2 m.8 m.9, iv m.4]), (Cd.row d), (Ar.box m.1 3), (Ar.row m.1), (Tb.box m.2 5), (Tb.row m.2), (frow true (Mc.nF m) (Mc.cF m) (Mc.F m)), (nrow true m.8 m.9 m.10), (Ent.mkBox 40 [iv x.1, iv x.2, iv x.3, iv x.4, iv x.5])] (jumpsC (Mc.F m (Int.toNat (IntKind.wrap IntKind.i64 ((↑(Mc.nF m) : Int) - (1 : Int))))) (Mc.nF m) (Mc.cF m) (Int.toNat (IntKind.wrap IntKind.i64 ((↑(Mc.nF m) : Int) - (1 : Int)))) (fun a => Mc.F m a) x) fun c => Tree.br (jumpsF (Mc.F m (Int.toNat (IntKind.wrap IntKind.i64 ((↑(Mc.nF m) : Int) - (1 : Int))))) x)
   (Tree.chk (0 < 1 ∧ Int.toNat (IntKind.wrap IntKind.i64 ((↑(Mc.nF m) : Int) - (1 : Int))) < Mc.nF m)
   (Tree.done (XV.a (AV.c (iv (0 : Int)))) [(Ent.mkBox 68 [CV.sl 1 0 0 5 d.2 d.3, CV.ptr ⟨2, 0, 0, 2, 0, 0, 0, 0⟩, CV.ptr ⟨4, 0, 0, 2, 0, 0, 0, 0⟩, iv m.3, CV.sl 6 0 0 17 (Mc.nF m) (Mc.cF m), CV.sl 7 0 0 2 m.8 m.9, iv m.4]), (Cd.row d), (Ar.box m.1 3), (Ar.row m.1), (Tb.box m.2 5), (Tb.row m.2), { own := true, box := false, ty := 66, sz := 17, m := 1, n := fun a => Mc.nF m, cap := fun a => Mc.cF m, f := fun a a_1 => (Fr.cv (Mc.F m a_1)), ov := [(19, 0, Int.toNat (IntKind.wrap IntKind.i64 ((↑(Mc.nF m) : Int) - (1 : Int))), (Fr.cv ⟨x.5, fun k => (Mc.F m (Int.toNat (IntKind.wrap IntKind.i64 ((↑(Mc.nF m) : Int) - (1 : Int))))).2 k⟩))] }, (nrow true m.8 m.9 m.10), (Ent.mkBox 40 [iv x.1, iv x.2, iv x.3, iv x.4, iv x.5])]))
   (Tree.br false
   (Tree.done (XV.a (AV.c (iv (3 : Int)))) [(Ent.mkBox 68 [CV.sl 1 0 0 5 d.2 d.3, CV.ptr ⟨2, 0, 0, 2, 0, 0, 0, 0⟩, CV.ptr ⟨4, 0, 0, 2, 0, 0, 0, 0⟩, iv m.3, CV.sl 6 0 0 17 (Mc.nF m) (Mc.cF m), CV.sl 7 0 0 2 m.8 m.9, iv m.4]), (Cd.row d), (Ar.box m.1 3), (Ar.row m.1), (Tb.box m.2 5), (Tb.row m.2), (frow true (Mc.nF m) (Mc.cF m) (Mc.F m)), (nrow true m.8 m.9 m.10), (Ent.mkBox 40 [iv x.1, iv x.2, iv x.3, iv x.4, iv x.5])])
   (Tree.chk (0 < 1 ∧ Int.toNat (IntKind.wrap IntKind.i64 ((↑(Mc.nF m) : Int) - (1 : Int))) < Mc.nF m)
   (Tree.chk (0 < 1 ∧ Int.toNat (IntKind.wrap IntKind.i64 ((↑(Mc.nF m) : Int) - (1 : Int))) < Mc.nF m)
   (Tree.done (XV.a (AV.c (iv (0 : Int)))) [(Ent.mkBox 68 [CV.sl 1 0 0 5 d.2 d.3, CV.ptr ⟨2, 0, 0, 2, 0, 0, 0, 0⟩, CV.ptr ⟨4, 0, 0, 2, 0, 0, 0, 0⟩, iv m.3, CV.sl 6 0 0 17 (Mc.nF m) (Mc.cF m), CV.sl 7 0 0 2 m.8 m.9, iv m.4]), (Cd.row d), (Ar.box m.1 3), (Ar.row m.1), (Tb.box m.2 5), (Tb.row m.2), { own := true, box := false, ty := 66, sz := 17, m := 1, n := fun a => Mc.nF m, cap := fun a => Mc.cF m, f := fun a a_1 => (Fr.cv (Mc.F m a_1)), ov := [(19, 0, Int.toNat (IntKind.wrap IntKind.i64 ((↑(Mc.nF m) : Int) - (1 : Int))), (Fr.cv ⟨IntKind.wrap IntKind.i64 ((Mc.F m (Int.toNat (IntKind.wrap IntKind.i64 ((↑(Mc.nF m) : Int) - (1 : Int))))).1 + (1 : Int)), fun k => (Mc.F m (Int.toNat (IntKind.wrap IntKind.i64 ((↑(Mc.nF m) : Int) - (1 : Int))))).2 k⟩))] }, (nrow true m.8 m.9 m.10), (Ent.mkBox 40 [iv x.1, iv x.2, iv x.3, iv x.4, iv x.5])])))))
   (Tree.chk ((!x.1 == (12 : Int)) = true → (!x.1 == (12 : Int)) = true)
   (Tree.chk ((!x.1 == (12 : Int)) = true → (!x.1 == (12 : Int)) = true)
   (Tree.chk ((x.1 == (12 : Int)) = false → (!x.1 == (12 : Int)) = true)
   (Tree.br (bif x.1 == (12 : Int) then true else x.1 == (13 : Int))
   (Tree.some_ (Mc × Bool) fun s => Tree.callf 35 [AV.c (CV.ptr ⟨0, 0, 0, 7, 0, 0, 0, 0⟩), AV.agg [iv x.1, iv x.2, iv x.3, iv x.4, iv x.5]] [(Ent.mkBox 68 [CV.sl 1 0 0 5 d.2 d.3, CV.ptr ⟨2, 0, 0, 2, 0, 0, 0, 0⟩, CV.ptr ⟨4, 0, 0, 2, 0, 0, 0, 0⟩, iv m.3, CV.sl 6 0 0 17 (Mc.nF m) (Mc.cF m), CV.sl 7 0 0 2 m.8 m.9, iv m.4]), (Cd.row d), (Ar.box m.1 3), (Ar.row m.1), (Tb.box m.2 5), (Tb.row m.2), (frow true (Mc.nF m) (Mc.cF m) (Mc.F m)), (nrow true m.8 m.9 m.10), (Ent.mkBox 40 [iv x.1, iv x.2, iv x.3, iv x.4, iv x.5])] (framesC m (Prod.fst s) (Prod.snd s) d x 9) fun c => Tree.br (Prod.snd s)
   (Tree.done (XV.a (AV.c (iv (0 : Int)))) [(Ent.mkBox 68 [CV.sl 1 0 0 5 d.2 d.3, CV.ptr ⟨2, 0, 0, 2, 0, 0, 0, 0⟩, CV.ptr ⟨4, 0, 0, 2, 0, 0, 0, 0⟩, iv (Prod.fst s).3, CV.sl 9 0 0 17 (Mc.nF (Prod.fst s)) (c 0), CV.sl 7 0 0 2 (Prod.fst s).8 (Prod.fst s).9, iv (Prod.fst s).4]), (Cd.row d), (Ent.mkBox 72 [CV.sl 3 0 0 1 (Prod.fst s).1.1 (Prod.fst s).1.2, iv (Prod.fst s).1.4]), (Ent.rw true 2 1 (Prod.fst s).1.1 (Prod.fst s).1.2 fun ii => [iv ((Prod.fst s).1.3 ii)]), (Ent.mkBox 78 [CV.sl 5 0 0 4 (Prod.fst s).2.1 (Prod.fst s).2.2, iv (Prod.fst s).2.4]), (Ent.rw true 59 4 (Prod.fst s).2.1 (Prod.fst s).2.2 fun ii => [CV.v (Value.bool ((Prod.fst s).2.3 ii).1), CV.v (Value.bool ((Prod.fst s).2.3 ii).2), CV.v (Value.bool ((Prod.fst s).2.3 ii).3), iv ((Prod.fst s).2.3 ii).4]), Ent.dead, (Ent.rw true 80 2 (Prod.fst s).8 (Prod.fst s).9 fun ii => [iv (Prod.fst ((Prod.fst s).10 ii)), iv (Prod.snd ((Prod.fst s).10 ii))]), (Ent.mkBox 40 [iv x.1, iv x.2, iv x.3, iv x.4, iv x.5]), (frow true (Mc.nF (Prod.fst s)) (c 0) (Mc.F (Prod.fst s)))])
   (Tree.br true
   (Tree.done (XV.a (AV.c (iv (3 : Int)))) [(Ent.mkBox 68 [CV.sl 1 0 0 5 d.2 d.3, CV.ptr ⟨2, 0, 0, 2, 0, 0, 0, 0⟩, CV.ptr ⟨4, 0, 0, 2, 0, 0, 0, 0⟩, iv (Prod.fst s).3, CV.sl 9 0 0 17 (Mc.nF (Prod.fst s)) (c 0), CV.sl 7 0 0 2 (Prod.fst s).8 (Prod.fst s).9, iv (Prod.fst s).4]), (Cd.row d), (Ent.mkBox 72 [CV.sl 3 0 0 1 (Prod.fst s).1.1 (Prod.fst s).1.2, iv (Prod.fst s).1.4]), (Ent.rw true 2 1 (Prod.fst s).1.1 (Prod.fst s).1.2 fun ii => [iv ((Prod.fst s).1.3 ii)]), (Ent.mkBox 78 [CV.sl 5 0 0 4 (Prod.fst s).2.1 (Prod.fst s).2.2, iv (Prod.fst s).2.4]), (Ent.rw true 59 4 (Prod.fst s).2.1 (Prod.fst s).2.2 fun ii => [CV.v (Value.bool ((Prod.fst s).2.3 ii).1), CV.v (Value.bool ((Prod.fst s).2.3 ii).2), CV.v (Value.bool ((Prod.fst s).2.3 ii).3), iv ((Prod.fst s).2.3 ii).4]), Ent.dead, (Ent.rw true 80 2 (Prod.fst s).8 (Prod.fst s).9 fun ii => [iv (Prod.fst ((Prod.fst s).10 ii)), iv (Prod.snd ((Prod.fst s).10 ii))]), (Ent.mkBox 40 [iv x.1, iv x.2, iv x.3, iv x.4, iv x.5]), (frow true (Mc.nF (Prod.fst s)) (c 0) (Mc.F (Prod.fst s)))])
   (Tree.fail 10)))
   (Tree.br (x.1 == (22 : Int))
   (Tree.chk (0 < 1 ∧ Int.toNat (IntKind.wrap IntKind.i64 ((↑(Mc.nF m) : Int) - (1 : Int))) < Mc.nF m)
   (Tree.chk (0 < 1 ∧ Int.toNat (IntKind.wrap IntKind.i64 ((↑(Mc.nF m) : Int) - (1 : Int))) < Mc.nF m)
   (Tree.chk ((0 : Int) ≤ x.2 ∧ x.2 < (↑16 : Int))
   (Tree.chk (0 < 1 ∧ Int.toNat (IntKind.wrap IntKind.i64 ((↑(Mc.nF m) : Int) - (1 : Int))) < Mc.nF m)
   (Tree.chk (0 = 0 ∧ Int.toNat (IntKind.wrap IntKind.i64 ((↑(Mc.nF m) : Int) - (1 : Int))) = Int.toNat (IntKind.wrap IntKind.i64 ((↑(Mc.nF m) : Int) - (1 : Int))))
   (Tree.chk (Int.toNat x.2 < 16)
   (Tree.done (XV.a (AV.c (iv (2 : Int)))) [(Ent.mkBox 68 [CV.sl 1 0 0 5 d.2 d.3, CV.ptr ⟨2, 0, 0, 2, 0, 0, 0, 0⟩, CV.ptr ⟨4, 0, 0, 2, 0, 0, 0, 0⟩, iv m.3, CV.sl 6 0 0 17 (Mc.nF m) (Mc.cF m), CV.sl 7 0 0 2 m.8 m.9, iv (List.getD (rl fun k => (Mc.F m (Int.toNat (IntKind.wrap IntKind.i64 ((↑(Mc.nF m) : Int) - (1 : Int))))).2 k) (Int.toNat x.2) (0 : Int))]), (Cd.row d), (Ar.box m.1 3), (Ar.row m.1), (Tb.box m.2 5), (Tb.row m.2), { own := true, box := false, ty := 66, sz := 17, m := 1, n := fun a => Mc.nF m, cap := fun a => Mc.cF m, f := fun a a_1 => (Fr.cv (Mc.F m a_1)), ov := [(19, 0, Int.toNat (IntKind.wrap IntKind.i64 ((↑(Mc.nF m) : Int) - (1 : Int))), (Fr.cv ⟨IntKind.wrap IntKind.i64 ((Mc.F m (Int.toNat (IntKind.wrap IntKind.i64 ((↑(Mc.nF m) : Int) - (1 : Int))))).1 + (1 : Int)), fun k => (Mc.F m (Int.toNat (IntKind.wrap IntKind.i64 ((↑(Mc.nF m) : Int) - (1 : Int))))).2 k⟩))] }, (nrow true m.8 m.9 m.10), (Ent.mkBox 40 [iv x.1, iv x.2, iv x.3, iv x.4, iv x.5])])))))))
   (Tree.br (x.1 == (14 : Int))
   (Tree.chk ((0 : Int) ≤ x.2 ∧ x.2 < (↑16 : Int))
   (Tree.chk (0 < 1 ∧ Int.toNat (IntKind.wrap IntKind.i64 ((↑(Mc.nF m) : Int) - (1 : Int))) < Mc.nF m)
   (Tree.chk (Int.toNat x.2 < 16)
   (Tree.br (hasF m.2 m.3)
   (Tree.br (mayPF m.2 m.3 (List.getD (rl fun k => (Mc.F m (Int.toNat (IntKind.wrap IntKind.i64 ((↑(Mc.nF m) : Int) - (1 : Int))))).2 k) (Int.toNat x.2) (0 : Int)))
   (Tree.callf 36 [AV.c (CV.ptr ⟨4, 0, 0, 2, 0, 0, 0, 0⟩), AV.c (iv m.3), AV.c (iv (List.getD (rl fun k => (Mc.F m (Int.toNat (IntKind.wrap IntKind.i64 ((↑(Mc.nF m) : Int) - (1 : Int))))).2 k) (Int.toNat x.2) (0 : Int)))] [(Ent.mkBox 68 [CV.sl 1 0 0 5 d.2 d.3, CV.ptr ⟨2, 0, 0, 2, 0, 0, 0, 0⟩, CV.ptr ⟨4, 0, 0, 2, 0, 0, 0, 0⟩, iv m.3, CV.sl 6 0 0 17 (Mc.nF m) (Mc.cF m), CV.sl 7 0 0 2 m.8 m.9, iv m.4]), (Cd.row d), (Ar.box m.1 3), (Ar.row m.1), (Tb.box m.2 5), (Tb.row m.2), (frow true (Mc.nF m) (Mc.cF m) (Mc.F m)), (nrow true m.8 m.9 m.10), (Ent.mkBox 40 [iv x.1, iv x.2, iv x.3, iv x.4, iv x.5])] (tbC m.2 (parkF m.2 m.3 (List.getD (rl fun k => (Mc.F m (Int.toNat (IntKind.wrap IntKind.i64 ((↑(Mc.nF m) : Int) - (1 : Int))))).2 k) (Int.toNat x.2) (0 : Int))) [AV.c (iv m.3), AV.c (iv (List.getD (rl fun k => (Mc.F m (Int.toNat (IntKind.wrap IntKind.i64 ((↑(Mc.nF m) : Int) - (1 : Int))))).2 k) (Int.toNat x.2) (0 : Int)))] (XV.tup [AV.c (CV.v (Value.bool (waitF m.2 m.3 (List.getD (rl fun k => (Mc.F m (Int.toNat (IntKind.wrap IntKind.i64 ((↑(Mc.nF m) : Int) - (1 : Int))))).2 k) (Int.toNat x.2) (0 : Int))))), AV.c (CV.v Value.nilIface)]) [4, 5]) fun c => Tree.br true
   (Tree.chk (0 < 1 ∧ Int.toNat (IntKind.wrap IntKind.i64 ((↑(Mc.nF m) : Int) - (1 : Int))) < Mc.nF m)
   (Tree.chk (0 < 1 ∧ Int.toNat (IntKind.wrap IntKind.i64 ((↑(Mc.nF m) : Int) - (1 : Int))) < Mc.nF m)
   (Tree.br (waitF m.2 m.3 (List.getD (rl fun k => (Mc.F m (Int.toNat (IntKind.wrap IntKind.i64 ((↑(Mc.nF m) : Int) - (1 : Int))))).2 k) (Int.toNat x.2) (0 : Int)))
   (Tree.done (XV.a (AV.c (iv (1 : Int)))) [(Ent.mkBox 68 [CV.sl 1 0 0 5 d.2 d.3, CV.ptr ⟨2, 0, 0, 2, 0, 0, 0, 0⟩, CV.ptr ⟨4, 0, 0, 2, 0, 0, 0, 0⟩, iv m.3, CV.sl 6 0 0 17 (Mc.nF m) (Mc.cF m), CV.sl 7 0 0 2 m.8 m.9, iv m.4]), (Cd.row d), (Ar.box m.1 3), (Ar.row m.1), (Ent.mkBox 78 [CV.sl 5 0 0 4 (parkF m.2 m.3 (List.getD (rl fun k => (Mc.F m (Int.toNat (IntKind.wrap IntKind.i64 ((↑(Mc.nF m) : Int) - (1 : Int))))).2 k) (Int.toNat x.2) (0 : Int))).1 (parkF m.2 m.3 (List.getD (rl fun k => (Mc.F m (Int.toNat (IntKind.wrap IntKind.i64 ((↑(Mc.nF m) : Int) - (1 : Int))))).2 k) (Int.toNat x.2) (0 : Int))).2, iv (parkF m.2 m.3 (List.getD (rl fun k => (Mc.F m (Int.toNat (IntKind.wrap IntKind.i64 ((↑(Mc.nF m) : Int) - (1 : Int))))).2 k) (Int.toNat x.2) (0 : Int))).4]), (Ent.rw true 59 4 (parkF m.2 m.3 (List.getD (rl fun k => (Mc.F m (Int.toNat (IntKind.wrap IntKind.i64 ((↑(Mc.nF m) : Int) - (1 : Int))))).2 k) (Int.toNat x.2) (0 : Int))).1 (parkF m.2 m.3 (List.getD (rl fun k => (Mc.F m (Int.toNat (IntKind.wrap IntKind.i64 ((↑(Mc.nF m) : Int) - (1 : Int))))).2 k) (Int.toNat x.2) (0 : Int))).2 fun ii => [CV.v (Value.bool ((parkF m.2 m.3 (List.getD (rl fun k => (Mc.F m (Int.toNat (IntKind.wrap IntKind.i64 ((↑(Mc.nF m) : Int) - (1 : Int))))).2 k) (Int.toNat x.2) (0 : Int))).3 ii).1), CV.v (Value.bool ((parkF m.2 m.3 (List.getD (rl fun k => (Mc.F m (Int.toNat (IntKind.wrap IntKind.i64 ((↑(Mc.nF m) : Int) - (1 : Int))))).2 k) (Int.toNat x.2) (0 : Int))).3 ii).2), CV.v (Value.bool ((parkF m.2 m.3 (List.getD (rl fun k => (Mc.F m (Int.toNat (IntKind.wrap IntKind.i64 ((↑(Mc.nF m) : Int) - (1 : Int))))).2 k) (Int.toNat x.2) (0 : Int))).3 ii).3), iv ((parkF m.2 m.3 (List.getD (rl fun k => (Mc.F m (Int.toNat (IntKind.wrap IntKind.i64 ((↑(Mc.nF m) : Int) - (1 : Int))))).2 k) (Int.toNat x.2) (0 : Int))).3 ii).4]), { own := true, box := false, ty := 66, sz := 17, m := 1, n := fun a => Mc.nF m, cap := fun a => Mc.cF m, f := fun a a_1 => (Fr.cv (Mc.F m a_1)), ov := [(19, 0, Int.toNat (IntKind.wrap IntKind.i64 ((↑(Mc.nF m) : Int) - (1 : Int))), (Fr.cv ⟨IntKind.wrap IntKind.i64 ((Mc.F m (Int.toNat (IntKind.wrap IntKind.i64 ((↑(Mc.nF m) : Int) - (1 : Int))))).1 + (1 : Int)), fun k => (Mc.F m (Int.toNat (IntKind.wrap IntKind.i64 ((↑(Mc.nF m) : Int) - (1 : Int))))).2 k⟩))] }, (nrow true m.8 m.9 m.10), (Ent.mkBox 40 [iv x.1, iv x.2, iv x.3, iv x.4, iv x.5])])
   (Tree.done (XV.a (AV.c (iv (-1 : Int)))) [(Ent.mkBox 68 [CV.sl 1 0 0 5 d.2 d.3, CV.ptr ⟨2, 0, 0, 2, 0, 0, 0, 0⟩, CV.ptr ⟨4, 0, 0, 2, 0, 0, 0, 0⟩, iv m.3, CV.sl 6 0 0 17 (Mc.nF m) (Mc.cF m), CV.sl 7 0 0 2 m.8 m.9, iv m.4]), (Cd.row d), (Ar.box m.1 3), (Ar.row m.1), (Ent.mkBox 78 [CV.sl 5 0 0 4 (parkF m.2 m.3 (List.getD (rl fun k => (Mc.F m (Int.toNat (IntKind.wrap IntKind.i64 ((↑(Mc.nF m) : Int) - (1 : Int))))).2 k) (Int.toNat x.2) (0 : Int))).1 (parkF m.2 m.3 (List.getD (rl fun k => (Mc.F m (Int.toNat (IntKind.wrap IntKind.i64 ((↑(Mc.nF m) : Int) - (1 : Int))))).2 k) (Int.toNat x.2) (0 : Int))).2, iv (parkF m.2 m.3 (List.getD (rl fun k => (Mc.F m (Int.toNat (IntKind.wrap IntKind.i64 ((↑(Mc.nF m) : Int) - (1 : Int))))).2 k) (Int.toNat x.2) (0 : Int))).4]), (Ent.rw true 59 4 (parkF m.2 m.3 (List.getD (rl fun k => (Mc.F m (Int.toNat (IntKind.wrap IntKind.i64 ((↑(Mc.nF m) : Int) - (1 : Int))))).2 k) (Int.toNat x.2) (0 : Int))).1 (parkF m.2 m.3 (List.getD (rl fun k => (Mc.F m (Int.toNat (IntKind.wrap IntKind.i64 ((↑(Mc.nF m) : Int) - (1 : Int))))).2 k) (Int.toNat x.2) (0 : Int))).2 fun ii => [CV.v (Value.bool ((parkF m.2 m.3 (List.getD (rl fun k => (Mc.F m (Int.toNat (IntKind.wrap IntKind.i64 ((↑(Mc.nF m) : Int) - (1 : Int))))).2 k) (Int.toNat x.2) (0 : Int))).3 ii).1), CV.v (Value.bool ((parkF m.2 m.3 (List.getD (rl fun k => (Mc.F m (Int.toNat (IntKind.wrap IntKind.i64 ((↑(Mc.nF m) : Int) - (1 : Int))))).2 k) (Int.toNat x.2) (0 : Int))).3 ii).2), CV.v (Value.bool ((parkF m.2 m.3 (List.getD (rl fun k => (Mc.F m (Int.toNat (IntKind.wrap IntKind.i64 ((↑(Mc.nF m) : Int) - (1 : Int))))).2 k) (Int.toNat x.2) (0 : Int))).3 ii).3), iv ((parkF m.2 m.3 (List.getD (rl fun k => (Mc.F m (Int.toNat (IntKind.wrap IntKind.i64 ((↑(Mc.nF m) : Int) - (1 : Int))))).2 k) (Int.toNat x.2) (0 : Int))).3 ii).4]), { own := true, box := false, ty := 66, sz := 17, m := 1, n := fun a => Mc.nF m, cap := fun a => Mc.cF m, f := fun a a_1 => (Fr.cv (Mc.F m a_1)), ov := [(19, 0, Int.toNat (IntKind.wrap IntKind.i64 ((↑(Mc.nF m) : Int) - (1 : Int))), (Fr.cv ⟨IntKind.wrap IntKind.i64 ((Mc.F m (Int.toNat (IntKind.wrap IntKind.i64 ((↑(Mc.nF m) : Int) - (1 : Int))))).1 + (1 : Int)), fun k => (Mc.F m (Int.toNat (IntKind.wrap IntKind.i64 ((↑(Mc.nF m) : Int) - (1 : Int))))).2 k⟩))] }, (nrow true m.8 m.9 m.10), (Ent.mkBox 40 [iv x.1, iv x.2, iv x.3, iv x.4, iv x.5])]))))
   (Tree.br true
   (Tree.done (XV.a (AV.c (iv (3 : Int)))) [(Ent.mkBox 68 [CV.sl 1 0 0 5 d.2 d.3, CV.ptr ⟨2, 0, 0, 2, 0, 0, 0, 0⟩, CV.ptr ⟨4, 0, 0, 2, 0, 0, 0, 0⟩, iv m.3, CV.sl 6 0 0 17 (Mc.nF m) (Mc.cF m), CV.sl 7 0 0 2 m.8 m.9, iv m.4]), (Cd.row d), (Ar.box m.1 3), (Ar.row m.1), (Ent.mkBox 78 [CV.sl 5 0 0 4 (parkF m.2 m.3 (List.getD (rl fun k => (Mc.F m (Int.toNat (IntKind.wrap IntKind.i64 ((↑(Mc.nF m) : Int) - (1 : Int))))).2 k) (Int.toNat x.2) (0 : Int))).1 (parkF m.2 m.3 (List.getD (rl fun k => (Mc.F m (Int.toNat (IntKind.wrap IntKind.i64 ((↑(Mc.nF m) : Int) - (1 : Int))))).2 k) (Int.toNat x.2) (0 : Int))).2, iv (parkF m.2 m.3 (List.getD (rl fun k => (Mc.F m (Int.toNat (IntKind.wrap IntKind.i64 ((↑(Mc.nF m) : Int) - (1 : Int))))).2 k) (Int.toNat x.2) (0 : Int))).4]), (Ent.rw true 59 4 (parkF m.2 m.3 (List.getD (rl fun k => (Mc.F m (Int.toNat (IntKind.wrap IntKind.i64 ((↑(Mc.nF m) : Int) - (1 : Int))))).2 k) (Int.toNat x.2) (0 : Int))).1 (parkF m.2 m.3 (List.getD (rl fun k => (Mc.F m (Int.toNat (IntKind.wrap IntKind.i64 ((↑(Mc.nF m) : Int) - (1 : Int))))).2 k) (Int.toNat x.2) (0 : Int))).2 fun ii => [CV.v (Value.bool ((parkF m.2 m.3 (List.getD (rl fun k => (Mc.F m (Int.toNat (IntKind.wrap IntKind.i64 ((↑(Mc.nF m) : Int) - (1 : Int))))).2 k) (Int.toNat x.2) (0 : Int))).3 ii).1), CV.v (Value.bool ((parkF m.2 m.3 (List.getD (rl fun k => (Mc.F m (Int.toNat (IntKind.wrap IntKind.i64 ((↑(Mc.nF m) : Int) - (1 : Int))))).2 k) (Int.toNat x.2) (0 : Int))).3 ii).2), CV.v (Value.bool ((parkF m.2 m.3 (List.getD (rl fun k => (Mc.F m (Int.toNat (IntKind.wrap IntKind.i64 ((↑(Mc.nF m) : Int) - (1 : Int))))).2 k) (Int.toNat x.2) (0 : Int))).3 ii).3), iv ((parkF m.2 m.3 (List.getD (rl fun k => (Mc.F m (Int.toNat (IntKind.wrap IntKind.i64 ((↑(Mc.nF m) : Int) - (1 : Int))))).2 k) (Int.toNat x.2) (0 : Int))).3 ii).4]), (frow true (Mc.nF m) (Mc.cF m) (Mc.F m)), (nrow true m.8 m.9 m.10), (Ent.mkBox 40 [iv x.1, iv x.2, iv x.3, iv x.4, iv x.5])])
   (Tree.chk (0 < 1 ∧ Int.toNat (IntKind.wrap IntKind.i64 ((↑(Mc.nF m) : Int) - (1 : Int))) < Mc.nF m)
   (Tree.chk (0 < 1 ∧ Int.toNat (IntKind.wrap IntKind.i64 ((↑(Mc.nF m) : Int) - (1 : Int))) < Mc.nF m)
   (Tree.done (XV.a (AV.c (iv (0 : Int)))) [(Ent.mkBox 68 [CV.sl 1 0 0 5 d.2 d.3, CV.ptr ⟨2, 0, 0, 2, 0, 0, 0, 0⟩, CV.ptr ⟨4, 0, 0, 2, 0, 0, 0, 0⟩, iv m.3, CV.sl 6 0 0 17 (Mc.nF m) (Mc.cF m), CV.sl 7 0 0 2 m.8 m.9, iv m.4]), (Cd.row d), (Ar.box m.1 3), (Ar.row m.1), (Ent.mkBox 78 [CV.sl 5 0 0 4 (parkF m.2 m.3 (List.getD (rl fun k => (Mc.F m (Int.toNat (IntKind.wrap IntKind.i64 ((↑(Mc.nF m) : Int) - (1 : Int))))).2 k) (Int.toNat x.2) (0 : Int))).1 (parkF m.2 m.3 (List.getD (rl fun k => (Mc.F m (Int.toNat (IntKind.wrap IntKind.i64 ((↑(Mc.nF m) : Int) - (1 : Int))))).2 k) (Int.toNat x.2) (0 : Int))).2, iv (parkF m.2 m.3 (List.getD (rl fun k => (Mc.F m (Int.toNat (IntKind.wrap IntKind.i64 ((↑(Mc.nF m) : Int) - (1 : Int))))).2 k) (Int.toNat x.2) (0 : Int))).4]), (Ent.rw true 59 4 (parkF m.2 m.3 (List.getD (rl fun k => (Mc.F m (Int.toNat (IntKind.wrap IntKind.i64 ((↑(Mc.nF m) : Int) - (1 : Int))))).2 k) (Int.toNat x.2) (0 : Int))).1 (parkF m.2 m.3 (List.getD (rl fun k => (Mc.F m (Int.toNat (IntKind.wrap IntKind.i64 ((↑(Mc.nF m) : Int) - (1 : Int))))).2 k) (Int.toNat x.2) (0 : Int))).2 fun ii => [CV.v (Value.bool ((parkF m.2 m.3 (List.getD (rl fun k => (Mc.F m (Int.toNat (IntKind.wrap IntKind.i64 ((↑(Mc.nF m) : Int) - (1 : Int))))).2 k) (Int.toNat x.2) (0 : Int))).3 ii).1), CV.v (Value.bool ((parkF m.2 m.3 (List.getD (rl fun k => (Mc.F m (Int.toNat (IntKind.wrap IntKind.i64 ((↑(Mc.nF m) : Int) - (1 : Int))))).2 k) (Int.toNat x.2) (0 : Int))).3 ii).2), CV.v (Value.bool ((parkF m.2 m.3 (List.getD (rl fun k => (Mc.F m (Int.toNat (IntKind.wrap IntKind.i64 ((↑(Mc.nF m) : Int) - (1 : Int))))).2 k) (Int.toNat x.2) (0 : Int))).3 ii).3), iv ((parkF m.2 m.3 (List.getD (rl fun k => (Mc.F m (Int.toNat (IntKind.wrap IntKind.i64 ((↑(Mc.nF m) : Int) - (1 : Int))))).2 k) (Int.toNat x.2) (0 : Int))).3 ii).4]), { own := true, box := false, ty := 66, sz := 17, m := 1, n := fun a => Mc.nF m, cap := fun a => Mc.cF m, f := fun a a_1 => (Fr.cv (Mc.F m a_1)), ov := [(19, 0, Int.toNat (IntKind.wrap IntKind.i64 ((↑(Mc.nF m) : Int) - (1 : Int))), (Fr.cv ⟨IntKind.wrap IntKind.i64 ((Mc.F m (Int.toNat (IntKind.wrap IntKind.i64 ((↑(Mc.nF m) : Int) - (1 : Int))))).1 + (1 : Int)), fun k => (Mc.F m (Int.toNat (IntKind.wrap IntKind.i64 ((↑(Mc.nF m) : Int) - (1 : Int))))).2 k⟩))] }, (nrow true m.8 m.9 m.10), (Ent.mkBox 40 [iv x.1, iv x.2, iv x.3, iv x.4, iv x.5])])))))
   (Tree.callf 36 [AV.c (CV.ptr ⟨4, 0, 0, 2, 0, 0, 0, 0⟩), AV.c (iv m.3), AV.c (iv (List.getD (rl fun k => (Mc.F m (Int.toNat (IntKind.wrap IntKind.i64 ((↑(Mc.nF m) : Int) - (1 : Int))))).2 k) (Int.toNat x.2) (0 : Int)))] [(Ent.mkBox 68 [CV.sl 1 0 0 5 d.2 d.3, CV.ptr ⟨2, 0, 0, 2, 0, 0, 0, 0⟩, CV.ptr ⟨4, 0, 0, 2, 0, 0, 0, 0⟩, iv m.3, CV.sl 6 0 0 17 (Mc.nF m) (Mc.cF m), CV.sl 7 0 0 2 m.8 m.9, iv m.4]), (Cd.row d), (Ar.box m.1 3), (Ar.row m.1), (Tb.box m.2 5), (Tb.row m.2), (frow true (Mc.nF m) (Mc.cF m) (Mc.F m)), (nrow true m.8 m.9 m.10), (Ent.mkBox 40 [iv x.1, iv x.2, iv x.3, iv x.4, iv x.5])] (tbC m.2 m.2 [AV.c (iv m.3), AV.c (iv (List.getD (rl fun k => (Mc.F m (Int.toNat (IntKind.wrap IntKind.i64 ((↑(Mc.nF m) : Int) - (1 : Int))))).2 k) (Int.toNat x.2) (0 : Int)))] (XV.tup [AV.c (CV.v (Value.bool false)), AV.c (CV.v (Value.iface 36 (Value.int IntKind.i64 (1 : Int))))]) [4, 5]) fun c => Tree.br false
   (Tree.chk (0 < 1 ∧ Int.toNat (IntKind.wrap IntKind.i64 ((↑(Mc.nF m) : Int) - (1 : Int))) < Mc.nF m)
   (Tree.chk (0 < 1 ∧ Int.toNat (IntKind.wrap IntKind.i64 ((↑(Mc.nF m) : Int) - (1 : Int))) < Mc.nF m)
   (Tree.br false
   (Tree.done (XV.a (AV.c (iv (1 : Int)))) [(Ent.mkBox 68 [CV.sl 1 0 0 5 d.2 d.3, CV.ptr ⟨2, 0, 0, 2, 0, 0, 0, 0⟩, CV.ptr ⟨4, 0, 0, 2, 0, 0, 0, 0⟩, iv m.3, CV.sl 6 0 0 17 (Mc.nF m) (Mc.cF m), CV.sl 7 0 0 2 m.8 m.9, iv m.4]), (Cd.row d), (Ar.box m.1 3), (Ar.row m.1), (Tb.box m.2 5), (Tb.row m.2), { own := true, box := false, ty := 66, sz := 17, m := 1, n := fun a => Mc.nF m, cap := fun a => Mc.cF m, f := fun a a_1 => (Fr.cv (Mc.F m a_1)), ov := [(19, 0, Int.toNat (IntKind.wrap IntKind.i64 ((↑(Mc.nF m) : Int) - (1 : Int))), (Fr.cv ⟨IntKind.wrap IntKind.i64 ((Mc.F m (Int.toNat (IntKind.wrap IntKind.i64 ((↑(Mc.nF m) : Int) - (1 : Int))))).1 + (1 : Int)), fun k => (Mc.F m (Int.toNat (IntKind.wrap IntKind.i64 ((↑(Mc.nF m) : Int) - (1 : Int))))).2 k⟩))] }, (nrow true m.8 m.9 m.10), (Ent.mkBox 40 [iv x.1, iv x.2, iv x.3, iv x.4, iv x.5])])
   (Tree.done (XV.a (AV.c (iv (-1 : Int)))) [(Ent.mkBox 68 [CV.sl 1 0 0 5 d.2 d.3, CV.ptr ⟨2, 0, 0, 2, 0, 0, 0, 0⟩, CV.ptr ⟨4, 0, 0, 2, 0, 0, 0, 0⟩, iv m.3, CV.sl 6 0 0 17 (Mc.nF m) (Mc.cF m), CV.sl 7 0 0 2 m.8 m.9, iv m.4]), (Cd.row d), (Ar.box m.1 3), (Ar.row m.1), (Tb.box m.2 5), (Tb.row m.2), { own := true, box := false, ty := 66, sz := 17, m := 1, n := fun a => Mc.nF m, cap := fun a => Mc.cF m, f := fun a a_1 => (Fr.cv (Mc.F m a_1)), ov := [(19, 0, Int.toNat (IntKind.wrap IntKind.i64 ((↑(Mc.nF m) : Int) - (1 : Int))), (Fr.cv ⟨IntKind.wrap IntKind.i64 ((Mc.F m (Int.toNat (IntKind.wrap IntKind.i64 ((↑(Mc.nF m) : Int) - (1 : Int))))).1 + (1 : Int)), fun k => (Mc.F m (Int.toNat (IntKind.wrap IntKind.i64 ((↑(Mc.nF m) : Int) - (1 : Int))))).2 k⟩))] }, (nrow true m.8 m.9 m.10), (Ent.mkBox 40 [iv x.1, iv x.2, iv x.3, iv x.4, iv x.5])]))))
   (Tree.br true
   (Tree.done (XV.a (AV.c (iv (3 : Int)))) [(Ent.mkBox 68 [CV.sl 1 0 0 5 d.2 d.3, CV.ptr ⟨2, 0, 0, 2, 0, 0, 0, 0⟩, CV.ptr ⟨4, 0, 0, 2, 0, 0, 0, 0⟩, iv m.3, CV.sl 6 0 0 17 (Mc.nF m) (Mc.cF m), CV.sl 7 0 0 2 m.8 m.9, iv m.4]), (Cd.row d), (Ar.box m.1 3), (Ar.row m.1), (Tb.box m.2 5), (Tb.row m.2), (frow true (Mc.nF m) (Mc.cF m) (Mc.F m)), (nrow true m.8 m.9 m.10), (Ent.mkBox 40 [iv x.1, iv x.2, iv x.3, iv x.4, iv x.5])])
   (Tree.chk (0 < 1 ∧ Int.toNat (IntKind.wrap IntKind.i64 ((↑(Mc.nF m) : Int) - (1 : Int))) < Mc.nF m)
   (Tree.chk (0 < 1 ∧ Int.toNat (IntKind.wrap IntKind.i64 ((↑(Mc.nF m) : Int) - (1 : Int))) < Mc.nF m)
   (Tree.done (XV.a (AV.c (iv (0 : Int)))) [(Ent.mkBox 68 [CV.sl 1 0 0 5 d.2 d.3, CV.ptr ⟨2, 0, 0, 2, 0, 0, 0, 0⟩, CV.ptr ⟨4, 0, 0, 2, 0, 0, 0, 0⟩, iv m.3, CV.sl 6 0 0 17 (Mc.nF m) (Mc.cF m), CV.sl 7 0 0 2 m.8 m.9, iv m.4]), (Cd.row d), (Ar.box m.1 3), (Ar.row m.1), (Tb.box m.2 5), (Tb.row m.2), { own := true, box := false, ty := 66, sz := 17, m := 1, n := fun a => Mc.nF m, cap := fun a => Mc.cF m, f := fun a a_1 => (Fr.cv (Mc.F m a_1)), ov := [(19, 0, Int.toNat (IntKind.wrap IntKind.i64 ((↑(Mc.nF m) : Int) - (1 : Int))), (Fr.cv ⟨IntKind.wrap IntKind.i64 ((Mc.F m (Int.toNat (IntKind.wrap IntKind.i64 ((↑(Mc.nF m) : Int) - (1 : Int))))).1 + (1 : Int)), fun k => (Mc.F m (Int.toNat (IntKind.wrap IntKind.i64 ((↑(Mc.nF m) : Int) - (1 : Int))))).2 k⟩))] }, (nrow true m.8 m.9 m.10), (Ent.mkBox 40 [iv x.1, iv x.2, iv x.3, iv x.4, iv x.5])]))))))
   (Tree.callf 36 [AV.c (CV.ptr ⟨4, 0, 0, 2, 0, 0, 0, 0⟩), AV.c (iv m.3), AV.c (iv (List.getD (rl fun k => (Mc.F m (Int.toNat (IntKind.wrap IntKind.i64 ((↑(Mc.nF m) : Int) - (1 : Int))))).2 k) (Int.toNat x.2) (0 : Int)))] [(Ent.mkBox 68 [CV.sl 1 0 0 5 d.2 d.3, CV.ptr ⟨2, 0, 0, 2, 0, 0, 0, 0⟩, CV.ptr ⟨4, 0, 0, 2, 0, 0, 0, 0⟩, iv m.3, CV.sl 6 0 0 17 (Mc.nF m) (Mc.cF m), CV.sl 7 0 0 2 m.8 m.9, iv m.4]), (Cd.row d), (Ar.box m.1 3), (Ar.row m.1), (Tb.box m.2 5), (Tb.row m.2), (frow true (Mc.nF m) (Mc.cF m) (Mc.F m)), (nrow true m.8 m.9 m.10), (Ent.mkBox 40 [iv x.1, iv x.2, iv x.3, iv x.4, iv x.5])] (tbC m.2 m.2 [AV.c (iv m.3), AV.c (iv (List.getD (rl fun k => (Mc.F m (Int.toNat (IntKind.wrap IntKind.i64 ((↑(Mc.nF m) : Int) - (1 : Int))))).2 k) (Int.toNat x.2) (0 : Int)))] (XV.tup [AV.c (CV.v (Value.bool false)), AV.c (CV.v (Value.iface 36 (Value.int IntKind.i64 (4 : Int))))]) [4, 5]) fun c => Tree.br false
   (Tree.chk (0 < 1 ∧ Int.toNat (IntKind.wrap IntKind.i64 ((↑(Mc.nF m) : Int) - (1 : Int))) < Mc.nF m)
   (Tree.chk (0 < 1 ∧ Int.toNat (IntKind.wrap IntKind.i64 ((↑(Mc.nF m) : Int) - (1 : Int))) < Mc.nF m)
   (Tree.br false
   (Tree.done (XV.a (AV.c (iv (1 : Int)))) [(Ent.mkBox 68 [CV.sl 1 0 0 5 d.2 d.3, CV.ptr ⟨2, 0, 0, 2, 0, 0, 0, 0⟩, CV.ptr ⟨4, 0, 0, 2, 0, 0, 0, 0⟩, iv m.3, CV.sl 6 0 0 17 (Mc.nF m) (Mc.cF m), CV.sl 7 0 0 2 m.8 m.9, iv m.4]), (Cd.row d), (Ar.box m.1 3), (Ar.row m.1), (Tb.box m.2 5), (Tb.row m.2), { own := true, box := false, ty := 66, sz := 17, m := 1, n := fun a => Mc.nF m, cap := fun a => Mc.cF m, f := fun a a_1 => (Fr.cv (Mc.F m a_1)), ov := [(19, 0, Int.toNat (IntKind.wrap IntKind.i64 ((↑(Mc.nF m) : Int) - (1 : Int))), (Fr.cv ⟨IntKind.wrap IntKind.i64 ((Mc.F m (Int.toNat (IntKind.wrap IntKind.i64 ((↑(Mc.nF m) : Int) - (1 : Int))))).1 + (1 : Int)), fun k => (Mc.F m (Int.toNat (IntKind.wrap IntKind.i64 ((↑(Mc.nF m) : Int) - (1 : Int))))).2 k⟩))] }, (nrow true m.8 m.9 m.10), (Ent.mkBox 40 [iv x.1, iv x.2, iv x.3, iv x.4, iv x.5])])
   (Tree.done (XV.a (AV.c (iv (-1 : Int)))) [(Ent.mkBox 68 [CV.sl 1 0 0 5 d.2 d.3, CV.ptr ⟨2, 0, 0, 2, 0, 0, 0, 0⟩, CV.ptr ⟨4, 0, 0, 2, 0, 0, 0, 0⟩, iv m.3, CV.sl 6 0 0 17 (Mc.nF m) (Mc.cF m), CV.sl 7 0 0 2 m.8 m.9, iv m.4]), (Cd.row d), (Ar.box m.1 3), (Ar.row m.1), (Tb.box m.2 5), (Tb.row m.2), { own := true, box := false, ty := 66, sz := 17, m := 1, n := fun a => Mc.nF m, cap := fun a => Mc.cF m, f := fun a a_1 => (Fr.cv (Mc.F m a_1)), ov := [(19, 0, Int.toNat (IntKind.wrap IntKind.i64 ((↑(Mc.nF m) : Int) - (1 : Int))), (Fr.cv ⟨IntKind.wrap IntKind.i64 ((Mc.F m (Int.toNat (IntKind.wrap IntKind.i64 ((↑(Mc.nF m) : Int) - (1 : Int))))).1 + (1 : Int)), fun k => (Mc.F m (Int.toNat (IntKind.wrap IntKind.i64 ((↑(Mc.nF m) : Int) - (1 : Int))))).2 k⟩))] }, (nrow true m.8 m.9 m.10), (Ent.mkBox 40 [iv x.1, iv x.2, iv x.3, iv x.4, iv x.5])]))))
   (Tree.br true
   (Tree.done (XV.a (AV.c (iv (3 : Int)))) [(Ent.mkBox 68 [CV.sl 1 0 0 5 d.2 d.3, CV.ptr ⟨2, 0, 0, 2, 0, 0, 0, 0⟩, CV.ptr ⟨4, 0, 0, 2, 0, 0, 0, 0⟩, iv m.3, CV.sl 6 0 0 17 (Mc.nF m) (Mc.cF m), CV.sl 7 0 0 2 m.8 m.9, iv m.4]), (Cd.row d), (Ar.box m.1 3), (Ar.row m.1), (Tb.box m.2 5), (Tb.row m.2), (frow true (Mc.nF m) (Mc.cF m) (Mc.F m)), (nrow true m.8 m.9 m.10), (Ent.mkBox 40 [iv x.1, iv x.2, iv x.3, iv x.4, iv x.5])])
   (Tree.chk (0 < 1 ∧ Int.toNat (IntKind.wrap IntKind.i64 ((↑(Mc.nF m) : Int) - (1 : Int))) < Mc.nF m)
   (Tree.chk (0 < 1 ∧ Int.toNat (IntKind.wrap IntKind.i64 ((↑(Mc.nF m) : Int) - (1 : Int))) < Mc.nF m)
   (Tree.done (XV.a (AV.c (iv (0 : Int)))) [(Ent.mkBox 68 [CV.sl 1 0 0 5 d.2 d.3, CV.ptr ⟨2, 0, 0, 2, 0, 0, 0, 0⟩, CV.ptr ⟨4, 0, 0, 2, 0, 0, 0, 0⟩, iv m.3, CV.sl 6 0 0 17 (Mc.nF m) (Mc.cF m), CV.sl 7 0 0 2 m.8 m.9, iv m.4]), (Cd.row d), (Ar.box m.1 3), (Ar.row m.1), (Tb.box m.2 5), (Tb.row m.2), { own := true, box := false, ty := 66, sz := 17, m := 1, n := fun a => Mc.nF m, cap := fun a => Mc.cF m, f := fun a a_1 => (Fr.cv (Mc.F m a_1)), ov := [(19, 0, Int.toNat (IntKind.wrap IntKind.i64 ((↑(Mc.nF m) : Int) - (1 : Int))), (Fr.cv ⟨IntKind.wrap IntKind.i64 ((Mc.F m (Int.toNat (IntKind.wrap IntKind.i64 ((↑(Mc.nF m) : Int) - (1 : Int))))).1 + (1 : Int)), fun k => (Mc.F m (Int.toNat (IntKind.wrap IntKind.i64 ((↑(Mc.nF m) : Int) - (1 : Int))))).2 k⟩))] }, (nrow true m.8 m.9 m.10), (Ent.mkBox 40 [iv x.1, iv x.2, iv x.3, iv x.4, iv x.5])])))))))))
   (Tree.some_ (Mc × Bool) fun s => Tree.callf 37 [AV.c (CV.ptr ⟨0, 0, 0, 7, 0, 0, 0, 0⟩), AV.agg [iv x.1, iv x.2, iv x.3, iv x.4, iv x.5], AV.c (CV.ptr ⟨6, 0, Int.toNat (IntKind.wrap IntKind.i64 ((↑(Mc.nF m) : Int) - (1 : Int))), 17, 0, 0, 0, 19⟩)] [(Ent.mkBox 68 [CV.sl 1 0 0 5 d.2 d.3, CV.ptr ⟨2, 0, 0, 2, 0, 0, 0, 0⟩, CV.ptr ⟨4, 0, 0, 2, 0, 0, 0, 0⟩, iv m.3, CV.sl 6 0 0 17 (Mc.nF m) (Mc.cF m), CV.sl 7 0 0 2 m.8 m.9, iv m.4]), (Cd.row d), (Ar.box m.1 3), (Ar.row m.1), (Tb.box m.2 5), (Tb.row m.2), (frow true (Mc.nF m) (Mc.cF m) (Mc.F m)), (nrow true m.8 m.9 m.10), (Ent.mkBox 40 [iv x.1, iv x.2, iv x.3, iv x.4, iv x.5])] (plainC m (Prod.fst s) (Prod.snd s) d x (Int.toNat (IntKind.wrap IntKind.i64 ((↑(Mc.nF m) : Int) - (1 : Int)))) 9) fun c => Tree.br (!Prod.snd s)
   (Tree.done (XV.a (AV.c (iv (3 : Int)))) [(Ent.mkBox 68 [CV.sl 1 0 0 5 d.2 d.3, CV.ptr ⟨2, 0, 0, 2, 0, 0, 0, 0⟩, CV.ptr ⟨4, 0, 0, 2, 0, 0, 0, 0⟩, iv (Prod.fst s).3, CV.sl 6 0 0 17 (Mc.nF (Prod.fst s)) (Mc.cF (Prod.fst s)), CV.sl 10 0 0 2 (Prod.fst s).8 (c 1), iv (Prod.fst s).4]), (Cd.row d), (Ent.mkBox 72 [CV.sl 9 0 0 1 (Prod.fst s).1.1 (c 0), iv (Prod.fst s).1.4]), Ent.dead, (Ent.mkBox 78 [CV.sl 5 0 0 4 (Prod.fst s).2.1 (Prod.fst s).2.2, iv (Prod.fst s).2.4]), (Ent.rw true 59 4 (Prod.fst s).2.1 (Prod.fst s).2.2 fun ii => [CV.v (Value.bool ((Prod.fst s).2.3 ii).1), CV.v (Value.bool ((Prod.fst s).2.3 ii).2), CV.v (Value.bool ((Prod.fst s).2.3 ii).3), iv ((Prod.fst s).2.3 ii).4]), (frow true (Mc.nF (Prod.fst s)) (Mc.cF (Prod.fst s)) (Mc.F (Prod.fst s))), Ent.dead, (Ent.mkBox 40 [iv x.1, iv x.2, iv x.3, iv x.4, iv x.5]), (Ent.rw true 2 1 (Prod.fst s).1.1 (c 0) fun ii => [iv ((Prod.fst s).1.3 ii)]), (nrow true (Prod.fst s).8 (c 1) (Prod.fst s).10)])
   (Tree.chk (0 < 1 ∧ Int.toNat (IntKind.wrap IntKind.i64 ((↑(Mc.nF m) : Int) - (1 : Int))) < Mc.nF (Prod.fst s))
   (Tree.chk (0 < 1 ∧ Int.toNat (IntKind.wrap IntKind.i64 ((↑(Mc.nF m) : Int) - (1 : Int))) < Mc.nF (Prod.fst s))
   (Tree.done (XV.a (AV.c (iv (0 : Int)))) [(Ent.mkBox 68 [CV.sl 1 0 0 5 d.2 d.3, CV.ptr ⟨2, 0, 0, 2, 0, 0, 0, 0⟩, CV.ptr ⟨4, 0, 0, 2, 0, 0, 0, 0⟩, iv (Prod.fst s).3, CV.sl 6 0 0 17 (Mc.nF (Prod.fst s)) (Mc.cF (Prod.fst s)), CV.sl 10 0 0 2 (Prod.fst s).8 (c 1), iv (Prod.fst s).4]), (Cd.row d), (Ent.mkBox 72 [CV.sl 9 0 0 1 (Prod.fst s).1.1 (c 0), iv (Prod.fst s).1.4]), Ent.dead, (Ent.mkBox 78 [CV.sl 5 0 0 4 (Prod.fst s).2.1 (Prod.fst s).2.2, iv (Prod.fst s).2.4]), (Ent.rw true 59 4 (Prod.fst s).2.1 (Prod.fst s).2.2 fun ii => [CV.v (Value.bool ((Prod.fst s).2.3 ii).1), CV.v (Value.bool ((Prod.fst s).2.3 ii).2), CV.v (Value.bool ((Prod.fst s).2.3 ii).3), iv ((Prod.fst s).2.3 ii).4]), { own := true, box := false, ty := 66, sz := 17, m := 1, n := fun a => Mc.nF (Prod.fst s), cap := fun a => Mc.cF (Prod.fst s), f := fun a a_1 => (Fr.cv (Mc.F (Prod.fst s) a_1)), ov := [(19, 0, Int.toNat (IntKind.wrap IntKind.i64 ((↑(Mc.nF m) : Int) - (1 : Int))), (Fr.cv ⟨IntKind.wrap IntKind.i64 ((Mc.F (Prod.fst s) (Int.toNat (IntKind.wrap IntKind.i64 ((↑(Mc.nF m) : Int) - (1 : Int))))).1 + (1 : Int)), fun k => (Mc.F (Prod.fst s) (Int.toNat (IntKind.wrap IntKind.i64 ((↑(Mc.nF m) : Int) - (1 : Int))))).2 k⟩))] }, Ent.dead, (Ent.mkBox 40 [iv x.1, iv x.2, iv x.3, iv x.4, iv x.5]), (Ent.rw true 2 1 (Prod.fst s).1.1 (c 0) fun ii => [iv ((Prod.fst s).1.3 ii)]), (nrow true (Prod.fst s).8 (c 1) (Prod.fst s).10)])))))))))))))))
theorem tone_eq (m : Mc) (d : Cd) (x : In) : xfunc tab (oneG m d) noInv Go.Proofs.Try.f26 [bptr 0 7, x.av] (m.H d) [0, 1, 2, 3, 4, 5, 6, 7, 8, 9, 10, 11] = tone m d x := by kernel_rfl
theorem access_local (x : In) : (accessC x).Local Try.prog 25 := by
  refine local_of Try.func25 rfl (taccess_eq x) fun ν w => ?_
  repeat refine ok_chk' (fun h => h) ?_
  exact ok_leaf (fun _ => 0) [] [] trivial rfl trivial rfl
end Go.Proofs.Ytehecaipmdfjmaa.X.Mi

