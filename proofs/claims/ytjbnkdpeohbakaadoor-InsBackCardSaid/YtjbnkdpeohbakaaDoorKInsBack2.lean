/- A symbolic run of functions' texts, proved, and what it tells of the functions that the law InsBack reaches; no conditions. -/
import Derived.Test.YtjbnkdpeohbakaaDoorKInsBack1
import Derived.ScopeJumps
import Derived.Shelf.Strings.SlTrimAscii
import Derived.Shelf.Small.Wraps
import Derived.Shelf.Strings.Prefix
import Derived.Shelf.Strings.Split
import Derived.Shelf.Strconv.ParseIntPublic10
import Derived.Shelf.LaysC
import Derived.Shelf.Strconv.Itoa4
import Derived.Shelf.LaysM
import Derived.Test.YtjbnkdpeohbakaaDoorProg
import Derived.Lib.SplitLaws
import Derived.Lib.AppendIntMem
import Derived.Lib.AtoiErrMem
import Derived.Lib.AtoiTie
import Derived.Lib.ParseIntBTie
import Derived.ProofKit
import Derived.Lib.SmallJoins
import Derived.OpenShut
set_option linter.unusedVariables false
set_option linter.unusedSimpArgs false
namespace Go.Proofs.YtjbnkdpeohbakaaDoor.X
open Go.RowKit Go.Proofs.YtjbnkdpeohbakaaDoorW.PrintWords Go.Proofs.YtjbnkdpeohbakaaDoor.Base
section
variable {P : Program} {R : Root} {nt : Nat} {Rp : Ending → World → Prop}
def Left (P : Program) (R : Root) (nt : Nat) (Rp : Ending → World → Prop) (K : Ex → Tm → Hp → Tree) (e : Exit) (a : Act) (w : World) : Prop := ∃ ex tm H ν, e = ex.to ∧ StOk R nt ν tm H a w ∧ ok P R nt Rp (K ex tm H)
theorem labelOf_has {l : Nat} : ∀ {c : Code}, labelOf c = some l → hasLabel l c = true
  | .seq a b, h => by
    unfold labelOf at h
    unfold hasLabel
    cases ha : labelOf a with
    | some l' => rw [ha] at h; cases h; rw [labelOf_has ha]; rfl
    | none => rw [ha] at h; rw [labelOf_has (c := b) h, Bool.or_true]
  | .label l', h => by
    have h : some l' = some l := h
    cases h
    exact Nat.beq_refl l
theorem hasLabel_find {l : Nat} : ∀ {c : Code}, hasLabel l c = true → ∃ rest, findLabel c l = some rest
  | .seq a b, h => by
    unfold findLabel
    cases ha : findLabel a l with
    | some r => exact ⟨_, rfl⟩
    | none =>
      unfold hasLabel at h
      rcases (Bool.or_eq_true _ _).mp h with h | h
      · obtain ⟨r, hr⟩ := hasLabel_find h
        rw [ha] at hr; cases hr
      · exact hasLabel_find h
  | .label l', h => by
    have h : Nat.beq l' l = true := h
    have := Nat.eq_of_beq_eq_true h
    subst this
    exact ⟨.skip, by simp [findLabel]⟩
theorem hasLabel_none {l : Nat} : ∀ {c : Code}, hasLabel l c = false → findLabel c l = none
  | .seq a b, h => by
    unfold hasLabel at h
    obtain ⟨h1, h2⟩ := (Bool.or_eq_false_iff).mp h
    unfold findLabel
    rw [hasLabel_none h1, hasLabel_none h2]
  | .label l', h => by
    have h : Nat.beq l' l = false := h
    have : l' ≠ l := fun e => by rw [e] at h; simp at h
    simp [findLabel, this]
  | .skip, _ => rfl
  | .region .., _ => rfl
  | .cond .., _ => rfl
  | .block .., _ => rfl
  | .loop _, _ => rfl
  | .exit _, _ => rfl
  | .goto _, _ => rfl
  | .ret, _ => rfl
  | .rangeFunc .., _ => rfl
  | .scope _, _ => rfl
  | .refuse _, _ => rfl
theorem least {p : Nat → Prop} (h : ∃ n, p n) : ∃ n, p n ∧ ∀ m, p m → n ≤ m := by
  obtain ⟨n, hn⟩ := h
  induction n using Nat.strongRecOn with
  | _ n ih =>
    by_cases hs : ∃ m, m < n ∧ p m
    · obtain ⟨m, hm, hp⟩ := hs
      exact ih m hm hp
    · exact ⟨n, hn, fun m hm => Nat.le_of_not_lt fun hlt => hs ⟨m, hlt, hm⟩⟩
open Classical in
noncomputable def leastN (p : Act → World → Nat → Prop) (a : Act) (w : World) : Nat := if h : ∃ n, p a w n then Classical.choose (least h) else 0
theorem leastN_spec {p : Act → World → Nat → Prop} {a : Act} {w : World} (h : ∃ n, p a w n) : p a w (leastN p a w) ∧ ∀ m, p a w m → leastN p a w ≤ m := by
  unfold leastN
  rw [dif_pos h]
  exact Classical.choose_spec (least h)
mutual
theorem ok_xcode {tab : Tab} {G : Ctr} {Z : Par} {I : Inv} {N : Nat} (hN : R.N = N) (ht : TabOk P tab) (hm : P.follows .mixedOrders = true) : ∀ {c : Code} {li : Nat} {K : Ex → Tm → Hp → Tree} {ν : Val} {tm : Tm} {H : Hp} {a : Act} {w : World}, StOk R nt ν tm H a w → ok P R nt Rp (xcode xpar tab G Z I nt N .run li c tm H K) → c.wp P (Left P R nt Rp K) a w
  | .skip, li, K, ν, tm, H, a, w, hs, h => wp_skip ⟨.normal, tm, H, ν, rfl, hs, h⟩
  | .label _, li, K, ν, tm, H, a, w, hs, h => wp_label ⟨.normal, tm, H, ν, rfl, hs, h⟩
  | .exit id, li, K, ν, tm, H, a, w, hs, h => wp_exit ⟨.exit id, tm, H, ν, rfl, hs, h⟩
  | .goto l, li, K, ν, tm, H, a, w, hs, h => wp_goto ⟨.goto l, tm, H, ν, rfl, hs, h⟩
  | .ret, li, K, ν, tm, H, a, w, hs, h => wp_ret ⟨.ret, tm, H, ν, rfl, hs, h⟩
  | .region id ops draw, li, K, ν, tm, H, a, w, hs, h => by
    have reg0 : ∀ {K' : Tm → Hp → Tree}, ok P R nt Rp (xregion tab G nt ops draw tm H K') → (∀ a w, After P R nt Rp K' a w → Left P R nt Rp K .normal a w) → (Code.region id ops draw).wp P (Left P R nt Rp K) a w := fun h hQ => by
      cases draw with
      | true =>
        obtain ⟨hsel, h⟩ := bif_not h (fun h => h)
        exact ok_region ht hm hsel h hs hQ
      | false => exact wp_region_list (ok_xlist ht hs h hQ)
    have reg : ∀ {K' : Tm → Hp → Tree}, ok P R nt Rp (xregionP xpar tab G Z nt id ops draw tm H K') → (∀ a w, After P R nt Rp K' a w → Left P R nt Rp K .normal a w) → (Code.region id ops draw).wp P (Left P R nt Rp K) a w := fun h hQ => by
      unfold xregionP at h
      split at h
      · exact reg0 h hQ
      · split at h
        · exact reg0 h hQ
        · obtain ⟨hsel, s, h⟩ := bif_not h (fun h => h)
          exact ok_xpar ht hm h hs hs.hp.agr.1 hQ
    unfold xcode at h
    split at h
    · exact reg h fun a w ⟨tm', H', ν', hs', h'⟩ => ⟨.normal, tm', H', ν', rfl, hs', h'⟩
    · rename_i L hL
      refine reg h.1 fun a w ⟨tm', H', ν', hs', s, h'⟩ => ?_
      obtain ⟨ν2, hs2, -⟩ := ok_imp hN hs' h'
      exact ⟨.normal, _, _, ν2, rfl, hs2, h.2 s⟩
  | .seq x y, li, K, ν, tm, H, a, w, hs, h => by
    refine wp_seq (Code.wp_mono ?_ (ok_xcode hN ht hm hs h))
    rintro e a' w' ⟨ex, tm', H', ν', rfl, hs', h'⟩
    cases ex with
    | normal => exact ok_xcode hN ht hm hs' h'
    | exit i => exact ⟨.exit i, tm', H', ν', rfl, hs', h'⟩
    | goto l => exact ⟨.goto l, tm', H', ν', rfl, hs', h'⟩
    | ret => exact ⟨.ret, tm', H', ν', rfl, hs', h'⟩
  | .cond c x y, li, K, ν, tm, H, a, w, hs, h => by
    obtain ⟨C, hC, h⟩ := ok_bnd h
    split at h
    · rename_i β
      have he : a.eval c = .bool β := eval_get hs.tm hC
      exact wp_cond_split he (fun hb => ok_xcode hN ht hm hs (h.1 hb)) (fun hb => ok_xcode hN ht hm hs (h.2 hb))
    · exact h.elim
  | .block id c, li, K, ν, tm, H, a, w, hs, h => by
    refine wp_block (Code.wp_mono ?_ (ok_xcode hN ht hm hs h))
    rintro e a' w' ⟨ex, tm', H', ν', rfl, hs', h'⟩
    cases ex with
    | normal => exact ⟨.normal, tm', H', ν', rfl, hs', h'⟩
    | exit i =>
      show if i = id then _ else _
      cases hb : Nat.beq i id with
      | true =>
        have := Nat.eq_of_beq_eq_true hb
        rw [if_pos this]
        simp only [hb, cond_true] at h'
        exact ⟨.normal, tm', H', ν', rfl, hs', h'⟩
      | false =>
        have : ¬ i = id := fun e => by rw [e] at hb; simp at hb
        rw [if_neg this]
        simp only [hb, cond_false] at h'
        exact ⟨.exit i, tm', H', ν', rfl, hs', h'⟩
    | goto l => exact ⟨.goto l, tm', H', ν', rfl, hs', h'⟩
    | ret => exact ⟨.ret, tm', H', ν', rfl, hs', h'⟩
  | .loop c, li, K, ν, tm, H, a, w, hs, h => by
    unfold xcode at h
    split at h
    · exact h ν a w hs
    · rename_i L hL
      obtain ⟨h0, hr⟩ := h
      obtain ⟨s0, h0⟩ : ∃ s, ok P R nt Rp (imp N tm H L.nil0 L.ρ0 (L.S s) (.need True)) := by
        split at h0
        · exact ⟨_, h0⟩
        · exact h0
      obtain ⟨ν0, hs0, -⟩ := ok_imp hN hs h0
      refine wp_loop_ghost (fun n a w => ∃ s ν, L.μ s = n ∧ StOk R nt ν (L.S s).1 (L.S s).2 a w) (L.μ s0) ⟨s0, ν0, rfl, hs0⟩ ?_
      rintro n a w ⟨s, ν, rfl, hs⟩
      refine Code.wp_mono ?_ (ok_xcode hN ht hm hs (hr s))
      rintro e a' w' ⟨ex, tm', H', ν', rfl, hs', h'⟩
      cases ex with
      | normal =>
        obtain ⟨s', hlt, h'⟩ := h'
        obtain ⟨ν2, hs2, -⟩ := ok_imp hN hs' h'
        exact ⟨_, hlt, s', ν2, rfl, hs2⟩
      | exit i => exact ⟨.exit i, tm', H', ν', rfl, hs', h'⟩
      | goto l => exact ⟨.goto l, tm', H', ν', rfl, hs', h'⟩
      | ret => exact ⟨.ret, tm', H', ν', rfl, hs', h'⟩
  | .rangeFunc .., li, K, ν, tm, H, a, w, hs, h => h.elim
  | .scope c, li, K, ν, tm, H, a, w, hs, h => by
    unfold xcode at h
    split at h
    · exact h.elim
    rename_i l hl
    split at h
    · exact h.elim
    rename_i L hL
    obtain ⟨h1, h2⟩ := h
    have hlab := labelOf_has hl
    obtain ⟨rest, hf⟩ := hasLabel_find hlab
    let J : Act → World → Prop := fun a w => ∃ s ν, StOk R nt ν (L.S s).1 (L.S s).2 a w
    let p : Act → World → Nat → Prop := fun a w n => ∃ s ν, L.μ s = n ∧ StOk R nt ν (L.S s).1 (L.S s).2 a w
    refine wp_scope_jumps l J (leastN p) hf ?_ ?_
    · refine ok_to hN ht hm (K1 := _) (K2 := _) (L := L) hlab hs h1 h2 ?_ ?_
      · rintro e a w ⟨ex, tm', H', ν', rfl, hs', h'⟩
        cases ex with
        | goto l' => exact h'.elim
        | normal => exact ⟨.normal, tm', H', ν', rfl, hs', h'⟩
        | exit i => exact ⟨.exit i, tm', H', ν', rfl, hs', h'⟩
        | ret => exact ⟨.ret, tm', H', ν', rfl, hs', h'⟩
      · rintro s e a w ⟨ex, tm', H', ν', rfl, hs', h'⟩
        cases ex with
        | goto l' =>
          dsimp only at h'
          cases hb : Nat.beq l' l with
          | false => rw [hb, cond_false] at h'; exact h'.elim
          | true =>
            rw [hb, cond_true] at h'
            obtain ⟨s', hlt, h'⟩ := h'
            obtain ⟨ν2, hs2, -⟩ := ok_imp hN hs' h'
            exact ⟨Nat.eq_of_beq_eq_true hb, s', ν2, hs2⟩
        | normal => exact ⟨.normal, tm', H', ν', rfl, hs', h'⟩
        | exit i => exact ⟨.exit i, tm', H', ν', rfl, hs', h'⟩
        | ret => exact ⟨.ret, tm', H', ν', rfl, hs', h'⟩
    · rintro a w ⟨s0, ν0, hs0⟩
      obtain ⟨⟨s, ν1, hμ, hs1⟩, -⟩ := leastN_spec (p := p) (a := a) (w := w) ⟨_, s0, ν0, rfl, hs0⟩
      refine Code.wp_mono ?_ (ok_from hN ht hm hlab hf hs1 (h2 s))
      rintro e a' w' ⟨ex, tm', H', ν', rfl, hs', h'⟩
      cases ex with
      | goto l' =>
        dsimp only at h'
        cases hb : Nat.beq l' l with
        | false => rw [hb, cond_false] at h'; exact h'.elim
        | true =>
          rw [hb, cond_true] at h'
          obtain ⟨s', hlt, h'⟩ := h'
          obtain ⟨ν2, hs2, -⟩ := ok_imp hN hs' h'
          have := (leastN_spec (p := p) (a := a') (w := w') ⟨_, s', ν2, rfl, hs2⟩).2 _ ⟨s', ν2, rfl, hs2⟩
          exact ⟨Nat.eq_of_beq_eq_true hb, ⟨s', ν2, hs2⟩, by omega⟩
      | normal => exact ⟨.normal, tm', H', ν', rfl, hs', h'⟩
      | exit i => exact ⟨.exit i, tm', H', ν', rfl, hs', h'⟩
      | ret => exact ⟨.ret, tm', H', ν', rfl, hs', h'⟩
  | .refuse _, li, K, ν, tm, H, a, w, hs, h => h.elim
theorem ok_from {tab : Tab} {G : Ctr} {Z : Par} {I : Inv} {N : Nat} (hN : R.N = N) (ht : TabOk P tab) (hm : P.follows .mixedOrders = true) : ∀ {c : Code} {l li : Nat} {K : Ex → Tm → Hp → Tree} {ν : Val} {tm : Tm} {H : Hp} {a : Act} {w : World} {rest : Code}, hasLabel l c = true → findLabel c l = some rest → StOk R nt ν tm H a w → ok P R nt Rp (xcode xpar tab G Z I nt N (.from_ l) li c tm H K) → rest.wp P (Left P R nt Rp K) a w
  | .seq x y, l, li, K, ν, tm, H, a, w, rest, hl, hf, hs, h => by
    unfold xcode at h
    unfold findLabel at hf
    cases hx : hasLabel l x with
    | true =>
      rw [hx] at h
      obtain ⟨r, hr⟩ := hasLabel_find hx
      rw [hr] at hf
      cases hf
      refine wp_seq (Code.wp_mono ?_ (ok_from hN ht hm hx hr hs h))
      rintro e a' w' ⟨ex, tm', H', ν', rfl, hs', h'⟩
      cases ex with
      | normal => exact ok_xcode hN ht hm hs' h'
      | exit i => exact ⟨.exit i, tm', H', ν', rfl, hs', h'⟩
      | goto l => exact ⟨.goto l, tm', H', ν', rfl, hs', h'⟩
      | ret => exact ⟨.ret, tm', H', ν', rfl, hs', h'⟩
    | false =>
      rw [hx] at h
      rw [hasLabel_none hx] at hf
      unfold hasLabel at hl
      rw [hx, Bool.false_or] at hl
      exact ok_from hN ht hm hl hf hs h
  | .label l', l, li, K, ν, tm, H, a, w, rest, hl, hf, hs, h => by
    have hl : Nat.beq l' l = true := hl
    have := Nat.eq_of_beq_eq_true hl
    subst this
    simp [findLabel] at hf
    subst hf
    exact wp_skip ⟨.normal, tm, H, ν, rfl, hs, h⟩
theorem ok_to {tab : Tab} {G : Ctr} {Z : Par} {I : Inv} {N : Nat} (hN : R.N = N) (ht : TabOk P tab) (hm : P.follows .mixedOrders = true) : ∀ {c : Code} {l li li' : Nat} {L : LoopInv} {K1 : Ex → Tm → Hp → Tree} {K2 : L.σ → Ex → Tm → Hp → Tree} {Q : Exit → Act → World → Prop} {ν : Val} {tm : Tm} {H : Hp} {a : Act} {w : World}, hasLabel l c = true → StOk R nt ν tm H a w → ok P R nt Rp (xcode xpar tab G Z I nt N (.to l L) li c tm H K1) →
    (∀ s, ok P R nt Rp (xcode xpar tab G Z I nt N (.from_ l) li' c (L.S s).1 (L.S s).2 (K2 s))) → (∀ e a w, Left P R nt Rp K1 e a w → Q e a w) → (∀ s e a w, Left P R nt Rp (K2 s) e a w → Q e a w) → c.wp P Q a w
  | .seq x y, l, li, li', L, K1, K2, Q, ν, tm, H, a, w, hl, hs, h, h2, q1, q2 => by
    unfold xcode at h h2
    cases hx : hasLabel l x with
    | true =>
      rw [hx] at h
      rw [hx] at h2
      refine wp_seq (ok_to hN ht hm hx hs h h2 ?_ ?_)
      · rintro e a' w' ⟨ex, tm', H', ν', rfl, hs', h'⟩
        cases ex with
        | normal => exact Code.wp_mono q1 (ok_xcode hN ht hm hs' h')
        | exit i => exact q1 _ _ _ ⟨.exit i, tm', H', ν', rfl, hs', h'⟩
        | goto l => exact q1 _ _ _ ⟨.goto l, tm', H', ν', rfl, hs', h'⟩
        | ret => exact q1 _ _ _ ⟨.ret, tm', H', ν', rfl, hs', h'⟩
      · rintro s e a' w' ⟨ex, tm', H', ν', rfl, hs', h'⟩
        cases ex with
        | normal => exact Code.wp_mono (q2 s) (ok_xcode hN ht hm hs' h')
        | exit i => exact q2 s _ _ _ ⟨.exit i, tm', H', ν', rfl, hs', h'⟩
        | goto l => exact q2 s _ _ _ ⟨.goto l, tm', H', ν', rfl, hs', h'⟩
        | ret => exact q2 s _ _ _ ⟨.ret, tm', H', ν', rfl, hs', h'⟩
    | false =>
      rw [hx] at h
      rw [hx] at h2
      unfold hasLabel at hl
      rw [hx, Bool.false_or] at hl
      refine wp_seq (Code.wp_mono ?_ (ok_xcode hN ht hm hs h))
      rintro e a' w' ⟨ex, tm', H', ν', rfl, hs', h'⟩
      cases ex with
      | normal => exact ok_to hN ht hm hl hs' h' h2 q1 q2
      | exit i => exact q1 _ _ _ ⟨.exit i, tm', H', ν', rfl, hs', h'⟩
      | goto l => exact q1 _ _ _ ⟨.goto l, tm', H', ν', rfl, hs', h'⟩
      | ret => exact q1 _ _ _ ⟨.ret, tm', H', ν', rfl, hs', h'⟩
  | .label l', l, li, li', L, K1, K2, Q, ν, tm, H, a, w, hl, hs, h, h2, q1, q2 => by
    unfold xcode at h h2
    obtain ⟨s, h⟩ := h
    obtain ⟨ν2, hs2, -⟩ := ok_imp hN hs h
    exact wp_label (q2 s _ _ _ ⟨.normal, _, _, ν2, rfl, hs2, h2 s⟩)
end
theorem ok_results {tab : Tab} (ht : TabOk P tab) {ν : Val} {tm : Tm} {H : Hp} {a : Act} {w : World} (hs : StOk R nt ν tm H a w) : ∀ {rs : List ResultVar} {K : List AV → Tree}, ok P R nt Rp (xresults tab rs tm H K) →
    ∃ l, ok P R nt Rp (K l) ∧ l.length = rs.length ∧ (rs.mapM fun x => match x with | ResultVar.tmp t => (pure (a.tmps.getD t undef) : Sem Value) | .cell p t => do loadVar t (← asAddr (a.tmps.getD p undef))).run P w = .ok (l.map (AV.den ν)) w
  | [], K, h => ⟨[], h, rfl, by simp⟩
  | .tmp t :: r, K, h => by
    unfold xresults at h
    obtain ⟨X, hX, h⟩ := ok_bnd h
    split at h
    · rename_i x
      obtain ⟨l, h, hl, hr⟩ := ok_results ht hs h
      have := (hs.tm t _ hX).2
      have hg : a.tmps.getD t undef = x.den ν := by simp [this]; rfl
      refine ⟨x :: l, h, by simp [hl], ?_⟩
      simp only [List.mapM_cons, Sem.run_bind, Sem.run_pure, Result.andThen_ok, hr, hg, List.map_cons]
    · exact h.elim
  | .cell p t :: r, K, h => by
    unfold xresults at h
    obtain ⟨X, hX, h⟩ := ok_bnd h
    split at h
    · rename_i q
      obtain ⟨x, h, hx⟩ := ok_xload ht hs.hp.wf h
      obtain ⟨l, h, hl, hr⟩ := ok_results ht hs h
      have := (hs.tm p _ hX).2
      have hg : a.tmps.getD p undef = .pointer (some (q.addr ν)) := by simp [this]; rfl
      refine ⟨x :: l, h, by simp [hl], ?_⟩
      have hld := (hx yes_none).2 ν w hs.hp
      have hadr : (asAddr (a.tmps.getD p undef)).run P w = .ok (q.addr ν) w := by rw [hg]; rfl
      simp only [List.mapM_cons, Sem.run_bind, Sem.run_pure, Result.andThen_ok, hr, List.map_cons, hadr, hld]
    · exact h.elim
theorem args_get : ∀ (l : List AV) (n : Nat) (t : Nat) (x : XV), (xargs n l).get t = some x → n ≤ t ∧ ∃ y, l[t - n]? = some y ∧ x = .a y
  | [], n, t, x, h => by simp [xargs, Tm.get] at h
  | y :: r, n, t, x, h => by
    simp only [xargs, Tm.get] at h
    cases hb : Nat.beq n t with
    | true =>
      rw [hb, cond_true] at h
      have := Nat.eq_of_beq_eq_true hb
      subst this
      exact ⟨Nat.le_refl _, y, by simp, by simpa using h.symm⟩
    | false =>
      rw [hb, cond_false] at h
      obtain ⟨h1, y', h2, h3⟩ := args_get r (n + 1) t x h
      refine ⟨by omega, y', ?_, h3⟩
      rw [show t - n = (t - (n + 1)) + 1 by omega]
      simpa using h2
end
theorem trim_get (keep : List Nat) : ∀ (H : Hp) (i k : Nat) (e : Ent), (trim keep i H).get k = some e → e = Ent.dead ∨ H.get k = some e
  | [], i, k, e, h => by cases k <;> cases h
  | x :: r, i, 0, e, h => by
    have h : some (match keep.any (Nat.beq i) with | true => x | false => Ent.dead) = some e := h
    injection h with h
    split at h
    · exact .inr (by rw [← h]; rfl)
    · exact .inl h.symm
  | x :: r, i, k + 1, e, h => trim_get keep r (i + 1) k e h
theorem trim_length (keep : List Nat) : ∀ (H : Hp) (i : Nat), (trim keep i H).length = H.length
  | [], _ => rfl
  | _ :: r, i => congrArg (· + 1) (trim_length keep r (i + 1))
theorem Holds.trim {R : Root} {ν : Val} {H : Hp} {w : World} (h : Holds R ν H w) (keep : List Nat) : Holds R ν (trim keep 0 H) w := by
  refine ⟨h.kon, h.upd, fun k e he => ?_, fun k e1 j he1 ho1 hj k' e2 j' he2 hj' hne ad ad' hν hν' hl => ?_, by rw [trim_length]; exact h.agr⟩
  · rw [trim_length]
    rcases trim_get keep H 0 k e he with rfl | he
    · exact dead_ok ..
    · exact h.ent k e he
  · rcases trim_get keep H 0 k e1 he1 with rfl | he1
    · exact absurd hj (Nat.not_lt_zero _)
    · rcases trim_get keep H 0 k' e2 he2 with rfl | he2
      · exact absurd hj' (Nat.not_lt_zero _)
      · exact h.dj k e1 j he1 ho1 hj k' e2 j' he2 hj' hne ad ad' hν hν' hl
theorem calls_ofZ {P : Program} {tab : Tab} {G : Ctr} {Z : Par} {I : Inv} (ht : TabOk P tab) (hm : P.follows .mixedOrders = true) {f : FuncId} {fn : Func} (hf : P.funcs[f]? = some fn) {R : Root} {Rp : Ending → World → Prop} {ν : Val} {H : Hp} {w : World} {args : List AV} {keep : List Nat} (hN : R.N = H.length) (hh : Holds R ν H w)
    (hl : args.all (AV.lt H.length) = true) (h : ok P R fn.ntmps Rp (xfuncZ tab G Z I fn args H keep)) : Calls P f (args.map (AV.den ν)).toArray w Rp := by
  unfold xfuncZ xfuncP at h
  split at h
  · exact h.elim
  · rename_i c hb
    obtain ⟨hle, h⟩ := bif_not h (fun h => h)
    have hle : args.length ≤ fn.ntmps := Nat.le_of_ble_eq_true hle
    refine calls_of_wp hf hb (Code.wp_mono ?_ (ok_xcode hN ht hm (ν := ν) (tm := xargs 0 args) (H := H) ⟨fun t x hx => ?_, hh, rfl, by simp; omega⟩ h))
    · rintro e a' w' ⟨ex, tm', H', ν', rfl, hs', h'⟩
      have hres : ∀ {T : Tree}, T = xresults tab fn.results.toList tm' H' (fun l => match l with | [x] => .done (.a x) (trim keep 0 H') | l => .done (.tup l) (trim keep 0 H')) → ok P R fn.ntmps Rp T → a'.defers = [] ∧ ∃ v, (results fn a'.tmps).run P w' = .ok v w' ∧ Rp (.returned v) w' := fun hT hk => by
        subst hT
        obtain ⟨l, hk, hlen, hr⟩ := ok_results ht hs' hk
        have hm : (fn.results.mapM fun x => match x with | ResultVar.tmp t => (pure (a'.tmps.getD t undef) : Sem Value) | .cell p t => do loadVar t (← asAddr (a'.tmps.getD p undef))).run P w' = .ok (l.map (AV.den ν')).toArray w' := by
          rw [Array.mapM_eq_mapM_toList, ← bind_pure_comp, Sem.run_bind, hr]
          rfl
        refine ⟨hs'.df, if h : (l.map (AV.den ν')).toArray.size = 1 then (l.map (AV.den ν')).toArray[0] else .tuple (l.map (AV.den ν')).toArray, ?_, ?_⟩
        · unfold results
          rw [Sem.run_bind]
          refine Eq.trans (congrArg (fun r => Result.andThen r _) hm) ?_
          rfl
        · match l, hk with
          | [x], hk => exact hk ν' w' (hs'.hp.trim keep)
          | [], hk => exact hk ν' w' (hs'.hp.trim keep)
          | x :: y :: r, hk =>
            have := hk ν' w' (hs'.hp.trim keep)
            simpa [XV.den] using this
      cases ex with
      | normal => exact hres rfl h'
      | ret => exact hres rfl h'
      | exit i => exact h'.elim
      | goto l => exact h'.elim
    · obtain ⟨-, y, hy, rfl⟩ := args_get args 0 t x hx
      simp only [Nat.sub_zero] at hy
      refine ⟨List.all_eq_true.1 hl y (List.mem_of_getElem? hy), ?_⟩
      have hlt : t < args.length := (List.getElem?_eq_some_iff.1 hy).1
      rw [Array.getElem?_append_left (by simpa using hlt)]
      simp [hy, XV.den]
theorem calls_of {P : Program} {tab : Tab} {G : Ctr} {I : Inv} (ht : TabOk P tab) (hm : P.follows .mixedOrders = true) {f : FuncId} {fn : Func} (hf : P.funcs[f]? = some fn) {R : Root} {Rp : Ending → World → Prop} {ν : Val} {H : Hp} {w : World} {args : List AV} {keep : List Nat} (hN : R.N = H.length) (hh : Holds R ν H w)
    (hl : args.all (AV.lt H.length) = true) (h : ok P R fn.ntmps Rp (xfunc tab G I fn args H keep)) : Calls P f (args.map (AV.den ν)).toArray w Rp := calls_ofZ (Z := noPar) ht hm hf hN hh hl h
end Go.Proofs.YtjbnkdpeohbakaaDoor.X

set_option linter.unusedVariables false
set_option linter.unusedSimpArgs false
namespace Go.Proofs.YtjbnkdpeohbakaaDoor.X
open Go.RowKit Go.Proofs.YtjbnkdpeohbakaaDoorW.PrintWords Go.Proofs.YtjbnkdpeohbakaaDoor.Base
theorem get_mem {t : Nat} {ti : TI} : ∀ {l : Tab}, l.get t = some ti → (t, ti) ∈ l
  | [], h => by cases h
  | (u, i) :: r, h => by
    unfold Tab.get at h
    cases hb : Nat.beq u t with
    | true =>
      rw [hb, cond_true] at h
      cases h
      rw [Nat.eq_of_beq_eq_true hb]
      exact List.mem_cons_self
    | false => rw [hb, cond_false] at h; exact List.mem_cons_of_mem _ (get_mem h)
theorem tab_ok : TabOk Tryd.prog tab := fun t ti h => by
  obtain ⟨i, hi⟩ := List.getElem?_of_mem (get_mem h)
  have := congrArg (·[i]?) tab_all
  simp only [List.getElem?_map, hi, Option.map_some, Option.some.injEq] at this
  exact this
theorem mixed : Tryd.prog.follows .mixedOrders = true := by kernel_rfl
def nov : Val := fun _ _ => none
theorem Holds.b0 {w w' : World} {ν : Val} {H : Hp} (h : Holds ⟨w, fun _ => False, 0, nov, fun _ => False⟩ ν H w') : Below w.heap.size w w' := h.upd.below (Nat.le_refl _) (fun k hk => hk.elim)
section
variable {P : Program} {R : Root} {nt : Nat} {Rp : Ending → World → Prop}
theorem ok_br' {b : Bool} {t e : Tree} (h1 : b = true → ok P R nt Rp t) (h2 : b = false → ok P R nt Rp e) : ok P R nt Rp (.br b t e) := ⟨h1, h2⟩
theorem ok_chk' {p : Prop} {t : Tree} (h1 : p) (h2 : ok P R nt Rp t) : ok P R nt Rp (.chk p t) := ⟨h1, h2⟩
theorem ok_both' {t e : Tree} (h1 : ok P R nt Rp t) (h2 : ok P R nt Rp e) : ok P R nt Rp (.both t e) := ⟨h1, h2⟩
end
def Tree.val {α : Type} (leaf : XV → α) (d : α) : Tree → α
  | .done x _ => leaf x
  | .br b t e => bif b then t.val leaf d else e.val leaf d
  | .chk _ t => t.val leaf d
  | .callf _ _ _ _ k => (k fun _ => 0).val leaf d
  | .all _ k => (k fun _ => 0).val leaf d
  | _ => d
def plainB : List CV → Bool
  | [] => true
  | .v _ :: r => plainB r
  | _ :: _ => false
theorem plain_ren {n0 : Nat} {ρ : List Nat} {N : Nat} : ∀ {l : List CV}, plainB l = true → l = l.map (fun x => (x.ren ρ).nilz n0) ∧ ∀ x ∈ l, x.lt N = true
  | [], _ => ⟨rfl, fun x hx => by cases hx⟩
  | .v y :: r, h => by
    obtain ⟨h1, h2⟩ := plain_ren (l := r) h
    refine ⟨?_, fun x hx => ?_⟩
    · show _ = CV.v y :: List.map _ r
      rw [← h1]
    · rcases List.mem_cons.1 hx with rfl | hx
      · rfl
      · exact h2 x hx
  | .ptr _ :: r, h => by cases h
  | .sl .. :: r, h => by cases h
  | .fn .. :: r, h => by cases h
  | .ifp .. :: r, h => by cases h
  | .mp .. :: r, h => by cases h
theorem EntRel.plain {n0 : Nat} {ρ : List Nat} {N : Nat} {e e2 : Ent} (ho : e2.own = e.own) (ht : e2.ty = e.ty) (hs : e2.sz = e.sz) (hm : e2.m = e.m) (hb : e2.box = true → e.box = true ∧ e2.ov = [] ∧ e2.n 0 = 1) (hn : ∀ j, j < e.m → e2.n j = e.n j ∧ e2.cap j = e.cap j)
    (ha : ∀ j, j < e.m → ∀ i, i < e.n j → e.at j i = e2.at j i ∧ plainB (e2.at j i) = true) : EntRel n0 ρ N e e2 :=
  ⟨ho, ht, hs, hm, hb, hn, fun j hj i hi => ⟨(ha j hj i hi).1.trans (plain_ren (N := N) (ha j hj i hi).2).1, (plain_ren (N := N) (ρ := ρ) (n0 := n0) (ha j hj i hi).2).2⟩⟩
theorem EntRel.row {n0 : Nat} {ρ : List Nat} {N ty sz n cap n2 cap2 : Nat} {f f2 : Nat → List CV} (hn : n2 = n) (hc : cap2 = cap) (hf : ∀ i, i < n → f i = f2 i) (hp : ∀ i, i < n → plainB (f2 i) = true) : EntRel n0 ρ N (Ent.mkRow ty sz n cap f) (Ent.mkRow ty sz n2 cap2 f2) :=
  EntRel.plain rfl rfl rfl rfl (fun h => by cases h) (fun _ _ => ⟨hn, hc⟩) fun _ _ i hi => ⟨hf i hi, hp i hi⟩
def Ent.rw (own : Bool) (ty sz n cap : Nat) (f : Nat → List CV) : Ent := ⟨own, false, ty, sz, 1, fun _ => n, fun _ => cap, fun _ i => f i, []⟩
theorem EntRel.rw {n0 : Nat} {ρ : List Nat} {N ty sz n cap n2 cap2 : Nat} {own : Bool} {f f2 : Nat → List CV} (hn : n2 = n) (hc : cap2 = cap) (hf : ∀ i, i < n → f i = f2 i) (hp : ∀ i, i < n → plainB (f2 i) = true) : EntRel n0 ρ N (Ent.rw own ty sz n cap f) (Ent.rw own ty sz n2 cap2 f2) :=
  EntRel.plain rfl rfl rfl rfl (fun h => by cases h) (fun _ _ => ⟨hn, hc⟩) fun _ _ i hi => ⟨hf i hi, hp i hi⟩
theorem EntRel.dead {n0 : Nat} {ρ : List Nat} {N : Nat} : EntRel n0 ρ N Ent.dead Ent.dead := EntRel.plain rfl rfl rfl rfl (fun h => by cases h) (fun _ _ => ⟨rfl, rfl⟩) fun _ hj => absurd hj (Nat.not_lt_zero _)
theorem EntRel.box' {n0 : Nat} {ρ : List Nat} {N ty sz : Nat} {n n2 c c2 : Nat → Nat} {cs cs2 : List CV} (h1 : cs = cs2.map (fun x => (x.ren ρ).nilz n0)) (h2 : cs2.all (CV.lt N) = true) (hn : n 0 = n2 0) (hc : c 0 = c2 0) (h3 : n2 0 = 1) : EntRel n0 ρ N ⟨true, true, ty, sz, 1, n, c, fun _ _ => cs, []⟩ ⟨true, true, ty, sz, 1, n2, c2, fun _ _ => cs2, []⟩ :=
  ⟨rfl, rfl, rfl, rfl, fun _ => ⟨rfl, rfl, h3⟩, fun j hj => by
    have hj : j < 1 := hj
    obtain rfl : j = 0 := by omega
    exact ⟨hn.symm, hc.symm⟩, fun j _ i _ => ⟨h1, List.all_eq_true.1 h2⟩⟩
def Rels (n0 : Nat) (U : Hp) (ρ : List Nat) (N : Nat) : List Nat → Hp → Prop
  | _, [] => True
  | k :: ks, e2 :: r => (∃ e, U.get k = some e ∧ EntRel n0 ρ N e e2) ∧ Rels n0 U ρ N ks r
  | [], _ :: _ => False
def Rels2 (n0 : Nat) (U : Hp) (ρ : List Nat) (N : Nat) : List Nat → Hp → Prop
  | _, [] => True
  | k :: ks, e2 :: r => (e2 = Ent.dead ∨ ∃ e, U.get k = some e ∧ EntRel n0 ρ N e e2) ∧ Rels2 n0 U ρ N ks r
  | [], _ :: _ => False
theorem Rels2.get {n0 : Nat} {U : Hp} {ρ : List Nat} {N : Nat} : ∀ {ks : List Nat} {S : Hp}, Rels2 n0 U ρ N ks S → ∀ k e2, S.get k = some e2 → e2 = Ent.dead ∨ ∃ e, U.get (ks.getD k 0) = some e ∧ EntRel n0 ρ N e e2
  | _, [], _, k, e2, h => by cases k <;> cases h
  | k0 :: ks, e0 :: S, h, 0, e2, hx => by
    have hx : some e0 = some e2 := hx
    cases hx
    simpa using h.1
  | k0 :: ks, e0 :: S, h, k + 1, e2, hx => by simpa using Rels2.get h.2 k e2 hx
  | [], _ :: _, h, _, _, _ => h.elim
theorem Rels.get {n0 : Nat} {U : Hp} {ρ : List Nat} {N : Nat} : ∀ {ks : List Nat} {S : Hp}, Rels n0 U ρ N ks S → ∀ k e2, S.get k = some e2 → ∃ e, U.get (ks.getD k 0) = some e ∧ EntRel n0 ρ N e e2
  | _, [], _, k, e2, h => by cases k <;> cases h
  | k0 :: ks, e0 :: S, h, 0, e2, hx => by
    have hx : some e0 = some e2 := hx
    cases hx
    simpa using h.1
  | k0 :: ks, e0 :: S, h, k + 1, e2, hx => by simpa using Rels.get h.2 k e2 hx
  | [], _ :: _, h, _, _, _ => h.elim
def Back (n0 : Nat) (ρ : List Nat) (N : Nat) (H0 : Hp) : Nat → Hp → Hp → Prop
  | _, _, [] => True
  | k, e :: new, e2 :: r => (EntRel n0 ρ N e e2 ∧ e.box = e2.box ∧ (e.box = true → e.ov = [] ∧ e.n 0 = 1) ∧ (e2.own = true ∨ e2.own = e2.own)) ∧ Back n0 ρ N H0 (k + 1) new r
  | _, [], _ :: _ => False
theorem Back.get {n0 : Nat} {ρ : List Nat} {N : Nat} {H0 : Hp} : ∀ {k0 : Nat} {new S : Hp}, Back n0 ρ N H0 k0 new S → ∀ k e2, S.get k = some e2 → ∃ e, new.get k = some e ∧ EntRel n0 ρ N e e2 ∧ e.box = e2.box ∧ (e.box = true → e.ov = [] ∧ e.n 0 = 1) ∧ (e2.own = true ∨ e2.own = e2.own)
  | _, _, [], _, k, e2, h => by cases k <;> cases h
  | k0, e :: new, e0 :: S, h, 0, e2, hx => by
    have hx : some e0 = some e2 := hx
    cases hx
    exact ⟨e, rfl, h.1⟩
  | k0, e :: new, e0 :: S, h, k + 1, e2, hx => by
    obtain ⟨e', h1, h2, h3, h4, h5⟩ := Back.get h.2 k e2 hx
    exact ⟨e', h1, h2, h3, h4, h5⟩
  | _, [], _ :: _, h, _, _, _ => h.elim
theorem fits_of {C : CallSpec} {args : List AV} {H : Hp} (hb : (nodup C.ρ && Nat.beq C.ρ.length C.H0.length && C.ρ.all (fun k => Nat.blt k (C.up H).length) && C.args0.all (AV.lt C.H0.length)) = true)
    (ha : args = C.args0.map (fun x => (x.ren C.ρ).nilz H.length)) (hs : Rels H.length (C.up H) C.ρ C.H0.length C.ρ C.H0)
    (h1 : ∀ c, C.good c → (C.H0.length ≤ (C.H1 c).length ∧ (C.new c).length = (C.H1 c).length) ∧ (C.x c = (C.x0 c).ren (C.ρ' H c) ∧ (C.x0 c).lt (C.H1 c).length = true) ∧ Back ((C.up H).length + (C.H1 c).length) (C.ρ' H c) (C.H1 c).length C.H0 0 (C.new c) (C.H1 c)) : C.Fits args H := by
  simp only [Bool.and_eq_true] at hb
  obtain ⟨⟨⟨h2, h3⟩, h4⟩, h5⟩ := hb
  refine ⟨h2, Nat.eq_of_beq_eq_true h3, fun k hk => Nat.blt_eq.mp (List.all_eq_true.1 h4 k hk), ⟨ha, h5⟩, hs.get, fun c hc => (h1 c hc).1, fun c hc => (h1 c hc).2.1, fun c hc k e2 he => ?_⟩
  exact (h1 c hc).2.2.get k e2 he
def CallSpec.Post (C : CallSpec) (ν : Val) (w : World) (e : Ending) (w' : World) : Prop := ∃ ν' c, C.good c ∧ e = .returned ((C.x0 c).den ν') ∧ Holds (rootOf ν C.H0 w) ν' (C.H1 c) w'
theorem local_of {G : Ctr} {I : Inv} {f : FuncId} {fn : Func} (hf : Tryd.prog.funcs[f]? = some fn) {C : CallSpec} (hl : C.args0.all (AV.lt C.H0.length) = true) {keep : List Nat} {T : Tree} (he : xfunc tab G I fn C.args0 C.H0 keep = T) (h : ∀ ν w, ok Tryd.prog (rootOf ν C.H0 w) fn.ntmps (C.Post ν w) T) : C.Local Tryd.prog f :=
  fun ν w hh => calls_of tab_ok mixed hf rfl hh hl (he ▸ h ν w)
theorem ok_leaf {P : Program} {nt : Nat} {C : CallSpec} {ν : Val} {w : World} {x : XV} {H : Hp} (c : Nat → Nat) (nils : List (Nat × Nat)) (ρ : List Nat) (hg : C.good c) (hx : x = ((C.x0 c).ren ρ).nilz H.length) (hs : Rels H.length (H ++ nilRows nils) ρ (C.H1 c).length ρ (C.H1 c))
    (hb : (x.lt H.length && (C.x0 c).lt (C.H1 c).length && nodup ρ && Nat.beq ρ.length (C.H1 c).length && headId ρ 0 C.H0.length && Nat.ble C.H0.length (C.H1 c).length) = true) : ok P (rootOf ν C.H0 w) nt (C.Post ν w) (.done x H) := by
  simp only [Bool.and_eq_true] at hb
  obtain ⟨⟨⟨⟨⟨h1, h2⟩, h3⟩, h4⟩, h5⟩, h6⟩ := hb
  intro ν1 w' hh
  obtain ⟨ν2, hA, hnil, hh2⟩ := hh.nils nils
  have hlen := Nat.eq_of_beq_eq_true h4
  have hρ : ∀ q, q < (C.H1 c).length → ρ.getD q 0 < (H ++ nilRows nils).length := fun q hq => by
    obtain ⟨e, he, -⟩ := hs.get q _ (by rw [Hp.get_eq]; exact List.getElem?_eq_getElem hq)
    exact Hp.get_lt he
  refine ⟨ν2.ren ρ, c, hg, ?_, hh2.ren hnil (nodup_spec h3) hlen (take_id h5) (Nat.le_of_ble_eq_true h6) hs.get⟩
  rw [← XV.den_agr hA h1, hx, XV.den_nilz hnil (XV.lt_ren hρ h2), XV.den_ren]
section
variable {n0 : Nat} {ρ σ : Rn} {U : Hp} {N k : Nat}
theorem EntRg.dead : EntRg n0 ρ σ U N k Ent.dead := ⟨⟨(fun h => by cases h), .inl rfl⟩, fun j hj => absurd hj (Nat.not_lt_zero _)⟩
theorem EntRg.one {e e2 : Ent} (hb : BoxOk e2) (hm : e2.m = 1) (hu : U.get (ρ k 0).1 = some e) (mr : MemRel n0 ρ N e (ρ k 0).2 e2 0) (hσ : σ (ρ k 0).1 (ρ k 0).2 = (k, 0) ∨ (e2.own = false ∧ (e.own = false ∨ e2.n 0 = 0))) : EntRg n0 ρ σ U N k e2 :=
  ⟨hb, fun j hj => by obtain rfl : j = 0 := (by omega); exact ⟨e, hu, mr, hσ⟩⟩
theorem EntRg.box {ty sz : Nat} {n n2 c c2 : Nat → Nat} {cs cs2 : List CV} (hu : U.get (ρ k 0).1 = some ⟨true, true, ty, sz, 1, n, c, fun _ _ => cs, []⟩) (h0 : (ρ k 0).2 = 0) (h1 : cs = cs2.map (fun x => (x.rg ρ).nilz n0)) (h2 : cs2.all (CV.lt N) = true) (hn : n2 0 = n 0) (hc : c2 0 = c 0) (h3 : n2 0 = 1) (hσ : σ (ρ k 0).1 (ρ k 0).2 = (k, 0)) : EntRg n0 ρ σ U N k ⟨true, true, ty, sz, 1, n2, c2, fun _ _ => cs2, []⟩ :=
  EntRg.one ⟨(fun _ => ⟨rfl, rfl, h3, rfl⟩), .inl rfl⟩ rfl hu ⟨by rw [h0]; exact Nat.one_pos, fun h => h, rfl, rfl, by rw [h0]; exact hn, by rw [h0]; exact hc, fun i _ => ⟨h1, List.all_eq_true.1 h2⟩, .inl rfl⟩ (.inl hσ)
theorem plain_rg : ∀ {l : List CV}, plainB l = true → l = l.map (fun x => (x.rg ρ).nilz n0) ∧ ∀ x ∈ l, x.lt N = true
  | [], _ => ⟨rfl, fun x hx => by cases hx⟩
  | .v y :: r, h => by
    obtain ⟨h1, h2⟩ := plain_rg (l := r) h
    refine ⟨?_, fun x hx => ?_⟩
    · show _ = CV.v y :: List.map _ r
      rw [← h1]
    · rcases List.mem_cons.1 hx with rfl | hx
      · rfl
      · exact h2 x hx
  | .ptr _ :: r, h => by cases h
  | .sl .. :: r, h => by cases h
  | .fn .. :: r, h => by cases h
  | .ifp .. :: r, h => by cases h
  | .mp .. :: r, h => by cases h
theorem EntRg.rw {own2 : Bool} {ty sz n2 cap2 : Nat} {f2 : Nat → List CV} {e : Ent} (hu : U.get (ρ k 0).1 = some e) (h0 : (ρ k 0).2 < e.m) (ho : own2 = true → e.own = true) (ho2 : own2 = true ∨ (0 < sz ∧ ty ≠ itTy)) (ht : ty = e.ty) (hsz : sz = e.sz) (hn : n2 = e.n (ρ k 0).2) (hc : cap2 = e.cap (ρ k 0).2)
    (hf : ∀ i, i < n2 → e.at (ρ k 0).2 i = f2 i) (hp : ∀ i, i < n2 → plainB (f2 i) = true) (hσ : σ (ρ k 0).1 (ρ k 0).2 = (k, 0) ∨ (own2 = false ∧ (e.own = false ∨ n2 = 0))) : EntRg n0 ρ σ U N k (Ent.rw own2 ty sz n2 cap2 f2) :=
  EntRg.one ⟨(fun h => by cases h), ho2.imp id And.left⟩ rfl hu ⟨h0, ho, ht, hsz, hn, hc, fun i hi => ⟨(hf i (hn ▸ hi)).trans (plain_rg (N := N) (hp i (hn ▸ hi))).1, (plain_rg (N := N) (ρ := ρ) (n0 := n0) (hp i (hn ▸ hi))).2⟩, ho2.imp id And.right⟩ hσ
end
section
variable {P : Program} {R : Root} {nt : Nat} {Rp : Ending → World → Prop}
theorem ok_every' {σ : Type} {k : σ → Tree} (h : ∀ s, ok P R nt Rp (k s)) : ok P R nt Rp (.every σ k) := h
theorem ok_some' {σ : Type} {k : σ → Tree} (s : σ) (h : ok P R nt Rp (k s)) : ok P R nt Rp (.some_ σ k) := ⟨s, h⟩
theorem ok_callf' {f : FuncId} {args : List AV} {H : Hp} {C : CallSpec} {k : (Nat → Nat) → Tree} (hc : Callable P f) (hf : C.Fits args H) (hl : C.Local P f) (hk : ∀ c, C.good c → ok P R nt Rp (k c)) : ok P R nt Rp (.callf f args H C k) := ⟨hc, hf, hl, hk⟩
end
end Go.Proofs.YtjbnkdpeohbakaaDoor.X

namespace Go.Proofs
open Go.Shelf
def Tryd.lays160_ren : Go.Shelf.Ren := ⟨fun | 160 => 17 | 232 => 34 | 231 => 33 | 227 => 35 | 234 => 37 | 233 => 36 | 236 => 39 | 235 => 38 | 228 => 47 | 271 => 50 | 151 => 49 | 197 => 48 | 120 => 62 | 152 => 61 | 260 => 60 | 137 => 74 | 119 => 75 | 224 => 76 | 225 => 77 | 217 => 78 | 266 => 91 | n => n, fun | 9 => 9 | 4 => 4 | 3 => 3 | 5 => 5 | 117 => 67 | 116 => 66 | 0 => 0 | 124 => 70 | 21 => 21 | 105 => 78 | 46 => 96 | 119 => 95 | 139 => 99 | 138 => 98 | n => n, fun | 3 => 0 | 4 => 1 | n => n⟩
theorem Tryd.lays160 : Go.Proofs.Lays.n160 Tryd.prog Tryd.lays160_ren := {
  mixed := by kernel_rfl
  f119 := Tryd.func75.trans (congrArg some (by kernel_rfl))
  f120 := Tryd.func62.trans (congrArg some (by kernel_rfl))
  f137 := Tryd.func74.trans (congrArg some (by kernel_rfl))
  f151 := Tryd.func49.trans (congrArg some (by kernel_rfl))
  f152 := Tryd.func61.trans (congrArg some (by kernel_rfl))
  f160 := Tryd.func17.trans (congrArg some (by kernel_rfl))
  f197 := Tryd.func48.trans (congrArg some (by kernel_rfl))
  f217 := Tryd.func78.trans (congrArg some (by kernel_rfl))
  f224 := Tryd.func76.trans (congrArg some (by kernel_rfl))
  f225 := Tryd.func77.trans (congrArg some (by kernel_rfl))
  f227 := Tryd.func35.trans (congrArg some (by kernel_rfl))
  f228 := Tryd.func47.trans (congrArg some (by kernel_rfl))
  f231 := Tryd.func33.trans (congrArg some (by kernel_rfl))
  f232 := Tryd.func34.trans (congrArg some (by kernel_rfl))
  f233 := Tryd.func36.trans (congrArg some (by kernel_rfl))
  f234 := Tryd.func37.trans (congrArg some (by kernel_rfl))
  f235 := Tryd.func38.trans (congrArg some (by kernel_rfl))
  f236 := Tryd.func39.trans (congrArg some (by kernel_rfl))
  f260 := Tryd.func60.trans (congrArg some (by kernel_rfl))
  f266 := Tryd.func91.trans (congrArg some (by kernel_rfl))
  f271 := Tryd.func50.trans (congrArg some (by kernel_rfl))
  t0 := Tryd.underlying0
  a0 := Tryd.isAgg0
  z0 := Tryd.sizeOf0
  v0 := Tryd.zeroValue0
  t3 := Tryd.underlying3
  a3 := Tryd.isAgg3
  z3 := Tryd.sizeOf3
  v3 := Tryd.zeroValue3
  t4 := Tryd.underlying4
  a4 := Tryd.isAgg4
  z4 := Tryd.sizeOf4
  v4 := Tryd.zeroValue4
  t5 := Tryd.underlying5
  a5 := Tryd.isAgg5
  z5 := Tryd.sizeOf5
  v5 := Tryd.zeroValue5
  t9 := Tryd.underlying9
  a9 := Tryd.isAgg9
  z9 := Tryd.sizeOf9
  v9 := Tryd.zeroValue9
  t21 := Tryd.underlying21
  a21 := Tryd.isAgg21
  z21 := Tryd.sizeOf21
  v21 := Tryd.zeroValue21
  t46 := Tryd.underlying96
  a46 := Tryd.isAgg96
  z46 := Tryd.sizeOf96
  v46 := Tryd.zeroValue96
  t105 := Tryd.underlying78
  a105 := Tryd.isAgg78
  z105 := Tryd.sizeOf78
  v105 := Tryd.zeroValue78
  t116 := Tryd.underlying66
  a116 := Tryd.isAgg66
  z116 := Tryd.sizeOf66
  t117 := Tryd.underlying67
  a117 := Tryd.isAgg67
  z117 := Tryd.sizeOf67
  v117 := Tryd.zeroValue67
  t119 := Tryd.underlying95
  a119 := Tryd.isAgg95
  z119 := Tryd.sizeOf95
  t124 := Tryd.underlying70
  a124 := Tryd.isAgg70
  z124 := Tryd.sizeOf70
  v124 := Tryd.zeroValue70
  t138 := Tryd.underlying98
  a138 := Tryd.isAgg98
  z138 := Tryd.sizeOf98
  v138 := Tryd.zeroValue98
  t139 := Tryd.underlying99
  a139 := Tryd.isAgg99
  z139 := Tryd.sizeOf99
  v139 := Tryd.zeroValue99
  g3 := by kernel_rfl
  g4 := by kernel_rfl }
def Tryd.lays103_ren : Go.Shelf.Ren := ⟨fun | 103 => 55 | 210 => 66 | 206 => 80 | n => n, fun | 9 => 9 | 4 => 4 | 24 => 44 | 3 => 3 | n => n, fun | n => n⟩
theorem Tryd.lays103 : Go.Proofs.Lays.n103 Tryd.prog Tryd.lays103_ren := {
  mixed := by kernel_rfl
  f103 := Tryd.func55.trans (congrArg some (by kernel_rfl))
  f206 := Tryd.func80.trans (congrArg some (by kernel_rfl))
  f210 := Tryd.func66.trans (congrArg some (by kernel_rfl))
  t3 := Tryd.underlying3
  a3 := Tryd.isAgg3
  z3 := Tryd.sizeOf3
  v3 := Tryd.zeroValue3
  t4 := Tryd.underlying4
  a4 := Tryd.isAgg4
  z4 := Tryd.sizeOf4
  v4 := Tryd.zeroValue4
  t9 := Tryd.underlying9
  a9 := Tryd.isAgg9
  z9 := Tryd.sizeOf9
  v9 := Tryd.zeroValue9
  t24 := Tryd.underlying44
  a24 := Tryd.isAgg44
  z24 := Tryd.sizeOf44
  v24 := Tryd.zeroValue44 }
def Tryd.lays104_ren : Go.Shelf.Ren := ⟨fun | 104 => 18 | 211 => 40 | 207 => 51 | n => n, fun | 9 => 9 | 4 => 4 | 24 => 44 | 3 => 3 | n => n, fun | n => n⟩
theorem Tryd.lays104 : Go.Proofs.Lays.n104 Tryd.prog Tryd.lays104_ren := {
  mixed := by kernel_rfl
  f104 := Tryd.func18.trans (congrArg some (by kernel_rfl))
  f207 := Tryd.func51.trans (congrArg some (by kernel_rfl))
  f211 := Tryd.func40.trans (congrArg some (by kernel_rfl))
  t3 := Tryd.underlying3
  a3 := Tryd.isAgg3
  z3 := Tryd.sizeOf3
  v3 := Tryd.zeroValue3
  t4 := Tryd.underlying4
  a4 := Tryd.isAgg4
  z4 := Tryd.sizeOf4
  v4 := Tryd.zeroValue4
  t9 := Tryd.underlying9
  a9 := Tryd.isAgg9
  z9 := Tryd.sizeOf9
  v9 := Tryd.zeroValue9
  t24 := Tryd.underlying44
  a24 := Tryd.isAgg44
  z24 := Tryd.sizeOf44
  v24 := Tryd.zeroValue44 }
def Tryd.lays101_ren : Go.Shelf.Ren := ⟨fun | 101 => 56 | 208 => 67 | 206 => 80 | n => n, fun | 9 => 9 | 4 => 4 | 3 => 3 | n => n, fun | n => n⟩
theorem Tryd.lays101 : Go.Proofs.Lays.n101 Tryd.prog Tryd.lays101_ren := {
  mixed := by kernel_rfl
  f101 := Tryd.func56.trans (congrArg some (by kernel_rfl))
  f206 := Tryd.func80.trans (congrArg some (by kernel_rfl))
  f208 := Tryd.func67.trans (congrArg some (by kernel_rfl))
  t3 := Tryd.underlying3
  a3 := Tryd.isAgg3
  z3 := Tryd.sizeOf3
  v3 := Tryd.zeroValue3
  t4 := Tryd.underlying4
  a4 := Tryd.isAgg4
  z4 := Tryd.sizeOf4
  v4 := Tryd.zeroValue4
  t9 := Tryd.underlying9
  a9 := Tryd.isAgg9
  z9 := Tryd.sizeOf9
  v9 := Tryd.zeroValue9 }
def Tryd.lays146_ren : Go.Shelf.Ren := ⟨fun | 146 => 20 | 221 => 42 | 268 => 52 | 138 => 53 | 143 => 54 | 195 => 63 | 197 => 48 | 218 => 64 | 219 => 65 | 260 => 60 | 217 => 78 | 225 => 77 | 224 => 76 | 267 => 79 | 266 => 91 | 314 => 92 | n => n, fun | 9 => 9 | 31 => 46 | 3 => 3 | 4 => 4 | 0 => 0 | 105 => 78 | 21 => 21 | 5 => 5 | 46 => 96 | 119 => 95 | 139 => 99 | 138 => 98 | 146 => 113 | 51 => 110 | n => n, fun | 1 => 2 | 3 => 0 | 4 => 1 | n => n⟩
theorem Tryd.lays146 : Go.Proofs.Lays.n146 Tryd.prog Tryd.lays146_ren := {
  mixed := by kernel_rfl
  f138 := Tryd.func53.trans (congrArg some (by kernel_rfl))
  f143 := Tryd.func54.trans (congrArg some (by kernel_rfl))
  f146 := Tryd.func20.trans (congrArg some (by kernel_rfl))
  f195 := Tryd.func63.trans (congrArg some (by kernel_rfl))
  f197 := Tryd.func48.trans (congrArg some (by kernel_rfl))
  f217 := Tryd.func78.trans (congrArg some (by kernel_rfl))
  f218 := Tryd.func64.trans (congrArg some (by kernel_rfl))
  f219 := Tryd.func65.trans (congrArg some (by kernel_rfl))
  f221 := Tryd.func42.trans (congrArg some (by kernel_rfl))
  f224 := Tryd.func76.trans (congrArg some (by kernel_rfl))
  f225 := Tryd.func77.trans (congrArg some (by kernel_rfl))
  f260 := Tryd.func60.trans (congrArg some (by kernel_rfl))
  f266 := Tryd.func91.trans (congrArg some (by kernel_rfl))
  f267 := Tryd.func79.trans (congrArg some (by kernel_rfl))
  f268 := Tryd.func52.trans (congrArg some (by kernel_rfl))
  f314 := Tryd.func92.trans (congrArg some (by kernel_rfl))
  t0 := Tryd.underlying0
  a0 := Tryd.isAgg0
  z0 := Tryd.sizeOf0
  v0 := Tryd.zeroValue0
  t3 := Tryd.underlying3
  a3 := Tryd.isAgg3
  z3 := Tryd.sizeOf3
  v3 := Tryd.zeroValue3
  t4 := Tryd.underlying4
  a4 := Tryd.isAgg4
  z4 := Tryd.sizeOf4
  v4 := Tryd.zeroValue4
  t5 := Tryd.underlying5
  a5 := Tryd.isAgg5
  z5 := Tryd.sizeOf5
  v5 := Tryd.zeroValue5
  t9 := Tryd.underlying9
  a9 := Tryd.isAgg9
  z9 := Tryd.sizeOf9
  v9 := Tryd.zeroValue9
  t21 := Tryd.underlying21
  a21 := Tryd.isAgg21
  z21 := Tryd.sizeOf21
  v21 := Tryd.zeroValue21
  t31 := Tryd.underlying46
  a31 := Tryd.isAgg46
  z31 := Tryd.sizeOf46
  v31 := Tryd.zeroValue46
  t46 := Tryd.underlying96
  a46 := Tryd.isAgg96
  z46 := Tryd.sizeOf96
  v46 := Tryd.zeroValue96
  t51 := Tryd.underlying110
  a51 := Tryd.isAgg110
  z51 := Tryd.sizeOf110
  v51 := Tryd.zeroValue110
  t105 := Tryd.underlying78
  a105 := Tryd.isAgg78
  z105 := Tryd.sizeOf78
  v105 := Tryd.zeroValue78
  t119 := Tryd.underlying95
  a119 := Tryd.isAgg95
  z119 := Tryd.sizeOf95
  t138 := Tryd.underlying98
  a138 := Tryd.isAgg98
  z138 := Tryd.sizeOf98
  v138 := Tryd.zeroValue98
  t139 := Tryd.underlying99
  a139 := Tryd.isAgg99
  z139 := Tryd.sizeOf99
  v139 := Tryd.zeroValue99
  t146 := Tryd.underlying113
  a146 := Tryd.isAgg113
  z146 := Tryd.sizeOf113
  v146 := Tryd.zeroValue113
  g1 := by kernel_rfl
  g3 := by kernel_rfl
  g4 := by kernel_rfl }
def Tryd.laysC174_ren : Go.Shelf.Ren := ⟨fun | 174 => 57 | 247 => 68 | 245 => 69 | 287 => 81 | 279 => 82 | 280 => 83 | 281 => 84 | 282 => 85 | 321 => 93 | 322 => 94 | 316 => 95 | 171 => 45 | 205 => 96 | 243 => 58 | 246 => 59 | 283 => 70 | 284 => 71 | 285 => 72 | 286 => 73 | 129 => 87 | 317 => 86 | 318 => 88 | 319 => 89 | 320 => 90 | 337 => 97 | 338 => 98 | n => n, fun | 9 => 9 | 3 => 3 | 2 => 2 | 75 => 28 | 85 => 84 | 4 => 4 | 167 => 102 | 5 => 5 | 53 => 90 | 175 => 103 | 46 => 96 | 168 => 105 | 37 => 77 | 0 => 0 | 210 => 118 | 21 => 21 | 127 => 121 | 145 => 124 | 143 => 122 | 171 => 89 | 173 => 93 | 212 => 109 | 51 => 110 | 20 => 20 | 213 => 111 | 232 => 125 | 233 => 126 | 80 => 127 | n => n, fun | 15 => 4 | 16 => 5 | 17 => 3 | 18 => 6 | 19 => 7 | n => n⟩
theorem Tryd.laysC174 : Go.Proofs.LaysC.n174 Tryd.prog Tryd.laysC174_ren := {
  mixed := by kernel_rfl
  f129 := Tryd.func87.trans (congrArg some (by kernel_rfl))
  f171 := Tryd.func45.trans (congrArg some (by kernel_rfl))
  f174 := Tryd.func57.trans (congrArg some (by kernel_rfl))
  f205 := Tryd.func96.trans (congrArg some (by kernel_rfl))
  f243 := Tryd.func58.trans (congrArg some (by kernel_rfl))
  f245 := Tryd.func69.trans (congrArg some (by kernel_rfl))
  f246 := Tryd.func59.trans (congrArg some (by kernel_rfl))
  f247 := Tryd.func68.trans (congrArg some (by kernel_rfl))
  f279 := Tryd.func82.trans (congrArg some (by kernel_rfl))
  f280 := Tryd.func83.trans (congrArg some (by kernel_rfl))
  f281 := Tryd.func84.trans (congrArg some (by kernel_rfl))
  f282 := Tryd.func85.trans (congrArg some (by kernel_rfl))
  f283 := Tryd.func70.trans (congrArg some (by kernel_rfl))
  f284 := Tryd.func71.trans (congrArg some (by kernel_rfl))
  f285 := Tryd.func72.trans (congrArg some (by kernel_rfl))
  f286 := Tryd.func73.trans (congrArg some (by kernel_rfl))
  f287 := Tryd.func81.trans (congrArg some (by kernel_rfl))
  f316 := Tryd.func95.trans (congrArg some (by kernel_rfl))
  f317 := Tryd.func86.trans (congrArg some (by kernel_rfl))
  f318 := Tryd.func88.trans (congrArg some (by kernel_rfl))
  f319 := Tryd.func89.trans (congrArg some (by kernel_rfl))
  f320 := Tryd.func90.trans (congrArg some (by kernel_rfl))
  f321 := Tryd.func93.trans (congrArg some (by kernel_rfl))
  f322 := Tryd.func94.trans (congrArg some (by kernel_rfl))
  f337 := Tryd.func97.trans (congrArg some (by kernel_rfl))
  f338 := Tryd.func98.trans (congrArg some (by kernel_rfl))
  t0 := Tryd.underlying0
  a0 := Tryd.isAgg0
  z0 := Tryd.sizeOf0
  v0 := Tryd.zeroValue0
  t2 := Tryd.underlying2
  a2 := Tryd.isAgg2
  z2 := Tryd.sizeOf2
  v2 := Tryd.zeroValue2
  t3 := Tryd.underlying3
  a3 := Tryd.isAgg3
  z3 := Tryd.sizeOf3
  v3 := Tryd.zeroValue3
  t4 := Tryd.underlying4
  a4 := Tryd.isAgg4
  z4 := Tryd.sizeOf4
  v4 := Tryd.zeroValue4
  t5 := Tryd.underlying5
  a5 := Tryd.isAgg5
  z5 := Tryd.sizeOf5
  v5 := Tryd.zeroValue5
  t9 := Tryd.underlying9
  a9 := Tryd.isAgg9
  z9 := Tryd.sizeOf9
  v9 := Tryd.zeroValue9
  t20 := Tryd.underlying20
  a20 := Tryd.isAgg20
  z20 := Tryd.sizeOf20
  v20 := Tryd.zeroValue20
  t21 := Tryd.underlying21
  a21 := Tryd.isAgg21
  z21 := Tryd.sizeOf21
  v21 := Tryd.zeroValue21
  t37 := Tryd.underlying77
  a37 := Tryd.isAgg77
  z37 := Tryd.sizeOf77
  v37 := Tryd.zeroValue77
  t46 := Tryd.underlying96
  a46 := Tryd.isAgg96
  z46 := Tryd.sizeOf96
  v46 := Tryd.zeroValue96
  t51 := Tryd.underlying110
  a51 := Tryd.isAgg110
  z51 := Tryd.sizeOf110
  v51 := Tryd.zeroValue110
  t53 := Tryd.underlying90
  a53 := Tryd.isAgg90
  z53 := Tryd.sizeOf90
  v53 := Tryd.zeroValue90
  t75 := Tryd.underlying28
  a75 := Tryd.isAgg28
  z75 := Tryd.sizeOf28
  v75 := Tryd.zeroValue28
  t85 := Tryd.underlying84
  a85 := Tryd.isAgg84
  z85 := Tryd.sizeOf84
  v85 := Tryd.zeroValue84
  t127 := Tryd.underlying121
  a127 := Tryd.isAgg121
  z127 := Tryd.sizeOf121
  v127 := Tryd.zeroValue121
  t143 := Tryd.underlying122
  a143 := Tryd.isAgg122
  z143 := Tryd.sizeOf122
  v143 := Tryd.zeroValue122
  t145 := Tryd.underlying124
  a145 := Tryd.isAgg124
  z145 := Tryd.sizeOf124
  v145 := Tryd.zeroValue124
  t167 := Tryd.underlying102
  a167 := Tryd.isAgg102
  z167 := Tryd.sizeOf102
  v167 := Tryd.zeroValue102
  t168 := Tryd.underlying105
  a168 := Tryd.isAgg105
  z168 := Tryd.sizeOf105
  v168 := Tryd.zeroValue105
  t171 := Tryd.underlying89
  a171 := Tryd.isAgg89
  z171 := Tryd.sizeOf89
  v171 := Tryd.zeroValue89
  t173 := Tryd.underlying93
  a173 := Tryd.isAgg93
  z173 := Tryd.sizeOf93
  v173 := Tryd.zeroValue93
  t175 := Tryd.underlying103
  a175 := Tryd.isAgg103
  z175 := Tryd.sizeOf103
  v175 := Tryd.zeroValue103
  t210 := Tryd.underlying118
  a210 := Tryd.isAgg118
  z210 := Tryd.sizeOf118
  v210 := Tryd.zeroValue118
  t212 := Tryd.underlying109
  a212 := Tryd.isAgg109
  z212 := Tryd.sizeOf109
  v212 := Tryd.zeroValue109
  t213 := Tryd.underlying111
  a213 := Tryd.isAgg111
  z213 := Tryd.sizeOf111
  t232 := Tryd.underlying125
  a232 := Tryd.isAgg125
  z232 := Tryd.sizeOf125
  v232 := Tryd.zeroValue125
  t233 := Tryd.underlying126
  a233 := Tryd.isAgg126
  z233 := Tryd.sizeOf126
  v233 := Tryd.zeroValue126
  g15 := by kernel_rfl
  g16 := by kernel_rfl
  g17 := by kernel_rfl
  g18 := by kernel_rfl
  g19 := by kernel_rfl
  t80 := Tryd.underlying127
  a80 := Tryd.isAgg127
  z80 := Tryd.sizeOf127
  v80 := Tryd.zeroValue127
  i0 := by kernel_rfl
  i2 := by kernel_rfl
  i3 := by kernel_rfl
  i4 := by kernel_rfl
  i5 := by kernel_rfl
  i9 := by kernel_rfl
  i20 := by kernel_rfl
  i21 := by kernel_rfl
  i37 := by kernel_rfl
  i46 := by kernel_rfl
  i51 := by kernel_rfl
  i53 := by kernel_rfl
  i75 := by kernel_rfl
  i80 := by kernel_rfl
  i85 := by kernel_rfl
  i127 := by kernel_rfl
  i143 := by kernel_rfl
  i145 := by kernel_rfl
  i167 := by kernel_rfl
  i168 := by kernel_rfl
  i171 := by kernel_rfl
  i173 := by kernel_rfl
  i175 := by kernel_rfl
  i210 := by kernel_rfl
  i212 := by kernel_rfl
  i232 := by kernel_rfl
  i233 := by kernel_rfl
  m15 := by kernel_rfl
  m16 := by kernel_rfl
  m17 := by kernel_rfl
  m18 := by kernel_rfl
  m19 := by kernel_rfl
  c0 := by kernel_rfl
  c2 := by kernel_rfl
  c3 := by kernel_rfl
  c4 := by kernel_rfl
  c5 := by kernel_rfl
  c9 := by kernel_rfl
  c20 := by kernel_rfl
  c21 := by kernel_rfl
  c37 := by kernel_rfl
  c46 := by kernel_rfl
  c51 := by kernel_rfl
  c53 := by kernel_rfl
  c75 := by kernel_rfl
  c80 := by kernel_rfl
  c85 := by kernel_rfl
  c127 := by kernel_rfl
  c143 := by kernel_rfl
  c145 := by kernel_rfl
  c167 := by kernel_rfl
  c168 := by kernel_rfl
  c171 := by kernel_rfl
  c173 := by kernel_rfl
  c175 := by kernel_rfl
  c210 := by kernel_rfl
  c212 := by kernel_rfl
  c213 := by kernel_rfl
  c232 := by kernel_rfl
  c233 := by kernel_rfl }
def Tryd.laysM173_ren : Go.Shelf.Ren := ⟨fun | 173 => 46 | 246 => 59 | 283 => 70 | 284 => 71 | 285 => 72 | 286 => 73 | 129 => 87 | 317 => 86 | 318 => 88 | 319 => 89 | 320 => 90 | 337 => 97 | 338 => 98 | n => n, fun | 2 => 2 | 3 => 3 | 9 => 9 | 4 => 4 | 171 => 89 | 0 => 0 | 53 => 90 | 37 => 77 | 5 => 5 | 173 => 93 | 212 => 109 | 51 => 110 | 20 => 20 | 213 => 111 | 46 => 96 | 232 => 125 | 233 => 126 | n => n, fun | 17 => 3 | 18 => 6 | 19 => 7 | n => n⟩
theorem Tryd.laysM173 : Go.Proofs.LaysM.n173 Tryd.prog Tryd.laysM173_ren := {
  mixed := by kernel_rfl
  f129 := Tryd.func87.trans (congrArg some (by kernel_rfl))
  f173 := Tryd.func46.trans (congrArg some (by kernel_rfl))
  f246 := Tryd.func59.trans (congrArg some (by kernel_rfl))
  f283 := Tryd.func70.trans (congrArg some (by kernel_rfl))
  f284 := Tryd.func71.trans (congrArg some (by kernel_rfl))
  f285 := Tryd.func72.trans (congrArg some (by kernel_rfl))
  f286 := Tryd.func73.trans (congrArg some (by kernel_rfl))
  f317 := Tryd.func86.trans (congrArg some (by kernel_rfl))
  f318 := Tryd.func88.trans (congrArg some (by kernel_rfl))
  f319 := Tryd.func89.trans (congrArg some (by kernel_rfl))
  f320 := Tryd.func90.trans (congrArg some (by kernel_rfl))
  f337 := Tryd.func97.trans (congrArg some (by kernel_rfl))
  f338 := Tryd.func98.trans (congrArg some (by kernel_rfl))
  t0 := Tryd.underlying0
  a0 := Tryd.isAgg0
  z0 := Tryd.sizeOf0
  v0 := Tryd.zeroValue0
  t2 := Tryd.underlying2
  a2 := Tryd.isAgg2
  z2 := Tryd.sizeOf2
  v2 := Tryd.zeroValue2
  t3 := Tryd.underlying3
  a3 := Tryd.isAgg3
  z3 := Tryd.sizeOf3
  v3 := Tryd.zeroValue3
  t4 := Tryd.underlying4
  a4 := Tryd.isAgg4
  z4 := Tryd.sizeOf4
  v4 := Tryd.zeroValue4
  t5 := Tryd.underlying5
  a5 := Tryd.isAgg5
  z5 := Tryd.sizeOf5
  v5 := Tryd.zeroValue5
  t9 := Tryd.underlying9
  a9 := Tryd.isAgg9
  z9 := Tryd.sizeOf9
  v9 := Tryd.zeroValue9
  t20 := Tryd.underlying20
  a20 := Tryd.isAgg20
  z20 := Tryd.sizeOf20
  v20 := Tryd.zeroValue20
  t37 := Tryd.underlying77
  a37 := Tryd.isAgg77
  z37 := Tryd.sizeOf77
  v37 := Tryd.zeroValue77
  t46 := Tryd.underlying96
  a46 := Tryd.isAgg96
  z46 := Tryd.sizeOf96
  v46 := Tryd.zeroValue96
  t51 := Tryd.underlying110
  a51 := Tryd.isAgg110
  z51 := Tryd.sizeOf110
  v51 := Tryd.zeroValue110
  t53 := Tryd.underlying90
  a53 := Tryd.isAgg90
  z53 := Tryd.sizeOf90
  v53 := Tryd.zeroValue90
  t171 := Tryd.underlying89
  a171 := Tryd.isAgg89
  z171 := Tryd.sizeOf89
  v171 := Tryd.zeroValue89
  t173 := Tryd.underlying93
  a173 := Tryd.isAgg93
  z173 := Tryd.sizeOf93
  v173 := Tryd.zeroValue93
  t212 := Tryd.underlying109
  a212 := Tryd.isAgg109
  z212 := Tryd.sizeOf109
  v212 := Tryd.zeroValue109
  t213 := Tryd.underlying111
  a213 := Tryd.isAgg111
  z213 := Tryd.sizeOf111
  t232 := Tryd.underlying125
  a232 := Tryd.isAgg125
  z232 := Tryd.sizeOf125
  v232 := Tryd.zeroValue125
  t233 := Tryd.underlying126
  a233 := Tryd.isAgg126
  z233 := Tryd.sizeOf126
  v233 := Tryd.zeroValue126
  g17 := by kernel_rfl
  g18 := by kernel_rfl
  g19 := by kernel_rfl
  i0 := by kernel_rfl
  i2 := by kernel_rfl
  i3 := by kernel_rfl
  i4 := by kernel_rfl
  i5 := by kernel_rfl
  i9 := by kernel_rfl
  i20 := by kernel_rfl
  i37 := by kernel_rfl
  i46 := by kernel_rfl
  i51 := by kernel_rfl
  i53 := by kernel_rfl
  i171 := by kernel_rfl
  i173 := by kernel_rfl
  i212 := by kernel_rfl
  i232 := by kernel_rfl
  i233 := by kernel_rfl
  m17 := by kernel_rfl
  m18 := by kernel_rfl
  m19 := by kernel_rfl }
def Tryd.laysM171_ren : Go.Shelf.Ren := ⟨fun | 171 => 45 | 243 => 58 | 246 => 59 | 283 => 70 | 284 => 71 | 285 => 72 | 286 => 73 | 129 => 87 | 317 => 86 | 318 => 88 | 319 => 89 | 320 => 90 | 337 => 97 | 338 => 98 | n => n, fun | 3 => 3 | 9 => 9 | 2 => 2 | 4 => 4 | 171 => 89 | 0 => 0 | 53 => 90 | 37 => 77 | 5 => 5 | 173 => 93 | 212 => 109 | 51 => 110 | 20 => 20 | 213 => 111 | 46 => 96 | 232 => 125 | 233 => 126 | n => n, fun | 17 => 3 | 18 => 6 | 19 => 7 | n => n⟩
theorem Tryd.laysM171 : Go.Proofs.LaysM.n171 Tryd.prog Tryd.laysM171_ren := {
  mixed := by kernel_rfl
  f129 := Tryd.func87.trans (congrArg some (by kernel_rfl))
  f171 := Tryd.func45.trans (congrArg some (by kernel_rfl))
  f243 := Tryd.func58.trans (congrArg some (by kernel_rfl))
  f246 := Tryd.func59.trans (congrArg some (by kernel_rfl))
  f283 := Tryd.func70.trans (congrArg some (by kernel_rfl))
  f284 := Tryd.func71.trans (congrArg some (by kernel_rfl))
  f285 := Tryd.func72.trans (congrArg some (by kernel_rfl))
  f286 := Tryd.func73.trans (congrArg some (by kernel_rfl))
  f317 := Tryd.func86.trans (congrArg some (by kernel_rfl))
  f318 := Tryd.func88.trans (congrArg some (by kernel_rfl))
  f319 := Tryd.func89.trans (congrArg some (by kernel_rfl))
  f320 := Tryd.func90.trans (congrArg some (by kernel_rfl))
  f337 := Tryd.func97.trans (congrArg some (by kernel_rfl))
  f338 := Tryd.func98.trans (congrArg some (by kernel_rfl))
  t0 := Tryd.underlying0
  a0 := Tryd.isAgg0
  z0 := Tryd.sizeOf0
  v0 := Tryd.zeroValue0
  t2 := Tryd.underlying2
  a2 := Tryd.isAgg2
  z2 := Tryd.sizeOf2
  v2 := Tryd.zeroValue2
  t3 := Tryd.underlying3
  a3 := Tryd.isAgg3
  z3 := Tryd.sizeOf3
  v3 := Tryd.zeroValue3
  t4 := Tryd.underlying4
  a4 := Tryd.isAgg4
  z4 := Tryd.sizeOf4
  v4 := Tryd.zeroValue4
  t5 := Tryd.underlying5
  a5 := Tryd.isAgg5
  z5 := Tryd.sizeOf5
  v5 := Tryd.zeroValue5
  t9 := Tryd.underlying9
  a9 := Tryd.isAgg9
  z9 := Tryd.sizeOf9
  v9 := Tryd.zeroValue9
  t20 := Tryd.underlying20
  a20 := Tryd.isAgg20
  z20 := Tryd.sizeOf20
  v20 := Tryd.zeroValue20
  t37 := Tryd.underlying77
  a37 := Tryd.isAgg77
  z37 := Tryd.sizeOf77
  v37 := Tryd.zeroValue77
  t46 := Tryd.underlying96
  a46 := Tryd.isAgg96
  z46 := Tryd.sizeOf96
  v46 := Tryd.zeroValue96
  t51 := Tryd.underlying110
  a51 := Tryd.isAgg110
  z51 := Tryd.sizeOf110
  v51 := Tryd.zeroValue110
  t53 := Tryd.underlying90
  a53 := Tryd.isAgg90
  z53 := Tryd.sizeOf90
  v53 := Tryd.zeroValue90
  t171 := Tryd.underlying89
  a171 := Tryd.isAgg89
  z171 := Tryd.sizeOf89
  v171 := Tryd.zeroValue89
  t173 := Tryd.underlying93
  a173 := Tryd.isAgg93
  z173 := Tryd.sizeOf93
  v173 := Tryd.zeroValue93
  t212 := Tryd.underlying109
  a212 := Tryd.isAgg109
  z212 := Tryd.sizeOf109
  v212 := Tryd.zeroValue109
  t213 := Tryd.underlying111
  a213 := Tryd.isAgg111
  z213 := Tryd.sizeOf111
  t232 := Tryd.underlying125
  a232 := Tryd.isAgg125
  z232 := Tryd.sizeOf125
  v232 := Tryd.zeroValue125
  t233 := Tryd.underlying126
  a233 := Tryd.isAgg126
  z233 := Tryd.sizeOf126
  v233 := Tryd.zeroValue126
  g17 := by kernel_rfl
  g18 := by kernel_rfl
  g19 := by kernel_rfl
  i0 := by kernel_rfl
  i2 := by kernel_rfl
  i3 := by kernel_rfl
  i4 := by kernel_rfl
  i5 := by kernel_rfl
  i9 := by kernel_rfl
  i20 := by kernel_rfl
  i37 := by kernel_rfl
  i46 := by kernel_rfl
  i51 := by kernel_rfl
  i53 := by kernel_rfl
  i171 := by kernel_rfl
  i173 := by kernel_rfl
  i212 := by kernel_rfl
  i232 := by kernel_rfl
  i233 := by kernel_rfl
  m17 := by kernel_rfl
  m18 := by kernel_rfl
  m19 := by kernel_rfl }
end Go.Proofs

set_option linter.unusedVariables false
set_option linter.unusedSimpArgs false
namespace Go.Proofs.YtjbnkdpeohbakaaDoor.X
open Go Go.RowKit Go.Proofs.YtjbnkdpeohbakaaDoorW.PrintWords Go.Proofs.YtjbnkdpeohbakaaDoor.Base
abbrev CallSpec.plain (args : List AV) (x : XV) : CallSpec := ⟨[], [], args, [], fun _ => True, fun _ => x, fun _ => [], fun _ => x, fun _ => [], [], []⟩
theorem holds_after {ν : Val} {w w' : World} (h : Holds (rootOf ν [] w) ν [] w) (hb : Below w.heap.size w w') : Holds (rootOf ν [] w) ν [] w' :=
  ⟨h.kon, Upd.of_below hb, (fun k e he => by cases k <;> cases he), (fun k e j he => by cases k <;> cases he), h.agr⟩
theorem plain_local {f : FuncId} {args : List AV} {x : XV} (h : ∀ ν w, konD.ok w → Calls Tryd.prog f (args.map (AV.den ν)).toArray w fun e w' => e = .returned (x.den ν) ∧ Below w.heap.size w w') : (CallSpec.plain args x).Local Tryd.prog f :=
  fun ν w hh => (h ν w hh.konW).mono fun e w' ⟨h1, h2⟩ => ⟨ν, fun _ => 0, trivial, h1, holds_after hh h2⟩
theorem below_same (w : World) : Below w.heap.size w w := ⟨rfl, rfl, rfl, Nat.le_refl _, fun _ _ => rfl⟩
abbrev sv' (s : ByteArray) : AV := .c (.v (.string s))
def bs (l : List UInt8) : ByteArray := ⟨l.toArray⟩
def trimW (s c : ByteArray) : ByteArray := bs (Lib.trimS s.data.toList c.data.toList)
def tpreW (s p : ByteArray) : ByteArray := bs (Lib.trimPrefix s.data.toList p.data.toList)
def tsufW (s p : ByteArray) : ByteArray := bs (Lib.trimSuffix s.data.toList p.data.toList)
def hpreF (s p : ByteArray) : Bool := Lib.hasPrefix s.data.toList p.data.toList
def hsufF (s p : ByteArray) : Bool := Lib.hasSuffix s.data.toList p.data.toList
def fmtW (n : Int) : ByteArray := bs (Lib.itoa n)
abbrev trimC (s c : ByteArray) : CallSpec := .plain [sv' s, sv' c] (.a (sv' (trimW s c)))
abbrev cutpC (s p : ByteArray) : CallSpec := .plain [sv' s, sv' p] (.tup [sv' (tpreW s p), .c (.v (.bool (hpreF s p)))])
abbrev cutsC (s p : ByteArray) : CallSpec := .plain [sv' s, sv' p] (.tup [sv' (tsufW s p), .c (.v (.bool (hsufF s p)))])
abbrev tpreC (s p : ByteArray) : CallSpec := .plain [sv' s, sv' p] (.a (sv' (tpreW s p)))
abbrev parsC (s : ByteArray) (v : Int) : CallSpec := .plain [sv' s, .c (.v (.int .i64 10)), .c (.v (.int .i64 64))] (.tup [.c (.v (.int .i64 v)), .c (.v .nilIface)])
abbrev fmtC (n : Int) : CallSpec := .plain [.c (.v (.int .i64 n)), .c (.v (.int .i64 10))] (.a (sv' (fmtW n)))
theorem trim_call : Callable Tryd.prog 17 := ⟨_, Tryd.func17, by kernel_rfl, rfl⟩
theorem trim_local (s c : ByteArray) (hs : s.size ≤ 9223372036854775807) (hc : c.size < 4294967281) (ha : (c.data.toList.all fun b => b.toNat < 128) = true) : (trimC s c).Local Tryd.prog 17 :=
  plain_local fun ν w _ => Any.strings_Trim_laid Tryd.lays160 (by kernel_rfl) s c w hs hc fun j b hj => by
    have := List.all_eq_true.1 ha b (List.mem_of_getElem? hj)
    simpa using this
theorem cutp_call : Callable Tryd.prog 55 := ⟨_, Tryd.func55, by kernel_rfl, rfl⟩
theorem cutp_local (s p : ByteArray) : (cutpC s p).Local Tryd.prog 55 :=
  plain_local fun ν w _ => (Any.strings_CutPrefix Tryd.lays103 s p w).mono fun e w' ⟨h1, h2⟩ => ⟨h1, by rw [h2]; exact below_same w⟩
theorem cuts_call : Callable Tryd.prog 18 := ⟨_, Tryd.func18, by kernel_rfl, rfl⟩
theorem cuts_local (s p : ByteArray) (hs : s.size ≤ 9223372036854775807) : (cutsC s p).Local Tryd.prog 18 :=
  plain_local fun ν w _ => (Any.strings_CutSuffix Tryd.lays104 s p w hs).mono fun e w' ⟨h1, h2⟩ => ⟨h1, by rw [h2]; exact below_same w⟩
theorem tpre_call : Callable Tryd.prog 56 := ⟨_, Tryd.func56, by kernel_rfl, rfl⟩
theorem tpre_local (s p : ByteArray) : (tpreC s p).Local Tryd.prog 56 :=
  plain_local fun ν w _ => (Any.strings_TrimPrefix Tryd.lays101 s p w).mono fun e w' ⟨h1, h2⟩ => ⟨h1, by rw [h2]; exact below_same w⟩
theorem pars_call : Callable Tryd.prog 57 := ⟨_, Tryd.func57, by kernel_rfl, rfl⟩
theorem pars_local (s : ByteArray) (v : Int) (hs : s.size ≤ 1000000) (h : Lib.parseIntB 64 s.data.toList = .ok v) : (parsC s v).Local Tryd.prog 57 :=
  plain_local fun ν w _ => (Any.strconv_ParseInt_10_at64_ok Tryd.laysC174 s (by omega) v h w).mono fun e w' ⟨h1, h2⟩ => ⟨h1, by
    rcases h2 with h2 | ⟨t, h2⟩
    · rw [h2]; exact below_same w
    · rw [h2]; exact Lib.bytesWorld_below ..⟩
theorem kon_g : ∃ g, Tryd.prog.globalNamed konName = some g := Option.isSome_iff_exists.1 (by kernel_rfl)
theorem max_g : ∃ g, Tryd.prog.globalNamed maxName = some g := Option.isSome_iff_exists.1 (by kernel_rfl)
theorem fmt_call : Callable Tryd.prog 46 := ⟨_, Tryd.func46, by kernel_rfl, rfl⟩
theorem fmt_local (n : Int) (h0 : -9223372036854775808 ≤ n) (h1 : n ≤ 9223372036854775807) : (fmtC n).Local Tryd.prog 46 :=
  plain_local fun ν w hw => (Any.strconv_FormatInt_10 Tryd.laysM173 n h0 h1 w (hw.1 _ kon_g.choose_spec)).mono fun e w' ⟨h1, k, os, h2⟩ => ⟨h1, by
    rw [h2]; exact Lib.below_grow _ w (Nat.le_refl _) k os⟩
def partsW (s sep : ByteArray) : List ByteArray := Lib.splitB sep 0 (Lib.countB s sep) s
abbrev strE (ty : Nat) (l : List ByteArray) : Ent := ⟨true, false, ty, 1, 1, fun _ => l.length, fun _ => l.length, fun _ i => [.v (.string (l.getD i ByteArray.empty))], []⟩
abbrev splitC (s sep : ByteArray) (k : Nat) : CallSpec := ⟨[], [], [sv' s, sv' sep], [], fun _ => True, fun _ => .a (.c (.sl 0 0 0 1 (partsW s sep).length (partsW s sep).length)), fun _ => [strE 9 (partsW s sep)], fun _ => .a (.c (.sl k 0 0 1 (partsW s sep).length (partsW s sep).length)), fun _ => [strE 9 (partsW s sep)], [], []⟩
theorem split_call : Callable Tryd.prog 20 := ⟨_, Tryd.func20, by kernel_rfl, rfl⟩
theorem split_local (s sep : ByteArray) (k : Nat) (hs : s.size < 4294967281) (h1 : 1 ≤ sep.size) : (splitC s sep k).Local Tryd.prog 20 := by
  intro ν w hh
  obtain ⟨g, hg⟩ := max_g
  obtain ⟨m, hm⟩ := hh.konW.2 g hg
  have hcell : w.cell? ⟨Tryd.lays146_ren.g 1, 0, none⟩ = some (.int .i64 m) := by
    have e : g = Tryd.lays146_ren.g 1 := Option.some.inj (hg.symm.trans (by kernel_rfl))
    have := World.var?_cell hg hm 0
    rw [← e]
    exact this
  have hlen : (partsW s sep).length = Lib.countB s sep + 1 := Lib.splitB_all sep h1 0 _ s rfl
  have hle := Lib.countB_le sep h1 s.size s (Nat.le_refl _)
  refine (Any.strings_Split Tryd.lays146 (by kernel_rfl) s sep m w hs hcell h1).mono fun e w' ⟨he, hw⟩ => ⟨_, fun _ => 0, trivial, ?_, hw ▸ hh.new (e := strE 9 (partsW s sep)) (by show 9 ≠ itTy; decide) rfl ⟨(fun h => by cases h), .inl rfl⟩ rfl (fun i _ => ⟨rfl, fun y hy => by
    have hy : y ∈ [CV.v (.string ((partsW s sep).getD i ByteArray.empty))] := hy
    simp only [List.mem_cons, List.not_mem_nil, or_false] at hy
    subst hy
    exact ⟨rfl, rfl⟩⟩) (by simp [partsW]) (Nat.le_refl _) (by show (partsW s sep).length ≤ maxLen; rw [hlen]; unfold maxLen; omega) (fun i hi c x hx => ?_)⟩
  · rw [he]
    simp [XV.den, AV.den, CV.den, Val.set, Addr.add, hlen]
  · have hi : i < (partsW s sep).length := hi
    have hx : [CV.v (.string ((partsW s sep).getD i ByteArray.empty))][c]? = some x := hx
    match c, hx with
    | 0, hx =>
      cases hx
      show ((partsW s sep).map Value.string).toArray[i * 1 + 0]? = _
      simp [hi, CV.den]
end Go.Proofs.YtjbnkdpeohbakaaDoor.X

set_option linter.unusedVariables false
set_option linter.unusedSimpArgs false
namespace Go.Proofs.YtjbnkdpeohbakaaDoor.X
open Go.RowKit Go.Proofs.YtjbnkdpeohbakaaDoorW.PrintWords Go.Proofs.YtjbnkdpeohbakaaDoor.Base
inductive Hint where
  | k
  | l (h : Hint)
  | r (h : Hint)
  | n (a b : Hint)
  | c (h : Hint)
def Hint.cs : Nat → Hint → Hint
  | 0, h => h
  | m + 1, h => .c (Hint.cs m h)
def prune : Hint → Tree → Tree
  | .l h, .br b t _ => .chk (b = true) (prune h t)
  | .r h, .br b _ e => .chk (b = false) (prune h e)
  | .n h g, .br b t e => .br b (prune h t) (prune g e)
  | .n h g, .both t e => .both (prune h t) (prune g e)
  | .c h, .chk p t => .chk p (prune h t)
  | .c h, .callf f args H C k => .callf f args H C fun c => prune h (k c)
  | .c h, .all g k => .all g fun c => prune h (k c)
  | .c h, .every σ k => .every σ fun c => prune h (k c)
  | .c h, .some_ σ k => .some_ σ fun c => prune h (k c)
  | .c h, .hyp p t => .hyp p (prune h t)
  | .c h, .sub t => .sub (prune h t)
  | _, t => t
theorem ok_prune {P : Program} {nt : Nat} : ∀ {h : Hint} {T : Tree} {R : Root} {Rp : Ending → World → Prop}, ok P R nt Rp (prune h T) → ok P R nt Rp T := by
  intro h
  induction h with
  | k => intro T R Rp o; unfold prune at o; exact o
  | l h ih =>
    intro T R Rp o
    cases T with
    | br b t e => exact ⟨fun _ => ih o.2, fun hb => (by rw [show b = true from o.1] at hb; cases hb)⟩
    | _ => exact o
  | r h ih =>
    intro T R Rp o
    cases T with
    | br b t e => exact ⟨fun hb => (by rw [show b = false from o.1] at hb; cases hb), fun _ => ih o.2⟩
    | _ => exact o
  | n h g ih1 ih2 =>
    intro T R Rp o
    cases T with
    | br b t e => exact ⟨fun hb => ih1 (o.1 hb), fun hb => ih2 (o.2 hb)⟩
    | both t e => exact ⟨ih1 o.1, ih2 o.2⟩
    | _ => exact o
  | c h ih =>
    intro T R Rp o
    cases T with
    | chk p t => exact ⟨o.1, ih o.2⟩
    | callf f args H C k => exact ⟨o.1, o.2.1, o.2.2.1, fun c hc => ih (o.2.2.2 c hc)⟩
    | all g k => exact fun c hc => ih (o c hc)
    | every σ k => exact fun s => ih (o s)
    | some_ σ k => exact ⟨o.choose, ih o.choose_spec⟩
    | hyp p t => exact fun hp => ih (o hp)
    | sub t => exact fun R Rp => ih (o R Rp)
    | _ => exact o
theorem local_ofP {G : Ctr} {I : Inv} {f : FuncId} {fn : Func} (hf : Tryd.prog.funcs[f]? = some fn) {C : CallSpec} (hl : C.args0.all (AV.lt C.H0.length) = true) {keep : List Nat} {h : Hint} {T : Tree} (he : prune h (xfunc tab G I fn C.args0 C.H0 keep) = T) (hok : ∀ ν w, ok Tryd.prog (rootOf ν C.H0 w) fn.ntmps (C.Post ν w) T) : C.Local Tryd.prog f :=
  fun ν w hh => calls_of tab_ok mixed hf rfl hh hl (ok_prune (he ▸ hok ν w))
end Go.Proofs.YtjbnkdpeohbakaaDoor.X

set_option linter.unusedVariables false
set_option linter.unusedSimpArgs false
namespace Go.Proofs.YtjbnkdpeohbakaaDoor.X.Ip
open Go Go.RowKit Go.Proofs.YtjbnkdpeohbakaaDoorW.PrintWords Go.Proofs.YtjbnkdpeohbakaaDoor.Base Go.Proofs.YtjbnkdpeohbakaaDoor.X
abbrev iv (x : Int) : CV := .v (.int .i64 x)
abbrev bv (x : Bool) : CV := .v (.bool x)
abbrev sc (x : ByteArray) : CV := .v (.string x)
abbrev iav (x : Int) : AV := .c (.v (.int .i64 x))
abbrev ia (x : Int) : XV := .a (.c (.v (.int .i64 x)))
abbrev bool (b : Bool) : XV := .a (.c (.v (.bool b)))
abbrev nilE : CV := .v .nilIface
abbrev errE (n : Int) : CV := .v (.iface 33 (.int .i64 n))
abbrev bptr (k sz : Nat) : AV := .c (.ptr ⟨k, 0, 0, sz, 0, 0, 0, 0⟩)
def onlyT0 : List Nat → Tm → Tm
  | [], _ => []
  | t :: r, tm => match tm.get t with | some x => (t, x) :: onlyT0 r tm | none => onlyT0 r tm
def letterF (x : Int) : Bool := bif decide (x ≥ 97) then decide (x ≤ 122) else false
abbrev letterC (x : Int) : CallSpec := .plain [.c (.v (.int .u8 x))] (bool (letterF x))
def badF (x : Int) : Bool := bif (bif (bif !(letterF x) then (bif decide (x < 48) then true else decide (x > 57)) else false) then x != 95 else false) then x != 46 else false
def headF (s : ByteArray) : Bool := bif (bif decide ((s.size : Int) < 1) then true else decide ((s.size : Int) > 24)) then true else !(letterF (bt' s 0))
def allF (s : ByteArray) (n : Nat) : Bool := (List.range n).all fun i => !(badF (bt' s i))
def nameF (s : ByteArray) : Bool := bif headF s then false else allF s s.size
abbrev nameC (s : ByteArray) : CallSpec := .plain [sv' s] (bool (nameF s))
abbrev NameS (s : ByteArray) : Type := { i : Nat // i ≤ s.size ∧ allF s i = true }
def nameI (s : ByteArray) (tm : Tm) (H : Hp) : LoopInv := ⟨NameS s, fun i => ((3, ia i.1) :: onlyT0 [0] tm, H), fun i => s.size - i.1, some ⟨0, Nat.zero_le _, rfl⟩, [], .l (List.range H.length), [], fun _ _ => .l (List.range H.length)⟩
abbrev digS : ByteArray := ⟨#[48, 49, 50, 51, 52, 53, 54, 55, 56, 57]⟩
abbrev minS : ByteArray := ⟨#[45]⟩
abbrev rS : ByteArray := ⟨#[114]⟩
def nonumF (s : ByteArray) : Bool := bif (bif decide (((tpreW s minS).size : Int) < 1) then true else decide (((tpreW s minS).size : Int) > 18)) then true else !((trimW (tpreW s minS) digS).toList == ByteArray.empty.toList)
def valF (s : ByteArray) : Int := match Lib.parseIntB 64 s.data.toList with | .ok v => v | _ => 0
def numF (s : ByteArray) : Int × Bool := bif nonumF s then (0, false) else (valF s, true)
abbrev numC (s : ByteArray) : CallSpec := .plain [sv' s] (.tup [iav (numF s).1, .c (bv (numF s).2)])
def regF (s : ByteArray) : Int × Bool :=
  ((numF (tpreW s rS)).1, bif (bif (bif (bif hpreF s rS then (numF (tpreW s rS)).2 else false) then decide ((numF (tpreW s rS)).1 ≥ 0) else false) then decide ((numF (tpreW s rS)).1 < 16) else false) then (tpreW s rS).toList == (fmtW (numF (tpreW s rS)).1).toList else false)
abbrev regC (s : ByteArray) : CallSpec := .plain [sv' s] (.tup [iav (regF s).1, .c (bv (regF s).2)])
def strAt : List AV → Nat → ByteArray
  | .c (.v (.string s)) :: _, 0 => s
  | _ :: r, n + 1 => strAt r n
  | _, _ => ByteArray.empty
def intOf : List AV → Int
  | .c (.v (.int _ z)) :: _ => z
  | _ => 0
def ipG : Ctr := fun f args H =>
  bif Nat.beq f 41 then some (letterC (intOf args)) else bif Nat.beq f 56 then some (tpreC (strAt args 0) (strAt args 1)) else bif Nat.beq f 17 then some (trimC (strAt args 0) (strAt args 1))
  else bif Nat.beq f 55 then some (cutpC (strAt args 0) (strAt args 1)) else bif Nat.beq f 57 then some (parsC (strAt args 0) (valF (strAt args 0))) else bif Nat.beq f 44 then some (numC (strAt args 0))
  else bif Nat.beq f 46 then some (fmtC (intOf args)) else bif Nat.beq f 43 then some (regC (strAt args 0)) else bif Nat.beq f 19 then some (nameC (strAt args 0)) else none
def tletter (x : Int) : Tree :=
  Tree.chk (decide (x ≥ (97 : Int)) = true → decide (x ≥ (97 : Int)) = true)
 (Tree.chk (decide (x ≥ (97 : Int)) = true → decide (x ≥ (97 : Int)) = true)
 (Tree.done (XV.a (AV.c (CV.v (Value.bool (bif decide (x ≥ (97 : Int)) then decide (x ≤ (122 : Int)) else false))))) []))
theorem tletter_eq (x : Int) : prune (.k) (xfunc tab noCtr noInv Go.Proofs.Tryd.f41 [.c (.v (.int .u8 x))] [] []) = tletter x := by kernel_rfl
def tname (s : ByteArray) : Tree :=
  Tree.chk ((!decide ((↑(ByteArray.size s) : Int) < (1 : Int))) = true → (!decide ((↑(ByteArray.size s) : Int) < (1 : Int))) = true)
 (Tree.chk ((!decide ((↑(ByteArray.size s) : Int) < (1 : Int))) = true → (!decide ((↑(ByteArray.size s) : Int) < (1 : Int))) = true)
 (Tree.chk (decide ((↑(ByteArray.size s) : Int) < (1 : Int)) = false → (!decide ((↑(ByteArray.size s) : Int) < (1 : Int))) = true)
 (Tree.chk ((!bif decide ((↑(ByteArray.size s) : Int) < (1 : Int)) then true else decide ((↑(ByteArray.size s) : Int) > (24 : Int))) = true → (!bif decide ((↑(ByteArray.size s) : Int) < (1 : Int)) then true else decide ((↑(ByteArray.size s) : Int) > (24 : Int))) = true)
 (Tree.chk ((!bif decide ((↑(ByteArray.size s) : Int) < (1 : Int)) then true else decide ((↑(ByteArray.size s) : Int) > (24 : Int))) = true → (0 : Int) ≤ (0 : Int) ∧ (0 : Int) < (↑(ByteArray.size s) : Int))
 (Tree.br (!bif decide ((↑(ByteArray.size s) : Int) < (1 : Int)) then true else decide ((↑(ByteArray.size s) : Int) > (24 : Int)))
 (Tree.chk ((!bif decide ((↑(ByteArray.size s) : Int) < (1 : Int)) then true else decide ((↑(ByteArray.size s) : Int) > (24 : Int))) = true)
 (Tree.callf 41 [AV.c (CV.v (Value.int IntKind.u8 (bt' s (Int.toNat (0 : Int)))))] [] (letterC (bt' s (Int.toNat (0 : Int)))) fun c => Tree.chk ((bif decide ((↑(ByteArray.size s) : Int) < (1 : Int)) then true else decide ((↑(ByteArray.size s) : Int) > (24 : Int))) = false → (!bif decide ((↑(ByteArray.size s) : Int) < (1 : Int)) then true else decide ((↑(ByteArray.size s) : Int) > (24 : Int))) = true)
 (Tree.br (bif bif decide ((↑(ByteArray.size s) : Int) < (1 : Int)) then true else decide ((↑(ByteArray.size s) : Int) > (24 : Int)) then true else !letterF (bt' s (Int.toNat (0 : Int))))
 (Tree.done (XV.a (AV.c (CV.v (Value.bool false)))) [])
 (Tree.both
 (Tree.chk (XV.a (AV.c (CV.v (Value.int IntKind.i64 (0 : Int)))) = XV.a (AV.c (CV.v (Value.int IntKind.i64 (0 : Int)))))
 (Tree.chk (XV.a (AV.c (CV.v (Value.string s))) = XV.a (AV.c (CV.v (Value.string s))))
 (Tree.need True)))
 (Tree.every (NameS s) fun s_1 => Tree.br (decide ((↑(Subtype.val s_1) : Int) < (↑(ByteArray.size s) : Int)))
 (Tree.chk ((0 : Int) ≤ (↑(Subtype.val s_1) : Int) ∧ (↑(Subtype.val s_1) : Int) < (↑(ByteArray.size s) : Int))
 (Tree.callf 41 [AV.c (CV.v (Value.int IntKind.u8 (bt' s (Int.toNat (↑(Subtype.val s_1) : Int)))))] [] (letterC (bt' s (Int.toNat (↑(Subtype.val s_1) : Int)))) fun c => Tree.chk ((!letterF (bt' s (Int.toNat (↑(Subtype.val s_1) : Int)))) = true → (!letterF (bt' s (Int.toNat (↑(Subtype.val s_1) : Int)))) = true)
 (Tree.chk ((!letterF (bt' s (Int.toNat (↑(Subtype.val s_1) : Int)))) = true → (!letterF (bt' s (Int.toNat (↑(Subtype.val s_1) : Int)))) = true)
 (Tree.chk ((!letterF (bt' s (Int.toNat (↑(Subtype.val s_1) : Int))) && !decide (bt' s (Int.toNat (↑(Subtype.val s_1) : Int)) < (48 : Int))) = true → (!letterF (bt' s (Int.toNat (↑(Subtype.val s_1) : Int))) && !decide (bt' s (Int.toNat (↑(Subtype.val s_1) : Int)) < (48 : Int))) = true)
 (Tree.chk ((!letterF (bt' s (Int.toNat (↑(Subtype.val s_1) : Int)))) = true → (!letterF (bt' s (Int.toNat (↑(Subtype.val s_1) : Int)))) = true)
 (Tree.chk ((!letterF (bt' s (Int.toNat (↑(Subtype.val s_1) : Int)))) = true → decide (bt' s (Int.toNat (↑(Subtype.val s_1) : Int)) < (48 : Int)) = false → (!letterF (bt' s (Int.toNat (↑(Subtype.val s_1) : Int))) && !decide (bt' s (Int.toNat (↑(Subtype.val s_1) : Int)) < (48 : Int))) = true)
 (Tree.chk ((!letterF (bt' s (Int.toNat (↑(Subtype.val s_1) : Int)))) = true → (!letterF (bt' s (Int.toNat (↑(Subtype.val s_1) : Int)))) = true)
 (Tree.chk ((bif !letterF (bt' s (Int.toNat (↑(Subtype.val s_1) : Int))) then bif decide (bt' s (Int.toNat (↑(Subtype.val s_1) : Int)) < (48 : Int)) then true else decide (bt' s (Int.toNat (↑(Subtype.val s_1) : Int)) > (57 : Int)) else false) = true → (bif !letterF (bt' s (Int.toNat (↑(Subtype.val s_1) : Int))) then bif decide (bt' s (Int.toNat (↑(Subtype.val s_1) : Int)) < (48 : Int)) then true else decide (bt' s (Int.toNat (↑(Subtype.val s_1) : Int)) > (57 : Int)) else false) = true)
 (Tree.chk ((bif !letterF (bt' s (Int.toNat (↑(Subtype.val s_1) : Int))) then bif decide (bt' s (Int.toNat (↑(Subtype.val s_1) : Int)) < (48 : Int)) then true else decide (bt' s (Int.toNat (↑(Subtype.val s_1) : Int)) > (57 : Int)) else false) = true → (bif !letterF (bt' s (Int.toNat (↑(Subtype.val s_1) : Int))) then bif decide (bt' s (Int.toNat (↑(Subtype.val s_1) : Int)) < (48 : Int)) then true else decide (bt' s (Int.toNat (↑(Subtype.val s_1) : Int)) > (57 : Int)) else false) = true)
 (Tree.chk ((bif bif !letterF (bt' s (Int.toNat (↑(Subtype.val s_1) : Int))) then bif decide (bt' s (Int.toNat (↑(Subtype.val s_1) : Int)) < (48 : Int)) then true else decide (bt' s (Int.toNat (↑(Subtype.val s_1) : Int)) > (57 : Int)) else false then bt' s (Int.toNat (↑(Subtype.val s_1) : Int)) != (95 : Int) else false) = true → (bif bif !letterF (bt' s (Int.toNat (↑(Subtype.val s_1) : Int))) then bif decide (bt' s (Int.toNat (↑(Subtype.val s_1) : Int)) < (48 : Int)) then true else decide (bt' s (Int.toNat (↑(Subtype.val s_1) : Int)) > (57 : Int)) else false then bt' s (Int.toNat (↑(Subtype.val s_1) : Int)) != (95 : Int) else false) = true)
 (Tree.chk ((bif bif !letterF (bt' s (Int.toNat (↑(Subtype.val s_1) : Int))) then bif decide (bt' s (Int.toNat (↑(Subtype.val s_1) : Int)) < (48 : Int)) then true else decide (bt' s (Int.toNat (↑(Subtype.val s_1) : Int)) > (57 : Int)) else false then bt' s (Int.toNat (↑(Subtype.val s_1) : Int)) != (95 : Int) else false) = true → (bif bif !letterF (bt' s (Int.toNat (↑(Subtype.val s_1) : Int))) then bif decide (bt' s (Int.toNat (↑(Subtype.val s_1) : Int)) < (48 : Int)) then true else decide (bt' s (Int.toNat (↑(Subtype.val s_1) : Int)) > (57 : Int)) else false then bt' s (Int.toNat (↑(Subtype.val s_1) : Int)) != (95 : Int) else false) = true)
 (Tree.br (bif bif bif !letterF (bt' s (Int.toNat (↑(Subtype.val s_1) : Int))) then bif decide (bt' s (Int.toNat (↑(Subtype.val s_1) : Int)) < (48 : Int)) then true else decide (bt' s (Int.toNat (↑(Subtype.val s_1) : Int)) > (57 : Int)) else false then bt' s (Int.toNat (↑(Subtype.val s_1) : Int)) != (95 : Int) else false then bt' s (Int.toNat (↑(Subtype.val s_1) : Int)) != (46 : Int) else false)
 (Tree.done (XV.a (AV.c (CV.v (Value.bool false)))) [])
 (Tree.some_ (NameS s) fun s' => Tree.chk (ByteArray.size s - Subtype.val s' < ByteArray.size s - Subtype.val s_1)
 (Tree.chk (XV.a (AV.c (CV.v (Value.int IntKind.i64 (IntKind.wrap IntKind.i64 ((↑(Subtype.val s_1) : Int) + (1 : Int)))))) = XV.a (AV.c (CV.v (Value.int IntKind.i64 (↑(Subtype.val s') : Int)))))
 (Tree.chk (XV.a (AV.c (CV.v (Value.string s))) = XV.a (AV.c (CV.v (Value.string s))))
 (Tree.need True))))))))))))))))
 (Tree.done (XV.a (AV.c (CV.v (Value.bool true)))) []))))))
 (Tree.chk ((!bif decide ((↑(ByteArray.size s) : Int) < (1 : Int)) then true else decide ((↑(ByteArray.size s) : Int) > (24 : Int))) = true → False)
 (Tree.chk ((bif decide ((↑(ByteArray.size s) : Int) < (1 : Int)) then true else decide ((↑(ByteArray.size s) : Int) > (24 : Int))) = true)
 (Tree.chk (true = true)
 (Tree.done (XV.a (AV.c (CV.v (Value.bool false)))) [])))))))))
theorem tname_eq (s : ByteArray) : prune (.cs 5 (.n .k (.cs 2 (.l .k)))) (xfunc tab ipG (lpI fun _ tm H => nameI s tm H) Go.Proofs.Tryd.f19 [sv' s] [] []) = tname s := by kernel_rfl
abbrev tnum_0 : XV :=
  XV.tup [AV.c (CV.v (Value.int IntKind.i64 (0 : Int))), AV.c (CV.v (Value.bool false))]
def tnum (s : ByteArray) : Tree :=
  Tree.callf 56 [AV.c (CV.v (Value.string s)), AV.c (CV.v (Value.string { data := #[(45 : UInt8)] }))] [] (tpreC s { data := #[(45 : UInt8)] }) fun c => Tree.chk ((!decide ((↑(ByteArray.size (tpreW s { data := #[(45 : UInt8)] })) : Int) < (1 : Int))) = true → (!decide ((↑(ByteArray.size (tpreW s { data := #[(45 : UInt8)] })) : Int) < (1 : Int))) = true)
 (Tree.chk ((!decide ((↑(ByteArray.size (tpreW s { data := #[(45 : UInt8)] })) : Int) < (1 : Int))) = true → (!decide ((↑(ByteArray.size (tpreW s { data := #[(45 : UInt8)] })) : Int) < (1 : Int))) = true)
 (Tree.chk (decide ((↑(ByteArray.size (tpreW s { data := #[(45 : UInt8)] })) : Int) < (1 : Int)) = false → (!decide ((↑(ByteArray.size (tpreW s { data := #[(45 : UInt8)] })) : Int) < (1 : Int))) = true)
 (Tree.br (!bif decide ((↑(ByteArray.size (tpreW s { data := #[(45 : UInt8)] })) : Int) < (1 : Int)) then true else decide ((↑(ByteArray.size (tpreW s { data := #[(45 : UInt8)] })) : Int) > (18 : Int)))
 (Tree.chk ((!bif decide ((↑(ByteArray.size (tpreW s { data := #[(45 : UInt8)] })) : Int) < (1 : Int)) then true else decide ((↑(ByteArray.size (tpreW s { data := #[(45 : UInt8)] })) : Int) > (18 : Int))) = true)
 (Tree.callf 17 [AV.c (CV.v (Value.string (tpreW s { data := #[(45 : UInt8)] }))), AV.c (CV.v (Value.string { data := #[(48 : UInt8), (49 : UInt8), (50 : UInt8), (51 : UInt8), (52 : UInt8), (53 : UInt8), (54 : UInt8), (55 : UInt8), (56 : UInt8), (57 : UInt8)] }))] [] (trimC (tpreW s { data := #[(45 : UInt8)] }) { data := #[(48 : UInt8), (49 : UInt8), (50 : UInt8), (51 : UInt8), (52 : UInt8), (53 : UInt8), (54 : UInt8), (55 : UInt8), (56 : UInt8), (57 : UInt8)] }) fun c => Tree.chk ((bif decide ((↑(ByteArray.size (tpreW s { data := #[(45 : UInt8)] })) : Int) < (1 : Int)) then true else decide ((↑(ByteArray.size (tpreW s { data := #[(45 : UInt8)] })) : Int) > (18 : Int))) = false → (!bif decide ((↑(ByteArray.size (tpreW s { data := #[(45 : UInt8)] })) : Int) < (1 : Int)) then true else decide ((↑(ByteArray.size (tpreW s { data := #[(45 : UInt8)] })) : Int) > (18 : Int))) = true)
 (Tree.br (bif bif decide ((↑(ByteArray.size (tpreW s { data := #[(45 : UInt8)] })) : Int) < (1 : Int)) then true else decide ((↑(ByteArray.size (tpreW s { data := #[(45 : UInt8)] })) : Int) > (18 : Int)) then true else !ByteArray.toList (trimW (tpreW s { data := #[(45 : UInt8)] }) { data := #[(48 : UInt8), (49 : UInt8), (50 : UInt8), (51 : UInt8), (52 : UInt8), (53 : UInt8), (54 : UInt8), (55 : UInt8), (56 : UInt8), (57 : UInt8)] }) == ByteArray.toList { data := #[] })
 (Tree.done tnum_0 [])
 (Tree.callf 57 [AV.c (CV.v (Value.string s)), AV.c (CV.v (Value.int IntKind.i64 (10 : Int))), AV.c (CV.v (Value.int IntKind.i64 (64 : Int)))] [] (parsC s (valF s)) fun c => Tree.done (XV.tup [AV.c (CV.v (Value.int IntKind.i64 (valF s))), AV.c (CV.v (Value.bool true))]) []))))
 (Tree.chk ((!bif decide ((↑(ByteArray.size (tpreW s { data := #[(45 : UInt8)] })) : Int) < (1 : Int)) then true else decide ((↑(ByteArray.size (tpreW s { data := #[(45 : UInt8)] })) : Int) > (18 : Int))) = true → False)
 (Tree.chk ((bif decide ((↑(ByteArray.size (tpreW s { data := #[(45 : UInt8)] })) : Int) < (1 : Int)) then true else decide ((↑(ByteArray.size (tpreW s { data := #[(45 : UInt8)] })) : Int) > (18 : Int))) = true)
 (Tree.chk (true = true)
 (Tree.done tnum_0 [])))))))
theorem tnum_eq (s : ByteArray) : prune (.cs 4 (.n .k (.cs 2 (.l .k)))) (xfunc tab ipG noInv Go.Proofs.Tryd.f44 [sv' s] [] []) = tnum s := by kernel_rfl
abbrev treg_0 : ByteArray → AV :=
  fun s => AV.c (CV.v (Value.int IntKind.i64 (Prod.fst (numF (tpreW s { data := #[(114 : UInt8)] })))))
def treg (s : ByteArray) : Tree :=
  Tree.callf 55 [AV.c (CV.v (Value.string s)), AV.c (CV.v (Value.string { data := #[(114 : UInt8)] }))] [] (cutpC s { data := #[(114 : UInt8)] }) fun c => Tree.callf 44 [AV.c (CV.v (Value.string (tpreW s { data := #[(114 : UInt8)] })))] [] (numC (tpreW s { data := #[(114 : UInt8)] })) fun c => Tree.chk (hpreF s { data := #[(114 : UInt8)] } = true → hpreF s { data := #[(114 : UInt8)] } = true)
 (Tree.chk ((bif hpreF s { data := #[(114 : UInt8)] } then Prod.snd (numF (tpreW s { data := #[(114 : UInt8)] })) else false) = true → (bif hpreF s { data := #[(114 : UInt8)] } then Prod.snd (numF (tpreW s { data := #[(114 : UInt8)] })) else false) = true)
 (Tree.chk ((bif hpreF s { data := #[(114 : UInt8)] } then Prod.snd (numF (tpreW s { data := #[(114 : UInt8)] })) else false) = true → (bif hpreF s { data := #[(114 : UInt8)] } then Prod.snd (numF (tpreW s { data := #[(114 : UInt8)] })) else false) = true)
 (Tree.chk ((bif bif hpreF s { data := #[(114 : UInt8)] } then Prod.snd (numF (tpreW s { data := #[(114 : UInt8)] })) else false then decide (Prod.fst (numF (tpreW s { data := #[(114 : UInt8)] })) ≥ (0 : Int)) else false) = true → (bif bif hpreF s { data := #[(114 : UInt8)] } then Prod.snd (numF (tpreW s { data := #[(114 : UInt8)] })) else false then decide (Prod.fst (numF (tpreW s { data := #[(114 : UInt8)] })) ≥ (0 : Int)) else false) = true)
 (Tree.chk ((bif bif hpreF s { data := #[(114 : UInt8)] } then Prod.snd (numF (tpreW s { data := #[(114 : UInt8)] })) else false then decide (Prod.fst (numF (tpreW s { data := #[(114 : UInt8)] })) ≥ (0 : Int)) else false) = true → (bif bif hpreF s { data := #[(114 : UInt8)] } then Prod.snd (numF (tpreW s { data := #[(114 : UInt8)] })) else false then decide (Prod.fst (numF (tpreW s { data := #[(114 : UInt8)] })) ≥ (0 : Int)) else false) = true)
 (Tree.br (bif bif bif hpreF s { data := #[(114 : UInt8)] } then Prod.snd (numF (tpreW s { data := #[(114 : UInt8)] })) else false then decide (Prod.fst (numF (tpreW s { data := #[(114 : UInt8)] })) ≥ (0 : Int)) else false then decide (Prod.fst (numF (tpreW s { data := #[(114 : UInt8)] })) < (16 : Int)) else false)
 (Tree.chk ((bif bif bif hpreF s { data := #[(114 : UInt8)] } then Prod.snd (numF (tpreW s { data := #[(114 : UInt8)] })) else false then decide (Prod.fst (numF (tpreW s { data := #[(114 : UInt8)] })) ≥ (0 : Int)) else false then decide (Prod.fst (numF (tpreW s { data := #[(114 : UInt8)] })) < (16 : Int)) else false) = true)
 (Tree.callf 46 [treg_0 s, AV.c (CV.v (Value.int IntKind.i64 (10 : Int)))] [] (fmtC (Prod.fst (numF (tpreW s { data := #[(114 : UInt8)] })))) fun c => Tree.chk ((bif bif bif hpreF s { data := #[(114 : UInt8)] } then Prod.snd (numF (tpreW s { data := #[(114 : UInt8)] })) else false then decide (Prod.fst (numF (tpreW s { data := #[(114 : UInt8)] })) ≥ (0 : Int)) else false then decide (Prod.fst (numF (tpreW s { data := #[(114 : UInt8)] })) < (16 : Int)) else false) = true → (bif bif bif hpreF s { data := #[(114 : UInt8)] } then Prod.snd (numF (tpreW s { data := #[(114 : UInt8)] })) else false then decide (Prod.fst (numF (tpreW s { data := #[(114 : UInt8)] })) ≥ (0 : Int)) else false then decide (Prod.fst (numF (tpreW s { data := #[(114 : UInt8)] })) < (16 : Int)) else false) = true)
 (Tree.chk ((bif bif bif hpreF s { data := #[(114 : UInt8)] } then Prod.snd (numF (tpreW s { data := #[(114 : UInt8)] })) else false then decide (Prod.fst (numF (tpreW s { data := #[(114 : UInt8)] })) ≥ (0 : Int)) else false then decide (Prod.fst (numF (tpreW s { data := #[(114 : UInt8)] })) < (16 : Int)) else false) = true → (bif bif bif hpreF s { data := #[(114 : UInt8)] } then Prod.snd (numF (tpreW s { data := #[(114 : UInt8)] })) else false then decide (Prod.fst (numF (tpreW s { data := #[(114 : UInt8)] })) ≥ (0 : Int)) else false then decide (Prod.fst (numF (tpreW s { data := #[(114 : UInt8)] })) < (16 : Int)) else false) = true)
 (Tree.done (XV.tup [treg_0 s, AV.c (CV.v (Value.bool (bif bif bif bif hpreF s { data := #[(114 : UInt8)] } then Prod.snd (numF (tpreW s { data := #[(114 : UInt8)] })) else false then decide (Prod.fst (numF (tpreW s { data := #[(114 : UInt8)] })) ≥ (0 : Int)) else false then decide (Prod.fst (numF (tpreW s { data := #[(114 : UInt8)] })) < (16 : Int)) else false then ByteArray.toList (tpreW s { data := #[(114 : UInt8)] }) == ByteArray.toList (fmtW (Prod.fst (numF (tpreW s { data := #[(114 : UInt8)] })))) else false)))]) []))))
 (Tree.chk ((bif bif bif hpreF s { data := #[(114 : UInt8)] } then Prod.snd (numF (tpreW s { data := #[(114 : UInt8)] })) else false then decide (Prod.fst (numF (tpreW s { data := #[(114 : UInt8)] })) ≥ (0 : Int)) else false then decide (Prod.fst (numF (tpreW s { data := #[(114 : UInt8)] })) < (16 : Int)) else false) = true → False)
 (Tree.chk ((bif bif bif hpreF s { data := #[(114 : UInt8)] } then Prod.snd (numF (tpreW s { data := #[(114 : UInt8)] })) else false then decide (Prod.fst (numF (tpreW s { data := #[(114 : UInt8)] })) ≥ (0 : Int)) else false then decide (Prod.fst (numF (tpreW s { data := #[(114 : UInt8)] })) < (16 : Int)) else false) = false)
 (Tree.done (XV.tup [treg_0 s, AV.c (CV.v (Value.bool false))]) []))))))))
theorem treg_eq (s : ByteArray) : prune (.k) (xfunc tab ipG noInv Go.Proofs.Tryd.f43 [sv' s] [] []) = treg s := by kernel_rfl
end Go.Proofs.YtjbnkdpeohbakaaDoor.X.Ip

set_option linter.unusedVariables false
set_option linter.unusedSimpArgs false
namespace Go.Proofs.YtjbnkdpeohbakaaDoor.X.Ip
open Go Go.RowKit Go.Proofs.YtjbnkdpeohbakaaDoorW.PrintWords Go.Proofs.YtjbnkdpeohbakaaDoor.Base Go.Proofs.YtjbnkdpeohbakaaDoor.X
theorem str_eq (a b : ByteArray) : (a.toList == b.toList) = true ↔ a = b := by
  rw [ByteArray.toList_eq, ByteArray.toList_eq]
  obtain ⟨x⟩ := a
  obtain ⟨y⟩ := b
  constructor
  · intro h
    have := eq_of_beq h
    have e : x = y := Array.ext' this
    rw [e]
  · intro h
    cases h
    simp
theorem not_f {b : Bool} (h : (!b) = false) : b = true := by cases b; (· cases h); rfl
theorem not_t {b : Bool} (h : (!b) = true) : b = false := by cases b; (· rfl); cases h
theorem letter_call : Callable Tryd.prog 41 := ⟨_, Tryd.func41, by kernel_rfl, rfl⟩
theorem name_call : Callable Tryd.prog 19 := ⟨_, Tryd.func19, by kernel_rfl, rfl⟩
theorem num_call : Callable Tryd.prog 44 := ⟨_, Tryd.func44, by kernel_rfl, rfl⟩
theorem reg_call : Callable Tryd.prog 43 := ⟨_, Tryd.func43, by kernel_rfl, rfl⟩
theorem letter_local (x : Int) : (letterC x).Local Tryd.prog 41 := by
  refine local_ofP Tryd.func41 rfl (tletter_eq x) fun ν w => ?_
  repeat refine ok_chk' (by first | exact fun h => h | rfl | exact fun _ => rfl | (exact fun h => by rw [h]; rfl) | exact fun h => absurd h (by decide) | (intro h1 h2; rw [h1, h2]; rfl)) ?_
  exact ok_leaf (fun _ => 0) [] [] trivial rfl trivial rfl
theorem allF_succ (s : ByteArray) (n : Nat) : allF s (n + 1) = (allF s n && !(badF (bt' s n))) := by
  unfold allF
  rw [List.range_succ, List.all_append]
  simp
theorem allF_le {s : ByteArray} {n m : Nat} (h : n ≤ m) (hm : allF s m = true) : allF s n = true := by
  unfold allF at hm ⊢
  rw [List.all_eq_true] at hm ⊢
  exact fun x hx => hm x (List.mem_range.2 (Nat.lt_of_lt_of_le (List.mem_range.1 hx) h))
theorem name_local (s : ByteArray) : (nameC s).Local Tryd.prog 19 := by
  refine local_ofP Tryd.func19 rfl (tname_eq s) fun ν w => ?_
  have hF : headF s = true → nameF s = false := fun h => by unfold nameF; rw [h]; rfl
  repeat refine ok_chk' (by first | exact fun h => h | rfl | exact fun _ => rfl | (exact fun h => by rw [h]; rfl) | exact fun h => absurd h (by decide) | (intro h1 h2; rw [h1, h2]; rfl)) ?_
  refine ok_chk' (fun h => by have h := h; simp at h; exact ⟨by decide, by omega⟩) (ok_br' (fun hs => ok_chk' hs (ok_callf' letter_call (fits_of rfl rfl trivial fun c _ => ⟨⟨Nat.le_refl _, rfl⟩, ⟨rfl, rfl⟩, trivial⟩) (letter_local _) fun c _ => ?_)) fun hs => ?_)
  · repeat refine ok_chk' (by first | exact fun h => h | rfl | exact fun _ => rfl | (exact fun h => by rw [h]; rfl) | exact fun h => absurd h (by decide) | (intro h1 h2; rw [h1, h2]; rfl)) ?_
    refine ok_br' (fun h => ?_) fun h => ok_both' ?_ (ok_every' fun i => ok_br' (fun hi => ?_) fun hi => ?_)
    · have h : headF s = true := h
      exact ok_leaf (fun _ => 0) [] [] trivial (by show bool false = bool (nameF s); rw [hF h]) trivial rfl
    · repeat refine ok_chk' (by first | exact fun h => h | rfl | exact fun _ => rfl | (exact fun h => by rw [h]; rfl) | exact fun h => absurd h (by decide) | (intro h1 h2; rw [h1, h2]; rfl)) ?_
      trivial
    · have hi : i.1 < s.size := by simpa using hi
      refine ok_chk' ⟨by omega, by omega⟩ (ok_callf' letter_call (fits_of rfl rfl trivial fun c _ => ⟨⟨Nat.le_refl _, rfl⟩, ⟨rfl, rfl⟩, trivial⟩) (letter_local _) fun c _ => ?_)
      repeat refine ok_chk' (by first | exact fun h => h | rfl | exact fun _ => rfl | (exact fun h => by rw [h]; rfl) | exact fun h => absurd h (by decide) | (intro h1 h2; rw [h1, h2]; rfl)) ?_
      have hn : nameF s = allF s s.size := by unfold nameF; rw [show headF s = false from h]; rfl
      refine ok_br' (fun hb => ?_) fun hb => ?_
      · have hb : badF (bt' s (i.1 : Int).toNat) = true := hb
        have : allF s s.size = false := by
          cases hq : allF s s.size with
          | false => rfl
          | true =>
            have h2 := allF_le (n := i.1 + 1) hi hq
            rw [allF_succ] at h2
            rw [Int.toNat_natCast] at hb
            rw [hb] at h2
            simp at h2
        exact ok_leaf (fun _ => 0) [] [] trivial (by show bool false = bool (nameF s); rw [hn, this]) trivial rfl
      · have hb : badF (bt' s (i.1 : Int).toNat) = false := hb
        rw [Int.toNat_natCast] at hb
        have hsz : s.size ≤ 24 := by
          have h := h
          simp at h
          omega
        refine ok_some' ⟨i.1 + 1, hi, by rw [allF_succ, i.2.2, hb]; rfl⟩ (ok_chk' (by show s.size - (i.1 + 1) < s.size - i.1; omega) (ok_chk' (by rw [show IntKind.wrap .i64 ((i.1 : Int) + 1) = ((i.1 + 1 : Nat) : Int) from (IntWalk.i64_in _ ⟨by omega, by omega⟩).trans (by omega)]) ?_))
        repeat refine ok_chk' (by first | exact fun h => h | rfl | exact fun _ => rfl | (exact fun h => by rw [h]; rfl) | exact fun h => absurd h (by decide) | (intro h1 h2; rw [h1, h2]; rfl)) ?_
        trivial
    · have hi : i.1 = s.size := by have := i.2.1; simp at hi; omega
      have hn : nameF s = allF s s.size := by unfold nameF; rw [show headF s = false from h]; rfl
      have := i.2.2
      rw [hi] at this
      exact ok_leaf (fun _ => 0) [] [] trivial (by show bool true = bool (nameF s); rw [hn, this]) trivial rfl
  · have hs' : (bif decide ((s.size : Int) < 1) then true else decide ((s.size : Int) > 24)) = true := not_f hs
    have h : headF s = true := by unfold headF; rw [hs']; rfl
    refine ok_chk' (fun h => by rw [hs] at h; cases h) (ok_chk' hs' ?_)
    repeat refine ok_chk' (by first | exact fun h => h | rfl | exact fun _ => rfl | (exact fun h => by rw [h]; rfl) | exact fun h => absurd h (by decide) | (intro h1 h2; rw [h1, h2]; rfl)) ?_
    exact ok_leaf (fun _ => 0) [] [] trivial (by show bool false = bool (nameF s); rw [hF h]) trivial rfl
theorem drop_nil {p : UInt8 → Bool} : ∀ {l : List UInt8}, l.dropWhile p = [] → ∀ c ∈ l, p c = true
  | [], _, c, hc => by cases hc
  | a :: r, h, c, hc => by
    cases hp : p a with
    | false => simp [List.dropWhile, hp] at h
    | true =>
      simp only [List.dropWhile, hp] at h
      rcases List.mem_cons.1 hc with rfl | hc
      · exact hp
      · exact drop_nil h c hc
theorem take_mem {p : UInt8 → Bool} : ∀ {l : List UInt8}, ∀ c ∈ l.takeWhile p, p c = true
  | [], c, hc => by cases hc
  | a :: r, c, hc => by
    cases hp : p a with
    | false => simp [List.takeWhile, hp] at hc
    | true =>
      simp only [List.takeWhile, hp] at hc
      rcases List.mem_cons.1 hc with rfl | hc
      · exact hp
      · exact take_mem c hc
theorem bs_size (l : List UInt8) : (bs l).size = l.length := by simp [bs, ByteArray.size]
theorem mem_of_trim {l cs : List UInt8} (h : Lib.trimS l cs = []) : ∀ c ∈ l, c ∈ cs := by
  unfold Lib.trimS Lib.trimLeftS Lib.trimRightS at h
  have key : ∀ (l : List UInt8), l.dropWhile (cs.contains ·) = [] → ∀ c ∈ l, c ∈ cs := fun l hl c hc => by
    have := drop_nil hl c hc
    simpa using this
  intro c hc
  have h1 := key _ h
  by_cases hm : c ∈ (l.reverse.dropWhile (cs.contains ·)).reverse
  · exact h1 c hm
  · have hsplit := List.takeWhile_append_dropWhile (p := (cs.contains ·)) (l := l.reverse)
    have hc2 : c ∈ l.reverse := List.mem_reverse.2 hc
    rw [← hsplit, List.mem_append] at hc2
    rcases hc2 with hc2 | hc2
    · have := take_mem c hc2
      simpa using this
    · exact absurd (List.mem_reverse.2 hc2) hm
theorem dec_some : ∀ (l : List UInt8) (acc : Nat), (∀ c ∈ l, c ∈ digS.data.toList) → ∃ m, Lib.decFrom acc l = some m
  | [], acc, _ => ⟨acc, rfl⟩
  | b :: r, acc, h => by
    have hb := h b (List.mem_cons_self)
    obtain ⟨d, hd⟩ : ∃ d, Lib.digitVal b = some d := by
      have hb : b ∈ ([48, 49, 50, 51, 52, 53, 54, 55, 56, 57] : List UInt8) := hb
      simp only [List.mem_cons, List.not_mem_nil, or_false] at hb
      rcases hb with rfl | rfl | rfl | rfl | rfl | rfl | rfl | rfl | rfl | rfl <;> exact ⟨_, rfl⟩
    unfold Lib.decFrom
    rw [hd]
    exact dec_some r _ fun c hc => h c (List.mem_cons_of_mem _ hc)
theorem pars_ok {l bare : List UInt8} (hb : bare = Lib.trimPrefix l [45]) (h1 : 1 ≤ bare.length) (h2 : bare.length ≤ 18) (hd : ∀ c ∈ bare, c ∈ digS.data.toList) : ∃ v, Lib.parseIntB 64 l = .ok v ∧ l.length ≤ 19 := by
  rw [Lib.parseIntB_64]
  have hdig : ∀ c ∈ bare, c.toNat ≠ 43 ∧ c.toNat ≠ 45 := fun c hc => by
    have hb : c ∈ ([48, 49, 50, 51, 52, 53, 54, 55, 56, 57] : List UInt8) := hd c hc
    simp only [List.mem_cons, List.not_mem_nil, or_false] at hb
    rcases hb with rfl | rfl | rfl | rfl | rfl | rfl | rfl | rfl | rfl | rfl <;> decide
  obtain ⟨m, hm⟩ := dec_some bare 0 hd
  have hne : bare ≠ [] := fun e => by rw [e] at h1; simp at h1
  have hdn : Lib.decNat bare = some m := by
    unfold Lib.decNat
    rw [if_neg (by simpa using hne)]
    exact hm
  have hmag := Lib.parseMag_short bare h2
  rw [hdn] at hmag
  have hlt := Lib.decNat_small h2 hdn
  have hmag : Lib.parseMag bare = .ok m := hmag
  unfold Lib.trimPrefix Lib.hasPrefix at hb
  match l, hb with
  | [], hb => exact absurd (by rw [hb]; rfl) hne
  | c :: r, hb =>
    by_cases hc : c = 45
    · subst hc
      have hb : bare = r := by rw [hb]; simp
      subst hb
      refine ⟨-(m : Int), ?_, by simp; omega⟩
      unfold Lib.atoiAll
      have hn : ¬ 9223372036854775808 < m := by omega
      simp [hmag, hn]
    · have hb : bare = c :: r := by rw [hb]; simp [List.isPrefixOf, Ne.symm hc]
      have hc2 := hdig c (by rw [hb]; exact List.mem_cons_self)
      refine ⟨(m : Int), ?_, by rw [← hb]; omega⟩
      rw [hb] at hmag
      unfold Lib.atoiAll
      have hn : ¬ 9223372036854775808 ≤ m := by omega
      simp [hc2, hmag, hn]
theorem num_ok {s : ByteArray} (h : nonumF s = false) : Lib.parseIntB 64 s.data.toList = .ok (valF s) ∧ s.size ≤ 19 := by
  unfold nonumF at h
  cases h1 : (bif decide (((tpreW s minS).size : Int) < 1) then true else decide (((tpreW s minS).size : Int) > 18)) with
  | true => rw [h1] at h; cases h
  | false =>
    rw [h1, cond_false] at h
    have ht : trimW (tpreW s minS) digS = ByteArray.empty := (str_eq _ _).1 (not_f h)
    simp at h1
    have hsz : (tpreW s minS).size = (Lib.trimPrefix s.data.toList [45]).length := bs_size _
    have ht2 : Lib.trimS (Lib.trimPrefix s.data.toList [45]) digS.data.toList = [] := by
      have e := congrArg (fun b : ByteArray => b.data.toList) ht
      exact e
    obtain ⟨v, hv, hl⟩ := pars_ok rfl (by omega) (by omega) (mem_of_trim ht2)
    refine ⟨?_, by have e : s.data.toList.length = s.data.size := Array.length_toList; show s.data.size ≤ 19; omega⟩
    unfold valF
    rw [hv]
theorem tpre_size (s p : ByteArray) : (tpreW s p).size ≤ s.size := by
  show (bs _).size ≤ _
  rw [bs_size]
  have e : s.data.toList.length = s.data.size := Array.length_toList
  unfold Lib.trimPrefix
  split
  · rw [List.length_drop]; show _ ≤ s.data.size; omega
  · show _ ≤ s.data.size; omega
theorem num_local (s : ByteArray) (hs : s.size ≤ 100000) : (numC s).Local Tryd.prog 44 := by
  refine local_ofP Tryd.func44 rfl (tnum_eq s) fun ν w => ?_
  refine ok_callf' tpre_call (fits_of rfl rfl trivial fun c _ => ⟨⟨Nat.le_refl _, rfl⟩, ⟨rfl, rfl⟩, trivial⟩) (tpre_local _ _) fun c _ => ?_
  repeat refine ok_chk' (by first | exact fun h => h | rfl | exact fun _ => rfl | (exact fun h => by rw [h]; rfl) | exact fun h => absurd h (by decide) | (intro h1 h2; rw [h1, h2]; rfl)) ?_
  refine ok_br' (fun hs1 => ok_chk' hs1 (ok_callf' trim_call (fits_of rfl rfl trivial fun c _ => ⟨⟨Nat.le_refl _, rfl⟩, ⟨rfl, rfl⟩, trivial⟩) (trim_local _ _ (by have := tpre_size s minS; show (tpreW s minS).size ≤ 9223372036854775807; omega) (by decide) (by decide)) fun c2 _ => ?_)) fun hs1 => ?_
  · repeat refine ok_chk' (by first | exact fun h => h | rfl | exact fun _ => rfl | (exact fun h => by rw [h]; rfl) | exact fun h => absurd h (by decide) | (intro h1 h2; rw [h1, h2]; rfl)) ?_
    refine ok_br' (fun hn => ?_) fun hn => ?_
    · have hn : nonumF s = true := hn
      exact ok_leaf (fun _ => 0) [] [] trivial (by show _ = XV.tup [iav (numF s).1, .c (bv (numF s).2)]; unfold numF; rw [hn]; rfl) trivial rfl
    · have hn : nonumF s = false := hn
      obtain ⟨hv, hl⟩ := num_ok hn
      refine ok_callf' pars_call (fits_of rfl rfl trivial fun c _ => ⟨⟨Nat.le_refl _, rfl⟩, ⟨rfl, rfl⟩, trivial⟩) (pars_local s _ (by omega) hv) fun c3 _ => ?_
      exact ok_leaf (fun _ => 0) [] [] trivial (by show _ = XV.tup [iav (numF s).1, .c (bv (numF s).2)]; unfold numF; rw [hn]; rfl) trivial rfl
  · have hb : (bif decide (((tpreW s minS).size : Int) < 1) then true else decide (((tpreW s minS).size : Int) > 18)) = true := not_f hs1
    have hn : nonumF s = true := by unfold nonumF; rw [hb]; rfl
    refine ok_chk' (fun h => by rw [hs1] at h; cases h) (ok_chk' hb ?_)
    repeat refine ok_chk' (by first | exact fun h => h | rfl | exact fun _ => rfl | (exact fun h => by rw [h]; rfl) | exact fun h => absurd h (by decide) | (intro h1 h2; rw [h1, h2]; rfl)) ?_
    exact ok_leaf (fun _ => 0) [] [] trivial (by show _ = XV.tup [iav (numF s).1, .c (bv (numF s).2)]; unfold numF; rw [hn]; rfl) trivial rfl
theorem numF_in (s : ByteArray) : -9223372036854775808 ≤ (numF s).1 ∧ (numF s).1 ≤ 9223372036854775807 := by
  unfold numF
  cases h : nonumF s with
  | true => rw [cond_true]; exact ⟨by decide, by decide⟩
  | false =>
    have := Lib.parseIntB_bounds (num_ok h).1
    rw [cond_false]
    exact ⟨by have := this.1; simpa using this, by have := this.2; show valF s ≤ _; omega⟩
theorem reg_local (s : ByteArray) (hs : s.size ≤ 100000) : (regC s).Local Tryd.prog 43 := by
  refine local_ofP Tryd.func43 rfl (treg_eq s) fun ν w => ?_
  refine ok_callf' cutp_call (fits_of rfl rfl trivial fun c _ => ⟨⟨Nat.le_refl _, rfl⟩, ⟨rfl, rfl⟩, trivial⟩) (cutp_local _ _) fun c _ => ok_callf' num_call (fits_of rfl rfl trivial fun c _ => ⟨⟨Nat.le_refl _, rfl⟩, ⟨rfl, rfl⟩, trivial⟩) (num_local _ (by have := tpre_size s rS; show (tpreW s rS).size ≤ 100000; omega)) fun c2 _ => ?_
  repeat refine ok_chk' (by first | exact fun h => h | rfl | exact fun _ => rfl | (exact fun h => by rw [h]; rfl) | exact fun h => absurd h (by decide) | (intro h1 h2; rw [h1, h2]; rfl)) ?_
  refine ok_br' (fun h => ok_chk' h (ok_callf' fmt_call (fits_of rfl rfl trivial fun c _ => ⟨⟨Nat.le_refl _, rfl⟩, ⟨rfl, rfl⟩, trivial⟩) (fmt_local _ (numF_in _).1 (numF_in _).2) fun c3 _ => ?_)) fun h => ok_chk' (fun h2 => by rw [h] at h2; cases h2) (ok_chk' h ?_)
  · repeat refine ok_chk' (by first | exact fun h => h | rfl | exact fun _ => rfl | (exact fun h => by rw [h]; rfl) | exact fun h => absurd h (by decide) | (intro h1 h2; rw [h1, h2]; rfl)) ?_
    exact ok_leaf (fun _ => 0) [] [] trivial rfl trivial rfl
  · exact ok_leaf (fun _ => 0) [] [] trivial (by
      show _ = XV.tup [iav (regF s).1, .c (bv (regF s).2)]
      unfold regF
      rw [show (bif (bif (bif hpreF s rS then (numF (tpreW s rS)).2 else false) then decide ((numF (tpreW s rS)).1 ≥ 0) else false) then decide ((numF (tpreW s rS)).1 < 16) else false) = false from h]
      rfl) trivial rfl
end Go.Proofs.YtjbnkdpeohbakaaDoor.X.Ip

set_option linter.unusedVariables false
set_option linter.unusedSimpArgs false
namespace Go.Proofs.YtjbnkdpeohbakaaDoor.X
open Go Go.RowKit Go.Proofs.YtjbnkdpeohbakaaDoorW.PrintWords Go.Proofs.YtjbnkdpeohbakaaDoor.Base
def rnE (ρ : List Nat) (e : Ent) : Ent := bif e.box then ⟨true, true, e.ty, e.sz, 1, e.n, e.cap, fun _ _ => (e.f 0 0).map (CV.ren ρ), []⟩ else e
def rnAll (ρ : List Nat) : Hp → Hp
  | [] => []
  | e :: r => rnE ρ e :: rnAll ρ r
def mSpec (ρ : List Nat) (k : Nat) (args0 : List AV) (H0 : Hp) (good : (Nat → Nat) → Prop) (x0 : (Nat → Nat) → XV) (H1 : (Nat → Nat) → Hp) : CallSpec :=
  ⟨[], ρ, args0, H0, good, x0, H1, fun c => (x0 c).ren (ρ ++ (List.range ((H1 c).length - ρ.length)).map (· + k)), fun c => rnAll (ρ ++ (List.range ((H1 c).length - ρ.length)).map (· + k)) (H1 c), [], []⟩
def onlyT : List Nat → Tm → Tm
  | [], _ => []
  | t :: r, tm => match tm.get t with | some x => (t, x) :: onlyT r tm | none => onlyT r tm
end Go.Proofs.YtjbnkdpeohbakaaDoor.X

set_option linter.unusedVariables false
set_option linter.unusedSimpArgs false
namespace Go.Proofs.YtjbnkdpeohbakaaDoor.X.Ip
open Go Go.RowKit Go.Proofs.YtjbnkdpeohbakaaDoorW.PrintWords Go.Proofs.YtjbnkdpeohbakaaDoor.Base Go.Proofs.YtjbnkdpeohbakaaDoor.X
def shapeF : Nat → ByteArray × ByteArray
  | 0 => (⟨#[]⟩, ⟨#[]⟩)
  | 1 => (⟨#[115, 101, 116]⟩, ⟨#[65, 78]⟩)
  | 2 => (⟨#[109, 111, 118]⟩, ⟨#[65, 66]⟩)
  | 3 => (⟨#[97, 100, 100]⟩, ⟨#[65, 66, 67]⟩)
  | 4 => (⟨#[97, 100, 100, 105]⟩, ⟨#[65, 66, 78]⟩)
  | 5 => (⟨#[108, 100]⟩, ⟨#[65, 66, 78]⟩)
  | 6 => (⟨#[115, 116]⟩, ⟨#[65, 66, 78]⟩)
  | 7 => (⟨#[99, 97, 115]⟩, ⟨#[65, 66, 78]⟩)
  | 8 => (⟨#[106, 109, 112]⟩, ⟨#[84]⟩)
  | 9 => (⟨#[106, 101, 113]⟩, ⟨#[65, 66, 84]⟩)
  | 10 => (⟨#[106, 110, 101]⟩, ⟨#[65, 66, 84]⟩)
  | 11 => (⟨#[106, 108, 116]⟩, ⟨#[65, 66, 84]⟩)
  | 12 => (⟨#[99, 97, 108, 108]⟩, ⟨#[84]⟩)
  | 13 => (⟨#[114, 101, 116]⟩, ⟨#[]⟩)
  | 14 => (⟨#[112, 97, 114, 107]⟩, ⟨#[65]⟩)
  | 15 => (⟨#[117, 110, 112, 97, 114, 107]⟩, ⟨#[65]⟩)
  | 16 => (⟨#[97, 108, 108, 111, 99]⟩, ⟨#[65, 78]⟩)
  | 17 => (⟨#[115, 101, 108, 102]⟩, ⟨#[65]⟩)
  | 18 => (⟨#[110, 111, 119]⟩, ⟨#[65]⟩)
  | 19 => (⟨#[105, 110, 116, 114]⟩, ⟨#[65]⟩)
  | 20 => (⟨#[115, 101, 116, 105, 110, 116]⟩, ⟨#[]⟩)
  | 21 => (⟨#[109, 97, 114, 107]⟩, ⟨#[78, 65]⟩)
  | 22 => (⟨#[100, 111, 110, 101]⟩, ⟨#[65]⟩)
  | _ => (⟨#[]⟩, ⟨#[]⟩)
def hasS (i : Nat) : ByteArray := (shapeF i).2
def wordS (i : Nat) : ByteArray := (shapeF i).1
abbrev shapesE : Ent := Ent.rw true 51 2 23 23 fun i => [.v (.string (wordS i)), .v (.string (hasS i))]
abbrev shapesC (k : Nat) : CallSpec := mSpec [] k [] [] (fun _ => True) (fun _ => .a (.c (.sl 0 0 0 2 23 23))) fun _ => [shapesE]
structure Ln where
  lb : ByteArray
  op : Int
  a : Int
  b : Int
  c : Int
  n : Int
  tg : ByteArray
def Ln.cv (x : Ln) : List CV := [sc x.lb, iv x.op, iv x.a, iv x.b, iv x.c, iv x.n, sc x.tg]
abbrev Ln.box (x : Ln) : Ent := Ent.mkBox 26 x.cv
def noLn : Ln := ⟨ByteArray.empty, 0, 0, 0, 0, 0, ByteArray.empty⟩
def fieldF (x : Ln) (w : Int) (s : ByteArray) : Ln × Bool :=
  bif w == 65 then ({ x with a := (regF s).1 }, (regF s).2) else bif w == 66 then ({ x with b := (regF s).1 }, (regF s).2) else bif w == 67 then ({ x with c := (regF s).1 }, (regF s).2)
  else bif w == 78 then ({ x with n := (numF s).1 }, (numF s).2) else ({ x with tg := s }, nameF s)
abbrev fieldC (x : Ln) (w : Int) (s : ByteArray) (ρ : List Nat) : CallSpec := mSpec ρ 0 [bptr 0 7, .c (.v (.int .u8 w)), sv' s] [x.box] (fun _ => True) (fun _ => bool (fieldF x w s).2) fun _ => [(fieldF x w s).1.box]
abbrev tshapes_0 : CV :=
  CV.v (Value.string { data := #[(65 : UInt8), (78 : UInt8)] })
abbrev tshapes_1 : CV :=
  CV.v (Value.string { data := #[(65 : UInt8), (66 : UInt8), (78 : UInt8)] })
abbrev tshapes_2 : CV :=
  CV.v (Value.string { data := #[(84 : UInt8)] })
abbrev tshapes_3 : CV :=
  CV.v (Value.string { data := #[(65 : UInt8), (66 : UInt8), (84 : UInt8)] })
abbrev tshapes_4 : CV :=
  CV.v (Value.string { data := #[(65 : UInt8)] })
def tshapes (u : Unit) : Tree :=
  Tree.done (XV.a (AV.c (CV.sl 0 0 0 2 23 23))) [{ own := true, box := false, ty := 51, sz := 2, m := 1, n := fun x => 23, cap := fun x => 23, f := fun x i => List.getD [[CV.v (Value.string ByteArray.empty), CV.v (Value.string ByteArray.empty)], [CV.v (Value.string { data := #[(115 : UInt8), (101 : UInt8), (116 : UInt8)] }), tshapes_0], [CV.v (Value.string { data := #[(109 : UInt8), (111 : UInt8), (118 : UInt8)] }), CV.v (Value.string { data := #[(65 : UInt8), (66 : UInt8)] })], [CV.v (Value.string { data := #[(97 : UInt8), (100 : UInt8), (100 : UInt8)] }), CV.v (Value.string { data := #[(65 : UInt8), (66 : UInt8), (67 : UInt8)] })], [CV.v (Value.string { data := #[(97 : UInt8), (100 : UInt8), (100 : UInt8), (105 : UInt8)] }), tshapes_1], [CV.v (Value.string { data := #[(108 : UInt8), (100 : UInt8)] }), tshapes_1], [CV.v (Value.string { data := #[(115 : UInt8), (116 : UInt8)] }), tshapes_1], [CV.v (Value.string { data := #[(99 : UInt8), (97 : UInt8), (115 : UInt8)] }), tshapes_1], [CV.v (Value.string { data := #[(106 : UInt8), (109 : UInt8), (112 : UInt8)] }), tshapes_2], [CV.v (Value.string { data := #[(106 : UInt8), (101 : UInt8), (113 : UInt8)] }), tshapes_3], [CV.v (Value.string { data := #[(106 : UInt8), (110 : UInt8), (101 : UInt8)] }), tshapes_3], [CV.v (Value.string { data := #[(106 : UInt8), (108 : UInt8), (116 : UInt8)] }), tshapes_3], [CV.v (Value.string { data := #[(99 : UInt8), (97 : UInt8), (108 : UInt8), (108 : UInt8)] }), tshapes_2], [CV.v (Value.string { data := #[(114 : UInt8), (101 : UInt8), (116 : UInt8)] }), CV.v (Value.string { data := #[] })], [CV.v (Value.string { data := #[(112 : UInt8), (97 : UInt8), (114 : UInt8), (107 : UInt8)] }), tshapes_4], [CV.v (Value.string { data := #[(117 : UInt8), (110 : UInt8), (112 : UInt8), (97 : UInt8), (114 : UInt8), (107 : UInt8)] }), tshapes_4], [CV.v (Value.string { data := #[(97 : UInt8), (108 : UInt8), (108 : UInt8), (111 : UInt8), (99 : UInt8)] }), tshapes_0], [CV.v (Value.string { data := #[(115 : UInt8), (101 : UInt8), (108 : UInt8), (102 : UInt8)] }), tshapes_4], [CV.v (Value.string { data := #[(110 : UInt8), (111 : UInt8), (119 : UInt8)] }), tshapes_4], [CV.v (Value.string { data := #[(105 : UInt8), (110 : UInt8), (116 : UInt8), (114 : UInt8)] }), tshapes_4], [CV.v (Value.string { data := #[(115 : UInt8), (101 : UInt8), (116 : UInt8), (105 : UInt8), (110 : UInt8), (116 : UInt8)] }), CV.v (Value.string { data := #[] })], [CV.v (Value.string { data := #[(109 : UInt8), (97 : UInt8), (114 : UInt8), (107 : UInt8)] }), CV.v (Value.string { data := #[(78 : UInt8), (65 : UInt8)] })], [CV.v (Value.string { data := #[(100 : UInt8), (111 : UInt8), (110 : UInt8), (101 : UInt8)] }), tshapes_4]] i [], ov := [] }]
theorem tshapes_eq (u : Unit) : prune (.k) (xfunc tab noCtr noInv Go.Proofs.Tryd.f21 [] [] [0]) = tshapes u := by kernel_rfl
abbrev tfield_0 : Ln → List Ent :=
  fun x => [{ own := true, box := true, ty := 26, sz := 7, m := 1, n := fun x => 1, cap := fun x => 1, f := fun x_1 x_2 => [CV.v (Value.string x.1), CV.v (Value.int IntKind.i64 x.2), CV.v (Value.int IntKind.i64 x.3), CV.v (Value.int IntKind.i64 x.4), CV.v (Value.int IntKind.i64 x.5), CV.v (Value.int IntKind.i64 x.6), CV.v (Value.string x.7)], ov := [] }]
def tfield (x : Ln) (w : Int) (s : ByteArray) : Tree :=
  Tree.br (w == (65 : Int))
 (Tree.callf 43 [AV.c (CV.v (Value.string s))] (tfield_0 x) (regC s) fun c => Tree.done (XV.a (AV.c (CV.v (Value.bool (Prod.snd (regF s)))))) [{ own := true, box := true, ty := 26, sz := 7, m := 1, n := fun a => 1, cap := fun a => 1, f := fun x_1 x_2 => [CV.v (Value.string x.1), CV.v (Value.int IntKind.i64 x.2), CV.v (Value.int IntKind.i64 (Prod.fst (regF s))), CV.v (Value.int IntKind.i64 x.4), CV.v (Value.int IntKind.i64 x.5), CV.v (Value.int IntKind.i64 x.6), CV.v (Value.string x.7)], ov := [] }])
 (Tree.br (w == (66 : Int))
 (Tree.callf 43 [AV.c (CV.v (Value.string s))] (tfield_0 x) (regC s) fun c => Tree.done (XV.a (AV.c (CV.v (Value.bool (Prod.snd (regF s)))))) [{ own := true, box := true, ty := 26, sz := 7, m := 1, n := fun a => 1, cap := fun a => 1, f := fun x_1 x_2 => [CV.v (Value.string x.1), CV.v (Value.int IntKind.i64 x.2), CV.v (Value.int IntKind.i64 x.3), CV.v (Value.int IntKind.i64 (Prod.fst (regF s))), CV.v (Value.int IntKind.i64 x.5), CV.v (Value.int IntKind.i64 x.6), CV.v (Value.string x.7)], ov := [] }])
 (Tree.br (w == (67 : Int))
 (Tree.callf 43 [AV.c (CV.v (Value.string s))] (tfield_0 x) (regC s) fun c => Tree.done (XV.a (AV.c (CV.v (Value.bool (Prod.snd (regF s)))))) [{ own := true, box := true, ty := 26, sz := 7, m := 1, n := fun a => 1, cap := fun a => 1, f := fun x_1 x_2 => [CV.v (Value.string x.1), CV.v (Value.int IntKind.i64 x.2), CV.v (Value.int IntKind.i64 x.3), CV.v (Value.int IntKind.i64 x.4), CV.v (Value.int IntKind.i64 (Prod.fst (regF s))), CV.v (Value.int IntKind.i64 x.6), CV.v (Value.string x.7)], ov := [] }])
 (Tree.br (w == (78 : Int))
 (Tree.callf 44 [AV.c (CV.v (Value.string s))] (tfield_0 x) (numC s) fun c => Tree.done (XV.a (AV.c (CV.v (Value.bool (Prod.snd (numF s)))))) [{ own := true, box := true, ty := 26, sz := 7, m := 1, n := fun a => 1, cap := fun a => 1, f := fun x_1 x_2 => [CV.v (Value.string x.1), CV.v (Value.int IntKind.i64 x.2), CV.v (Value.int IntKind.i64 x.3), CV.v (Value.int IntKind.i64 x.4), CV.v (Value.int IntKind.i64 x.5), CV.v (Value.int IntKind.i64 (Prod.fst (numF s))), CV.v (Value.string x.7)], ov := [] }])
 (Tree.callf 19 [AV.c (CV.v (Value.string s))] (tfield_0 x) (nameC s) fun c => Tree.done (XV.a (AV.c (CV.v (Value.bool (nameF s))))) [{ own := true, box := true, ty := 26, sz := 7, m := 1, n := fun a => 1, cap := fun a => 1, f := fun x_1 x_2 => [CV.v (Value.string x.1), CV.v (Value.int IntKind.i64 x.2), CV.v (Value.int IntKind.i64 x.3), CV.v (Value.int IntKind.i64 x.4), CV.v (Value.int IntKind.i64 x.5), CV.v (Value.int IntKind.i64 x.6), CV.v (Value.string s)], ov := [] }]))))
theorem tfield_eq (x : Ln) (w : Int) (s : ByteArray) : prune (.k) (xfunc tab ipG noInv Go.Proofs.Tryd.f22 [bptr 0 7, .c (.v (.int .u8 w)), sv' s] [x.box] [0]) = tfield x w s := by kernel_rfl
abbrev tabS : ByteArray := ⟨#[32, 9]⟩
abbrev colS : ByteArray := ⟨#[58]⟩
abbrev spS : ByteArray := ⟨#[32]⟩
def skipF (ws : List ByteArray) (i : Nat) : Bool := bif (bif (wordS i).toList == ByteArray.empty.toList then true else !((wordS i).toList == (ws.getD 0 ByteArray.empty).toList)) then true else !(((hasS i).size : Int) == (ws.length : Int) - 1)
def fieldsF (has : ByteArray) (ws : List ByteArray) : Nat → Nat → Ln → Option Ln
  | 0, _, x => some x
  | f + 1, j, x => bif (fieldF x (bt' has j) (ws.getD (j + 1) ByteArray.empty)).2 then fieldsF has ws f (j + 1) (fieldF x (bt' has j) (ws.getD (j + 1) ByteArray.empty)).1 else none
def lastF (i : Nat) (x : Ln) : Option Ln := bif (bif (i : Int) == 7 then decide (x.a > 13) else false) then none else some x
def opF (ws : List ByteArray) : Nat → Nat → Option Ln
  | 0, _ => none
  | f + 1, i => bif skipF ws i then opF ws f (i + 1) else (fieldsF (hasS i) ws (ws.length - 1) 0 { noLn with op := i }).bind (lastF i)
def parseF (s : ByteArray) : Option Ln :=
  bif (bif (trimW s tabS).toList == ByteArray.empty.toList then true else bt' (trimW s tabS) 0 == 59) then some noLn
  else bif hsufF (trimW s tabS) colS then (bif nameF (tsufW (trimW s tabS) colS) then some { noLn with lb := tsufW (trimW s tabS) colS } else none)
  else opF (partsW (trimW s tabS) spS) 23 0
def parseX : Option Ln → XV
  | some x => .tup [.agg x.cv, .c nilE]
  | none => .tup [.agg noLn.cv, .c (errE 2)]
abbrev parseC (s : ByteArray) : CallSpec := .plain [sv' s] (parseX (parseF s))
abbrev OpS (s : ByteArray) : Type := { i : Nat // i ≤ 23 ∧ opF (partsW s spS) (23 - i) i = opF (partsW s spS) 23 0 }
abbrev FdS (s : ByteArray) (i : Nat) : Type := { p : Nat × Ln // p.1 ≤ (partsW s spS).length - 1 ∧ fieldsF (hasS i) (partsW s spS) ((partsW s spS).length - 1 - p.1) p.1 p.2 = fieldsF (hasS i) (partsW s spS) ((partsW s spS).length - 1) 0 { noLn with op := i } }
def numAt (tm : Tm) (t : Nat) : Nat := match tm.get t with | some (.a (.c (.v (.int _ z)))) => z.toNat | _ => 0
def opI (s : ByteArray) (tm : Tm) (H : Hp) : LoopInv := ⟨OpS s, fun i => ((39, ia i.1) :: onlyT [2, 6, 37, 38] tm, H.take 3), fun i => 23 - i.1, some ⟨0, Nat.zero_le _, rfl⟩, [], .l [0, 1, 2], [], fun _ _ => .l [0, 1, 2]⟩
def fdI (s : ByteArray) (tm : Tm) (H : Hp) : LoopInv := ⟨FdS s (numAt tm 7), fun p => ((70, ia p.1.1) :: onlyT [2, 7, 8, 9, 68, 69] tm, H.take 4 ++ [p.1.2.box]), fun p => (partsW s spS).length - 1 - p.1.1, some ⟨(0, { noLn with op := numAt tm 7 }), Nat.zero_le _, rfl⟩, [], .l [0, 1, 2, 3, 4], [], fun _ _ => .l [0, 1, 2, 3, 4]⟩
def parseG (s : ByteArray) : Ctr := fun f args H =>
  bif Nat.beq f 17 then some (trimC (strAt args 0) (strAt args 1)) else bif Nat.beq f 18 then some (cutsC (strAt args 0) (strAt args 1)) else bif Nat.beq f 19 then some (nameC (strAt args 0))
  else bif Nat.beq f 20 then some (splitC (strAt args 0) (strAt args 1) H.length) else bif Nat.beq f 21 then some (shapesC H.length)
  else match args with
  | [.c (.ptr r), .c (.v (.int _ w)), .c (.v (.string t))] => some (.ex Ln fun x => fieldC x w t [r.k])
  | _ => none
def parseI (s : ByteArray) : Inv := fun li tm H => bif Nat.beq li 0 then some (opI s tm H) else bif Nat.blt li 1000 then some (fdI s tm H) else none
abbrev tparse_0 : List CV :=
  [CV.v (Value.string ByteArray.empty), CV.v (Value.int IntKind.i64 (0 : Int)), CV.v (Value.int IntKind.i64 (0 : Int)), CV.v (Value.int IntKind.i64 (0 : Int)), CV.v (Value.int IntKind.i64 (0 : Int)), CV.v (Value.int IntKind.i64 (0 : Int)), CV.v (Value.string ByteArray.empty)]
abbrev tparse_1 : Ent :=
  { own := true, box := true, ty := 26, sz := 7, m := 1, n := fun x => 1, cap := fun x => 1, f := fun x x_1 => tparse_0, ov := [] }
abbrev tparse_2 : List Ent :=
  [tparse_1]
abbrev tparse_3 : AV :=
  AV.agg tparse_0
abbrev tparse_4 : ByteArray → AV :=
  fun s => AV.c (CV.v (Value.string (trimW s { data := #[(32 : UInt8), (9 : UInt8)] })))
abbrev tparse_5 : ByteArray → CV :=
  fun s => CV.v (Value.string (tsufW (trimW s { data := #[(32 : UInt8), (9 : UInt8)] }) { data := #[(58 : UInt8)] }))
abbrev tparse_6 : XV :=
  XV.tup [tparse_3, AV.c (CV.v (Value.iface 33 (Value.int IntKind.i64 (2 : Int))))]
abbrev tparse_7 : ByteArray → Ent :=
  fun s => { own := true, box := false, ty := 9, sz := 1, m := 1, n := fun x => List.length (partsW (trimW s { data := #[(32 : UInt8), (9 : UInt8)] }) { data := #[(32 : UInt8)] }), cap := fun x => List.length (partsW (trimW s { data := #[(32 : UInt8), (9 : UInt8)] }) { data := #[(32 : UInt8)] }), f := fun x i => [CV.v (Value.string (List.getD (partsW (trimW s { data := #[(32 : UInt8), (9 : UInt8)] }) { data := #[(32 : UInt8)] }) i ByteArray.empty))], ov := [] }
abbrev tparse_8 : XV :=
  XV.a (AV.c (CV.ptr { k := 0, j := 0, i := 0, sz := 7, c := 0, d := 0, dn := 0, cu := 0 }))
abbrev tparse_9 : ByteArray → XV :=
  fun s => XV.a (AV.c (CV.sl 1 0 0 1 (List.length (partsW (trimW s { data := #[(32 : UInt8), (9 : UInt8)] }) { data := #[(32 : UInt8)] })) (List.length (partsW (trimW s { data := #[(32 : UInt8), (9 : UInt8)] }) { data := #[(32 : UInt8)] }))))
abbrev tparse_10 : XV :=
  XV.a (AV.c (CV.sl 2 0 0 2 23 23))
abbrev tparse_11 : List Nat :=
  [0, 1, 2]
abbrev tparse_12 : Ent :=
  { own := true, box := false, ty := 51, sz := 2, m := 1, n := fun x => 23, cap := fun x => 23, f := fun x i => [CV.v (Value.string (wordS i)), CV.v (Value.string (hasS i))], ov := [] }
abbrev tparse_13 : (s : ByteArray) → OpS (trimW s tabS) → CV :=
  fun s s' => CV.v (Value.int IntKind.i64 (↑(Subtype.val s') : Int))
abbrev tparse_14 : (s : ByteArray) → OpS (trimW s tabS) → XV :=
  fun s s' => XV.a (AV.c (tparse_13 s s'))
abbrev tparse_15 : XV :=
  XV.a (AV.c (CV.ptr { k := 3, j := 0, i := 0, sz := 2, c := 0, d := 0, dn := 0, cu := 0 }))
abbrev tparse_16 : AV :=
  AV.c (CV.ptr { k := 4, j := 0, i := 0, sz := 7, c := 0, d := 0, dn := 0, cu := 0 })
abbrev tparse_17 : XV :=
  XV.a tparse_16
abbrev tparse_18 : ByteArray → XV :=
  fun s => XV.a (AV.c (CV.sl 1 0 0 1 (Int.toNat (↑(List.length (partsW (trimW s { data := #[(32 : UInt8), (9 : UInt8)] }) { data := #[(32 : UInt8)] })) : Int) - Int.toNat (1 : Int)) (List.length (partsW (trimW s { data := #[(32 : UInt8), (9 : UInt8)] }) { data := #[(32 : UInt8)] }) - Int.toNat (1 : Int))))
abbrev tparse_19 : ByteArray → XV :=
  fun s => XV.a (AV.c (CV.v (Value.int IntKind.i64 (↑(Int.toNat (↑(List.length (partsW (trimW s { data := #[(32 : UInt8), (9 : UInt8)] }) { data := #[(32 : UInt8)] })) : Int) - Int.toNat (1 : Int)) : Int))))
abbrev tparse_20 : List Nat :=
  [0, 1, 2, 3, 4]
abbrev tparse_21 : (s : ByteArray) → OpS (trimW s tabS) → Ent :=
  fun s s_1 => { own := true, box := true, ty := 51, sz := 2, m := 1, n := fun a => 1, cap := fun a => 1, f := fun x x_1 => [CV.v (Value.string (wordS (Int.toNat (↑(Subtype.val s_1) : Int)))), CV.v (Value.string (hasS (Int.toNat (↑(Subtype.val s_1) : Int))))], ov := [] }
abbrev tparse_22 : (s : ByteArray) → OpS (trimW s tabS) → Ent :=
  fun s s_1 => { own := true, box := true, ty := 26, sz := 7, m := 1, n := fun a => 1, cap := fun a => 1, f := fun x x_1 => [CV.v (Value.string ByteArray.empty), tparse_13 s s_1, CV.v (Value.int IntKind.i64 (0 : Int)), CV.v (Value.int IntKind.i64 (0 : Int)), CV.v (Value.int IntKind.i64 (0 : Int)), CV.v (Value.int IntKind.i64 (0 : Int)), CV.v (Value.string ByteArray.empty)], ov := [] }
abbrev tparse_23 : (s : ByteArray) → OpS (trimW s tabS) → Ent :=
  fun s s_1 => { own := true, box := true, ty := 26, sz := 7, m := 1, n := fun x => 1, cap := fun x => 1, f := fun x x_1 => [CV.v (Value.string ByteArray.empty), CV.v (Value.int IntKind.i64 (↑(Int.toNat (↑(Subtype.val s_1) : Int)) : Int)), CV.v (Value.int IntKind.i64 (0 : Int)), CV.v (Value.int IntKind.i64 (0 : Int)), CV.v (Value.int IntKind.i64 (0 : Int)), CV.v (Value.int IntKind.i64 (0 : Int)), CV.v (Value.string ByteArray.empty)], ov := [] }
abbrev tparse_25 : (s : ByteArray) → (s_1 : OpS (trimW s tabS)) → FdS (trimW s tabS) (Int.toNat (↑(Subtype.val s_1) : Int)) → AV :=
  fun s s_1 s_2 => AV.c (CV.v (Value.int IntKind.u8 (bt' (hasS (Int.toNat (↑(Subtype.val s_1) : Int))) (Int.toNat (↑(Prod.fst (Subtype.val s_2)) : Int)))))
abbrev tparse_26 : (s : ByteArray) → (s_1 : OpS (trimW s tabS)) → FdS (trimW s tabS) (Int.toNat (↑(Subtype.val s_1) : Int)) → List CV :=
  fun s s_1 s_2 => [CV.v (Value.string (Prod.snd (Subtype.val s_2)).1), CV.v (Value.int IntKind.i64 (Prod.snd (Subtype.val s_2)).2), CV.v (Value.int IntKind.i64 (Prod.snd (Subtype.val s_2)).3), CV.v (Value.int IntKind.i64 (Prod.snd (Subtype.val s_2)).4), CV.v (Value.int IntKind.i64 (Prod.snd (Subtype.val s_2)).5), CV.v (Value.int IntKind.i64 (Prod.snd (Subtype.val s_2)).6), CV.v (Value.string (Prod.snd (Subtype.val s_2)).7)]
abbrev tparse_27 : (s : ByteArray) → (s_1 : OpS (trimW s tabS)) → FdS (trimW s tabS) (Int.toNat (↑(Subtype.val s_1) : Int)) → Ent :=
  fun s s_1 s_2 => { own := true, box := true, ty := 26, sz := 7, m := 1, n := fun x => 1, cap := fun x => 1, f := fun x x_1 => tparse_26 s s_1 s_2, ov := [] }
abbrev tparse_28 : (s : ByteArray) → (s_1 : OpS (trimW s tabS)) → FdS (trimW s tabS) (Int.toNat (↑(Subtype.val s_1) : Int)) → List Ent :=
  fun s s_1 s_2 => [tparse_1, tparse_7 s, tparse_12, tparse_21 s s_1, tparse_27 s s_1 s_2]
abbrev tparse_29 : List Ent :=
  [Ent.dead, Ent.dead, Ent.dead, Ent.dead, Ent.dead]
abbrev tparse_30 : (s : ByteArray) → (s_1 : OpS (trimW s tabS)) → FdS (trimW s tabS) (Int.toNat (↑(Subtype.val s_1) : Int)) → XV :=
  fun s s_1 s_2 => XV.a (AV.c (CV.v (Value.int IntKind.i64 (IntKind.wrap IntKind.i64 ((↑(Prod.fst (Subtype.val s_2)) : Int) + (1 : Int))))))
abbrev tparse_31 : (s : ByteArray) → (s_1 : OpS (trimW s tabS)) → FdS (trimW s tabS) (Int.toNat (↑(Subtype.val s_1) : Int)) → XV :=
  fun s s_1 s' => XV.a (AV.c (CV.v (Value.int IntKind.i64 (↑(Prod.fst (Subtype.val s')) : Int))))
abbrev tparse_32 : (s : ByteArray) → (s_1 : OpS (trimW s tabS)) → FdS (trimW s tabS) (Int.toNat (↑(Subtype.val s_1) : Int)) → XV :=
  fun s s_1 s_2 => XV.tup [AV.agg (tparse_26 s s_1 s_2), AV.c (CV.v Value.nilIface)]
abbrev tparse_33 : ByteArray → XV :=
  fun s => XV.a (AV.c (CV.sl 1 0 1 1 (Int.toNat (↑(List.length (partsW (trimW s { data := #[(32 : UInt8), (9 : UInt8)] }) { data := #[(32 : UInt8)] })) : Int) - Int.toNat (1 : Int)) (List.length (partsW (trimW s { data := #[(32 : UInt8), (9 : UInt8)] }) { data := #[(32 : UInt8)] }) - Int.toNat (1 : Int))))
def tparse (s : ByteArray) : Tree :=
  Tree.callf 17 [AV.c (CV.v (Value.string s)), AV.c (CV.v (Value.string { data := #[(32 : UInt8), (9 : UInt8)] }))] tparse_2 (trimC s { data := #[(32 : UInt8), (9 : UInt8)] }) fun c => Tree.chk ((!ByteArray.toList (trimW s { data := #[(32 : UInt8), (9 : UInt8)] }) == ByteArray.toList { data := #[] }) = true → (!ByteArray.toList (trimW s { data := #[(32 : UInt8), (9 : UInt8)] }) == ByteArray.toList { data := #[] }) = true)
 (Tree.chk ((!ByteArray.toList (trimW s { data := #[(32 : UInt8), (9 : UInt8)] }) == ByteArray.toList { data := #[] }) = true → (0 : Int) ≤ (0 : Int) ∧ (0 : Int) < (↑(ByteArray.size (trimW s { data := #[(32 : UInt8), (9 : UInt8)] })) : Int))
 (Tree.chk ((!ByteArray.toList (trimW s { data := #[(32 : UInt8), (9 : UInt8)] }) == ByteArray.toList { data := #[] }) = true → (!ByteArray.toList (trimW s { data := #[(32 : UInt8), (9 : UInt8)] }) == ByteArray.toList { data := #[] }) = true)
 (Tree.chk ((ByteArray.toList (trimW s { data := #[(32 : UInt8), (9 : UInt8)] }) == ByteArray.toList { data := #[] }) = false → (!ByteArray.toList (trimW s { data := #[(32 : UInt8), (9 : UInt8)] }) == ByteArray.toList { data := #[] }) = true)
 (Tree.br (bif ByteArray.toList (trimW s { data := #[(32 : UInt8), (9 : UInt8)] }) == ByteArray.toList { data := #[] } then true else bt' (trimW s { data := #[(32 : UInt8), (9 : UInt8)] }) (Int.toNat (0 : Int)) == (59 : Int))
 (Tree.done (XV.tup [tparse_3, AV.c (CV.v Value.nilIface)]) [Ent.dead])
 (Tree.callf 18 [tparse_4 s, AV.c (CV.v (Value.string { data := #[(58 : UInt8)] }))] tparse_2 (cutsC (trimW s { data := #[(32 : UInt8), (9 : UInt8)] }) { data := #[(58 : UInt8)] }) fun c => Tree.br (hsufF (trimW s { data := #[(32 : UInt8), (9 : UInt8)] }) { data := #[(58 : UInt8)] })
 (Tree.callf 19 [AV.c (tparse_5 s)] tparse_2 (nameC (tsufW (trimW s { data := #[(32 : UInt8), (9 : UInt8)] }) { data := #[(58 : UInt8)] })) fun c => Tree.br (!nameF (tsufW (trimW s { data := #[(32 : UInt8), (9 : UInt8)] }) { data := #[(58 : UInt8)] }))
 (Tree.done tparse_6 [Ent.dead])
 (Tree.done (XV.tup [AV.agg [tparse_5 s, CV.v (Value.int IntKind.i64 (0 : Int)), CV.v (Value.int IntKind.i64 (0 : Int)), CV.v (Value.int IntKind.i64 (0 : Int)), CV.v (Value.int IntKind.i64 (0 : Int)), CV.v (Value.int IntKind.i64 (0 : Int)), CV.v (Value.string ByteArray.empty)], AV.c (CV.v Value.nilIface)]) [Ent.dead]))
 (Tree.callf 20 [tparse_4 s, AV.c (CV.v (Value.string { data := #[(32 : UInt8)] }))] tparse_2 (splitC (trimW s { data := #[(32 : UInt8), (9 : UInt8)] }) { data := #[(32 : UInt8)] } 1) fun c => Tree.callf 21 [] [tparse_1, tparse_7 s] (shapesC 2) fun c => Tree.both
 (Tree.chk (XV.a (AV.c (CV.v (Value.int IntKind.i64 (0 : Int)))) = XV.a (AV.c (CV.v (Value.int IntKind.i64 (0 : Int)))))
 (Tree.chk (tparse_8 = tparse_8)
 (Tree.chk (tparse_9 s = tparse_9 s)
 (Tree.chk (tparse_10 = tparse_10)
 (Tree.chk (XV.a (AV.c (CV.v (Value.int IntKind.i64 (23 : Int)))) = XV.a (AV.c (CV.v (Value.int IntKind.i64 (23 : Int)))))
 (Tree.chk (EntRel 3 tparse_11 3 tparse_1 tparse_1)
 (Tree.chk (EntRel 3 tparse_11 3 (tparse_7 s) (tparse_7 s))
 (Tree.chk (EntRel 3 tparse_11 3 tparse_12 tparse_12)
 (Tree.need True)))))))))
 (Tree.every (OpS (trimW s tabS)) fun s_1 => Tree.br (decide ((↑(Subtype.val s_1) : Int) < (↑23 : Int)))
 (Tree.chk ((0 : Int) ≤ (↑(Subtype.val s_1) : Int) ∧ (↑(Subtype.val s_1) : Int) < (↑23 : Int) ∧ Int.toNat (↑(Subtype.val s_1) : Int) < 23 ∧ 0 < 1)
 (Tree.chk (0 < 1 ∧ Int.toNat (↑(Subtype.val s_1) : Int) < 23)
 (Tree.chk ((!ByteArray.toList (wordS (Int.toNat (↑(Subtype.val s_1) : Int))) == ByteArray.toList { data := #[] }) = true → (!ByteArray.toList (wordS (Int.toNat (↑(Subtype.val s_1) : Int))) == ByteArray.toList { data := #[] }) = true)
 (Tree.chk ((!ByteArray.toList (wordS (Int.toNat (↑(Subtype.val s_1) : Int))) == ByteArray.toList { data := #[] }) = true → (!ByteArray.toList (wordS (Int.toNat (↑(Subtype.val s_1) : Int))) == ByteArray.toList { data := #[] }) = true)
 (Tree.chk ((!ByteArray.toList (wordS (Int.toNat (↑(Subtype.val s_1) : Int))) == ByteArray.toList { data := #[] }) = true → (0 : Int) ≤ (0 : Int) ∧ (0 : Int) < (↑(List.length (partsW (trimW s { data := #[(32 : UInt8), (9 : UInt8)] }) { data := #[(32 : UInt8)] })) : Int) ∧ Int.toNat (0 : Int) < List.length (partsW (trimW s { data := #[(32 : UInt8), (9 : UInt8)] }) { data := #[(32 : UInt8)] }) ∧ 0 < 1)
 (Tree.chk ((!ByteArray.toList (wordS (Int.toNat (↑(Subtype.val s_1) : Int))) == ByteArray.toList { data := #[] }) = true → (!ByteArray.toList (wordS (Int.toNat (↑(Subtype.val s_1) : Int))) == ByteArray.toList { data := #[] }) = true)
 (Tree.chk ((!ByteArray.toList (wordS (Int.toNat (↑(Subtype.val s_1) : Int))) == ByteArray.toList { data := #[] }) = true → 0 < 1 ∧ Int.toNat (0 : Int) < List.length (partsW (trimW s { data := #[(32 : UInt8), (9 : UInt8)] }) { data := #[(32 : UInt8)] }))
 (Tree.chk ((!ByteArray.toList (wordS (Int.toNat (↑(Subtype.val s_1) : Int))) == ByteArray.toList { data := #[] }) = true → (!ByteArray.toList (wordS (Int.toNat (↑(Subtype.val s_1) : Int))) == ByteArray.toList { data := #[] }) = true)
 (Tree.chk ((!ByteArray.toList (wordS (Int.toNat (↑(Subtype.val s_1) : Int))) == ByteArray.toList { data := #[] }) = true → (!ByteArray.toList (wordS (Int.toNat (↑(Subtype.val s_1) : Int))) == ByteArray.toList { data := #[] }) = true)
 (Tree.chk ((ByteArray.toList (wordS (Int.toNat (↑(Subtype.val s_1) : Int))) == ByteArray.toList { data := #[] }) = false → (!ByteArray.toList (wordS (Int.toNat (↑(Subtype.val s_1) : Int))) == ByteArray.toList { data := #[] }) = true)
 (Tree.chk ((!bif ByteArray.toList (wordS (Int.toNat (↑(Subtype.val s_1) : Int))) == ByteArray.toList { data := #[] } then true else !ByteArray.toList (wordS (Int.toNat (↑(Subtype.val s_1) : Int))) == ByteArray.toList (List.getD (partsW (trimW s { data := #[(32 : UInt8), (9 : UInt8)] }) { data := #[(32 : UInt8)] }) (Int.toNat (0 : Int)) ByteArray.empty)) = true → (!bif ByteArray.toList (wordS (Int.toNat (↑(Subtype.val s_1) : Int))) == ByteArray.toList { data := #[] } then true else !ByteArray.toList (wordS (Int.toNat (↑(Subtype.val s_1) : Int))) == ByteArray.toList (List.getD (partsW (trimW s { data := #[(32 : UInt8), (9 : UInt8)] }) { data := #[(32 : UInt8)] }) (Int.toNat (0 : Int)) ByteArray.empty)) = true)
 (Tree.chk ((!bif ByteArray.toList (wordS (Int.toNat (↑(Subtype.val s_1) : Int))) == ByteArray.toList { data := #[] } then true else !ByteArray.toList (wordS (Int.toNat (↑(Subtype.val s_1) : Int))) == ByteArray.toList (List.getD (partsW (trimW s { data := #[(32 : UInt8), (9 : UInt8)] }) { data := #[(32 : UInt8)] }) (Int.toNat (0 : Int)) ByteArray.empty)) = true → (!bif ByteArray.toList (wordS (Int.toNat (↑(Subtype.val s_1) : Int))) == ByteArray.toList { data := #[] } then true else !ByteArray.toList (wordS (Int.toNat (↑(Subtype.val s_1) : Int))) == ByteArray.toList (List.getD (partsW (trimW s { data := #[(32 : UInt8), (9 : UInt8)] }) { data := #[(32 : UInt8)] }) (Int.toNat (0 : Int)) ByteArray.empty)) = true)
 (Tree.chk ((!bif ByteArray.toList (wordS (Int.toNat (↑(Subtype.val s_1) : Int))) == ByteArray.toList { data := #[] } then true else !ByteArray.toList (wordS (Int.toNat (↑(Subtype.val s_1) : Int))) == ByteArray.toList (List.getD (partsW (trimW s { data := #[(32 : UInt8), (9 : UInt8)] }) { data := #[(32 : UInt8)] }) (Int.toNat (0 : Int)) ByteArray.empty)) = true → (!bif ByteArray.toList (wordS (Int.toNat (↑(Subtype.val s_1) : Int))) == ByteArray.toList { data := #[] } then true else !ByteArray.toList (wordS (Int.toNat (↑(Subtype.val s_1) : Int))) == ByteArray.toList (List.getD (partsW (trimW s { data := #[(32 : UInt8), (9 : UInt8)] }) { data := #[(32 : UInt8)] }) (Int.toNat (0 : Int)) ByteArray.empty)) = true)
 (Tree.chk ((!bif ByteArray.toList (wordS (Int.toNat (↑(Subtype.val s_1) : Int))) == ByteArray.toList { data := #[] } then true else !ByteArray.toList (wordS (Int.toNat (↑(Subtype.val s_1) : Int))) == ByteArray.toList (List.getD (partsW (trimW s { data := #[(32 : UInt8), (9 : UInt8)] }) { data := #[(32 : UInt8)] }) (Int.toNat (0 : Int)) ByteArray.empty)) = true → (!bif ByteArray.toList (wordS (Int.toNat (↑(Subtype.val s_1) : Int))) == ByteArray.toList { data := #[] } then true else !ByteArray.toList (wordS (Int.toNat (↑(Subtype.val s_1) : Int))) == ByteArray.toList (List.getD (partsW (trimW s { data := #[(32 : UInt8), (9 : UInt8)] }) { data := #[(32 : UInt8)] }) (Int.toNat (0 : Int)) ByteArray.empty)) = true)
 (Tree.chk ((!bif ByteArray.toList (wordS (Int.toNat (↑(Subtype.val s_1) : Int))) == ByteArray.toList { data := #[] } then true else !ByteArray.toList (wordS (Int.toNat (↑(Subtype.val s_1) : Int))) == ByteArray.toList (List.getD (partsW (trimW s { data := #[(32 : UInt8), (9 : UInt8)] }) { data := #[(32 : UInt8)] }) (Int.toNat (0 : Int)) ByteArray.empty)) = true → (!bif ByteArray.toList (wordS (Int.toNat (↑(Subtype.val s_1) : Int))) == ByteArray.toList { data := #[] } then true else !ByteArray.toList (wordS (Int.toNat (↑(Subtype.val s_1) : Int))) == ByteArray.toList (List.getD (partsW (trimW s { data := #[(32 : UInt8), (9 : UInt8)] }) { data := #[(32 : UInt8)] }) (Int.toNat (0 : Int)) ByteArray.empty)) = true)
 (Tree.chk ((!bif ByteArray.toList (wordS (Int.toNat (↑(Subtype.val s_1) : Int))) == ByteArray.toList { data := #[] } then true else !ByteArray.toList (wordS (Int.toNat (↑(Subtype.val s_1) : Int))) == ByteArray.toList (List.getD (partsW (trimW s { data := #[(32 : UInt8), (9 : UInt8)] }) { data := #[(32 : UInt8)] }) (Int.toNat (0 : Int)) ByteArray.empty)) = true → (!bif ByteArray.toList (wordS (Int.toNat (↑(Subtype.val s_1) : Int))) == ByteArray.toList { data := #[] } then true else !ByteArray.toList (wordS (Int.toNat (↑(Subtype.val s_1) : Int))) == ByteArray.toList (List.getD (partsW (trimW s { data := #[(32 : UInt8), (9 : UInt8)] }) { data := #[(32 : UInt8)] }) (Int.toNat (0 : Int)) ByteArray.empty)) = true)
 (Tree.chk ((bif ByteArray.toList (wordS (Int.toNat (↑(Subtype.val s_1) : Int))) == ByteArray.toList { data := #[] } then true else !ByteArray.toList (wordS (Int.toNat (↑(Subtype.val s_1) : Int))) == ByteArray.toList (List.getD (partsW (trimW s { data := #[(32 : UInt8), (9 : UInt8)] }) { data := #[(32 : UInt8)] }) (Int.toNat (0 : Int)) ByteArray.empty)) = false → (!bif ByteArray.toList (wordS (Int.toNat (↑(Subtype.val s_1) : Int))) == ByteArray.toList { data := #[] } then true else !ByteArray.toList (wordS (Int.toNat (↑(Subtype.val s_1) : Int))) == ByteArray.toList (List.getD (partsW (trimW s { data := #[(32 : UInt8), (9 : UInt8)] }) { data := #[(32 : UInt8)] }) (Int.toNat (0 : Int)) ByteArray.empty)) = true)
 (Tree.br (bif bif ByteArray.toList (wordS (Int.toNat (↑(Subtype.val s_1) : Int))) == ByteArray.toList { data := #[] } then true else !ByteArray.toList (wordS (Int.toNat (↑(Subtype.val s_1) : Int))) == ByteArray.toList (List.getD (partsW (trimW s { data := #[(32 : UInt8), (9 : UInt8)] }) { data := #[(32 : UInt8)] }) (Int.toNat (0 : Int)) ByteArray.empty) then true else (↑(ByteArray.size (hasS (Int.toNat (↑(Subtype.val s_1) : Int)))) : Int) != IntKind.wrap IntKind.i64 ((↑(List.length (partsW (trimW s { data := #[(32 : UInt8), (9 : UInt8)] }) { data := #[(32 : UInt8)] })) : Int) - (1 : Int)))
 (Tree.some_ (OpS (trimW s tabS)) fun s' => Tree.chk (23 - Subtype.val s' < 23 - Subtype.val s_1)
 (Tree.chk (XV.a (AV.c (CV.v (Value.int IntKind.i64 (IntKind.wrap IntKind.i64 ((↑(Subtype.val s_1) : Int) + (1 : Int)))))) = tparse_14 s s')
 (Tree.chk (tparse_8 = tparse_8)
 (Tree.chk (tparse_9 s = tparse_9 s)
 (Tree.chk (tparse_10 = tparse_10)
 (Tree.chk (XV.a (AV.c (CV.v (Value.int IntKind.i64 (23 : Int)))) = XV.a (AV.c (CV.v (Value.int IntKind.i64 (23 : Int)))))
 (Tree.chk (EntRel 4 tparse_11 3 tparse_1 tparse_1)
 (Tree.chk (EntRel 4 tparse_11 3 (tparse_7 s) (tparse_7 s))
 (Tree.chk (EntRel 4 tparse_11 3 tparse_12 tparse_12)
 (Tree.need True))))))))))
 (Tree.chk ((0 : Int) ≤ (↑(List.length (partsW (trimW s { data := #[(32 : UInt8), (9 : UInt8)] }) { data := #[(32 : UInt8)] })) : Int) ∧ (↑(List.length (partsW (trimW s { data := #[(32 : UInt8), (9 : UInt8)] }) { data := #[(32 : UInt8)] })) : Int) ≤ (↑(List.length (partsW (trimW s { data := #[(32 : UInt8), (9 : UInt8)] }) { data := #[(32 : UInt8)] })) : Int))
 (Tree.chk ((0 : Int) ≤ (1 : Int) ∧ (1 : Int) ≤ (↑(List.length (partsW (trimW s { data := #[(32 : UInt8), (9 : UInt8)] }) { data := #[(32 : UInt8)] })) : Int))
 (Tree.br (decide (List.length (partsW (trimW s { data := #[(32 : UInt8), (9 : UInt8)] }) { data := #[(32 : UInt8)] }) = Int.toNat (1 : Int)))
 (Tree.both
 (Tree.chk (XV.a (AV.c (CV.v (Value.int IntKind.i64 (0 : Int)))) = XV.a (AV.c (CV.v (Value.int IntKind.i64 (0 : Int)))))
 (Tree.chk (tparse_8 = tparse_8)
 (Tree.chk (tparse_14 s s_1 = tparse_14 s s_1)
 (Tree.chk (tparse_15 = tparse_15)
 (Tree.chk (tparse_17 = tparse_17)
 (Tree.chk (tparse_18 s = tparse_18 s)
 (Tree.chk (tparse_19 s = tparse_19 s)
 (Tree.chk (EntRel 5 tparse_20 5 tparse_1 tparse_1)
 (Tree.chk (EntRel 5 tparse_20 5 (tparse_7 s) (tparse_7 s))
 (Tree.chk (EntRel 5 tparse_20 5 tparse_12 tparse_12)
 (Tree.chk (EntRel 5 tparse_20 5 (tparse_21 s s_1) (tparse_21 s s_1))
 (Tree.chk (EntRel 5 tparse_20 5 (tparse_22 s s_1) (tparse_23 s s_1))
 (Tree.need True)))))))))))))
 (Tree.every (FdS (trimW s tabS) (Int.toNat (↑(Subtype.val s_1) : Int))) fun s_2 => Tree.br (decide ((↑(Prod.fst (Subtype.val s_2)) : Int) < (↑(Int.toNat (↑(List.length (partsW (trimW s { data := #[(32 : UInt8), (9 : UInt8)] }) { data := #[(32 : UInt8)] })) : Int) - Int.toNat (1 : Int)) : Int)))
 (Tree.chk ((0 : Int) ≤ (↑(Prod.fst (Subtype.val s_2)) : Int) ∧ (↑(Prod.fst (Subtype.val s_2)) : Int) < (↑(Int.toNat (↑(List.length (partsW (trimW s { data := #[(32 : UInt8), (9 : UInt8)] }) { data := #[(32 : UInt8)] })) : Int) - Int.toNat (1 : Int)) : Int) ∧ Int.toNat (↑(Prod.fst (Subtype.val s_2)) : Int) < List.length (partsW (trimW s { data := #[(32 : UInt8), (9 : UInt8)] }) { data := #[(32 : UInt8)] }) ∧ 0 < 1)
 (Tree.chk (0 < 1 ∧ Int.toNat (↑(Prod.fst (Subtype.val s_2)) : Int) < List.length (partsW (trimW s { data := #[(32 : UInt8), (9 : UInt8)] }) { data := #[(32 : UInt8)] }))
 (Tree.chk ((0 : Int) ≤ (↑(Prod.fst (Subtype.val s_2)) : Int) ∧ (↑(Prod.fst (Subtype.val s_2)) : Int) < (↑(ByteArray.size (hasS (Int.toNat (↑(Subtype.val s_1) : Int)))) : Int))
 (Tree.some_ Ln fun s_3 => Tree.callf 22 [tparse_16, tparse_25 s s_1 s_2, AV.c (CV.v (Value.string (List.getD (partsW (trimW s { data := #[(32 : UInt8), (9 : UInt8)] }) { data := #[(32 : UInt8)] }) (Int.toNat (↑(Prod.fst (Subtype.val s_2)) : Int)) ByteArray.empty)))] (tparse_28 s s_1 s_2) (fieldC s_3 (bt' (hasS (Int.toNat (↑(Subtype.val s_1) : Int))) (Int.toNat (↑(Prod.fst (Subtype.val s_2)) : Int))) (List.getD (partsW (trimW s { data := #[(32 : UInt8), (9 : UInt8)] }) { data := #[(32 : UInt8)] }) (Int.toNat (↑(Prod.fst (Subtype.val s_2)) : Int)) ByteArray.empty) [4]) fun c => Tree.br (!Prod.snd (fieldF s_3 (bt' (hasS (Int.toNat (↑(Subtype.val s_1) : Int))) (Int.toNat (↑(Prod.fst (Subtype.val s_2)) : Int))) (List.getD (partsW (trimW s { data := #[(32 : UInt8), (9 : UInt8)] }) { data := #[(32 : UInt8)] }) (Int.toNat (↑(Prod.fst (Subtype.val s_2)) : Int)) ByteArray.empty)))
 (Tree.done tparse_6 tparse_29)
 (Tree.some_ (FdS (trimW s tabS) (Int.toNat (↑(Subtype.val s_1) : Int))) fun s' => Tree.chk (List.length (partsW (trimW s tabS) spS) - 1 - Prod.fst (Subtype.val s') < List.length (partsW (trimW s tabS) spS) - 1 - Prod.fst (Subtype.val s_2))
 (Tree.chk (tparse_30 s s_1 s_2 = tparse_31 s s_1 s')
 (Tree.chk (tparse_8 = tparse_8)
 (Tree.chk (tparse_14 s s_1 = tparse_14 s s_1)
 (Tree.chk (tparse_15 = tparse_15)
 (Tree.chk (tparse_17 = tparse_17)
 (Tree.chk (tparse_18 s = tparse_18 s)
 (Tree.chk (tparse_19 s = tparse_19 s)
 (Tree.chk (EntRel 5 tparse_20 5 tparse_1 tparse_1)
 (Tree.chk (EntRel 5 tparse_20 5 (tparse_7 s) (tparse_7 s))
 (Tree.chk (EntRel 5 tparse_20 5 tparse_12 tparse_12)
 (Tree.chk (EntRel 5 tparse_20 5 (tparse_21 s s_1) (tparse_21 s s_1))
 (Tree.chk (EntRel 5 tparse_20 5 { own := true, box := true, ty := 26, sz := 7, m := 1, n := fun a => 1, cap := fun a => 1, f := fun x x_1 => [CV.v (Value.string (Prod.fst (fieldF s_3 (bt' (hasS (Int.toNat (↑(Subtype.val s_1) : Int))) (Int.toNat (↑(Prod.fst (Subtype.val s_2)) : Int))) (List.getD (partsW (trimW s { data := #[(32 : UInt8), (9 : UInt8)] }) { data := #[(32 : UInt8)] }) (Int.toNat (↑(Prod.fst (Subtype.val s_2)) : Int)) ByteArray.empty))).1), CV.v (Value.int IntKind.i64 (Prod.fst (fieldF s_3 (bt' (hasS (Int.toNat (↑(Subtype.val s_1) : Int))) (Int.toNat (↑(Prod.fst (Subtype.val s_2)) : Int))) (List.getD (partsW (trimW s { data := #[(32 : UInt8), (9 : UInt8)] }) { data := #[(32 : UInt8)] }) (Int.toNat (↑(Prod.fst (Subtype.val s_2)) : Int)) ByteArray.empty))).2), CV.v (Value.int IntKind.i64 (Prod.fst (fieldF s_3 (bt' (hasS (Int.toNat (↑(Subtype.val s_1) : Int))) (Int.toNat (↑(Prod.fst (Subtype.val s_2)) : Int))) (List.getD (partsW (trimW s { data := #[(32 : UInt8), (9 : UInt8)] }) { data := #[(32 : UInt8)] }) (Int.toNat (↑(Prod.fst (Subtype.val s_2)) : Int)) ByteArray.empty))).3), CV.v (Value.int IntKind.i64 (Prod.fst (fieldF s_3 (bt' (hasS (Int.toNat (↑(Subtype.val s_1) : Int))) (Int.toNat (↑(Prod.fst (Subtype.val s_2)) : Int))) (List.getD (partsW (trimW s { data := #[(32 : UInt8), (9 : UInt8)] }) { data := #[(32 : UInt8)] }) (Int.toNat (↑(Prod.fst (Subtype.val s_2)) : Int)) ByteArray.empty))).4), CV.v (Value.int IntKind.i64 (Prod.fst (fieldF s_3 (bt' (hasS (Int.toNat (↑(Subtype.val s_1) : Int))) (Int.toNat (↑(Prod.fst (Subtype.val s_2)) : Int))) (List.getD (partsW (trimW s { data := #[(32 : UInt8), (9 : UInt8)] }) { data := #[(32 : UInt8)] }) (Int.toNat (↑(Prod.fst (Subtype.val s_2)) : Int)) ByteArray.empty))).5), CV.v (Value.int IntKind.i64 (Prod.fst (fieldF s_3 (bt' (hasS (Int.toNat (↑(Subtype.val s_1) : Int))) (Int.toNat (↑(Prod.fst (Subtype.val s_2)) : Int))) (List.getD (partsW (trimW s { data := #[(32 : UInt8), (9 : UInt8)] }) { data := #[(32 : UInt8)] }) (Int.toNat (↑(Prod.fst (Subtype.val s_2)) : Int)) ByteArray.empty))).6), CV.v (Value.string (Prod.fst (fieldF s_3 (bt' (hasS (Int.toNat (↑(Subtype.val s_1) : Int))) (Int.toNat (↑(Prod.fst (Subtype.val s_2)) : Int))) (List.getD (partsW (trimW s { data := #[(32 : UInt8), (9 : UInt8)] }) { data := #[(32 : UInt8)] }) (Int.toNat (↑(Prod.fst (Subtype.val s_2)) : Int)) ByteArray.empty))).7)], ov := [] } (tparse_27 s s_1 s'))
 (Tree.need True))))))))))))))))))
 (Tree.chk (((↑(Subtype.val s_1) : Int) == (7 : Int)) = true → ((↑(Subtype.val s_1) : Int) == (7 : Int)) = true)
 (Tree.chk (((↑(Subtype.val s_1) : Int) == (7 : Int)) = true → ((↑(Subtype.val s_1) : Int) == (7 : Int)) = true)
 (Tree.chk (((↑(Subtype.val s_1) : Int) == (7 : Int)) = true → ((↑(Subtype.val s_1) : Int) == (7 : Int)) = true)
 (Tree.chk (((↑(Subtype.val s_1) : Int) == (7 : Int)) = true → ((↑(Subtype.val s_1) : Int) == (7 : Int)) = true)
 (Tree.br (bif (↑(Subtype.val s_1) : Int) == (7 : Int) then decide ((Prod.snd (Subtype.val s_2)).3 > (13 : Int)) else false)
 (Tree.done tparse_6 tparse_29)
 (Tree.done (tparse_32 s s_1 s_2) tparse_29))))))))
 (Tree.both
 (Tree.chk (XV.a (AV.c (CV.v (Value.int IntKind.i64 (0 : Int)))) = XV.a (AV.c (CV.v (Value.int IntKind.i64 (0 : Int)))))
 (Tree.chk (tparse_8 = tparse_8)
 (Tree.chk (tparse_14 s s_1 = tparse_14 s s_1)
 (Tree.chk (tparse_15 = tparse_15)
 (Tree.chk (tparse_17 = tparse_17)
 (Tree.chk (tparse_33 s = tparse_33 s)
 (Tree.chk (tparse_19 s = tparse_19 s)
 (Tree.chk (EntRel 5 tparse_20 5 tparse_1 tparse_1)
 (Tree.chk (EntRel 5 tparse_20 5 (tparse_7 s) (tparse_7 s))
 (Tree.chk (EntRel 5 tparse_20 5 tparse_12 tparse_12)
 (Tree.chk (EntRel 5 tparse_20 5 (tparse_21 s s_1) (tparse_21 s s_1))
 (Tree.chk (EntRel 5 tparse_20 5 (tparse_22 s s_1) (tparse_23 s s_1))
 (Tree.need True)))))))))))))
 (Tree.every (FdS (trimW s tabS) (Int.toNat (↑(Subtype.val s_1) : Int))) fun s_2 => Tree.br (decide ((↑(Prod.fst (Subtype.val s_2)) : Int) < (↑(Int.toNat (↑(List.length (partsW (trimW s { data := #[(32 : UInt8), (9 : UInt8)] }) { data := #[(32 : UInt8)] })) : Int) - Int.toNat (1 : Int)) : Int)))
 (Tree.chk ((0 : Int) ≤ (↑(Prod.fst (Subtype.val s_2)) : Int) ∧ (↑(Prod.fst (Subtype.val s_2)) : Int) < (↑(Int.toNat (↑(List.length (partsW (trimW s { data := #[(32 : UInt8), (9 : UInt8)] }) { data := #[(32 : UInt8)] })) : Int) - Int.toNat (1 : Int)) : Int) ∧ 1 + Int.toNat (↑(Prod.fst (Subtype.val s_2)) : Int) < List.length (partsW (trimW s { data := #[(32 : UInt8), (9 : UInt8)] }) { data := #[(32 : UInt8)] }) ∧ 0 < 1)
 (Tree.chk (0 < 1 ∧ 1 + Int.toNat (↑(Prod.fst (Subtype.val s_2)) : Int) < List.length (partsW (trimW s { data := #[(32 : UInt8), (9 : UInt8)] }) { data := #[(32 : UInt8)] }))
 (Tree.chk ((0 : Int) ≤ (↑(Prod.fst (Subtype.val s_2)) : Int) ∧ (↑(Prod.fst (Subtype.val s_2)) : Int) < (↑(ByteArray.size (hasS (Int.toNat (↑(Subtype.val s_1) : Int)))) : Int))
 (Tree.some_ Ln fun s_3 => Tree.callf 22 [tparse_16, tparse_25 s s_1 s_2, AV.c (CV.v (Value.string (List.getD (partsW (trimW s { data := #[(32 : UInt8), (9 : UInt8)] }) { data := #[(32 : UInt8)] }) (1 + Int.toNat (↑(Prod.fst (Subtype.val s_2)) : Int)) ByteArray.empty)))] (tparse_28 s s_1 s_2) (fieldC s_3 (bt' (hasS (Int.toNat (↑(Subtype.val s_1) : Int))) (Int.toNat (↑(Prod.fst (Subtype.val s_2)) : Int))) (List.getD (partsW (trimW s { data := #[(32 : UInt8), (9 : UInt8)] }) { data := #[(32 : UInt8)] }) (1 + Int.toNat (↑(Prod.fst (Subtype.val s_2)) : Int)) ByteArray.empty) [4]) fun c => Tree.br (!Prod.snd (fieldF s_3 (bt' (hasS (Int.toNat (↑(Subtype.val s_1) : Int))) (Int.toNat (↑(Prod.fst (Subtype.val s_2)) : Int))) (List.getD (partsW (trimW s { data := #[(32 : UInt8), (9 : UInt8)] }) { data := #[(32 : UInt8)] }) (1 + Int.toNat (↑(Prod.fst (Subtype.val s_2)) : Int)) ByteArray.empty)))
 (Tree.done tparse_6 tparse_29)
 (Tree.some_ (FdS (trimW s tabS) (Int.toNat (↑(Subtype.val s_1) : Int))) fun s' => Tree.chk (List.length (partsW (trimW s tabS) spS) - 1 - Prod.fst (Subtype.val s') < List.length (partsW (trimW s tabS) spS) - 1 - Prod.fst (Subtype.val s_2))
 (Tree.chk (tparse_30 s s_1 s_2 = tparse_31 s s_1 s')
 (Tree.chk (tparse_8 = tparse_8)
 (Tree.chk (tparse_14 s s_1 = tparse_14 s s_1)
 (Tree.chk (tparse_15 = tparse_15)
 (Tree.chk (tparse_17 = tparse_17)
 (Tree.chk (tparse_33 s = tparse_33 s)
 (Tree.chk (tparse_19 s = tparse_19 s)
 (Tree.chk (EntRel 5 tparse_20 5 tparse_1 tparse_1)
 (Tree.chk (EntRel 5 tparse_20 5 (tparse_7 s) (tparse_7 s))
 (Tree.chk (EntRel 5 tparse_20 5 tparse_12 tparse_12)
 (Tree.chk (EntRel 5 tparse_20 5 (tparse_21 s s_1) (tparse_21 s s_1))
 (Tree.chk (EntRel 5 tparse_20 5 { own := true, box := true, ty := 26, sz := 7, m := 1, n := fun a => 1, cap := fun a => 1, f := fun x x_1 => [CV.v (Value.string (Prod.fst (fieldF s_3 (bt' (hasS (Int.toNat (↑(Subtype.val s_1) : Int))) (Int.toNat (↑(Prod.fst (Subtype.val s_2)) : Int))) (List.getD (partsW (trimW s { data := #[(32 : UInt8), (9 : UInt8)] }) { data := #[(32 : UInt8)] }) (1 + Int.toNat (↑(Prod.fst (Subtype.val s_2)) : Int)) ByteArray.empty))).1), CV.v (Value.int IntKind.i64 (Prod.fst (fieldF s_3 (bt' (hasS (Int.toNat (↑(Subtype.val s_1) : Int))) (Int.toNat (↑(Prod.fst (Subtype.val s_2)) : Int))) (List.getD (partsW (trimW s { data := #[(32 : UInt8), (9 : UInt8)] }) { data := #[(32 : UInt8)] }) (1 + Int.toNat (↑(Prod.fst (Subtype.val s_2)) : Int)) ByteArray.empty))).2), CV.v (Value.int IntKind.i64 (Prod.fst (fieldF s_3 (bt' (hasS (Int.toNat (↑(Subtype.val s_1) : Int))) (Int.toNat (↑(Prod.fst (Subtype.val s_2)) : Int))) (List.getD (partsW (trimW s { data := #[(32 : UInt8), (9 : UInt8)] }) { data := #[(32 : UInt8)] }) (1 + Int.toNat (↑(Prod.fst (Subtype.val s_2)) : Int)) ByteArray.empty))).3), CV.v (Value.int IntKind.i64 (Prod.fst (fieldF s_3 (bt' (hasS (Int.toNat (↑(Subtype.val s_1) : Int))) (Int.toNat (↑(Prod.fst (Subtype.val s_2)) : Int))) (List.getD (partsW (trimW s { data := #[(32 : UInt8), (9 : UInt8)] }) { data := #[(32 : UInt8)] }) (1 + Int.toNat (↑(Prod.fst (Subtype.val s_2)) : Int)) ByteArray.empty))).4), CV.v (Value.int IntKind.i64 (Prod.fst (fieldF s_3 (bt' (hasS (Int.toNat (↑(Subtype.val s_1) : Int))) (Int.toNat (↑(Prod.fst (Subtype.val s_2)) : Int))) (List.getD (partsW (trimW s { data := #[(32 : UInt8), (9 : UInt8)] }) { data := #[(32 : UInt8)] }) (1 + Int.toNat (↑(Prod.fst (Subtype.val s_2)) : Int)) ByteArray.empty))).5), CV.v (Value.int IntKind.i64 (Prod.fst (fieldF s_3 (bt' (hasS (Int.toNat (↑(Subtype.val s_1) : Int))) (Int.toNat (↑(Prod.fst (Subtype.val s_2)) : Int))) (List.getD (partsW (trimW s { data := #[(32 : UInt8), (9 : UInt8)] }) { data := #[(32 : UInt8)] }) (1 + Int.toNat (↑(Prod.fst (Subtype.val s_2)) : Int)) ByteArray.empty))).6), CV.v (Value.string (Prod.fst (fieldF s_3 (bt' (hasS (Int.toNat (↑(Subtype.val s_1) : Int))) (Int.toNat (↑(Prod.fst (Subtype.val s_2)) : Int))) (List.getD (partsW (trimW s { data := #[(32 : UInt8), (9 : UInt8)] }) { data := #[(32 : UInt8)] }) (1 + Int.toNat (↑(Prod.fst (Subtype.val s_2)) : Int)) ByteArray.empty))).7)], ov := [] } (tparse_27 s s_1 s'))
 (Tree.need True))))))))))))))))))
 (Tree.chk (((↑(Subtype.val s_1) : Int) == (7 : Int)) = true → ((↑(Subtype.val s_1) : Int) == (7 : Int)) = true)
 (Tree.chk (((↑(Subtype.val s_1) : Int) == (7 : Int)) = true → ((↑(Subtype.val s_1) : Int) == (7 : Int)) = true)
 (Tree.chk (((↑(Subtype.val s_1) : Int) == (7 : Int)) = true → ((↑(Subtype.val s_1) : Int) == (7 : Int)) = true)
 (Tree.chk (((↑(Subtype.val s_1) : Int) == (7 : Int)) = true → ((↑(Subtype.val s_1) : Int) == (7 : Int)) = true)
 (Tree.br (bif (↑(Subtype.val s_1) : Int) == (7 : Int) then decide ((Prod.snd (Subtype.val s_2)).3 > (13 : Int)) else false)
 (Tree.done tparse_6 tparse_29)
 (Tree.done (tparse_32 s s_1 s_2) tparse_29)))))))))))))))))))))))))))))
 (Tree.done tparse_6 [Ent.dead, Ent.dead, Ent.dead]))))))))
theorem tparse_eq (s : ByteArray) : prune (.k) (xfunc tab (parseG s) (parseI (trimW s tabS)) Go.Proofs.Tryd.f9 [sv' s] [] []) = tparse s := by kernel_rfl
end Go.Proofs.YtjbnkdpeohbakaaDoor.X.Ip

set_option linter.unusedVariables false
set_option linter.unusedSimpArgs false
namespace Go.Proofs.YtjbnkdpeohbakaaDoor.X.Ip
open Go Go.RowKit Go.Proofs.YtjbnkdpeohbakaaDoorW.PrintWords Go.Proofs.YtjbnkdpeohbakaaDoor.Base Go.Proofs.YtjbnkdpeohbakaaDoor.X
theorem shapes_call : Callable Tryd.prog 21 := ⟨_, Tryd.func21, by kernel_rfl, rfl⟩
theorem field_call : Callable Tryd.prog 22 := ⟨_, Tryd.func22, by kernel_rfl, rfl⟩
theorem shapes_local (k : Nat) : (shapesC k).Local Tryd.prog 21 := by
  refine local_ofP Tryd.func21 rfl (tshapes_eq ()) fun ν w => ?_
  refine ok_leaf (fun _ => 0) [] [0] trivial rfl ⟨⟨_, rfl, EntRel.rw rfl rfl (fun i hi => ?_) fun _ _ => rfl⟩, trivial⟩ rfl
  match i, hi with
  | 0, _ => rfl
  | 1, _ => rfl
  | 2, _ => rfl
  | 3, _ => rfl
  | 4, _ => rfl
  | 5, _ => rfl
  | 6, _ => rfl
  | 7, _ => rfl
  | 8, _ => rfl
  | 9, _ => rfl
  | 10, _ => rfl
  | 11, _ => rfl
  | 12, _ => rfl
  | 13, _ => rfl
  | 14, _ => rfl
  | 15, _ => rfl
  | 16, _ => rfl
  | 17, _ => rfl
  | 18, _ => rfl
  | 19, _ => rfl
  | 20, _ => rfl
  | 21, _ => rfl
  | 22, _ => rfl
  | k + 23, h => exact absurd h (by omega)

theorem field_local (x : Ln) (w : Int) (s : ByteArray) (ρ : List Nat) (hs : s.size ≤ 100000) : (fieldC x w s ρ).Local Tryd.prog 22 := by
  refine local_ofP Tryd.func22 rfl (tfield_eq x w s) fun ν w' => ?_
  cases h1 : (w == 65) with
  | true =>
    refine ok_br' (fun _ => ?_) (fun h => by first | (cases h; done) | (rw [h1] at h; cases h))
    refine ok_callf' reg_call (fits_of rfl rfl trivial fun c _ => ⟨⟨Nat.zero_le _, rfl⟩, ⟨rfl, rfl⟩, trivial⟩) (reg_local _ hs) fun c _ => ?_
    exact ok_leaf (fun _ => 0) [] [0] trivial (by show _ = bool (fieldF x w s).2; unfold fieldF; rw [h1]; rfl) ⟨⟨_, rfl, by show EntRel _ _ _ _ (fieldF x w s).1.box; unfold fieldF; rw [h1]; exact EntRel.box' rfl rfl rfl rfl rfl⟩, trivial⟩ rfl
  | false =>
  refine ok_br' (fun h => by first | (cases h; done) | (rw [h1] at h; cases h)) (fun _ => ?_)
  cases h2 : (w == 66) with
  | true =>
    refine ok_br' (fun _ => ?_) (fun h => by first | (cases h; done) | (rw [h2] at h; cases h))
    refine ok_callf' reg_call (fits_of rfl rfl trivial fun c _ => ⟨⟨Nat.zero_le _, rfl⟩, ⟨rfl, rfl⟩, trivial⟩) (reg_local _ hs) fun c _ => ?_
    exact ok_leaf (fun _ => 0) [] [0] trivial (by show _ = bool (fieldF x w s).2; unfold fieldF; rw [h1, h2]; rfl) ⟨⟨_, rfl, by show EntRel _ _ _ _ (fieldF x w s).1.box; unfold fieldF; rw [h1, h2]; exact EntRel.box' rfl rfl rfl rfl rfl⟩, trivial⟩ rfl
  | false =>
  refine ok_br' (fun h => by first | (cases h; done) | (rw [h2] at h; cases h)) (fun _ => ?_)
  cases h3 : (w == 67) with
  | true =>
    refine ok_br' (fun _ => ?_) (fun h => by first | (cases h; done) | (rw [h3] at h; cases h))
    refine ok_callf' reg_call (fits_of rfl rfl trivial fun c _ => ⟨⟨Nat.zero_le _, rfl⟩, ⟨rfl, rfl⟩, trivial⟩) (reg_local _ hs) fun c _ => ?_
    exact ok_leaf (fun _ => 0) [] [0] trivial (by show _ = bool (fieldF x w s).2; unfold fieldF; rw [h1, h2, h3]; rfl) ⟨⟨_, rfl, by show EntRel _ _ _ _ (fieldF x w s).1.box; unfold fieldF; rw [h1, h2, h3]; exact EntRel.box' rfl rfl rfl rfl rfl⟩, trivial⟩ rfl
  | false =>
  refine ok_br' (fun h => by first | (cases h; done) | (rw [h3] at h; cases h)) (fun _ => ?_)
  cases h4 : (w == 78) with
  | true =>
    refine ok_br' (fun _ => ?_) (fun h => by first | (cases h; done) | (rw [h4] at h; cases h))
    refine ok_callf' num_call (fits_of rfl rfl trivial fun c _ => ⟨⟨Nat.zero_le _, rfl⟩, ⟨rfl, rfl⟩, trivial⟩) (num_local _ hs) fun c _ => ?_
    exact ok_leaf (fun _ => 0) [] [0] trivial (by show _ = bool (fieldF x w s).2; unfold fieldF; rw [h1, h2, h3, h4]; rfl) ⟨⟨_, rfl, by show EntRel _ _ _ _ (fieldF x w s).1.box; unfold fieldF; rw [h1, h2, h3, h4]; exact EntRel.box' rfl rfl rfl rfl rfl⟩, trivial⟩ rfl
  | false =>
    refine ok_br' (fun h => by first | (cases h; done) | (rw [h4] at h; cases h)) (fun _ => ?_)
    refine ok_callf' name_call (fits_of rfl rfl trivial fun c _ => ⟨⟨Nat.zero_le _, rfl⟩, ⟨rfl, rfl⟩, trivial⟩) (name_local _) fun c _ => ?_
    exact ok_leaf (fun _ => 0) [] [0] trivial (by show _ = bool (fieldF x w s).2; unfold fieldF; rw [h1, h2, h3, h4]; rfl) ⟨⟨_, rfl, by show EntRel _ _ _ _ (fieldF x w s).1.box; unfold fieldF; rw [h1, h2, h3, h4]; exact EntRel.box' rfl rfl rfl rfl rfl⟩, trivial⟩ rfl
end Go.Proofs.YtjbnkdpeohbakaaDoor.X.Ip

set_option linter.unusedVariables false
set_option linter.unusedSimpArgs false
namespace Go.Proofs.YtjbnkdpeohbakaaDoor.X.Ip
open Go Go.RowKit Go.Proofs.YtjbnkdpeohbakaaDoorW.PrintWords Go.Proofs.YtjbnkdpeohbakaaDoor.Base Go.Proofs.YtjbnkdpeohbakaaDoor.X
theorem parse_call : Callable Tryd.prog 9 := ⟨_, Tryd.func9, by kernel_rfl, rfl⟩
theorem splitB_size (sep : ByteArray) (n : Nat) : ∀ (k : Nat) (s : ByteArray), s.size ≤ n → ∀ p ∈ Lib.splitB sep 0 k s, p.size ≤ n
  | 0, s, h, p, hp => by
    rw [Lib.splitB_zero] at hp
    simp only [List.mem_cons, List.not_mem_nil, or_false] at hp
    rw [hp]; exact h
  | k + 1, s, h, p, hp => by
    unfold Lib.splitB at hp
    split at hp
    · simp only [List.mem_cons, List.not_mem_nil, or_false] at hp
      rw [hp]; exact h
    · rcases List.mem_cons.1 hp with rfl | hp
      · rw [ByteArray.size_extract]; omega
      · exact splitB_size sep n k _ (by rw [ByteArray.size_extract]; omega) p hp
theorem part_size (s sep : ByteArray) (n i : Nat) (h : s.size ≤ n) : ((partsW s sep).getD i ByteArray.empty).size ≤ n := by
  rw [List.getD_eq_getElem?_getD]
  cases hi : (partsW s sep)[i]? with
  | none => exact Nat.zero_le _
  | some p => exact splitB_size sep n _ s h p (List.mem_of_getElem? hi)
theorem trim_size (s c : ByteArray) : (trimW s c).size ≤ s.size := by
  have e : s.data.toList.length = s.data.size := Array.length_toList
  have h1 : ∀ l : List UInt8, (l.dropWhile (c.data.toList.contains ·)).length ≤ l.length := fun l => (List.dropWhile_sublist _).length_le
  show (bs _).size ≤ s.data.size
  rw [bs_size]
  unfold Lib.trimS Lib.trimLeftS Lib.trimRightS
  refine Nat.le_trans (h1 _) ?_
  rw [List.length_reverse]
  refine Nat.le_trans (h1 _) ?_
  rw [List.length_reverse]
  omega
theorem ne_size {t : ByteArray} (h : (!(t.toList == (⟨#[]⟩ : ByteArray).toList)) = true) : 0 < t.size := by
  refine Nat.pos_of_ne_zero fun h0 => ?_
  have : t = ⟨#[]⟩ := by
    obtain ⟨x⟩ := t
    have h0 : x.size = 0 := h0
    rw [Array.eq_empty_of_size_eq_zero h0]
  rw [this, (str_eq _ _).2 rfl] at h
  cases h
theorem px {s : ByteArray} {v : Option Ln} (h : parseF s = v) {y : XV} {n : Nat} (e : y = XV.nilz n (XV.ren [] (parseX v))) : y = XV.nilz n (XV.ren [] ((parseC s).x0 fun _ => 0)) := by
  rw [e, ← h]
theorem opF_step (ws : List ByteArray) {i : Nat} (h : i < 23) : opF ws (23 - i) i = bif skipF ws i then opF ws (23 - (i + 1)) (i + 1) else (fieldsF (hasS i) ws (ws.length - 1) 0 { noLn with op := i }).bind (lastF i) := by
  rw [show 23 - i = (23 - (i + 1)) + 1 by omega]
  rfl
theorem fieldsF_step (has : ByteArray) (ws : List ByteArray) (x : Ln) {n j : Nat} (h : j < n) : fieldsF has ws (n - j) j x = bif (fieldF x (bt' has j) (ws.getD (j + 1) ByteArray.empty)).2 then fieldsF has ws (n - (j + 1)) (j + 1) (fieldF x (bt' has j) (ws.getD (j + 1) ByteArray.empty)).1 else none := by
  rw [show n - j = (n - (j + 1)) + 1 by omega]
  rfl
theorem field_comm (has : ByteArray) (ws : List ByteArray) (x : Ln) (j : Nat) : fieldF x (bt' has (j : Int).toNat) (ws.getD (1 + (j : Int).toNat) ByteArray.empty) = fieldF x (bt' has j) (ws.getD (j + 1) ByteArray.empty) := by
  rw [Int.toNat_natCast, Nat.add_comm 1]
theorem parse_local (s : ByteArray) (hs : s.size ≤ 100000) : (parseC s).Local Tryd.prog 9 := by
  refine local_ofP Tryd.func9 rfl (tparse_eq s) fun ν w => ?_
  have hT : (trimW s tabS).size ≤ 100000 := Nat.le_trans (trim_size s tabS) hs
  obtain ⟨T, eT⟩ : ∃ T, trimW s tabS = T := ⟨_, rfl⟩
  refine ok_callf' trim_call (fits_of rfl rfl trivial fun c _ => ⟨⟨Nat.zero_le _, rfl⟩, ⟨rfl, rfl⟩, trivial⟩) (trim_local _ _ (by omega) (by decide) (by decide)) fun c _ => ?_
  refine ok_chk' (fun h => h) (ok_chk' (fun h => ⟨by decide, by have := ne_size h; exact Int.ofNat_lt.2 this⟩) (ok_chk' (fun h => h) (ok_chk' (fun h => by rw [h]; rfl) (ok_br' (fun h1 => ?_) fun h1 => ?_))))
  · have hp : parseF s = some noLn := by
      unfold parseF
      rw [show (bif (trimW s tabS).toList == ByteArray.empty.toList then true else bt' (trimW s tabS) 0 == 59) = true from h1]; rfl
    exact ok_leaf (fun _ => 0) [] [] trivial (px hp rfl) trivial (by rw [show ((parseC s).x0 fun _ => 0) = _ from congrArg parseX hp]; rfl)
  have hp : parseF s = bif hsufF (trimW s tabS) colS then (bif nameF (tsufW (trimW s tabS) colS) then some { noLn with lb := tsufW (trimW s tabS) colS } else none) else opF (partsW (trimW s tabS) spS) 23 0 := by
    unfold parseF
    rw [show (bif (trimW s tabS).toList == ByteArray.empty.toList then true else bt' (trimW s tabS) 0 == 59) = false from h1]; rfl
  refine ok_callf' cuts_call (fits_of rfl rfl trivial fun c _ => ⟨⟨Nat.zero_le _, rfl⟩, ⟨rfl, rfl⟩, trivial⟩) (cuts_local _ _ (by show (trimW s tabS).size ≤ _; omega)) fun c2 _ => ok_br' (fun h2 => ?_) fun h2 => ?_
  · rw [show hsufF (trimW s tabS) colS = true from h2, cond_true] at hp
    refine ok_callf' name_call (fits_of rfl rfl trivial fun c _ => ⟨⟨Nat.zero_le _, rfl⟩, ⟨rfl, rfl⟩, trivial⟩) (name_local _) fun c3 _ => ok_br' (fun h3 => ?_) fun h3 => ?_
    · rw [show nameF (tsufW (trimW s tabS) colS) = false from not_t h3] at hp
      exact ok_leaf (fun _ => 0) [] [] trivial (px hp rfl) trivial (by rw [show ((parseC s).x0 fun _ => 0) = _ from congrArg parseX hp]; rfl)
    · rw [show nameF (tsufW (trimW s tabS) colS) = true from not_f h3] at hp
      exact ok_leaf (fun _ => 0) [] [] trivial (px hp rfl) trivial (by rw [show ((parseC s).x0 fun _ => 0) = _ from congrArg parseX hp]; rfl)
  rw [show hsufF (trimW s tabS) colS = false from h2, cond_false] at hp
  have hlen : 1 ≤ (partsW (trimW s tabS) spS).length ∧ (partsW (trimW s tabS) spS).length ≤ 100001 := by
    have e : (partsW (trimW s tabS) spS).length = Lib.countB (trimW s tabS) spS + 1 := Lib.splitB_all spS (by decide) 0 _ _ rfl
    have := Lib.countB_le spS (by decide) (trimW s tabS).size (trimW s tabS) (Nat.le_refl _)
    omega
  have hsz : ∀ i, ((partsW (trimW s tabS) spS).getD i ByteArray.empty).size ≤ 100000 := fun i => part_size _ _ _ i hT
  have hwr : IntKind.wrap .i64 (((partsW (trimW s tabS) spS).length : Int) - 1) = ((partsW (trimW s tabS) spS).length : Int) - 1 := IntWalk.i64_in _ ⟨by omega, by omega⟩
  refine ok_callf' split_call (fits_of rfl rfl trivial fun c _ => ⟨⟨Nat.zero_le _, rfl⟩, ⟨rfl, rfl⟩, ⟨⟨EntRel.plain rfl rfl rfl rfl (fun h => by cases h) (fun _ _ => ⟨rfl, rfl⟩) fun _ _ _ _ => ⟨rfl, rfl⟩, rfl, (fun h => by cases h), .inr rfl⟩, trivial⟩⟩) (split_local _ _ _ (by show (trimW s tabS).size < _; omega) (by decide)) fun c3 _ => ok_callf' shapes_call (fits_of rfl rfl trivial fun c _ => ⟨⟨Nat.zero_le _, rfl⟩, ⟨rfl, rfl⟩, ⟨⟨EntRel.plain rfl rfl rfl rfl (fun h => by cases h) (fun _ _ => ⟨rfl, rfl⟩) fun _ _ _ _ => ⟨rfl, rfl⟩, rfl, (fun h => by cases h), .inr rfl⟩, trivial⟩⟩) (shapes_local _) fun c4 _ => ok_both' ?_ (ok_every' fun i => ok_br' (fun hi => ?_) fun hi => ?_)
  · repeat' first | exact rfl | exact trivial | exact EntRel.box' rfl rfl rfl rfl rfl | exact EntRel.plain rfl rfl rfl rfl (fun h => by cases h) (fun _ _ => ⟨rfl, rfl⟩) (fun _ _ _ _ => ⟨rfl, rfl⟩) | refine ok_chk' ?_ ?_
  · have hi : i.1 < 23 := by have h := hi; simp at h; omega
    refine ok_chk' ⟨by omega, by omega, by omega, by omega⟩ ?_
    repeat refine ok_chk' (by first | exact fun h => h | rfl | exact fun _ => rfl | (exact fun h => by rw [h]; rfl) | exact fun h => absurd h (by decide) | (intro h1 h2; rw [h1, h2]; rfl)) ?_
    refine ok_chk' ⟨by omega, by omega⟩ ?_
    repeat refine ok_chk' (by first | exact fun h => h | rfl | exact fun _ => rfl | (exact fun h => by rw [h]; rfl) | exact fun h => absurd h (by decide) | (intro h1 h2; rw [h1, h2]; rfl)) ?_
    refine ok_chk' (fun _ => ⟨by omega, Int.ofNat_lt.2 hlen.1, hlen.1, by omega⟩) ?_
    repeat refine ok_chk' (by first | exact fun h => h | rfl | exact fun _ => rfl | (exact fun h => by rw [h]; rfl) | exact fun h => absurd h (by decide) | (intro h1 h2; rw [h1, h2]; rfl)) ?_
    refine ok_chk' (fun _ => ⟨by omega, hlen.1⟩) ?_
    repeat refine ok_chk' (by first | exact fun h => h | rfl | exact fun _ => rfl | (exact fun h => by rw [h]; rfl) | exact fun h => absurd h (by decide) | (intro h1 h2; rw [h1, h2]; rfl)) ?_
    refine ok_br' (fun h3 => ?_) fun h3 => ?_
    · have h3 : (bif (bif (wordS i.1).toList == ByteArray.empty.toList then true else !((wordS i.1).toList == ((partsW (trimW s tabS) spS).getD 0 ByteArray.empty).toList)) then true else !(((hasS i.1).size : Int) == IntKind.wrap .i64 (((partsW (trimW s tabS) spS).length : Int) - 1))) = true := h3
      rw [hwr] at h3
      have h3 : skipF (partsW (trimW s tabS) spS) i.1 = true := h3
      refine ok_some' ⟨i.1 + 1, hi, ?_⟩ (ok_chk' (by show 23 - (i.1 + 1) < 23 - i.1; omega) (ok_chk' (by rw [show IntKind.wrap .i64 ((i.1 : Int) + 1) = ((i.1 + 1 : Nat) : Int) from (IntWalk.i64_in _ ⟨by omega, by omega⟩).trans (by omega)]) ?_))
      · have e := opF_step (partsW (trimW s tabS) spS) hi
        rw [h3] at e
        exact e.symm.trans i.2.2
      · repeat' first | exact rfl | exact trivial | exact EntRel.box' rfl rfl rfl rfl rfl | exact EntRel.plain rfl rfl rfl rfl (fun h => by cases h) (fun _ _ => ⟨rfl, rfl⟩) (fun _ _ _ _ => ⟨rfl, rfl⟩) | refine ok_chk' ?_ ?_
    · have h3 : (bif (bif (wordS i.1).toList == ByteArray.empty.toList then true else !((wordS i.1).toList == ((partsW (trimW s tabS) spS).getD 0 ByteArray.empty).toList)) then true else !(((hasS i.1).size : Int) == IntKind.wrap .i64 (((partsW (trimW s tabS) spS).length : Int) - 1))) = false := h3
      rw [hwr] at h3
      have h3 : skipF (partsW (trimW s tabS) spS) i.1 = false := h3
      have hz : ((hasS i.1).size : Int) = ((partsW (trimW s tabS) spS).length : Int) - 1 := by
        have h4 := h3
        unfold skipF at h4
        cases h5 : (bif (wordS i.1).toList == ByteArray.empty.toList then true else !((wordS i.1).toList == ((partsW (trimW s tabS) spS).getD 0 ByteArray.empty).toList)) with
        | true => rw [h5] at h4; cases h4
        | false => rw [h5, cond_false] at h4; exact eq_of_beq (not_f h4)
      have hp : parseF s = (fieldsF (hasS i.1) (partsW (trimW s tabS) spS) ((partsW (trimW s tabS) spS).length - 1) 0 { noLn with op := i.1 }).bind (lastF i.1) := by
        have e := opF_step (partsW (trimW s tabS) spS) hi
        rw [h3] at e
        exact hp.trans (i.2.2.symm.trans e)
      refine ok_chk' ⟨by omega, by omega⟩ ?_
      repeat refine ok_chk' (by first | exact fun h => h | rfl | exact fun _ => rfl | (exact fun h => by rw [h]; rfl) | exact fun h => absurd h (by decide) | (intro h1 h2; rw [h1, h2]; rfl)) ?_
      refine ok_chk' ⟨by omega, by have := hlen.1; show (1 : Int) ≤ ((partsW (trimW s tabS) spS).length : Int); omega⟩ ?_
      repeat refine ok_chk' (by first | exact fun h => h | rfl | exact fun _ => rfl | (exact fun h => by rw [h]; rfl) | exact fun h => absurd h (by decide) | (intro h1 h2; rw [h1, h2]; rfl)) ?_
      refine ok_br' (fun h4 => ?_) fun h4 => ?_
      · have h4 : (partsW (trimW s tabS) spS).length = 1 := of_decide_eq_true h4
        refine ok_both' ?_ (ok_every' fun q => ok_br' (fun hq => ?_) fun hq => ?_)
        · repeat' first | exact rfl | exact trivial | exact EntRel.box' rfl rfl rfl rfl rfl | exact EntRel.plain rfl rfl rfl rfl (fun h => by cases h) (fun _ _ => ⟨rfl, rfl⟩) (fun _ _ _ _ => ⟨rfl, rfl⟩) | refine ok_chk' ?_ ?_
        · exfalso
          have h := of_decide_eq_true hq
          have h : ((q.1.1 : Int) < ((((partsW (trimW s tabS) spS).length : Int).toNat - (1 : Int).toNat : Nat) : Int)) := h
          omega
        · have hq : q.1.1 = (partsW (trimW s tabS) spS).length - 1 := by
            have hq2 := q.2.1
            have h := of_decide_eq_false hq
            have h : ¬ ((q.1.1 : Int) < ((((partsW (trimW s tabS) spS).length : Int).toNat - (1 : Int).toNat : Nat) : Int)) := h
            omega
          have hfin : parseF s = lastF i.1 q.1.2 := by
            have e := q.2.2
            rw [hq, Nat.sub_self] at e
            exact hp.trans (congrArg (fun o => o.bind (lastF i.1)) e.symm)
          repeat refine ok_chk' (by first | exact fun h => h | rfl | exact fun _ => rfl | (exact fun h => by rw [h]; rfl) | exact fun h => absurd h (by decide) | (intro h1 h2; rw [h1, h2]; rfl)) ?_
          refine ok_br' (fun h5 => ?_) fun h5 => ?_
          · have hp : parseF s = none := hfin.trans (by show (bif (bif (i.1 : Int) == 7 then decide (q.1.2.a > 13) else false) then none else some q.1.2) = none; rw [show (bif (i.1 : Int) == 7 then decide (q.1.2.a > 13) else false) = true from h5]; rfl)
            exact ok_leaf (fun _ => 0) [] [] trivial (px hp rfl) trivial (by rw [show ((parseC s).x0 fun _ => 0) = _ from congrArg parseX hp]; rfl)
          · have hp : parseF s = some q.1.2 := hfin.trans (by show (bif (bif (i.1 : Int) == 7 then decide (q.1.2.a > 13) else false) then none else some q.1.2) = some q.1.2; rw [show (bif (i.1 : Int) == 7 then decide (q.1.2.a > 13) else false) = false from h5]; rfl)
            exact ok_leaf (fun _ => 0) [] [] trivial (px hp rfl) trivial (by rw [show ((parseC s).x0 fun _ => 0) = _ from congrArg parseX hp]; rfl)
      · have h4 : (partsW (trimW s tabS) spS).length ≠ 1 := of_decide_eq_false h4
        refine ok_both' ?_ (ok_every' fun q => ok_br' (fun hq => ?_) fun hq => ?_)
        · repeat' first | exact rfl | exact trivial | exact EntRel.box' rfl rfl rfl rfl rfl | exact EntRel.plain rfl rfl rfl rfl (fun h => by cases h) (fun _ _ => ⟨rfl, rfl⟩) (fun _ _ _ _ => ⟨rfl, rfl⟩) | refine ok_chk' ?_ ?_
        · have hq : q.1.1 < (partsW (trimW s tabS) spS).length - 1 := by
            have h := of_decide_eq_true hq
            have h : ((q.1.1 : Int) < ((((partsW (trimW s tabS) spS).length : Int).toNat - (1 : Int).toNat : Nat) : Int)) := h
            omega
          have hb1 : 1 + q.1.1 < (partsW (trimW s tabS) spS).length := by omega
          refine ok_chk' ⟨by omega, by have h : ((q.1.1 : Int) < ((((partsW (trimW s tabS) spS).length : Int).toNat - (1 : Int).toNat : Nat) : Int)) := (by omega); exact h, by rw [Int.toNat_natCast]; exact hb1, by omega⟩ ?_
          repeat refine ok_chk' (by first | exact fun h => h | rfl | exact fun _ => rfl | (exact fun h => by rw [h]; rfl) | exact fun h => absurd h (by decide) | (intro h1 h2; rw [h1, h2]; rfl)) ?_
          refine ok_chk' ⟨by omega, by rw [Int.toNat_natCast]; exact hb1⟩ ?_
          repeat refine ok_chk' (by first | exact fun h => h | rfl | exact fun _ => rfl | (exact fun h => by rw [h]; rfl) | exact fun h => absurd h (by decide) | (intro h1 h2; rw [h1, h2]; rfl)) ?_
          refine ok_chk' ⟨by omega, by have h : (q.1.1 : Int) < ((hasS i.1).size : Int) := (by omega); exact h⟩ ?_
          repeat refine ok_chk' (by first | exact fun h => h | rfl | exact fun _ => rfl | (exact fun h => by rw [h]; rfl) | exact fun h => absurd h (by decide) | (intro h1 h2; rw [h1, h2]; rfl)) ?_
          have eF : fieldF q.1.2 (bt' (hasS i.1) (q.1.1 : Int).toNat) ((partsW (trimW s tabS) spS).getD (1 + (q.1.1 : Int).toNat) ByteArray.empty) = fieldF q.1.2 (bt' (hasS i.1) q.1.1) ((partsW (trimW s tabS) spS).getD (q.1.1 + 1) ByteArray.empty) := by
            exact field_comm (hasS i.1) (partsW (trimW s tabS) spS) q.1.2 q.1.1
          have eS := fieldsF_step (hasS i.1) (partsW (trimW s tabS) spS) q.1.2 hq
          rw [← eF] at eS
          have eQ := q.2.2
          refine ok_some' q.1.2 (ok_callf' field_call (fits_of rfl rfl ⟨⟨_, rfl, EntRel.box' rfl rfl rfl rfl rfl⟩, trivial⟩ fun c _ => ⟨⟨Nat.le_refl _, rfl⟩, ⟨rfl, rfl⟩, ⟨⟨EntRel.box' rfl rfl rfl rfl rfl, rfl, (fun _ => ⟨rfl, rfl⟩), .inr rfl⟩, trivial⟩⟩) (field_local _ _ _ _ (hsz _)) fun c5 _ => ok_br' (fun h5 => ?_) fun h5 => ?_)
          · rw [show (fieldF q.1.2 (bt' (hasS i.1) (q.1.1 : Int).toNat) ((partsW (trimW s tabS) spS).getD (1 + (q.1.1 : Int).toNat) ByteArray.empty)).2 = false from not_t h5] at eS
            have hp : parseF s = none := hp.trans (congrArg (fun o => o.bind (lastF i.1)) (eQ.symm.trans eS))
            exact ok_leaf (fun _ => 0) [] [] trivial (px hp rfl) trivial (by rw [show ((parseC s).x0 fun _ => 0) = _ from congrArg parseX hp]; rfl)
          · rw [show (fieldF q.1.2 (bt' (hasS i.1) (q.1.1 : Int).toNat) ((partsW (trimW s tabS) spS).getD (1 + (q.1.1 : Int).toNat) ByteArray.empty)).2 = true from not_f h5] at eS
            refine ok_some' ⟨(q.1.1 + 1, (fieldF q.1.2 (bt' (hasS i.1) (q.1.1 : Int).toNat) ((partsW (trimW s tabS) spS).getD (1 + (q.1.1 : Int).toNat) ByteArray.empty)).1), hq, eS.symm.trans eQ⟩ (ok_chk' (by show (partsW (trimW s tabS) spS).length - 1 - (q.1.1 + 1) < (partsW (trimW s tabS) spS).length - 1 - q.1.1; omega) (ok_chk' ?_ ?_))
            · show XV.a (.c (.v (.int .i64 (IntKind.wrap .i64 ((q.1.1 : Int) + 1))))) = XV.a (.c (.v (.int .i64 ((q.1.1 + 1 : Nat) : Int))))
              rw [show IntKind.wrap .i64 ((q.1.1 : Int) + 1) = ((q.1.1 + 1 : Nat) : Int) from (IntWalk.i64_in _ ⟨by omega, by omega⟩).trans (by omega)]
            · repeat' first | exact rfl | exact trivial | exact EntRel.box' rfl rfl rfl rfl rfl | exact EntRel.plain rfl rfl rfl rfl (fun h => by cases h) (fun _ _ => ⟨rfl, rfl⟩) (fun _ _ _ _ => ⟨rfl, rfl⟩) | refine ok_chk' ?_ ?_
        · have hq : q.1.1 = (partsW (trimW s tabS) spS).length - 1 := by
            have hq2 := q.2.1
            have h := of_decide_eq_false hq
            have h : ¬ ((q.1.1 : Int) < ((((partsW (trimW s tabS) spS).length : Int).toNat - (1 : Int).toNat : Nat) : Int)) := h
            omega
          have hfin : parseF s = lastF i.1 q.1.2 := by
            have e := q.2.2
            rw [hq, Nat.sub_self] at e
            exact hp.trans (congrArg (fun o => o.bind (lastF i.1)) e.symm)
          repeat refine ok_chk' (by first | exact fun h => h | rfl | exact fun _ => rfl | (exact fun h => by rw [h]; rfl) | exact fun h => absurd h (by decide) | (intro h1 h2; rw [h1, h2]; rfl)) ?_
          refine ok_br' (fun h5 => ?_) fun h5 => ?_
          · have hp : parseF s = none := hfin.trans (by show (bif (bif (i.1 : Int) == 7 then decide (q.1.2.a > 13) else false) then none else some q.1.2) = none; rw [show (bif (i.1 : Int) == 7 then decide (q.1.2.a > 13) else false) = true from h5]; rfl)
            exact ok_leaf (fun _ => 0) [] [] trivial (px hp rfl) trivial (by rw [show ((parseC s).x0 fun _ => 0) = _ from congrArg parseX hp]; rfl)
          · have hp : parseF s = some q.1.2 := hfin.trans (by show (bif (bif (i.1 : Int) == 7 then decide (q.1.2.a > 13) else false) then none else some q.1.2) = some q.1.2; rw [show (bif (i.1 : Int) == 7 then decide (q.1.2.a > 13) else false) = false from h5]; rfl)
            exact ok_leaf (fun _ => 0) [] [] trivial (px hp rfl) trivial (by rw [show ((parseC s).x0 fun _ => 0) = _ from congrArg parseX hp]; rfl)
  · have hi : i.1 = 23 := by have := i.2.1; simp at hi; omega
    have := i.2.2
    rw [hi] at this
    have hp : parseF s = none := hp.trans this.symm
    exact ok_leaf (fun _ => 0) [] [] trivial (px hp rfl) trivial (by rw [show ((parseC s).x0 fun _ => 0) = _ from congrArg parseX hp]; rfl)
end Go.Proofs.YtjbnkdpeohbakaaDoor.X.Ip

set_option linter.unusedVariables false
set_option linter.unusedSimpArgs false
namespace Go.Proofs.YtjbnkdpeohbakaaDoor.X.Ip
open Go Go.RowKit Go.Proofs.YtjbnkdpeohbakaaDoorW.PrintWords Go.Proofs.YtjbnkdpeohbakaaDoor.Base Go.Proofs.YtjbnkdpeohbakaaDoor.X
structure In where
  op : Int
  a : Int
  b : Int
  c : Int
  n : Int
def In.cv (x : In) : List CV := [iv x.op, iv x.a, iv x.b, iv x.c, iv x.n]
abbrev In.av (x : In) : AV := .agg x.cv
def inF (n : Int) : Bool := bif decide (n ≥ 0) then decide (n < 16) else false
def useF (op : Int) : Bool × Bool × Bool × Nat :=
  bif op == 1 then (true, false, false, 1) else bif op == 2 then (true, true, false, 0) else bif op == 3 then (true, true, true, 0)
  else bif op == 4 || op == 5 || op == 6 || op == 7 then (true, true, false, 1)
  else bif op == 8 then (false, false, false, 2) else bif op == 9 || op == 10 || op == 11 then (true, true, false, 2)
  else bif op == 12 then (false, false, false, 2) else bif op == 13 then (false, false, false, 0)
  else bif op == 14 || op == 15 then (true, false, false, 0) else bif op == 16 then (true, false, false, 1)
  else bif op == 17 || op == 18 || op == 19 then (true, false, false, 0) else bif op == 20 then (false, false, false, 0)
  else bif op == 21 then (true, false, false, 1) else (true, false, false, 0)
def mayF (x : In) : Bool :=
  decide (1 ≤ x.op) && decide (x.op ≤ 22) && !(x.op == 7 && decide (x.a > 13)) && inF x.a && inF x.b && inF x.c &&
  ((useF x.op).1 || x.a == 0) && ((useF x.op).2.1 || x.b == 0) && ((useF x.op).2.2.1 || x.c == 0) &&
  (match (useF x.op).2.2.2 with | 0 => x.n == 0 | 1 => decide (-999999999999999999 ≤ x.n) && decide (x.n ≤ 999999999999999999) | _ => true)
abbrev mayC (x : In) : CallSpec := mSpec [] 0 [x.av] [] (fun _ => True) (fun _ => bool (mayF x)) fun _ => []
abbrev inC (n : Int) : CallSpec := mSpec [] 0 [iav n] [] (fun _ => True) (fun _ => bool (inF n)) fun _ => []
def mayG : Ctr := fun f args H => match args with
  | [] => some (shapesC H.length)
  | [.c (.v (.int _ n))] => some (inC n)
  | _ => none
def zeroF (b : In) (c : Int) : In := bif c == 65 then { b with a := 0 } else bif c == 66 then { b with b := 0 } else bif c == 67 then { b with c := 0 } else { b with n := 0 }
def farF (x : In) : Bool := bif decide (x.n < -999999999999999999) then true else decide (x.n > 999999999999999999)
def endF (x b : In) : Bool := bif (bif (bif (b.op == x.op && (b.a == 0 && (b.b == 0 && (b.c == 0 && b.n == 0)))) then inF x.a else false) then inF x.b else false) then inF x.c else false
def mayL (x : In) (s : ByteArray) : Nat → Nat → In → Bool
  | 0, _, b => endF x b
  | k + 1, i, b => bif bt' s i == 78 && farF x then false else mayL x s k (i + 1) (zeroF b (bt' s i))
abbrev MayS (x : In) (s : ByteArray) : Type := { p : Nat × In // p.1 ≤ s.size ∧ mayL x s (s.size - p.1) p.1 p.2 = mayL x s s.size 0 x }
def mayI (x : In) (tm : Tm) (H : Hp) : LoopInv := ⟨MayS x (hasS x.op.toNat), fun p => ([(34, .a (bptr 4 2)), (3, .a (bptr 2 5)), (2, .a (.c (bv false))), (1, .a (bptr 0 5))], (H.set 2 (Ent.mkBox 24 p.1.2.cv)).set 4 (itBox (hasS x.op.toNat) p.1.1)), fun p => (hasS x.op.toNat).size - p.1.1, some ⟨(0, x), Nat.zero_le _, rfl⟩, [], .l (List.range H.length), [], fun _ _ => .l (List.range H.length)⟩
def accessF (x : In) : Bool := bif decide (x.op ≥ 5) then decide (x.op ≤ 7) else false
abbrev accessC (x : In) : CallSpec := mSpec [] 0 [x.av] [] (fun _ => True) (fun _ => bool (accessF x)) fun _ => []
def inOf : List CV → In
  | [.v (.int _ a), .v (.int _ b), .v (.int _ c), .v (.int _ d), .v (.int _ e)] => ⟨a, b, c, d, e⟩
  | _ => ⟨0, 0, 0, 0, 0⟩
abbrev parseD (s : ByteArray) (o : Option Ln) : CallSpec := .plain [sv' s] (parseX o)
abbrev casS : ByteArray := ⟨#[99, 97, 115, 32, 114, 53, 32, 114, 56, 32, 49]⟩
abbrev casT : ByteArray := ⟨#[99, 97, 115, 32, 114, 49, 52, 32, 114, 56, 32, 49]⟩
abbrev casL : Ln := ⟨ByteArray.empty, 7, 5, 8, 0, 1, ByteArray.empty⟩
abbrev upC : CallSpec := .plain [] (bool true)
def upG : Ctr := fun f args H => match args with
  | [.agg l] => bif Nat.beq f 12 then some (accessC (inOf l)) else some (mayC (inOf l))
  | [.c (.v (.string s))] => bif Nat.beq s.size 11 then some (parseD s (some casL)) else some (parseD s none)
  | _ => none
def tin (n : Int) : Tree :=
  Tree.chk (decide (n ≥ (0 : Int)) = true → decide (n ≥ (0 : Int)) = true)
   (Tree.chk (decide (n ≥ (0 : Int)) = true → decide (n ≥ (0 : Int)) = true)
   (Tree.done (XV.a (AV.c (CV.v (Value.bool (bif decide (n ≥ (0 : Int)) then decide (n < (16 : Int)) else false))))) []))
theorem tin_eq (n : Int) : xfunc tab noCtr noInv Go.Proofs.Tryd.f30 [iav n] [] [] = tin n := by kernel_rfl
def tmay (x : In) : Tree :=
  Tree.chk ((!decide (x.1 < (1 : Int))) = true → (!decide (x.1 < (1 : Int))) = true)
   (Tree.br (!decide (x.1 < (1 : Int)))
   (Tree.callf 21 [] [{ own := true, box := true, ty := 24, sz := 5, m := 1, n := fun x => 1, cap := fun x => 1, f := fun x_1 x_2 => [CV.v (Value.int IntKind.i64 x.1), CV.v (Value.int IntKind.i64 x.2), CV.v (Value.int IntKind.i64 x.3), CV.v (Value.int IntKind.i64 x.4), CV.v (Value.int IntKind.i64 x.5)], ov := [] }] (shapesC 1) fun c => Tree.chk ((!decide (x.1 < (1 : Int))) = true → (!decide (x.1 < (1 : Int))) = true)
   (Tree.chk ((!decide (x.1 < (1 : Int))) = true → AV.c (CV.v (Value.int IntKind.i64 x.1)) = AV.c (CV.v (Value.int IntKind.i64 x.1)))
   (Tree.chk ((!decide (x.1 < (1 : Int))) = true → AV.c (CV.ptr { k := 0, j := 0, i := 0, sz := 5, c := 0, d := 0, dn := 0, cu := 0 }) = AV.c (CV.ptr { k := 0, j := 0, i := 0, sz := 5, c := 0, d := 0, dn := 0, cu := 0 }))
   (Tree.chk ((!decide (x.1 < (1 : Int))) = true → (!decide (x.1 < (1 : Int))) = true)
   (Tree.chk ((!decide (x.1 < (1 : Int))) = true → (!decide (x.1 < (1 : Int))) = true)
   (Tree.chk (decide (x.1 < (1 : Int)) = false → (!decide (x.1 < (1 : Int))) = true)
   (Tree.chk ((!bif decide (x.1 < (1 : Int)) then true else decide (x.1 ≥ (↑23 : Int))) = true → (!bif decide (x.1 < (1 : Int)) then true else decide (x.1 ≥ (↑23 : Int))) = true)
   (Tree.chk ((!bif decide (x.1 < (1 : Int)) then true else decide (x.1 ≥ (↑23 : Int))) = true → (!bif decide (x.1 < (1 : Int)) then true else decide (x.1 ≥ (↑23 : Int))) = true)
   (Tree.chk ((!bif decide (x.1 < (1 : Int)) then true else decide (x.1 ≥ (↑23 : Int))) = true → (!bif decide (x.1 < (1 : Int)) then true else decide (x.1 ≥ (↑23 : Int))) = true)
   (Tree.chk (((!bif decide (x.1 < (1 : Int)) then true else decide (x.1 ≥ (↑23 : Int))) && x.1 == (7 : Int)) = true → ((!bif decide (x.1 < (1 : Int)) then true else decide (x.1 ≥ (↑23 : Int))) && x.1 == (7 : Int)) = true)
   (Tree.chk (((!bif decide (x.1 < (1 : Int)) then true else decide (x.1 ≥ (↑23 : Int))) && x.1 == (7 : Int)) = true → ((!bif decide (x.1 < (1 : Int)) then true else decide (x.1 ≥ (↑23 : Int))) && x.1 == (7 : Int)) = true)
   (Tree.chk ((!bif decide (x.1 < (1 : Int)) then true else decide (x.1 ≥ (↑23 : Int))) = true → (!bif decide (x.1 < (1 : Int)) then true else decide (x.1 ≥ (↑23 : Int))) = true)
   (Tree.chk ((!bif decide (x.1 < (1 : Int)) then true else decide (x.1 ≥ (↑23 : Int))) = true → (x.1 == (7 : Int)) = true → ((!bif decide (x.1 < (1 : Int)) then true else decide (x.1 ≥ (↑23 : Int))) && x.1 == (7 : Int)) = true)
   (Tree.chk ((bif decide (x.1 < (1 : Int)) then true else decide (x.1 ≥ (↑23 : Int))) = false → (!bif decide (x.1 < (1 : Int)) then true else decide (x.1 ≥ (↑23 : Int))) = true)
   (Tree.br (bif bif decide (x.1 < (1 : Int)) then true else decide (x.1 ≥ (↑23 : Int)) then true else bif x.1 == (7 : Int) then decide (x.2 > (13 : Int)) else false)
   (Tree.done (XV.a (AV.c (CV.v (Value.bool false)))) [Ent.dead, Ent.dead])
   (Tree.callf 21 [] [{ own := true, box := true, ty := 24, sz := 5, m := 1, n := fun x => 1, cap := fun x => 1, f := fun x_1 x_2 => [CV.v (Value.int IntKind.i64 x.1), CV.v (Value.int IntKind.i64 x.2), CV.v (Value.int IntKind.i64 x.3), CV.v (Value.int IntKind.i64 x.4), CV.v (Value.int IntKind.i64 x.5)], ov := [] }, { own := true, box := false, ty := 51, sz := 2, m := 1, n := fun x => 23, cap := fun x => 23, f := fun x i => [CV.v (Value.string (wordS i)), CV.v (Value.string (hasS i))], ov := [] }, { own := true, box := true, ty := 24, sz := 5, m := 1, n := fun a => 1, cap := fun a => 1, f := fun x_1 x_2 => [CV.v (Value.int IntKind.i64 x.1), CV.v (Value.int IntKind.i64 x.2), CV.v (Value.int IntKind.i64 x.3), CV.v (Value.int IntKind.i64 x.4), CV.v (Value.int IntKind.i64 x.5)], ov := [] }] (shapesC 3) fun c_1 => Tree.chk (AV.c (CV.v (Value.int IntKind.i64 x.1)) = AV.c (CV.v (Value.int IntKind.i64 x.1)))
   (Tree.chk (AV.c (CV.ptr { k := 0, j := 0, i := 0, sz := 5, c := 0, d := 0, dn := 0, cu := 0 }) = AV.c (CV.ptr { k := 0, j := 0, i := 0, sz := 5, c := 0, d := 0, dn := 0, cu := 0 }))
   (Tree.chk ((0 : Int) ≤ x.1 ∧ x.1 < (↑23 : Int) ∧ Int.toNat x.1 < 23 ∧ 0 < 1)
   (Tree.chk (0 < 1 ∧ Int.toNat x.1 < 23)
   (Tree.both
   (Tree.chk (XV.a (AV.c (CV.ptr { k := 4, j := 0, i := 0, sz := 2, c := 0, d := 0, dn := 0, cu := 0 })) = XV.a (AV.c (CV.ptr { k := 4, j := 0, i := 0, sz := 2, c := 0, d := 0, dn := 0, cu := 0 })))
   (Tree.chk (XV.a (AV.c (CV.ptr { k := 2, j := 0, i := 0, sz := 5, c := 0, d := 0, dn := 0, cu := 0 })) = XV.a (AV.c (CV.ptr { k := 2, j := 0, i := 0, sz := 5, c := 0, d := 0, dn := 0, cu := 0 })))
   (Tree.chk (XV.a (AV.c (CV.v (Value.bool false))) = XV.a (AV.c (CV.v (Value.bool false))))
   (Tree.chk (XV.a (AV.c (CV.ptr { k := 0, j := 0, i := 0, sz := 5, c := 0, d := 0, dn := 0, cu := 0 })) = XV.a (AV.c (CV.ptr { k := 0, j := 0, i := 0, sz := 5, c := 0, d := 0, dn := 0, cu := 0 })))
   (Tree.chk (EntRel 5 [0, 1, 2, 3, 4] 5 { own := true, box := true, ty := 24, sz := 5, m := 1, n := fun x => 1, cap := fun x => 1, f := fun x_1 x_2 => [CV.v (Value.int IntKind.i64 x.1), CV.v (Value.int IntKind.i64 x.2), CV.v (Value.int IntKind.i64 x.3), CV.v (Value.int IntKind.i64 x.4), CV.v (Value.int IntKind.i64 x.5)], ov := [] } { own := true, box := true, ty := 24, sz := 5, m := 1, n := fun x => 1, cap := fun x => 1, f := fun x_1 x_2 => [CV.v (Value.int IntKind.i64 x.1), CV.v (Value.int IntKind.i64 x.2), CV.v (Value.int IntKind.i64 x.3), CV.v (Value.int IntKind.i64 x.4), CV.v (Value.int IntKind.i64 x.5)], ov := [] })
   (Tree.chk (EntRel 5 [0, 1, 2, 3, 4] 5 { own := true, box := false, ty := 51, sz := 2, m := 1, n := fun x => 23, cap := fun x => 23, f := fun x i => [CV.v (Value.string (wordS i)), CV.v (Value.string (hasS i))], ov := [] } { own := true, box := false, ty := 51, sz := 2, m := 1, n := fun x => 23, cap := fun x => 23, f := fun x i => [CV.v (Value.string (wordS i)), CV.v (Value.string (hasS i))], ov := [] })
   (Tree.chk (EntRel 5 [0, 1, 2, 3, 4] 5 { own := true, box := true, ty := 24, sz := 5, m := 1, n := fun a => 1, cap := fun a => 1, f := fun x_1 x_2 => [CV.v (Value.int IntKind.i64 x.1), CV.v (Value.int IntKind.i64 x.2), CV.v (Value.int IntKind.i64 x.3), CV.v (Value.int IntKind.i64 x.4), CV.v (Value.int IntKind.i64 x.5)], ov := [] } { own := true, box := true, ty := 24, sz := 5, m := 1, n := fun x => 1, cap := fun x => 1, f := fun x_1 x_2 => [CV.v (Value.int IntKind.i64 x.1), CV.v (Value.int IntKind.i64 x.2), CV.v (Value.int IntKind.i64 x.3), CV.v (Value.int IntKind.i64 x.4), CV.v (Value.int IntKind.i64 x.5)], ov := [] })
   (Tree.chk (EntRel 5 [0, 1, 2, 3, 4] 5 { own := true, box := false, ty := 51, sz := 2, m := 1, n := fun x => 23, cap := fun x => 23, f := fun x i => [CV.v (Value.string (wordS i)), CV.v (Value.string (hasS i))], ov := [] } { own := true, box := false, ty := 51, sz := 2, m := 1, n := fun x => 23, cap := fun x => 23, f := fun x i => [CV.v (Value.string (wordS i)), CV.v (Value.string (hasS i))], ov := [] })
   (Tree.chk (EntRel 5 [0, 1, 2, 3, 4] 5 { own := true, box := true, ty := 1000000, sz := 2, m := 1, n := fun x => 1, cap := fun x => 1, f := fun x_1 x_2 => [CV.v (Value.string (hasS (Int.toNat x.1))), CV.v (Value.int IntKind.i64 (0 : Int))], ov := [] } { own := true, box := true, ty := 1000000, sz := 2, m := 1, n := fun x => 1, cap := fun x => 1, f := fun x_1 x_2 => [CV.v (Value.string (hasS (Int.toNat x.1))), CV.v (Value.int IntKind.i64 (0 : Int))], ov := [] })
   (Tree.need True))))))))))
   (Tree.every (MayS x (hasS (Int.toNat x.1))) fun s => Tree.chk ((0 : Int) ≤ (↑(Prod.fst (Subtype.val s)) : Int) ∧ (Array.all (ByteArray.data (hasS (Int.toNat x.1))) fun b => decide (UInt8.toNat b < 128)) = true)
   (Tree.br (decide ((↑(Prod.fst (Subtype.val s)) : Int) < (↑(ByteArray.size (hasS (Int.toNat x.1))) : Int)))
   (Tree.br true
   (Tree.br (bt' (hasS (Int.toNat x.1)) (Int.toNat (↑(Prod.fst (Subtype.val s)) : Int)) == (65 : Int))
   (Tree.some_ (MayS x (hasS (Int.toNat x.1))) fun s' => Tree.chk (ByteArray.size (hasS (Int.toNat x.1)) - Prod.fst (Subtype.val s') < ByteArray.size (hasS (Int.toNat x.1)) - Prod.fst (Subtype.val s))
   (Tree.chk (XV.a (AV.c (CV.ptr { k := 4, j := 0, i := 0, sz := 2, c := 0, d := 0, dn := 0, cu := 0 })) = XV.a (AV.c (CV.ptr { k := 4, j := 0, i := 0, sz := 2, c := 0, d := 0, dn := 0, cu := 0 })))
   (Tree.chk (XV.a (AV.c (CV.ptr { k := 2, j := 0, i := 0, sz := 5, c := 0, d := 0, dn := 0, cu := 0 })) = XV.a (AV.c (CV.ptr { k := 2, j := 0, i := 0, sz := 5, c := 0, d := 0, dn := 0, cu := 0 })))
   (Tree.chk (XV.a (AV.c (CV.v (Value.bool false))) = XV.a (AV.c (CV.v (Value.bool false))))
   (Tree.chk (XV.a (AV.c (CV.ptr { k := 0, j := 0, i := 0, sz := 5, c := 0, d := 0, dn := 0, cu := 0 })) = XV.a (AV.c (CV.ptr { k := 0, j := 0, i := 0, sz := 5, c := 0, d := 0, dn := 0, cu := 0 })))
   (Tree.chk (EntRel 5 [0, 1, 2, 3, 4] 5 { own := true, box := true, ty := 24, sz := 5, m := 1, n := fun x => 1, cap := fun x => 1, f := fun x_1 x_2 => [CV.v (Value.int IntKind.i64 x.1), CV.v (Value.int IntKind.i64 x.2), CV.v (Value.int IntKind.i64 x.3), CV.v (Value.int IntKind.i64 x.4), CV.v (Value.int IntKind.i64 x.5)], ov := [] } { own := true, box := true, ty := 24, sz := 5, m := 1, n := fun x => 1, cap := fun x => 1, f := fun x_1 x_2 => [CV.v (Value.int IntKind.i64 x.1), CV.v (Value.int IntKind.i64 x.2), CV.v (Value.int IntKind.i64 x.3), CV.v (Value.int IntKind.i64 x.4), CV.v (Value.int IntKind.i64 x.5)], ov := [] })
   (Tree.chk (EntRel 5 [0, 1, 2, 3, 4] 5 { own := true, box := false, ty := 51, sz := 2, m := 1, n := fun x => 23, cap := fun x => 23, f := fun x i => [CV.v (Value.string (wordS i)), CV.v (Value.string (hasS i))], ov := [] } { own := true, box := false, ty := 51, sz := 2, m := 1, n := fun x => 23, cap := fun x => 23, f := fun x i => [CV.v (Value.string (wordS i)), CV.v (Value.string (hasS i))], ov := [] })
   (Tree.chk (EntRel 5 [0, 1, 2, 3, 4] 5 { own := true, box := true, ty := 24, sz := 5, m := 1, n := fun a => 1, cap := fun a => 1, f := fun x_1 x_2 => [CV.v (Value.int IntKind.i64 (Prod.snd (Subtype.val s)).1), CV.v (Value.int IntKind.i64 (0 : Int)), CV.v (Value.int IntKind.i64 (Prod.snd (Subtype.val s)).3), CV.v (Value.int IntKind.i64 (Prod.snd (Subtype.val s)).4), CV.v (Value.int IntKind.i64 (Prod.snd (Subtype.val s)).5)], ov := [] } { own := true, box := true, ty := 24, sz := 5, m := 1, n := fun x => 1, cap := fun x => 1, f := fun x_1 x_2 => [CV.v (Value.int IntKind.i64 (Prod.snd (Subtype.val s')).1), CV.v (Value.int IntKind.i64 (Prod.snd (Subtype.val s')).2), CV.v (Value.int IntKind.i64 (Prod.snd (Subtype.val s')).3), CV.v (Value.int IntKind.i64 (Prod.snd (Subtype.val s')).4), CV.v (Value.int IntKind.i64 (Prod.snd (Subtype.val s')).5)], ov := [] })
   (Tree.chk (EntRel 5 [0, 1, 2, 3, 4] 5 { own := true, box := false, ty := 51, sz := 2, m := 1, n := fun x => 23, cap := fun x => 23, f := fun x i => [CV.v (Value.string (wordS i)), CV.v (Value.string (hasS i))], ov := [] } { own := true, box := false, ty := 51, sz := 2, m := 1, n := fun x => 23, cap := fun x => 23, f := fun x i => [CV.v (Value.string (wordS i)), CV.v (Value.string (hasS i))], ov := [] })
   (Tree.chk (EntRel 5 [0, 1, 2, 3, 4] 5 { own := true, box := true, ty := 1000000, sz := 2, m := 1, n := fun x => 1, cap := fun x => 1, f := fun x_1 x_2 => [CV.v (Value.string (hasS (Int.toNat x.1))), CV.v (Value.int IntKind.i64 ((↑(Prod.fst (Subtype.val s)) : Int) + (1 : Int)))], ov := [] } { own := true, box := true, ty := 1000000, sz := 2, m := 1, n := fun x => 1, cap := fun x => 1, f := fun x_1 x_2 => [CV.v (Value.string (hasS (Int.toNat x.1))), CV.v (Value.int IntKind.i64 (↑(Prod.fst (Subtype.val s')) : Int))], ov := [] })
   (Tree.need True)))))))))))
   (Tree.br (bt' (hasS (Int.toNat x.1)) (Int.toNat (↑(Prod.fst (Subtype.val s)) : Int)) == (66 : Int))
   (Tree.some_ (MayS x (hasS (Int.toNat x.1))) fun s' => Tree.chk (ByteArray.size (hasS (Int.toNat x.1)) - Prod.fst (Subtype.val s') < ByteArray.size (hasS (Int.toNat x.1)) - Prod.fst (Subtype.val s))
   (Tree.chk (XV.a (AV.c (CV.ptr { k := 4, j := 0, i := 0, sz := 2, c := 0, d := 0, dn := 0, cu := 0 })) = XV.a (AV.c (CV.ptr { k := 4, j := 0, i := 0, sz := 2, c := 0, d := 0, dn := 0, cu := 0 })))
   (Tree.chk (XV.a (AV.c (CV.ptr { k := 2, j := 0, i := 0, sz := 5, c := 0, d := 0, dn := 0, cu := 0 })) = XV.a (AV.c (CV.ptr { k := 2, j := 0, i := 0, sz := 5, c := 0, d := 0, dn := 0, cu := 0 })))
   (Tree.chk (XV.a (AV.c (CV.v (Value.bool false))) = XV.a (AV.c (CV.v (Value.bool false))))
   (Tree.chk (XV.a (AV.c (CV.ptr { k := 0, j := 0, i := 0, sz := 5, c := 0, d := 0, dn := 0, cu := 0 })) = XV.a (AV.c (CV.ptr { k := 0, j := 0, i := 0, sz := 5, c := 0, d := 0, dn := 0, cu := 0 })))
   (Tree.chk (EntRel 5 [0, 1, 2, 3, 4] 5 { own := true, box := true, ty := 24, sz := 5, m := 1, n := fun x => 1, cap := fun x => 1, f := fun x_1 x_2 => [CV.v (Value.int IntKind.i64 x.1), CV.v (Value.int IntKind.i64 x.2), CV.v (Value.int IntKind.i64 x.3), CV.v (Value.int IntKind.i64 x.4), CV.v (Value.int IntKind.i64 x.5)], ov := [] } { own := true, box := true, ty := 24, sz := 5, m := 1, n := fun x => 1, cap := fun x => 1, f := fun x_1 x_2 => [CV.v (Value.int IntKind.i64 x.1), CV.v (Value.int IntKind.i64 x.2), CV.v (Value.int IntKind.i64 x.3), CV.v (Value.int IntKind.i64 x.4), CV.v (Value.int IntKind.i64 x.5)], ov := [] })
   (Tree.chk (EntRel 5 [0, 1, 2, 3, 4] 5 { own := true, box := false, ty := 51, sz := 2, m := 1, n := fun x => 23, cap := fun x => 23, f := fun x i => [CV.v (Value.string (wordS i)), CV.v (Value.string (hasS i))], ov := [] } { own := true, box := false, ty := 51, sz := 2, m := 1, n := fun x => 23, cap := fun x => 23, f := fun x i => [CV.v (Value.string (wordS i)), CV.v (Value.string (hasS i))], ov := [] })
   (Tree.chk (EntRel 5 [0, 1, 2, 3, 4] 5 { own := true, box := true, ty := 24, sz := 5, m := 1, n := fun a => 1, cap := fun a => 1, f := fun x_1 x_2 => [CV.v (Value.int IntKind.i64 (Prod.snd (Subtype.val s)).1), CV.v (Value.int IntKind.i64 (Prod.snd (Subtype.val s)).2), CV.v (Value.int IntKind.i64 (0 : Int)), CV.v (Value.int IntKind.i64 (Prod.snd (Subtype.val s)).4), CV.v (Value.int IntKind.i64 (Prod.snd (Subtype.val s)).5)], ov := [] } { own := true, box := true, ty := 24, sz := 5, m := 1, n := fun x => 1, cap := fun x => 1, f := fun x_1 x_2 => [CV.v (Value.int IntKind.i64 (Prod.snd (Subtype.val s')).1), CV.v (Value.int IntKind.i64 (Prod.snd (Subtype.val s')).2), CV.v (Value.int IntKind.i64 (Prod.snd (Subtype.val s')).3), CV.v (Value.int IntKind.i64 (Prod.snd (Subtype.val s')).4), CV.v (Value.int IntKind.i64 (Prod.snd (Subtype.val s')).5)], ov := [] })
   (Tree.chk (EntRel 5 [0, 1, 2, 3, 4] 5 { own := true, box := false, ty := 51, sz := 2, m := 1, n := fun x => 23, cap := fun x => 23, f := fun x i => [CV.v (Value.string (wordS i)), CV.v (Value.string (hasS i))], ov := [] } { own := true, box := false, ty := 51, sz := 2, m := 1, n := fun x => 23, cap := fun x => 23, f := fun x i => [CV.v (Value.string (wordS i)), CV.v (Value.string (hasS i))], ov := [] })
   (Tree.chk (EntRel 5 [0, 1, 2, 3, 4] 5 { own := true, box := true, ty := 1000000, sz := 2, m := 1, n := fun x => 1, cap := fun x => 1, f := fun x_1 x_2 => [CV.v (Value.string (hasS (Int.toNat x.1))), CV.v (Value.int IntKind.i64 ((↑(Prod.fst (Subtype.val s)) : Int) + (1 : Int)))], ov := [] } { own := true, box := true, ty := 1000000, sz := 2, m := 1, n := fun x => 1, cap := fun x => 1, f := fun x_1 x_2 => [CV.v (Value.string (hasS (Int.toNat x.1))), CV.v (Value.int IntKind.i64 (↑(Prod.fst (Subtype.val s')) : Int))], ov := [] })
   (Tree.need True)))))))))))
   (Tree.br (bt' (hasS (Int.toNat x.1)) (Int.toNat (↑(Prod.fst (Subtype.val s)) : Int)) == (67 : Int))
   (Tree.some_ (MayS x (hasS (Int.toNat x.1))) fun s' => Tree.chk (ByteArray.size (hasS (Int.toNat x.1)) - Prod.fst (Subtype.val s') < ByteArray.size (hasS (Int.toNat x.1)) - Prod.fst (Subtype.val s))
   (Tree.chk (XV.a (AV.c (CV.ptr { k := 4, j := 0, i := 0, sz := 2, c := 0, d := 0, dn := 0, cu := 0 })) = XV.a (AV.c (CV.ptr { k := 4, j := 0, i := 0, sz := 2, c := 0, d := 0, dn := 0, cu := 0 })))
   (Tree.chk (XV.a (AV.c (CV.ptr { k := 2, j := 0, i := 0, sz := 5, c := 0, d := 0, dn := 0, cu := 0 })) = XV.a (AV.c (CV.ptr { k := 2, j := 0, i := 0, sz := 5, c := 0, d := 0, dn := 0, cu := 0 })))
   (Tree.chk (XV.a (AV.c (CV.v (Value.bool false))) = XV.a (AV.c (CV.v (Value.bool false))))
   (Tree.chk (XV.a (AV.c (CV.ptr { k := 0, j := 0, i := 0, sz := 5, c := 0, d := 0, dn := 0, cu := 0 })) = XV.a (AV.c (CV.ptr { k := 0, j := 0, i := 0, sz := 5, c := 0, d := 0, dn := 0, cu := 0 })))
   (Tree.chk (EntRel 5 [0, 1, 2, 3, 4] 5 { own := true, box := true, ty := 24, sz := 5, m := 1, n := fun x => 1, cap := fun x => 1, f := fun x_1 x_2 => [CV.v (Value.int IntKind.i64 x.1), CV.v (Value.int IntKind.i64 x.2), CV.v (Value.int IntKind.i64 x.3), CV.v (Value.int IntKind.i64 x.4), CV.v (Value.int IntKind.i64 x.5)], ov := [] } { own := true, box := true, ty := 24, sz := 5, m := 1, n := fun x => 1, cap := fun x => 1, f := fun x_1 x_2 => [CV.v (Value.int IntKind.i64 x.1), CV.v (Value.int IntKind.i64 x.2), CV.v (Value.int IntKind.i64 x.3), CV.v (Value.int IntKind.i64 x.4), CV.v (Value.int IntKind.i64 x.5)], ov := [] })
   (Tree.chk (EntRel 5 [0, 1, 2, 3, 4] 5 { own := true, box := false, ty := 51, sz := 2, m := 1, n := fun x => 23, cap := fun x => 23, f := fun x i => [CV.v (Value.string (wordS i)), CV.v (Value.string (hasS i))], ov := [] } { own := true, box := false, ty := 51, sz := 2, m := 1, n := fun x => 23, cap := fun x => 23, f := fun x i => [CV.v (Value.string (wordS i)), CV.v (Value.string (hasS i))], ov := [] })
   (Tree.chk (EntRel 5 [0, 1, 2, 3, 4] 5 { own := true, box := true, ty := 24, sz := 5, m := 1, n := fun a => 1, cap := fun a => 1, f := fun x_1 x_2 => [CV.v (Value.int IntKind.i64 (Prod.snd (Subtype.val s)).1), CV.v (Value.int IntKind.i64 (Prod.snd (Subtype.val s)).2), CV.v (Value.int IntKind.i64 (Prod.snd (Subtype.val s)).3), CV.v (Value.int IntKind.i64 (0 : Int)), CV.v (Value.int IntKind.i64 (Prod.snd (Subtype.val s)).5)], ov := [] } { own := true, box := true, ty := 24, sz := 5, m := 1, n := fun x => 1, cap := fun x => 1, f := fun x_1 x_2 => [CV.v (Value.int IntKind.i64 (Prod.snd (Subtype.val s')).1), CV.v (Value.int IntKind.i64 (Prod.snd (Subtype.val s')).2), CV.v (Value.int IntKind.i64 (Prod.snd (Subtype.val s')).3), CV.v (Value.int IntKind.i64 (Prod.snd (Subtype.val s')).4), CV.v (Value.int IntKind.i64 (Prod.snd (Subtype.val s')).5)], ov := [] })
   (Tree.chk (EntRel 5 [0, 1, 2, 3, 4] 5 { own := true, box := false, ty := 51, sz := 2, m := 1, n := fun x => 23, cap := fun x => 23, f := fun x i => [CV.v (Value.string (wordS i)), CV.v (Value.string (hasS i))], ov := [] } { own := true, box := false, ty := 51, sz := 2, m := 1, n := fun x => 23, cap := fun x => 23, f := fun x i => [CV.v (Value.string (wordS i)), CV.v (Value.string (hasS i))], ov := [] })
   (Tree.chk (EntRel 5 [0, 1, 2, 3, 4] 5 { own := true, box := true, ty := 1000000, sz := 2, m := 1, n := fun x => 1, cap := fun x => 1, f := fun x_1 x_2 => [CV.v (Value.string (hasS (Int.toNat x.1))), CV.v (Value.int IntKind.i64 ((↑(Prod.fst (Subtype.val s)) : Int) + (1 : Int)))], ov := [] } { own := true, box := true, ty := 1000000, sz := 2, m := 1, n := fun x => 1, cap := fun x => 1, f := fun x_1 x_2 => [CV.v (Value.string (hasS (Int.toNat x.1))), CV.v (Value.int IntKind.i64 (↑(Prod.fst (Subtype.val s')) : Int))], ov := [] })
   (Tree.need True)))))))))))
   (Tree.br (bt' (hasS (Int.toNat x.1)) (Int.toNat (↑(Prod.fst (Subtype.val s)) : Int)) == (78 : Int))
   (Tree.chk ((!decide (x.5 < (-999999999999999999 : Int))) = true → (!decide (x.5 < (-999999999999999999 : Int))) = true)
   (Tree.chk ((!decide (x.5 < (-999999999999999999 : Int))) = true → (!decide (x.5 < (-999999999999999999 : Int))) = true)
   (Tree.chk (decide (x.5 < (-999999999999999999 : Int)) = false → (!decide (x.5 < (-999999999999999999 : Int))) = true)
   (Tree.br (bif decide (x.5 < (-999999999999999999 : Int)) then true else decide (x.5 > (999999999999999999 : Int)))
   (Tree.done (XV.a (AV.c (CV.v (Value.bool false)))) [Ent.dead, Ent.dead, Ent.dead, Ent.dead, Ent.dead])
   (Tree.some_ (MayS x (hasS (Int.toNat x.1))) fun s' => Tree.chk (ByteArray.size (hasS (Int.toNat x.1)) - Prod.fst (Subtype.val s') < ByteArray.size (hasS (Int.toNat x.1)) - Prod.fst (Subtype.val s))
   (Tree.chk (XV.a (AV.c (CV.ptr { k := 4, j := 0, i := 0, sz := 2, c := 0, d := 0, dn := 0, cu := 0 })) = XV.a (AV.c (CV.ptr { k := 4, j := 0, i := 0, sz := 2, c := 0, d := 0, dn := 0, cu := 0 })))
   (Tree.chk (XV.a (AV.c (CV.ptr { k := 2, j := 0, i := 0, sz := 5, c := 0, d := 0, dn := 0, cu := 0 })) = XV.a (AV.c (CV.ptr { k := 2, j := 0, i := 0, sz := 5, c := 0, d := 0, dn := 0, cu := 0 })))
   (Tree.chk (XV.a (AV.c (CV.v (Value.bool false))) = XV.a (AV.c (CV.v (Value.bool false))))
   (Tree.chk (XV.a (AV.c (CV.ptr { k := 0, j := 0, i := 0, sz := 5, c := 0, d := 0, dn := 0, cu := 0 })) = XV.a (AV.c (CV.ptr { k := 0, j := 0, i := 0, sz := 5, c := 0, d := 0, dn := 0, cu := 0 })))
   (Tree.chk (EntRel 5 [0, 1, 2, 3, 4] 5 { own := true, box := true, ty := 24, sz := 5, m := 1, n := fun x => 1, cap := fun x => 1, f := fun x_1 x_2 => [CV.v (Value.int IntKind.i64 x.1), CV.v (Value.int IntKind.i64 x.2), CV.v (Value.int IntKind.i64 x.3), CV.v (Value.int IntKind.i64 x.4), CV.v (Value.int IntKind.i64 x.5)], ov := [] } { own := true, box := true, ty := 24, sz := 5, m := 1, n := fun x => 1, cap := fun x => 1, f := fun x_1 x_2 => [CV.v (Value.int IntKind.i64 x.1), CV.v (Value.int IntKind.i64 x.2), CV.v (Value.int IntKind.i64 x.3), CV.v (Value.int IntKind.i64 x.4), CV.v (Value.int IntKind.i64 x.5)], ov := [] })
   (Tree.chk (EntRel 5 [0, 1, 2, 3, 4] 5 { own := true, box := false, ty := 51, sz := 2, m := 1, n := fun x => 23, cap := fun x => 23, f := fun x i => [CV.v (Value.string (wordS i)), CV.v (Value.string (hasS i))], ov := [] } { own := true, box := false, ty := 51, sz := 2, m := 1, n := fun x => 23, cap := fun x => 23, f := fun x i => [CV.v (Value.string (wordS i)), CV.v (Value.string (hasS i))], ov := [] })
   (Tree.chk (EntRel 5 [0, 1, 2, 3, 4] 5 { own := true, box := true, ty := 24, sz := 5, m := 1, n := fun a => 1, cap := fun a => 1, f := fun x_1 x_2 => [CV.v (Value.int IntKind.i64 (Prod.snd (Subtype.val s)).1), CV.v (Value.int IntKind.i64 (Prod.snd (Subtype.val s)).2), CV.v (Value.int IntKind.i64 (Prod.snd (Subtype.val s)).3), CV.v (Value.int IntKind.i64 (Prod.snd (Subtype.val s)).4), CV.v (Value.int IntKind.i64 (0 : Int))], ov := [] } { own := true, box := true, ty := 24, sz := 5, m := 1, n := fun x => 1, cap := fun x => 1, f := fun x_1 x_2 => [CV.v (Value.int IntKind.i64 (Prod.snd (Subtype.val s')).1), CV.v (Value.int IntKind.i64 (Prod.snd (Subtype.val s')).2), CV.v (Value.int IntKind.i64 (Prod.snd (Subtype.val s')).3), CV.v (Value.int IntKind.i64 (Prod.snd (Subtype.val s')).4), CV.v (Value.int IntKind.i64 (Prod.snd (Subtype.val s')).5)], ov := [] })
   (Tree.chk (EntRel 5 [0, 1, 2, 3, 4] 5 { own := true, box := false, ty := 51, sz := 2, m := 1, n := fun x => 23, cap := fun x => 23, f := fun x i => [CV.v (Value.string (wordS i)), CV.v (Value.string (hasS i))], ov := [] } { own := true, box := false, ty := 51, sz := 2, m := 1, n := fun x => 23, cap := fun x => 23, f := fun x i => [CV.v (Value.string (wordS i)), CV.v (Value.string (hasS i))], ov := [] })
   (Tree.chk (EntRel 5 [0, 1, 2, 3, 4] 5 { own := true, box := true, ty := 1000000, sz := 2, m := 1, n := fun x => 1, cap := fun x => 1, f := fun x_1 x_2 => [CV.v (Value.string (hasS (Int.toNat x.1))), CV.v (Value.int IntKind.i64 ((↑(Prod.fst (Subtype.val s)) : Int) + (1 : Int)))], ov := [] } { own := true, box := true, ty := 1000000, sz := 2, m := 1, n := fun x => 1, cap := fun x => 1, f := fun x_1 x_2 => [CV.v (Value.string (hasS (Int.toNat x.1))), CV.v (Value.int IntKind.i64 (↑(Prod.fst (Subtype.val s')) : Int))], ov := [] })
   (Tree.need True)))))))))))))))
   (Tree.some_ (MayS x (hasS (Int.toNat x.1))) fun s' => Tree.chk (ByteArray.size (hasS (Int.toNat x.1)) - Prod.fst (Subtype.val s') < ByteArray.size (hasS (Int.toNat x.1)) - Prod.fst (Subtype.val s))
   (Tree.chk (XV.a (AV.c (CV.ptr { k := 4, j := 0, i := 0, sz := 2, c := 0, d := 0, dn := 0, cu := 0 })) = XV.a (AV.c (CV.ptr { k := 4, j := 0, i := 0, sz := 2, c := 0, d := 0, dn := 0, cu := 0 })))
   (Tree.chk (XV.a (AV.c (CV.ptr { k := 2, j := 0, i := 0, sz := 5, c := 0, d := 0, dn := 0, cu := 0 })) = XV.a (AV.c (CV.ptr { k := 2, j := 0, i := 0, sz := 5, c := 0, d := 0, dn := 0, cu := 0 })))
   (Tree.chk (XV.a (AV.c (CV.v (Value.bool false))) = XV.a (AV.c (CV.v (Value.bool false))))
   (Tree.chk (XV.a (AV.c (CV.ptr { k := 0, j := 0, i := 0, sz := 5, c := 0, d := 0, dn := 0, cu := 0 })) = XV.a (AV.c (CV.ptr { k := 0, j := 0, i := 0, sz := 5, c := 0, d := 0, dn := 0, cu := 0 })))
   (Tree.chk (EntRel 5 [0, 1, 2, 3, 4] 5 { own := true, box := true, ty := 24, sz := 5, m := 1, n := fun x => 1, cap := fun x => 1, f := fun x_1 x_2 => [CV.v (Value.int IntKind.i64 x.1), CV.v (Value.int IntKind.i64 x.2), CV.v (Value.int IntKind.i64 x.3), CV.v (Value.int IntKind.i64 x.4), CV.v (Value.int IntKind.i64 x.5)], ov := [] } { own := true, box := true, ty := 24, sz := 5, m := 1, n := fun x => 1, cap := fun x => 1, f := fun x_1 x_2 => [CV.v (Value.int IntKind.i64 x.1), CV.v (Value.int IntKind.i64 x.2), CV.v (Value.int IntKind.i64 x.3), CV.v (Value.int IntKind.i64 x.4), CV.v (Value.int IntKind.i64 x.5)], ov := [] })
   (Tree.chk (EntRel 5 [0, 1, 2, 3, 4] 5 { own := true, box := false, ty := 51, sz := 2, m := 1, n := fun x => 23, cap := fun x => 23, f := fun x i => [CV.v (Value.string (wordS i)), CV.v (Value.string (hasS i))], ov := [] } { own := true, box := false, ty := 51, sz := 2, m := 1, n := fun x => 23, cap := fun x => 23, f := fun x i => [CV.v (Value.string (wordS i)), CV.v (Value.string (hasS i))], ov := [] })
   (Tree.chk (EntRel 5 [0, 1, 2, 3, 4] 5 { own := true, box := true, ty := 24, sz := 5, m := 1, n := fun a => 1, cap := fun a => 1, f := fun x_1 x_2 => [CV.v (Value.int IntKind.i64 (Prod.snd (Subtype.val s)).1), CV.v (Value.int IntKind.i64 (Prod.snd (Subtype.val s)).2), CV.v (Value.int IntKind.i64 (Prod.snd (Subtype.val s)).3), CV.v (Value.int IntKind.i64 (Prod.snd (Subtype.val s)).4), CV.v (Value.int IntKind.i64 (0 : Int))], ov := [] } { own := true, box := true, ty := 24, sz := 5, m := 1, n := fun x => 1, cap := fun x => 1, f := fun x_1 x_2 => [CV.v (Value.int IntKind.i64 (Prod.snd (Subtype.val s')).1), CV.v (Value.int IntKind.i64 (Prod.snd (Subtype.val s')).2), CV.v (Value.int IntKind.i64 (Prod.snd (Subtype.val s')).3), CV.v (Value.int IntKind.i64 (Prod.snd (Subtype.val s')).4), CV.v (Value.int IntKind.i64 (Prod.snd (Subtype.val s')).5)], ov := [] })
   (Tree.chk (EntRel 5 [0, 1, 2, 3, 4] 5 { own := true, box := false, ty := 51, sz := 2, m := 1, n := fun x => 23, cap := fun x => 23, f := fun x i => [CV.v (Value.string (wordS i)), CV.v (Value.string (hasS i))], ov := [] } { own := true, box := false, ty := 51, sz := 2, m := 1, n := fun x => 23, cap := fun x => 23, f := fun x i => [CV.v (Value.string (wordS i)), CV.v (Value.string (hasS i))], ov := [] })
   (Tree.chk (EntRel 5 [0, 1, 2, 3, 4] 5 { own := true, box := true, ty := 1000000, sz := 2, m := 1, n := fun x => 1, cap := fun x => 1, f := fun x_1 x_2 => [CV.v (Value.string (hasS (Int.toNat x.1))), CV.v (Value.int IntKind.i64 ((↑(Prod.fst (Subtype.val s)) : Int) + (1 : Int)))], ov := [] } { own := true, box := true, ty := 1000000, sz := 2, m := 1, n := fun x => 1, cap := fun x => 1, f := fun x_1 x_2 => [CV.v (Value.string (hasS (Int.toNat x.1))), CV.v (Value.int IntKind.i64 (↑(Prod.fst (Subtype.val s')) : Int))], ov := [] })
   (Tree.need True)))))))))))))))
   (Tree.chk (((Prod.snd (Subtype.val s)).1 == x.1 && ((Prod.snd (Subtype.val s)).2 == (0 : Int) && ((Prod.snd (Subtype.val s)).3 == (0 : Int) && ((Prod.snd (Subtype.val s)).4 == (0 : Int) && (Prod.snd (Subtype.val s)).5 == (0 : Int))))) = true → ((Prod.snd (Subtype.val s)).1 == x.1 && ((Prod.snd (Subtype.val s)).2 == (0 : Int) && ((Prod.snd (Subtype.val s)).3 == (0 : Int) && ((Prod.snd (Subtype.val s)).4 == (0 : Int) && (Prod.snd (Subtype.val s)).5 == (0 : Int))))) = true)
   (Tree.br ((Prod.snd (Subtype.val s)).1 == x.1 && ((Prod.snd (Subtype.val s)).2 == (0 : Int) && ((Prod.snd (Subtype.val s)).3 == (0 : Int) && ((Prod.snd (Subtype.val s)).4 == (0 : Int) && (Prod.snd (Subtype.val s)).5 == (0 : Int)))))
   (Tree.chk (((Prod.snd (Subtype.val s)).1 == x.1 && ((Prod.snd (Subtype.val s)).2 == (0 : Int) && ((Prod.snd (Subtype.val s)).3 == (0 : Int) && ((Prod.snd (Subtype.val s)).4 == (0 : Int) && (Prod.snd (Subtype.val s)).5 == (0 : Int))))) = true)
   (Tree.chk (((Prod.snd (Subtype.val s)).1 == x.1 && ((Prod.snd (Subtype.val s)).2 == (0 : Int) && ((Prod.snd (Subtype.val s)).3 == (0 : Int) && ((Prod.snd (Subtype.val s)).4 == (0 : Int) && (Prod.snd (Subtype.val s)).5 == (0 : Int))))) = true)
   (Tree.callf 30 [AV.c (CV.v (Value.int IntKind.i64 x.2))] [{ own := true, box := true, ty := 24, sz := 5, m := 1, n := fun x => 1, cap := fun x => 1, f := fun x_1 x_2 => [CV.v (Value.int IntKind.i64 x.1), CV.v (Value.int IntKind.i64 x.2), CV.v (Value.int IntKind.i64 x.3), CV.v (Value.int IntKind.i64 x.4), CV.v (Value.int IntKind.i64 x.5)], ov := [] }, { own := true, box := false, ty := 51, sz := 2, m := 1, n := fun x => 23, cap := fun x => 23, f := fun x i => [CV.v (Value.string (wordS i)), CV.v (Value.string (hasS i))], ov := [] }, { own := true, box := true, ty := 24, sz := 5, m := 1, n := fun x => 1, cap := fun x => 1, f := fun x_1 x_2 => [CV.v (Value.int IntKind.i64 (Prod.snd (Subtype.val s)).1), CV.v (Value.int IntKind.i64 (Prod.snd (Subtype.val s)).2), CV.v (Value.int IntKind.i64 (Prod.snd (Subtype.val s)).3), CV.v (Value.int IntKind.i64 (Prod.snd (Subtype.val s)).4), CV.v (Value.int IntKind.i64 (Prod.snd (Subtype.val s)).5)], ov := [] }, { own := true, box := false, ty := 51, sz := 2, m := 1, n := fun x => 23, cap := fun x => 23, f := fun x i => [CV.v (Value.string (wordS i)), CV.v (Value.string (hasS i))], ov := [] }, { own := true, box := true, ty := 1000000, sz := 2, m := 1, n := fun x => 1, cap := fun x => 1, f := fun x_1 x_2 => [CV.v (Value.string (hasS (Int.toNat x.1))), CV.v (Value.int IntKind.i64 ((↑(Prod.fst (Subtype.val s)) : Int) + (1 : Int)))], ov := [] }] (inC x.2) fun c => Tree.chk ((bif (Prod.snd (Subtype.val s)).1 == x.1 && ((Prod.snd (Subtype.val s)).2 == (0 : Int) && ((Prod.snd (Subtype.val s)).3 == (0 : Int) && ((Prod.snd (Subtype.val s)).4 == (0 : Int) && (Prod.snd (Subtype.val s)).5 == (0 : Int)))) then inF x.2 else false) = true → (bif (Prod.snd (Subtype.val s)).1 == x.1 && ((Prod.snd (Subtype.val s)).2 == (0 : Int) && ((Prod.snd (Subtype.val s)).3 == (0 : Int) && ((Prod.snd (Subtype.val s)).4 == (0 : Int) && (Prod.snd (Subtype.val s)).5 == (0 : Int)))) then inF x.2 else false) = true)
   (Tree.br (bif (Prod.snd (Subtype.val s)).1 == x.1 && ((Prod.snd (Subtype.val s)).2 == (0 : Int) && ((Prod.snd (Subtype.val s)).3 == (0 : Int) && ((Prod.snd (Subtype.val s)).4 == (0 : Int) && (Prod.snd (Subtype.val s)).5 == (0 : Int)))) then inF x.2 else false)
   (Tree.chk ((bif (Prod.snd (Subtype.val s)).1 == x.1 && ((Prod.snd (Subtype.val s)).2 == (0 : Int) && ((Prod.snd (Subtype.val s)).3 == (0 : Int) && ((Prod.snd (Subtype.val s)).4 == (0 : Int) && (Prod.snd (Subtype.val s)).5 == (0 : Int)))) then inF x.2 else false) = true)
   (Tree.chk ((bif (Prod.snd (Subtype.val s)).1 == x.1 && ((Prod.snd (Subtype.val s)).2 == (0 : Int) && ((Prod.snd (Subtype.val s)).3 == (0 : Int) && ((Prod.snd (Subtype.val s)).4 == (0 : Int) && (Prod.snd (Subtype.val s)).5 == (0 : Int)))) then inF x.2 else false) = true)
   (Tree.callf 30 [AV.c (CV.v (Value.int IntKind.i64 x.3))] [{ own := true, box := true, ty := 24, sz := 5, m := 1, n := fun x => 1, cap := fun x => 1, f := fun x_1 x_2 => [CV.v (Value.int IntKind.i64 x.1), CV.v (Value.int IntKind.i64 x.2), CV.v (Value.int IntKind.i64 x.3), CV.v (Value.int IntKind.i64 x.4), CV.v (Value.int IntKind.i64 x.5)], ov := [] }, { own := true, box := false, ty := 51, sz := 2, m := 1, n := fun x => 23, cap := fun x => 23, f := fun x i => [CV.v (Value.string (wordS i)), CV.v (Value.string (hasS i))], ov := [] }, { own := true, box := true, ty := 24, sz := 5, m := 1, n := fun x => 1, cap := fun x => 1, f := fun x_1 x_2 => [CV.v (Value.int IntKind.i64 (Prod.snd (Subtype.val s)).1), CV.v (Value.int IntKind.i64 (Prod.snd (Subtype.val s)).2), CV.v (Value.int IntKind.i64 (Prod.snd (Subtype.val s)).3), CV.v (Value.int IntKind.i64 (Prod.snd (Subtype.val s)).4), CV.v (Value.int IntKind.i64 (Prod.snd (Subtype.val s)).5)], ov := [] }, { own := true, box := false, ty := 51, sz := 2, m := 1, n := fun x => 23, cap := fun x => 23, f := fun x i => [CV.v (Value.string (wordS i)), CV.v (Value.string (hasS i))], ov := [] }, { own := true, box := true, ty := 1000000, sz := 2, m := 1, n := fun x => 1, cap := fun x => 1, f := fun x_1 x_2 => [CV.v (Value.string (hasS (Int.toNat x.1))), CV.v (Value.int IntKind.i64 ((↑(Prod.fst (Subtype.val s)) : Int) + (1 : Int)))], ov := [] }] (inC x.3) fun c => Tree.chk ((bif bif (Prod.snd (Subtype.val s)).1 == x.1 && ((Prod.snd (Subtype.val s)).2 == (0 : Int) && ((Prod.snd (Subtype.val s)).3 == (0 : Int) && ((Prod.snd (Subtype.val s)).4 == (0 : Int) && (Prod.snd (Subtype.val s)).5 == (0 : Int)))) then inF x.2 else false then inF x.3 else false) = true → (bif bif (Prod.snd (Subtype.val s)).1 == x.1 && ((Prod.snd (Subtype.val s)).2 == (0 : Int) && ((Prod.snd (Subtype.val s)).3 == (0 : Int) && ((Prod.snd (Subtype.val s)).4 == (0 : Int) && (Prod.snd (Subtype.val s)).5 == (0 : Int)))) then inF x.2 else false then inF x.3 else false) = true)
   (Tree.br (bif bif (Prod.snd (Subtype.val s)).1 == x.1 && ((Prod.snd (Subtype.val s)).2 == (0 : Int) && ((Prod.snd (Subtype.val s)).3 == (0 : Int) && ((Prod.snd (Subtype.val s)).4 == (0 : Int) && (Prod.snd (Subtype.val s)).5 == (0 : Int)))) then inF x.2 else false then inF x.3 else false)
   (Tree.chk ((bif bif (Prod.snd (Subtype.val s)).1 == x.1 && ((Prod.snd (Subtype.val s)).2 == (0 : Int) && ((Prod.snd (Subtype.val s)).3 == (0 : Int) && ((Prod.snd (Subtype.val s)).4 == (0 : Int) && (Prod.snd (Subtype.val s)).5 == (0 : Int)))) then inF x.2 else false then inF x.3 else false) = true)
   (Tree.chk ((bif bif (Prod.snd (Subtype.val s)).1 == x.1 && ((Prod.snd (Subtype.val s)).2 == (0 : Int) && ((Prod.snd (Subtype.val s)).3 == (0 : Int) && ((Prod.snd (Subtype.val s)).4 == (0 : Int) && (Prod.snd (Subtype.val s)).5 == (0 : Int)))) then inF x.2 else false then inF x.3 else false) = true)
   (Tree.callf 30 [AV.c (CV.v (Value.int IntKind.i64 x.4))] [{ own := true, box := true, ty := 24, sz := 5, m := 1, n := fun x => 1, cap := fun x => 1, f := fun x_1 x_2 => [CV.v (Value.int IntKind.i64 x.1), CV.v (Value.int IntKind.i64 x.2), CV.v (Value.int IntKind.i64 x.3), CV.v (Value.int IntKind.i64 x.4), CV.v (Value.int IntKind.i64 x.5)], ov := [] }, { own := true, box := false, ty := 51, sz := 2, m := 1, n := fun x => 23, cap := fun x => 23, f := fun x i => [CV.v (Value.string (wordS i)), CV.v (Value.string (hasS i))], ov := [] }, { own := true, box := true, ty := 24, sz := 5, m := 1, n := fun x => 1, cap := fun x => 1, f := fun x_1 x_2 => [CV.v (Value.int IntKind.i64 (Prod.snd (Subtype.val s)).1), CV.v (Value.int IntKind.i64 (Prod.snd (Subtype.val s)).2), CV.v (Value.int IntKind.i64 (Prod.snd (Subtype.val s)).3), CV.v (Value.int IntKind.i64 (Prod.snd (Subtype.val s)).4), CV.v (Value.int IntKind.i64 (Prod.snd (Subtype.val s)).5)], ov := [] }, { own := true, box := false, ty := 51, sz := 2, m := 1, n := fun x => 23, cap := fun x => 23, f := fun x i => [CV.v (Value.string (wordS i)), CV.v (Value.string (hasS i))], ov := [] }, { own := true, box := true, ty := 1000000, sz := 2, m := 1, n := fun x => 1, cap := fun x => 1, f := fun x_1 x_2 => [CV.v (Value.string (hasS (Int.toNat x.1))), CV.v (Value.int IntKind.i64 ((↑(Prod.fst (Subtype.val s)) : Int) + (1 : Int)))], ov := [] }] (inC x.4) fun c => Tree.done (XV.a (AV.c (CV.v (Value.bool (bif bif bif (Prod.snd (Subtype.val s)).1 == x.1 && ((Prod.snd (Subtype.val s)).2 == (0 : Int) && ((Prod.snd (Subtype.val s)).3 == (0 : Int) && ((Prod.snd (Subtype.val s)).4 == (0 : Int) && (Prod.snd (Subtype.val s)).5 == (0 : Int)))) then inF x.2 else false then inF x.3 else false then inF x.4 else false))))) [Ent.dead, Ent.dead, Ent.dead, Ent.dead, Ent.dead])))
   (Tree.chk ((bif bif (Prod.snd (Subtype.val s)).1 == x.1 && ((Prod.snd (Subtype.val s)).2 == (0 : Int) && ((Prod.snd (Subtype.val s)).3 == (0 : Int) && ((Prod.snd (Subtype.val s)).4 == (0 : Int) && (Prod.snd (Subtype.val s)).5 == (0 : Int)))) then inF x.2 else false then inF x.3 else false) = false)
   (Tree.done (XV.a (AV.c (CV.v (Value.bool false)))) [Ent.dead, Ent.dead, Ent.dead, Ent.dead, Ent.dead]))))))
   (Tree.chk ((bif (Prod.snd (Subtype.val s)).1 == x.1 && ((Prod.snd (Subtype.val s)).2 == (0 : Int) && ((Prod.snd (Subtype.val s)).3 == (0 : Int) && ((Prod.snd (Subtype.val s)).4 == (0 : Int) && (Prod.snd (Subtype.val s)).5 == (0 : Int)))) then inF x.2 else false) = false)
   (Tree.chk (false = true → false = true)
   (Tree.br false
   (Tree.chk (false = true)
   (Tree.chk (false = true)
   (Tree.callf 30 [AV.c (CV.v (Value.int IntKind.i64 x.4))] [{ own := true, box := true, ty := 24, sz := 5, m := 1, n := fun x => 1, cap := fun x => 1, f := fun x_1 x_2 => [CV.v (Value.int IntKind.i64 x.1), CV.v (Value.int IntKind.i64 x.2), CV.v (Value.int IntKind.i64 x.3), CV.v (Value.int IntKind.i64 x.4), CV.v (Value.int IntKind.i64 x.5)], ov := [] }, { own := true, box := false, ty := 51, sz := 2, m := 1, n := fun x => 23, cap := fun x => 23, f := fun x i => [CV.v (Value.string (wordS i)), CV.v (Value.string (hasS i))], ov := [] }, { own := true, box := true, ty := 24, sz := 5, m := 1, n := fun x => 1, cap := fun x => 1, f := fun x_1 x_2 => [CV.v (Value.int IntKind.i64 (Prod.snd (Subtype.val s)).1), CV.v (Value.int IntKind.i64 (Prod.snd (Subtype.val s)).2), CV.v (Value.int IntKind.i64 (Prod.snd (Subtype.val s)).3), CV.v (Value.int IntKind.i64 (Prod.snd (Subtype.val s)).4), CV.v (Value.int IntKind.i64 (Prod.snd (Subtype.val s)).5)], ov := [] }, { own := true, box := false, ty := 51, sz := 2, m := 1, n := fun x => 23, cap := fun x => 23, f := fun x i => [CV.v (Value.string (wordS i)), CV.v (Value.string (hasS i))], ov := [] }, { own := true, box := true, ty := 1000000, sz := 2, m := 1, n := fun x => 1, cap := fun x => 1, f := fun x_1 x_2 => [CV.v (Value.string (hasS (Int.toNat x.1))), CV.v (Value.int IntKind.i64 ((↑(Prod.fst (Subtype.val s)) : Int) + (1 : Int)))], ov := [] }] (inC x.4) fun c => Tree.done (XV.a (AV.c (CV.v (Value.bool false)))) [Ent.dead, Ent.dead, Ent.dead, Ent.dead, Ent.dead])))
   (Tree.chk (false = false)
   (Tree.done (XV.a (AV.c (CV.v (Value.bool false)))) [Ent.dead, Ent.dead, Ent.dead, Ent.dead, Ent.dead])))))))))
   (Tree.chk (((Prod.snd (Subtype.val s)).1 == x.1 && ((Prod.snd (Subtype.val s)).2 == (0 : Int) && ((Prod.snd (Subtype.val s)).3 == (0 : Int) && ((Prod.snd (Subtype.val s)).4 == (0 : Int) && (Prod.snd (Subtype.val s)).5 == (0 : Int))))) = false)
   (Tree.chk (false = true → false = true)
   (Tree.br false
   (Tree.chk (false = true)
   (Tree.chk (false = true)
   (Tree.callf 30 [AV.c (CV.v (Value.int IntKind.i64 x.3))] [{ own := true, box := true, ty := 24, sz := 5, m := 1, n := fun x => 1, cap := fun x => 1, f := fun x_1 x_2 => [CV.v (Value.int IntKind.i64 x.1), CV.v (Value.int IntKind.i64 x.2), CV.v (Value.int IntKind.i64 x.3), CV.v (Value.int IntKind.i64 x.4), CV.v (Value.int IntKind.i64 x.5)], ov := [] }, { own := true, box := false, ty := 51, sz := 2, m := 1, n := fun x => 23, cap := fun x => 23, f := fun x i => [CV.v (Value.string (wordS i)), CV.v (Value.string (hasS i))], ov := [] }, { own := true, box := true, ty := 24, sz := 5, m := 1, n := fun x => 1, cap := fun x => 1, f := fun x_1 x_2 => [CV.v (Value.int IntKind.i64 (Prod.snd (Subtype.val s)).1), CV.v (Value.int IntKind.i64 (Prod.snd (Subtype.val s)).2), CV.v (Value.int IntKind.i64 (Prod.snd (Subtype.val s)).3), CV.v (Value.int IntKind.i64 (Prod.snd (Subtype.val s)).4), CV.v (Value.int IntKind.i64 (Prod.snd (Subtype.val s)).5)], ov := [] }, { own := true, box := false, ty := 51, sz := 2, m := 1, n := fun x => 23, cap := fun x => 23, f := fun x i => [CV.v (Value.string (wordS i)), CV.v (Value.string (hasS i))], ov := [] }, { own := true, box := true, ty := 1000000, sz := 2, m := 1, n := fun x => 1, cap := fun x => 1, f := fun x_1 x_2 => [CV.v (Value.string (hasS (Int.toNat x.1))), CV.v (Value.int IntKind.i64 ((↑(Prod.fst (Subtype.val s)) : Int) + (1 : Int)))], ov := [] }] (inC x.3) fun c => Tree.chk (false = true → false = true)
   (Tree.br false
   (Tree.chk (false = true)
   (Tree.chk (false = true)
   (Tree.callf 30 [AV.c (CV.v (Value.int IntKind.i64 x.4))] [{ own := true, box := true, ty := 24, sz := 5, m := 1, n := fun x => 1, cap := fun x => 1, f := fun x_1 x_2 => [CV.v (Value.int IntKind.i64 x.1), CV.v (Value.int IntKind.i64 x.2), CV.v (Value.int IntKind.i64 x.3), CV.v (Value.int IntKind.i64 x.4), CV.v (Value.int IntKind.i64 x.5)], ov := [] }, { own := true, box := false, ty := 51, sz := 2, m := 1, n := fun x => 23, cap := fun x => 23, f := fun x i => [CV.v (Value.string (wordS i)), CV.v (Value.string (hasS i))], ov := [] }, { own := true, box := true, ty := 24, sz := 5, m := 1, n := fun x => 1, cap := fun x => 1, f := fun x_1 x_2 => [CV.v (Value.int IntKind.i64 (Prod.snd (Subtype.val s)).1), CV.v (Value.int IntKind.i64 (Prod.snd (Subtype.val s)).2), CV.v (Value.int IntKind.i64 (Prod.snd (Subtype.val s)).3), CV.v (Value.int IntKind.i64 (Prod.snd (Subtype.val s)).4), CV.v (Value.int IntKind.i64 (Prod.snd (Subtype.val s)).5)], ov := [] }, { own := true, box := false, ty := 51, sz := 2, m := 1, n := fun x => 23, cap := fun x => 23, f := fun x i => [CV.v (Value.string (wordS i)), CV.v (Value.string (hasS i))], ov := [] }, { own := true, box := true, ty := 1000000, sz := 2, m := 1, n := fun x => 1, cap := fun x => 1, f := fun x_1 x_2 => [CV.v (Value.string (hasS (Int.toNat x.1))), CV.v (Value.int IntKind.i64 ((↑(Prod.fst (Subtype.val s)) : Int) + (1 : Int)))], ov := [] }] (inC x.4) fun c => Tree.done (XV.a (AV.c (CV.v (Value.bool false)))) [Ent.dead, Ent.dead, Ent.dead, Ent.dead, Ent.dead])))
   (Tree.chk (false = false)
   (Tree.done (XV.a (AV.c (CV.v (Value.bool false)))) [Ent.dead, Ent.dead, Ent.dead, Ent.dead, Ent.dead]))))))
   (Tree.chk (false = false)
   (Tree.chk (false = true → false = true)
   (Tree.br false
   (Tree.chk (false = true)
   (Tree.chk (false = true)
   (Tree.callf 30 [AV.c (CV.v (Value.int IntKind.i64 x.4))] [{ own := true, box := true, ty := 24, sz := 5, m := 1, n := fun x => 1, cap := fun x => 1, f := fun x_1 x_2 => [CV.v (Value.int IntKind.i64 x.1), CV.v (Value.int IntKind.i64 x.2), CV.v (Value.int IntKind.i64 x.3), CV.v (Value.int IntKind.i64 x.4), CV.v (Value.int IntKind.i64 x.5)], ov := [] }, { own := true, box := false, ty := 51, sz := 2, m := 1, n := fun x => 23, cap := fun x => 23, f := fun x i => [CV.v (Value.string (wordS i)), CV.v (Value.string (hasS i))], ov := [] }, { own := true, box := true, ty := 24, sz := 5, m := 1, n := fun x => 1, cap := fun x => 1, f := fun x_1 x_2 => [CV.v (Value.int IntKind.i64 (Prod.snd (Subtype.val s)).1), CV.v (Value.int IntKind.i64 (Prod.snd (Subtype.val s)).2), CV.v (Value.int IntKind.i64 (Prod.snd (Subtype.val s)).3), CV.v (Value.int IntKind.i64 (Prod.snd (Subtype.val s)).4), CV.v (Value.int IntKind.i64 (Prod.snd (Subtype.val s)).5)], ov := [] }, { own := true, box := false, ty := 51, sz := 2, m := 1, n := fun x => 23, cap := fun x => 23, f := fun x i => [CV.v (Value.string (wordS i)), CV.v (Value.string (hasS i))], ov := [] }, { own := true, box := true, ty := 1000000, sz := 2, m := 1, n := fun x => 1, cap := fun x => 1, f := fun x_1 x_2 => [CV.v (Value.string (hasS (Int.toNat x.1))), CV.v (Value.int IntKind.i64 ((↑(Prod.fst (Subtype.val s)) : Int) + (1 : Int)))], ov := [] }] (inC x.4) fun c => Tree.done (XV.a (AV.c (CV.v (Value.bool false)))) [Ent.dead, Ent.dead, Ent.dead, Ent.dead, Ent.dead])))
   (Tree.chk (false = false)
   (Tree.done (XV.a (AV.c (CV.v (Value.bool false)))) [Ent.dead, Ent.dead, Ent.dead, Ent.dead, Ent.dead])))))))))))
   (Tree.br false
   (Tree.fail 93)
   (Tree.chk (((Prod.snd (Subtype.val s)).1 == x.1 && ((Prod.snd (Subtype.val s)).2 == (0 : Int) && ((Prod.snd (Subtype.val s)).3 == (0 : Int) && ((Prod.snd (Subtype.val s)).4 == (0 : Int) && (Prod.snd (Subtype.val s)).5 == (0 : Int))))) = true → ((Prod.snd (Subtype.val s)).1 == x.1 && ((Prod.snd (Subtype.val s)).2 == (0 : Int) && ((Prod.snd (Subtype.val s)).3 == (0 : Int) && ((Prod.snd (Subtype.val s)).4 == (0 : Int) && (Prod.snd (Subtype.val s)).5 == (0 : Int))))) = true)
   (Tree.br ((Prod.snd (Subtype.val s)).1 == x.1 && ((Prod.snd (Subtype.val s)).2 == (0 : Int) && ((Prod.snd (Subtype.val s)).3 == (0 : Int) && ((Prod.snd (Subtype.val s)).4 == (0 : Int) && (Prod.snd (Subtype.val s)).5 == (0 : Int)))))
   (Tree.chk (((Prod.snd (Subtype.val s)).1 == x.1 && ((Prod.snd (Subtype.val s)).2 == (0 : Int) && ((Prod.snd (Subtype.val s)).3 == (0 : Int) && ((Prod.snd (Subtype.val s)).4 == (0 : Int) && (Prod.snd (Subtype.val s)).5 == (0 : Int))))) = true)
   (Tree.chk (((Prod.snd (Subtype.val s)).1 == x.1 && ((Prod.snd (Subtype.val s)).2 == (0 : Int) && ((Prod.snd (Subtype.val s)).3 == (0 : Int) && ((Prod.snd (Subtype.val s)).4 == (0 : Int) && (Prod.snd (Subtype.val s)).5 == (0 : Int))))) = true)
   (Tree.callf 30 [AV.c (CV.v (Value.int IntKind.i64 x.2))] [{ own := true, box := true, ty := 24, sz := 5, m := 1, n := fun x => 1, cap := fun x => 1, f := fun x_1 x_2 => [CV.v (Value.int IntKind.i64 x.1), CV.v (Value.int IntKind.i64 x.2), CV.v (Value.int IntKind.i64 x.3), CV.v (Value.int IntKind.i64 x.4), CV.v (Value.int IntKind.i64 x.5)], ov := [] }, { own := true, box := false, ty := 51, sz := 2, m := 1, n := fun x => 23, cap := fun x => 23, f := fun x i => [CV.v (Value.string (wordS i)), CV.v (Value.string (hasS i))], ov := [] }, { own := true, box := true, ty := 24, sz := 5, m := 1, n := fun x => 1, cap := fun x => 1, f := fun x_1 x_2 => [CV.v (Value.int IntKind.i64 (Prod.snd (Subtype.val s)).1), CV.v (Value.int IntKind.i64 (Prod.snd (Subtype.val s)).2), CV.v (Value.int IntKind.i64 (Prod.snd (Subtype.val s)).3), CV.v (Value.int IntKind.i64 (Prod.snd (Subtype.val s)).4), CV.v (Value.int IntKind.i64 (Prod.snd (Subtype.val s)).5)], ov := [] }, { own := true, box := false, ty := 51, sz := 2, m := 1, n := fun x => 23, cap := fun x => 23, f := fun x i => [CV.v (Value.string (wordS i)), CV.v (Value.string (hasS i))], ov := [] }, { own := true, box := true, ty := 1000000, sz := 2, m := 1, n := fun x => 1, cap := fun x => 1, f := fun x_1 x_2 => [CV.v (Value.string (hasS (Int.toNat x.1))), CV.v (Value.int IntKind.i64 (↑(Prod.fst (Subtype.val s)) : Int))], ov := [] }] (inC x.2) fun c => Tree.chk ((bif (Prod.snd (Subtype.val s)).1 == x.1 && ((Prod.snd (Subtype.val s)).2 == (0 : Int) && ((Prod.snd (Subtype.val s)).3 == (0 : Int) && ((Prod.snd (Subtype.val s)).4 == (0 : Int) && (Prod.snd (Subtype.val s)).5 == (0 : Int)))) then inF x.2 else false) = true → (bif (Prod.snd (Subtype.val s)).1 == x.1 && ((Prod.snd (Subtype.val s)).2 == (0 : Int) && ((Prod.snd (Subtype.val s)).3 == (0 : Int) && ((Prod.snd (Subtype.val s)).4 == (0 : Int) && (Prod.snd (Subtype.val s)).5 == (0 : Int)))) then inF x.2 else false) = true)
   (Tree.br (bif (Prod.snd (Subtype.val s)).1 == x.1 && ((Prod.snd (Subtype.val s)).2 == (0 : Int) && ((Prod.snd (Subtype.val s)).3 == (0 : Int) && ((Prod.snd (Subtype.val s)).4 == (0 : Int) && (Prod.snd (Subtype.val s)).5 == (0 : Int)))) then inF x.2 else false)
   (Tree.chk ((bif (Prod.snd (Subtype.val s)).1 == x.1 && ((Prod.snd (Subtype.val s)).2 == (0 : Int) && ((Prod.snd (Subtype.val s)).3 == (0 : Int) && ((Prod.snd (Subtype.val s)).4 == (0 : Int) && (Prod.snd (Subtype.val s)).5 == (0 : Int)))) then inF x.2 else false) = true)
   (Tree.chk ((bif (Prod.snd (Subtype.val s)).1 == x.1 && ((Prod.snd (Subtype.val s)).2 == (0 : Int) && ((Prod.snd (Subtype.val s)).3 == (0 : Int) && ((Prod.snd (Subtype.val s)).4 == (0 : Int) && (Prod.snd (Subtype.val s)).5 == (0 : Int)))) then inF x.2 else false) = true)
   (Tree.callf 30 [AV.c (CV.v (Value.int IntKind.i64 x.3))] [{ own := true, box := true, ty := 24, sz := 5, m := 1, n := fun x => 1, cap := fun x => 1, f := fun x_1 x_2 => [CV.v (Value.int IntKind.i64 x.1), CV.v (Value.int IntKind.i64 x.2), CV.v (Value.int IntKind.i64 x.3), CV.v (Value.int IntKind.i64 x.4), CV.v (Value.int IntKind.i64 x.5)], ov := [] }, { own := true, box := false, ty := 51, sz := 2, m := 1, n := fun x => 23, cap := fun x => 23, f := fun x i => [CV.v (Value.string (wordS i)), CV.v (Value.string (hasS i))], ov := [] }, { own := true, box := true, ty := 24, sz := 5, m := 1, n := fun x => 1, cap := fun x => 1, f := fun x_1 x_2 => [CV.v (Value.int IntKind.i64 (Prod.snd (Subtype.val s)).1), CV.v (Value.int IntKind.i64 (Prod.snd (Subtype.val s)).2), CV.v (Value.int IntKind.i64 (Prod.snd (Subtype.val s)).3), CV.v (Value.int IntKind.i64 (Prod.snd (Subtype.val s)).4), CV.v (Value.int IntKind.i64 (Prod.snd (Subtype.val s)).5)], ov := [] }, { own := true, box := false, ty := 51, sz := 2, m := 1, n := fun x => 23, cap := fun x => 23, f := fun x i => [CV.v (Value.string (wordS i)), CV.v (Value.string (hasS i))], ov := [] }, { own := true, box := true, ty := 1000000, sz := 2, m := 1, n := fun x => 1, cap := fun x => 1, f := fun x_1 x_2 => [CV.v (Value.string (hasS (Int.toNat x.1))), CV.v (Value.int IntKind.i64 (↑(Prod.fst (Subtype.val s)) : Int))], ov := [] }] (inC x.3) fun c => Tree.chk ((bif bif (Prod.snd (Subtype.val s)).1 == x.1 && ((Prod.snd (Subtype.val s)).2 == (0 : Int) && ((Prod.snd (Subtype.val s)).3 == (0 : Int) && ((Prod.snd (Subtype.val s)).4 == (0 : Int) && (Prod.snd (Subtype.val s)).5 == (0 : Int)))) then inF x.2 else false then inF x.3 else false) = true → (bif bif (Prod.snd (Subtype.val s)).1 == x.1 && ((Prod.snd (Subtype.val s)).2 == (0 : Int) && ((Prod.snd (Subtype.val s)).3 == (0 : Int) && ((Prod.snd (Subtype.val s)).4 == (0 : Int) && (Prod.snd (Subtype.val s)).5 == (0 : Int)))) then inF x.2 else false then inF x.3 else false) = true)
   (Tree.br (bif bif (Prod.snd (Subtype.val s)).1 == x.1 && ((Prod.snd (Subtype.val s)).2 == (0 : Int) && ((Prod.snd (Subtype.val s)).3 == (0 : Int) && ((Prod.snd (Subtype.val s)).4 == (0 : Int) && (Prod.snd (Subtype.val s)).5 == (0 : Int)))) then inF x.2 else false then inF x.3 else false)
   (Tree.chk ((bif bif (Prod.snd (Subtype.val s)).1 == x.1 && ((Prod.snd (Subtype.val s)).2 == (0 : Int) && ((Prod.snd (Subtype.val s)).3 == (0 : Int) && ((Prod.snd (Subtype.val s)).4 == (0 : Int) && (Prod.snd (Subtype.val s)).5 == (0 : Int)))) then inF x.2 else false then inF x.3 else false) = true)
   (Tree.chk ((bif bif (Prod.snd (Subtype.val s)).1 == x.1 && ((Prod.snd (Subtype.val s)).2 == (0 : Int) && ((Prod.snd (Subtype.val s)).3 == (0 : Int) && ((Prod.snd (Subtype.val s)).4 == (0 : Int) && (Prod.snd (Subtype.val s)).5 == (0 : Int)))) then inF x.2 else false then inF x.3 else false) = true)
   (Tree.callf 30 [AV.c (CV.v (Value.int IntKind.i64 x.4))] [{ own := true, box := true, ty := 24, sz := 5, m := 1, n := fun x => 1, cap := fun x => 1, f := fun x_1 x_2 => [CV.v (Value.int IntKind.i64 x.1), CV.v (Value.int IntKind.i64 x.2), CV.v (Value.int IntKind.i64 x.3), CV.v (Value.int IntKind.i64 x.4), CV.v (Value.int IntKind.i64 x.5)], ov := [] }, { own := true, box := false, ty := 51, sz := 2, m := 1, n := fun x => 23, cap := fun x => 23, f := fun x i => [CV.v (Value.string (wordS i)), CV.v (Value.string (hasS i))], ov := [] }, { own := true, box := true, ty := 24, sz := 5, m := 1, n := fun x => 1, cap := fun x => 1, f := fun x_1 x_2 => [CV.v (Value.int IntKind.i64 (Prod.snd (Subtype.val s)).1), CV.v (Value.int IntKind.i64 (Prod.snd (Subtype.val s)).2), CV.v (Value.int IntKind.i64 (Prod.snd (Subtype.val s)).3), CV.v (Value.int IntKind.i64 (Prod.snd (Subtype.val s)).4), CV.v (Value.int IntKind.i64 (Prod.snd (Subtype.val s)).5)], ov := [] }, { own := true, box := false, ty := 51, sz := 2, m := 1, n := fun x => 23, cap := fun x => 23, f := fun x i => [CV.v (Value.string (wordS i)), CV.v (Value.string (hasS i))], ov := [] }, { own := true, box := true, ty := 1000000, sz := 2, m := 1, n := fun x => 1, cap := fun x => 1, f := fun x_1 x_2 => [CV.v (Value.string (hasS (Int.toNat x.1))), CV.v (Value.int IntKind.i64 (↑(Prod.fst (Subtype.val s)) : Int))], ov := [] }] (inC x.4) fun c => Tree.done (XV.a (AV.c (CV.v (Value.bool (bif bif bif (Prod.snd (Subtype.val s)).1 == x.1 && ((Prod.snd (Subtype.val s)).2 == (0 : Int) && ((Prod.snd (Subtype.val s)).3 == (0 : Int) && ((Prod.snd (Subtype.val s)).4 == (0 : Int) && (Prod.snd (Subtype.val s)).5 == (0 : Int)))) then inF x.2 else false then inF x.3 else false then inF x.4 else false))))) [Ent.dead, Ent.dead, Ent.dead, Ent.dead, Ent.dead])))
   (Tree.chk ((bif bif (Prod.snd (Subtype.val s)).1 == x.1 && ((Prod.snd (Subtype.val s)).2 == (0 : Int) && ((Prod.snd (Subtype.val s)).3 == (0 : Int) && ((Prod.snd (Subtype.val s)).4 == (0 : Int) && (Prod.snd (Subtype.val s)).5 == (0 : Int)))) then inF x.2 else false then inF x.3 else false) = false)
   (Tree.done (XV.a (AV.c (CV.v (Value.bool false)))) [Ent.dead, Ent.dead, Ent.dead, Ent.dead, Ent.dead]))))))
   (Tree.chk ((bif (Prod.snd (Subtype.val s)).1 == x.1 && ((Prod.snd (Subtype.val s)).2 == (0 : Int) && ((Prod.snd (Subtype.val s)).3 == (0 : Int) && ((Prod.snd (Subtype.val s)).4 == (0 : Int) && (Prod.snd (Subtype.val s)).5 == (0 : Int)))) then inF x.2 else false) = false)
   (Tree.chk (false = true → false = true)
   (Tree.br false
   (Tree.chk (false = true)
   (Tree.chk (false = true)
   (Tree.callf 30 [AV.c (CV.v (Value.int IntKind.i64 x.4))] [{ own := true, box := true, ty := 24, sz := 5, m := 1, n := fun x => 1, cap := fun x => 1, f := fun x_1 x_2 => [CV.v (Value.int IntKind.i64 x.1), CV.v (Value.int IntKind.i64 x.2), CV.v (Value.int IntKind.i64 x.3), CV.v (Value.int IntKind.i64 x.4), CV.v (Value.int IntKind.i64 x.5)], ov := [] }, { own := true, box := false, ty := 51, sz := 2, m := 1, n := fun x => 23, cap := fun x => 23, f := fun x i => [CV.v (Value.string (wordS i)), CV.v (Value.string (hasS i))], ov := [] }, { own := true, box := true, ty := 24, sz := 5, m := 1, n := fun x => 1, cap := fun x => 1, f := fun x_1 x_2 => [CV.v (Value.int IntKind.i64 (Prod.snd (Subtype.val s)).1), CV.v (Value.int IntKind.i64 (Prod.snd (Subtype.val s)).2), CV.v (Value.int IntKind.i64 (Prod.snd (Subtype.val s)).3), CV.v (Value.int IntKind.i64 (Prod.snd (Subtype.val s)).4), CV.v (Value.int IntKind.i64 (Prod.snd (Subtype.val s)).5)], ov := [] }, { own := true, box := false, ty := 51, sz := 2, m := 1, n := fun x => 23, cap := fun x => 23, f := fun x i => [CV.v (Value.string (wordS i)), CV.v (Value.string (hasS i))], ov := [] }, { own := true, box := true, ty := 1000000, sz := 2, m := 1, n := fun x => 1, cap := fun x => 1, f := fun x_1 x_2 => [CV.v (Value.string (hasS (Int.toNat x.1))), CV.v (Value.int IntKind.i64 (↑(Prod.fst (Subtype.val s)) : Int))], ov := [] }] (inC x.4) fun c => Tree.done (XV.a (AV.c (CV.v (Value.bool false)))) [Ent.dead, Ent.dead, Ent.dead, Ent.dead, Ent.dead])))
   (Tree.chk (false = false)
   (Tree.done (XV.a (AV.c (CV.v (Value.bool false)))) [Ent.dead, Ent.dead, Ent.dead, Ent.dead, Ent.dead])))))))))
   (Tree.chk (((Prod.snd (Subtype.val s)).1 == x.1 && ((Prod.snd (Subtype.val s)).2 == (0 : Int) && ((Prod.snd (Subtype.val s)).3 == (0 : Int) && ((Prod.snd (Subtype.val s)).4 == (0 : Int) && (Prod.snd (Subtype.val s)).5 == (0 : Int))))) = false)
   (Tree.chk (false = true → false = true)
   (Tree.br false
   (Tree.chk (false = true)
   (Tree.chk (false = true)
   (Tree.callf 30 [AV.c (CV.v (Value.int IntKind.i64 x.3))] [{ own := true, box := true, ty := 24, sz := 5, m := 1, n := fun x => 1, cap := fun x => 1, f := fun x_1 x_2 => [CV.v (Value.int IntKind.i64 x.1), CV.v (Value.int IntKind.i64 x.2), CV.v (Value.int IntKind.i64 x.3), CV.v (Value.int IntKind.i64 x.4), CV.v (Value.int IntKind.i64 x.5)], ov := [] }, { own := true, box := false, ty := 51, sz := 2, m := 1, n := fun x => 23, cap := fun x => 23, f := fun x i => [CV.v (Value.string (wordS i)), CV.v (Value.string (hasS i))], ov := [] }, { own := true, box := true, ty := 24, sz := 5, m := 1, n := fun x => 1, cap := fun x => 1, f := fun x_1 x_2 => [CV.v (Value.int IntKind.i64 (Prod.snd (Subtype.val s)).1), CV.v (Value.int IntKind.i64 (Prod.snd (Subtype.val s)).2), CV.v (Value.int IntKind.i64 (Prod.snd (Subtype.val s)).3), CV.v (Value.int IntKind.i64 (Prod.snd (Subtype.val s)).4), CV.v (Value.int IntKind.i64 (Prod.snd (Subtype.val s)).5)], ov := [] }, { own := true, box := false, ty := 51, sz := 2, m := 1, n := fun x => 23, cap := fun x => 23, f := fun x i => [CV.v (Value.string (wordS i)), CV.v (Value.string (hasS i))], ov := [] }, { own := true, box := true, ty := 1000000, sz := 2, m := 1, n := fun x => 1, cap := fun x => 1, f := fun x_1 x_2 => [CV.v (Value.string (hasS (Int.toNat x.1))), CV.v (Value.int IntKind.i64 (↑(Prod.fst (Subtype.val s)) : Int))], ov := [] }] (inC x.3) fun c => Tree.chk (false = true → false = true)
   (Tree.br false
   (Tree.chk (false = true)
   (Tree.chk (false = true)
   (Tree.callf 30 [AV.c (CV.v (Value.int IntKind.i64 x.4))] [{ own := true, box := true, ty := 24, sz := 5, m := 1, n := fun x => 1, cap := fun x => 1, f := fun x_1 x_2 => [CV.v (Value.int IntKind.i64 x.1), CV.v (Value.int IntKind.i64 x.2), CV.v (Value.int IntKind.i64 x.3), CV.v (Value.int IntKind.i64 x.4), CV.v (Value.int IntKind.i64 x.5)], ov := [] }, { own := true, box := false, ty := 51, sz := 2, m := 1, n := fun x => 23, cap := fun x => 23, f := fun x i => [CV.v (Value.string (wordS i)), CV.v (Value.string (hasS i))], ov := [] }, { own := true, box := true, ty := 24, sz := 5, m := 1, n := fun x => 1, cap := fun x => 1, f := fun x_1 x_2 => [CV.v (Value.int IntKind.i64 (Prod.snd (Subtype.val s)).1), CV.v (Value.int IntKind.i64 (Prod.snd (Subtype.val s)).2), CV.v (Value.int IntKind.i64 (Prod.snd (Subtype.val s)).3), CV.v (Value.int IntKind.i64 (Prod.snd (Subtype.val s)).4), CV.v (Value.int IntKind.i64 (Prod.snd (Subtype.val s)).5)], ov := [] }, { own := true, box := false, ty := 51, sz := 2, m := 1, n := fun x => 23, cap := fun x => 23, f := fun x i => [CV.v (Value.string (wordS i)), CV.v (Value.string (hasS i))], ov := [] }, { own := true, box := true, ty := 1000000, sz := 2, m := 1, n := fun x => 1, cap := fun x => 1, f := fun x_1 x_2 => [CV.v (Value.string (hasS (Int.toNat x.1))), CV.v (Value.int IntKind.i64 (↑(Prod.fst (Subtype.val s)) : Int))], ov := [] }] (inC x.4) fun c => Tree.done (XV.a (AV.c (CV.v (Value.bool false)))) [Ent.dead, Ent.dead, Ent.dead, Ent.dead, Ent.dead])))
   (Tree.chk (false = false)
   (Tree.done (XV.a (AV.c (CV.v (Value.bool false)))) [Ent.dead, Ent.dead, Ent.dead, Ent.dead, Ent.dead]))))))
   (Tree.chk (false = false)
   (Tree.chk (false = true → false = true)
   (Tree.br false
   (Tree.chk (false = true)
   (Tree.chk (false = true)
   (Tree.callf 30 [AV.c (CV.v (Value.int IntKind.i64 x.4))] [{ own := true, box := true, ty := 24, sz := 5, m := 1, n := fun x => 1, cap := fun x => 1, f := fun x_1 x_2 => [CV.v (Value.int IntKind.i64 x.1), CV.v (Value.int IntKind.i64 x.2), CV.v (Value.int IntKind.i64 x.3), CV.v (Value.int IntKind.i64 x.4), CV.v (Value.int IntKind.i64 x.5)], ov := [] }, { own := true, box := false, ty := 51, sz := 2, m := 1, n := fun x => 23, cap := fun x => 23, f := fun x i => [CV.v (Value.string (wordS i)), CV.v (Value.string (hasS i))], ov := [] }, { own := true, box := true, ty := 24, sz := 5, m := 1, n := fun x => 1, cap := fun x => 1, f := fun x_1 x_2 => [CV.v (Value.int IntKind.i64 (Prod.snd (Subtype.val s)).1), CV.v (Value.int IntKind.i64 (Prod.snd (Subtype.val s)).2), CV.v (Value.int IntKind.i64 (Prod.snd (Subtype.val s)).3), CV.v (Value.int IntKind.i64 (Prod.snd (Subtype.val s)).4), CV.v (Value.int IntKind.i64 (Prod.snd (Subtype.val s)).5)], ov := [] }, { own := true, box := false, ty := 51, sz := 2, m := 1, n := fun x => 23, cap := fun x => 23, f := fun x i => [CV.v (Value.string (wordS i)), CV.v (Value.string (hasS i))], ov := [] }, { own := true, box := true, ty := 1000000, sz := 2, m := 1, n := fun x => 1, cap := fun x => 1, f := fun x_1 x_2 => [CV.v (Value.string (hasS (Int.toNat x.1))), CV.v (Value.int IntKind.i64 (↑(Prod.fst (Subtype.val s)) : Int))], ov := [] }] (inC x.4) fun c => Tree.done (XV.a (AV.c (CV.v (Value.bool false)))) [Ent.dead, Ent.dead, Ent.dead, Ent.dead, Ent.dead])))
   (Tree.chk (false = false)
   (Tree.done (XV.a (AV.c (CV.v (Value.bool false)))) [Ent.dead, Ent.dead, Ent.dead, Ent.dead, Ent.dead])))))))))))))))))))))))))))))))))
   (Tree.chk ((!decide (x.1 < (1 : Int))) = true → False)
   (Tree.chk ((!decide (x.1 < (1 : Int))) = true → False)
   (Tree.chk (decide (x.1 < (1 : Int)) = true)
   (Tree.chk (false = true → false = true)
   (Tree.chk (false = true → false = true)
   (Tree.chk (false = true → false = true)
   (Tree.chk (false = true → false = true)
   (Tree.chk (false = true → false = true)
   (Tree.chk (false = true → false = true)
   (Tree.chk (false = true → (x.1 == (7 : Int)) = true → false = true)
   (Tree.chk (true = false → false = true)
   (Tree.br true
   (Tree.done (XV.a (AV.c (CV.v (Value.bool false)))) [Ent.dead])
   (Tree.callf 21 [] [{ own := true, box := true, ty := 24, sz := 5, m := 1, n := fun x => 1, cap := fun x => 1, f := fun x_1 x_2 => [CV.v (Value.int IntKind.i64 x.1), CV.v (Value.int IntKind.i64 x.2), CV.v (Value.int IntKind.i64 x.3), CV.v (Value.int IntKind.i64 x.4), CV.v (Value.int IntKind.i64 x.5)], ov := [] }, { own := true, box := true, ty := 24, sz := 5, m := 1, n := fun a => 1, cap := fun a => 1, f := fun x_1 x_2 => [CV.v (Value.int IntKind.i64 x.1), CV.v (Value.int IntKind.i64 x.2), CV.v (Value.int IntKind.i64 x.3), CV.v (Value.int IntKind.i64 x.4), CV.v (Value.int IntKind.i64 x.5)], ov := [] }] (shapesC 2) fun c => Tree.chk (AV.c (CV.v (Value.int IntKind.i64 x.1)) = AV.c (CV.v (Value.int IntKind.i64 x.1)))
   (Tree.chk (AV.c (CV.ptr { k := 0, j := 0, i := 0, sz := 5, c := 0, d := 0, dn := 0, cu := 0 }) = AV.c (CV.ptr { k := 0, j := 0, i := 0, sz := 5, c := 0, d := 0, dn := 0, cu := 0 }))
   (Tree.chk ((0 : Int) ≤ x.1 ∧ x.1 < (↑23 : Int) ∧ Int.toNat x.1 < 23 ∧ 0 < 1)
   (Tree.chk (0 < 1 ∧ Int.toNat x.1 < 23)
   (Tree.both
   (Tree.fail 230)
   (Tree.every (MayS x (hasS (Int.toNat x.1))) fun s => Tree.fail 270)))))))))))))))))))
theorem tmay_eq (x : In) : xfunc tab mayG (lpI fun _ tm H => mayI x tm H) Go.Proofs.Tryd.f13 [x.av] [] [] = tmay x := by kernel_rfl
def taccess (x : In) : Tree :=
  Tree.chk (decide (x.1 ≥ (5 : Int)) = true → decide (x.1 ≥ (5 : Int)) = true)
 (Tree.chk (decide (x.1 ≥ (5 : Int)) = true → decide (x.1 ≥ (5 : Int)) = true)
 (Tree.chk (decide (x.1 ≥ (5 : Int)) = true → decide (x.1 ≥ (5 : Int)) = true)
 (Tree.done (XV.a (AV.c (CV.v (Value.bool (bif decide (x.1 ≥ (5 : Int)) then decide (x.1 ≤ (7 : Int)) else false))))) [Ent.dead])))
theorem taccess_eq (x : In) : prune (.k) (xfunc tab noCtr noInv Go.Proofs.Tryd.f12 [x.av] [] []) = taccess x := by kernel_rfl
abbrev tup_0 : Ent :=
  { own := true, box := true, ty := 26, sz := 7, m := 1, n := fun a => 1, cap := fun a => 1, f := fun x x_1 => [CV.v (Value.string ByteArray.empty), CV.v (Value.int IntKind.i64 (7 : Int)), CV.v (Value.int IntKind.i64 (5 : Int)), CV.v (Value.int IntKind.i64 (8 : Int)), CV.v (Value.int IntKind.i64 (0 : Int)), CV.v (Value.int IntKind.i64 (1 : Int)), CV.v (Value.string ByteArray.empty)], ov := [] }
abbrev tup_1 : List AV :=
  [AV.agg [CV.v (Value.int IntKind.i64 (7 : Int)), CV.v (Value.int IntKind.i64 (5 : Int)), CV.v (Value.int IntKind.i64 (8 : Int)), CV.v (Value.int IntKind.i64 (0 : Int)), CV.v (Value.int IntKind.i64 (1 : Int))]]
abbrev tup_2 : List Ent :=
  [tup_0, { own := true, box := true, ty := 26, sz := 7, m := 1, n := fun a => 1, cap := fun a => 1, f := fun x x_1 => [CV.v (Value.string ByteArray.empty), CV.v (Value.int IntKind.i64 (0 : Int)), CV.v (Value.int IntKind.i64 (0 : Int)), CV.v (Value.int IntKind.i64 (0 : Int)), CV.v (Value.int IntKind.i64 (0 : Int)), CV.v (Value.int IntKind.i64 (0 : Int)), CV.v (Value.string ByteArray.empty)], ov := [] }]
abbrev tup_3 : In :=
  { op := (7 : Int), a := (5 : Int), b := (8 : Int), c := (0 : Int), n := (1 : Int) }
def tup (u : Unit) : Tree :=
  Tree.callf 9 [AV.c (CV.v (Value.string { data := #[(99 : UInt8), (97 : UInt8), (115 : UInt8), (32 : UInt8), (114 : UInt8), (53 : UInt8), (32 : UInt8), (114 : UInt8), (56 : UInt8), (32 : UInt8), (49 : UInt8)] }))] [] (parseD { data := #[(99 : UInt8), (97 : UInt8), (115 : UInt8), (32 : UInt8), (114 : UInt8), (53 : UInt8), (32 : UInt8), (114 : UInt8), (56 : UInt8), (32 : UInt8), (49 : UInt8)] } (some { lb := ByteArray.empty, op := (7 : Int), a := (5 : Int), b := (8 : Int), c := (0 : Int), n := (1 : Int), tg := ByteArray.empty })) fun c => Tree.callf 9 [AV.c (CV.v (Value.string { data := #[(99 : UInt8), (97 : UInt8), (115 : UInt8), (32 : UInt8), (114 : UInt8), (49 : UInt8), (52 : UInt8), (32 : UInt8), (114 : UInt8), (56 : UInt8), (32 : UInt8), (49 : UInt8)] }))] [tup_0] (parseD { data := #[(99 : UInt8), (97 : UInt8), (115 : UInt8), (32 : UInt8), (114 : UInt8), (49 : UInt8), (52 : UInt8), (32 : UInt8), (114 : UInt8), (56 : UInt8), (32 : UInt8), (49 : UInt8)] } none) fun c => Tree.chk (true = true → true = true)
 (Tree.chk (true = true → true = true)
 (Tree.chk (true = true → true = true)
 (Tree.chk (true = true → true = true)
 (Tree.chk (true = true → true = true)
 (Tree.chk (true = true → true = true)
 (Tree.chk (true = true → true = true)
 (Tree.chk (true = true → true = true)
 (Tree.chk (true = true)
 (Tree.chk (true = true)
 (Tree.callf 12 tup_1 tup_2 (accessC tup_3) fun c => Tree.chk (true = true → true = true)
 (Tree.chk (true = true)
 (Tree.chk (true = true)
 (Tree.callf 13 tup_1 tup_2 (mayC tup_3) fun c => Tree.done (XV.a (AV.c (CV.v (Value.bool true)))) [Ent.dead, Ent.dead])))))))))))))
theorem tup_eq (u : Unit) : prune (.cs 10 (.l (.cs 3 (.l .k)))) (xfunc tab upG noInv Go.Proofs.Tryd.f8 [] [] []) = tup u := by kernel_rfl
end Go.Proofs.YtjbnkdpeohbakaaDoor.X.Ip

set_option linter.unusedVariables false
set_option linter.unusedSimpArgs false
namespace Go.Proofs.YtjbnkdpeohbakaaDoor.X.Ip
open Go Go.RowKit Go.Proofs.YtjbnkdpeohbakaaDoorW.PrintWords Go.Proofs.YtjbnkdpeohbakaaDoor.Base Go.Proofs.YtjbnkdpeohbakaaDoor.X
section
variable {P : Program} {R : Root} {nt : Nat} {Rp : Ending → World → Prop} {t e : Tree}
theorem ok_brT (h : ok P R nt Rp t) : ok P R nt Rp (.br true t e) := ⟨fun _ => h, fun h => absurd h.symm Bool.false_ne_true⟩
theorem ok_brF (h : ok P R nt Rp e) : ok P R nt Rp (.br false t e) := ⟨fun h => absurd h Bool.false_ne_true, fun _ => h⟩
end
theorem far_eq (x : In) : farF x = !(decide (-999999999999999999 ≤ x.n) && decide (x.n ≤ 999999999999999999)) := by
  unfold farF
  by_cases h1 : x.n < -999999999999999999
  · have h2 : ¬ (-999999999999999999 ≤ x.n) := by omega
    simp [h1, h2]
  · have h2 : -999999999999999999 ≤ x.n := by omega
    simp only [h1, h2, decide_true, decide_false, cond_false, Bool.true_and]
    by_cases h3 : x.n > 999999999999999999
    · have h4 : ¬ (x.n ≤ 999999999999999999) := by omega
      simp [h3, h4]
    · have h4 : x.n ≤ 999999999999999999 := by omega
      simp [h3, h4]
theorem may_1 (a b c n : Int) : mayL ⟨1, a, b, c, n⟩ (hasS 1) (hasS 1).size 0 ⟨1, a, b, c, n⟩ = mayF ⟨1, a, b, c, n⟩ := by
  show (bif farF ⟨1, a, b, c, n⟩ then false else bif (bif (bif (true && (true && ((b == 0) && ((c == 0) && true)))) then inF a else false) then inF b else false) then inF c else false) = (true && true && !(false && decide (a > 13)) && inF a && inF b && inF c && (true || a == 0) && (false || b == 0) && (false || c == 0) && (decide (-999999999999999999 ≤ n) && decide (n ≤ 999999999999999999)))
  rw [far_eq]
  generalize inF a = ia
  generalize inF b = ib
  generalize inF c = ic
  generalize (decide (-999999999999999999 ≤ n) && decide (n ≤ 999999999999999999)) = nn
  generalize (a == 0) = a0
  generalize (b == 0) = b0
  generalize (c == 0) = c0
  generalize decide (a > 13) = a13
  cases ia <;> cases ib <;> cases ic <;> (revert nn a0 b0 c0 a13; decide)
theorem may_2 (a b c n : Int) : mayL ⟨2, a, b, c, n⟩ (hasS 2) (hasS 2).size 0 ⟨2, a, b, c, n⟩ = mayF ⟨2, a, b, c, n⟩ := by
  show (bif (bif (bif (true && (true && (true && ((c == 0) && (n == 0))))) then inF a else false) then inF b else false) then inF c else false) = (true && true && !(false && decide (a > 13)) && inF a && inF b && inF c && (true || a == 0) && (true || b == 0) && (false || c == 0) && (n == 0))
  generalize inF a = ia
  generalize inF b = ib
  generalize inF c = ic
  generalize (n == 0) = n0
  generalize (a == 0) = a0
  generalize (b == 0) = b0
  generalize (c == 0) = c0
  generalize decide (a > 13) = a13
  cases ia <;> cases ib <;> cases ic <;> (revert n0 a0 b0 c0 a13; decide)
theorem may_3 (a b c n : Int) : mayL ⟨3, a, b, c, n⟩ (hasS 3) (hasS 3).size 0 ⟨3, a, b, c, n⟩ = mayF ⟨3, a, b, c, n⟩ := by
  show (bif (bif (bif (true && (true && (true && (true && (n == 0))))) then inF a else false) then inF b else false) then inF c else false) = (true && true && !(false && decide (a > 13)) && inF a && inF b && inF c && (true || a == 0) && (true || b == 0) && (true || c == 0) && (n == 0))
  generalize inF a = ia
  generalize inF b = ib
  generalize inF c = ic
  generalize (n == 0) = n0
  generalize (a == 0) = a0
  generalize (b == 0) = b0
  generalize (c == 0) = c0
  generalize decide (a > 13) = a13
  cases ia <;> cases ib <;> cases ic <;> (revert n0 a0 b0 c0 a13; decide)
theorem may_4 (a b c n : Int) : mayL ⟨4, a, b, c, n⟩ (hasS 4) (hasS 4).size 0 ⟨4, a, b, c, n⟩ = mayF ⟨4, a, b, c, n⟩ := by
  show (bif farF ⟨4, a, b, c, n⟩ then false else bif (bif (bif (true && (true && (true && ((c == 0) && true)))) then inF a else false) then inF b else false) then inF c else false) = (true && true && !(false && decide (a > 13)) && inF a && inF b && inF c && (true || a == 0) && (true || b == 0) && (false || c == 0) && (decide (-999999999999999999 ≤ n) && decide (n ≤ 999999999999999999)))
  rw [far_eq]
  generalize inF a = ia
  generalize inF b = ib
  generalize inF c = ic
  generalize (decide (-999999999999999999 ≤ n) && decide (n ≤ 999999999999999999)) = nn
  generalize (a == 0) = a0
  generalize (b == 0) = b0
  generalize (c == 0) = c0
  generalize decide (a > 13) = a13
  cases ia <;> cases ib <;> cases ic <;> (revert nn a0 b0 c0 a13; decide)
theorem may_5 (a b c n : Int) : mayL ⟨5, a, b, c, n⟩ (hasS 5) (hasS 5).size 0 ⟨5, a, b, c, n⟩ = mayF ⟨5, a, b, c, n⟩ := by
  show (bif farF ⟨5, a, b, c, n⟩ then false else bif (bif (bif (true && (true && (true && ((c == 0) && true)))) then inF a else false) then inF b else false) then inF c else false) = (true && true && !(false && decide (a > 13)) && inF a && inF b && inF c && (true || a == 0) && (true || b == 0) && (false || c == 0) && (decide (-999999999999999999 ≤ n) && decide (n ≤ 999999999999999999)))
  rw [far_eq]
  generalize inF a = ia
  generalize inF b = ib
  generalize inF c = ic
  generalize (decide (-999999999999999999 ≤ n) && decide (n ≤ 999999999999999999)) = nn
  generalize (a == 0) = a0
  generalize (b == 0) = b0
  generalize (c == 0) = c0
  generalize decide (a > 13) = a13
  cases ia <;> cases ib <;> cases ic <;> (revert nn a0 b0 c0 a13; decide)
theorem may_6 (a b c n : Int) : mayL ⟨6, a, b, c, n⟩ (hasS 6) (hasS 6).size 0 ⟨6, a, b, c, n⟩ = mayF ⟨6, a, b, c, n⟩ := by
  show (bif farF ⟨6, a, b, c, n⟩ then false else bif (bif (bif (true && (true && (true && ((c == 0) && true)))) then inF a else false) then inF b else false) then inF c else false) = (true && true && !(false && decide (a > 13)) && inF a && inF b && inF c && (true || a == 0) && (true || b == 0) && (false || c == 0) && (decide (-999999999999999999 ≤ n) && decide (n ≤ 999999999999999999)))
  rw [far_eq]
  generalize inF a = ia
  generalize inF b = ib
  generalize inF c = ic
  generalize (decide (-999999999999999999 ≤ n) && decide (n ≤ 999999999999999999)) = nn
  generalize (a == 0) = a0
  generalize (b == 0) = b0
  generalize (c == 0) = c0
  generalize decide (a > 13) = a13
  cases ia <;> cases ib <;> cases ic <;> (revert nn a0 b0 c0 a13; decide)
theorem may_7 (a b c n : Int) (h7 : decide (a > 13) = false) : mayL ⟨7, a, b, c, n⟩ (hasS 7) (hasS 7).size 0 ⟨7, a, b, c, n⟩ = mayF ⟨7, a, b, c, n⟩ := by
  show (bif farF ⟨7, a, b, c, n⟩ then false else bif (bif (bif (true && (true && (true && ((c == 0) && true)))) then inF a else false) then inF b else false) then inF c else false) = (true && true && !(true && decide (a > 13)) && inF a && inF b && inF c && (true || a == 0) && (true || b == 0) && (false || c == 0) && (decide (-999999999999999999 ≤ n) && decide (n ≤ 999999999999999999)))
  rw [far_eq]
  rw [h7]
  generalize inF a = ia
  generalize inF b = ib
  generalize inF c = ic
  generalize (decide (-999999999999999999 ≤ n) && decide (n ≤ 999999999999999999)) = nn
  generalize (a == 0) = a0
  generalize (b == 0) = b0
  generalize (c == 0) = c0
  cases ia <;> cases ib <;> cases ic <;> (revert nn a0 b0 c0; decide)
theorem may_8 (a b c n : Int) : mayL ⟨8, a, b, c, n⟩ (hasS 8) (hasS 8).size 0 ⟨8, a, b, c, n⟩ = mayF ⟨8, a, b, c, n⟩ := by
  show (bif (bif (bif (true && ((a == 0) && ((b == 0) && ((c == 0) && true)))) then inF a else false) then inF b else false) then inF c else false) = (true && true && !(false && decide (a > 13)) && inF a && inF b && inF c && (false || a == 0) && (false || b == 0) && (false || c == 0) && (true))
  generalize inF a = ia
  generalize inF b = ib
  generalize inF c = ic
  generalize (a == 0) = a0
  generalize (b == 0) = b0
  generalize (c == 0) = c0
  generalize decide (a > 13) = a13
  cases ia <;> cases ib <;> cases ic <;> (revert a0 b0 c0 a13; decide)
theorem may_9 (a b c n : Int) : mayL ⟨9, a, b, c, n⟩ (hasS 9) (hasS 9).size 0 ⟨9, a, b, c, n⟩ = mayF ⟨9, a, b, c, n⟩ := by
  show (bif (bif (bif (true && (true && (true && ((c == 0) && true)))) then inF a else false) then inF b else false) then inF c else false) = (true && true && !(false && decide (a > 13)) && inF a && inF b && inF c && (true || a == 0) && (true || b == 0) && (false || c == 0) && (true))
  generalize inF a = ia
  generalize inF b = ib
  generalize inF c = ic
  generalize (a == 0) = a0
  generalize (b == 0) = b0
  generalize (c == 0) = c0
  generalize decide (a > 13) = a13
  cases ia <;> cases ib <;> cases ic <;> (revert a0 b0 c0 a13; decide)
theorem may_10 (a b c n : Int) : mayL ⟨10, a, b, c, n⟩ (hasS 10) (hasS 10).size 0 ⟨10, a, b, c, n⟩ = mayF ⟨10, a, b, c, n⟩ := by
  show (bif (bif (bif (true && (true && (true && ((c == 0) && true)))) then inF a else false) then inF b else false) then inF c else false) = (true && true && !(false && decide (a > 13)) && inF a && inF b && inF c && (true || a == 0) && (true || b == 0) && (false || c == 0) && (true))
  generalize inF a = ia
  generalize inF b = ib
  generalize inF c = ic
  generalize (a == 0) = a0
  generalize (b == 0) = b0
  generalize (c == 0) = c0
  generalize decide (a > 13) = a13
  cases ia <;> cases ib <;> cases ic <;> (revert a0 b0 c0 a13; decide)
theorem may_11 (a b c n : Int) : mayL ⟨11, a, b, c, n⟩ (hasS 11) (hasS 11).size 0 ⟨11, a, b, c, n⟩ = mayF ⟨11, a, b, c, n⟩ := by
  show (bif (bif (bif (true && (true && (true && ((c == 0) && true)))) then inF a else false) then inF b else false) then inF c else false) = (true && true && !(false && decide (a > 13)) && inF a && inF b && inF c && (true || a == 0) && (true || b == 0) && (false || c == 0) && (true))
  generalize inF a = ia
  generalize inF b = ib
  generalize inF c = ic
  generalize (a == 0) = a0
  generalize (b == 0) = b0
  generalize (c == 0) = c0
  generalize decide (a > 13) = a13
  cases ia <;> cases ib <;> cases ic <;> (revert a0 b0 c0 a13; decide)
theorem may_12 (a b c n : Int) : mayL ⟨12, a, b, c, n⟩ (hasS 12) (hasS 12).size 0 ⟨12, a, b, c, n⟩ = mayF ⟨12, a, b, c, n⟩ := by
  show (bif (bif (bif (true && ((a == 0) && ((b == 0) && ((c == 0) && true)))) then inF a else false) then inF b else false) then inF c else false) = (true && true && !(false && decide (a > 13)) && inF a && inF b && inF c && (false || a == 0) && (false || b == 0) && (false || c == 0) && (true))
  generalize inF a = ia
  generalize inF b = ib
  generalize inF c = ic
  generalize (a == 0) = a0
  generalize (b == 0) = b0
  generalize (c == 0) = c0
  generalize decide (a > 13) = a13
  cases ia <;> cases ib <;> cases ic <;> (revert a0 b0 c0 a13; decide)
theorem may_13 (a b c n : Int) : mayL ⟨13, a, b, c, n⟩ (hasS 13) (hasS 13).size 0 ⟨13, a, b, c, n⟩ = mayF ⟨13, a, b, c, n⟩ := by
  show (bif (bif (bif (true && ((a == 0) && ((b == 0) && ((c == 0) && (n == 0))))) then inF a else false) then inF b else false) then inF c else false) = (true && true && !(false && decide (a > 13)) && inF a && inF b && inF c && (false || a == 0) && (false || b == 0) && (false || c == 0) && (n == 0))
  generalize inF a = ia
  generalize inF b = ib
  generalize inF c = ic
  generalize (n == 0) = n0
  generalize (a == 0) = a0
  generalize (b == 0) = b0
  generalize (c == 0) = c0
  generalize decide (a > 13) = a13
  cases ia <;> cases ib <;> cases ic <;> (revert n0 a0 b0 c0 a13; decide)
theorem may_14 (a b c n : Int) : mayL ⟨14, a, b, c, n⟩ (hasS 14) (hasS 14).size 0 ⟨14, a, b, c, n⟩ = mayF ⟨14, a, b, c, n⟩ := by
  show (bif (bif (bif (true && (true && ((b == 0) && ((c == 0) && (n == 0))))) then inF a else false) then inF b else false) then inF c else false) = (true && true && !(false && decide (a > 13)) && inF a && inF b && inF c && (true || a == 0) && (false || b == 0) && (false || c == 0) && (n == 0))
  generalize inF a = ia
  generalize inF b = ib
  generalize inF c = ic
  generalize (n == 0) = n0
  generalize (a == 0) = a0
  generalize (b == 0) = b0
  generalize (c == 0) = c0
  generalize decide (a > 13) = a13
  cases ia <;> cases ib <;> cases ic <;> (revert n0 a0 b0 c0 a13; decide)
theorem may_15 (a b c n : Int) : mayL ⟨15, a, b, c, n⟩ (hasS 15) (hasS 15).size 0 ⟨15, a, b, c, n⟩ = mayF ⟨15, a, b, c, n⟩ := by
  show (bif (bif (bif (true && (true && ((b == 0) && ((c == 0) && (n == 0))))) then inF a else false) then inF b else false) then inF c else false) = (true && true && !(false && decide (a > 13)) && inF a && inF b && inF c && (true || a == 0) && (false || b == 0) && (false || c == 0) && (n == 0))
  generalize inF a = ia
  generalize inF b = ib
  generalize inF c = ic
  generalize (n == 0) = n0
  generalize (a == 0) = a0
  generalize (b == 0) = b0
  generalize (c == 0) = c0
  generalize decide (a > 13) = a13
  cases ia <;> cases ib <;> cases ic <;> (revert n0 a0 b0 c0 a13; decide)
theorem may_16 (a b c n : Int) : mayL ⟨16, a, b, c, n⟩ (hasS 16) (hasS 16).size 0 ⟨16, a, b, c, n⟩ = mayF ⟨16, a, b, c, n⟩ := by
  show (bif farF ⟨16, a, b, c, n⟩ then false else bif (bif (bif (true && (true && ((b == 0) && ((c == 0) && true)))) then inF a else false) then inF b else false) then inF c else false) = (true && true && !(false && decide (a > 13)) && inF a && inF b && inF c && (true || a == 0) && (false || b == 0) && (false || c == 0) && (decide (-999999999999999999 ≤ n) && decide (n ≤ 999999999999999999)))
  rw [far_eq]
  generalize inF a = ia
  generalize inF b = ib
  generalize inF c = ic
  generalize (decide (-999999999999999999 ≤ n) && decide (n ≤ 999999999999999999)) = nn
  generalize (a == 0) = a0
  generalize (b == 0) = b0
  generalize (c == 0) = c0
  generalize decide (a > 13) = a13
  cases ia <;> cases ib <;> cases ic <;> (revert nn a0 b0 c0 a13; decide)
theorem may_17 (a b c n : Int) : mayL ⟨17, a, b, c, n⟩ (hasS 17) (hasS 17).size 0 ⟨17, a, b, c, n⟩ = mayF ⟨17, a, b, c, n⟩ := by
  show (bif (bif (bif (true && (true && ((b == 0) && ((c == 0) && (n == 0))))) then inF a else false) then inF b else false) then inF c else false) = (true && true && !(false && decide (a > 13)) && inF a && inF b && inF c && (true || a == 0) && (false || b == 0) && (false || c == 0) && (n == 0))
  generalize inF a = ia
  generalize inF b = ib
  generalize inF c = ic
  generalize (n == 0) = n0
  generalize (a == 0) = a0
  generalize (b == 0) = b0
  generalize (c == 0) = c0
  generalize decide (a > 13) = a13
  cases ia <;> cases ib <;> cases ic <;> (revert n0 a0 b0 c0 a13; decide)
theorem may_18 (a b c n : Int) : mayL ⟨18, a, b, c, n⟩ (hasS 18) (hasS 18).size 0 ⟨18, a, b, c, n⟩ = mayF ⟨18, a, b, c, n⟩ := by
  show (bif (bif (bif (true && (true && ((b == 0) && ((c == 0) && (n == 0))))) then inF a else false) then inF b else false) then inF c else false) = (true && true && !(false && decide (a > 13)) && inF a && inF b && inF c && (true || a == 0) && (false || b == 0) && (false || c == 0) && (n == 0))
  generalize inF a = ia
  generalize inF b = ib
  generalize inF c = ic
  generalize (n == 0) = n0
  generalize (a == 0) = a0
  generalize (b == 0) = b0
  generalize (c == 0) = c0
  generalize decide (a > 13) = a13
  cases ia <;> cases ib <;> cases ic <;> (revert n0 a0 b0 c0 a13; decide)
theorem may_19 (a b c n : Int) : mayL ⟨19, a, b, c, n⟩ (hasS 19) (hasS 19).size 0 ⟨19, a, b, c, n⟩ = mayF ⟨19, a, b, c, n⟩ := by
  show (bif (bif (bif (true && (true && ((b == 0) && ((c == 0) && (n == 0))))) then inF a else false) then inF b else false) then inF c else false) = (true && true && !(false && decide (a > 13)) && inF a && inF b && inF c && (true || a == 0) && (false || b == 0) && (false || c == 0) && (n == 0))
  generalize inF a = ia
  generalize inF b = ib
  generalize inF c = ic
  generalize (n == 0) = n0
  generalize (a == 0) = a0
  generalize (b == 0) = b0
  generalize (c == 0) = c0
  generalize decide (a > 13) = a13
  cases ia <;> cases ib <;> cases ic <;> (revert n0 a0 b0 c0 a13; decide)
theorem may_20 (a b c n : Int) : mayL ⟨20, a, b, c, n⟩ (hasS 20) (hasS 20).size 0 ⟨20, a, b, c, n⟩ = mayF ⟨20, a, b, c, n⟩ := by
  show (bif (bif (bif (true && ((a == 0) && ((b == 0) && ((c == 0) && (n == 0))))) then inF a else false) then inF b else false) then inF c else false) = (true && true && !(false && decide (a > 13)) && inF a && inF b && inF c && (false || a == 0) && (false || b == 0) && (false || c == 0) && (n == 0))
  generalize inF a = ia
  generalize inF b = ib
  generalize inF c = ic
  generalize (n == 0) = n0
  generalize (a == 0) = a0
  generalize (b == 0) = b0
  generalize (c == 0) = c0
  generalize decide (a > 13) = a13
  cases ia <;> cases ib <;> cases ic <;> (revert n0 a0 b0 c0 a13; decide)
theorem may_21 (a b c n : Int) : mayL ⟨21, a, b, c, n⟩ (hasS 21) (hasS 21).size 0 ⟨21, a, b, c, n⟩ = mayF ⟨21, a, b, c, n⟩ := by
  show (bif farF ⟨21, a, b, c, n⟩ then false else bif (bif (bif (true && (true && ((b == 0) && ((c == 0) && true)))) then inF a else false) then inF b else false) then inF c else false) = (true && true && !(false && decide (a > 13)) && inF a && inF b && inF c && (true || a == 0) && (false || b == 0) && (false || c == 0) && (decide (-999999999999999999 ≤ n) && decide (n ≤ 999999999999999999)))
  rw [far_eq]
  generalize inF a = ia
  generalize inF b = ib
  generalize inF c = ic
  generalize (decide (-999999999999999999 ≤ n) && decide (n ≤ 999999999999999999)) = nn
  generalize (a == 0) = a0
  generalize (b == 0) = b0
  generalize (c == 0) = c0
  generalize decide (a > 13) = a13
  cases ia <;> cases ib <;> cases ic <;> (revert nn a0 b0 c0 a13; decide)
theorem may_22 (a b c n : Int) : mayL ⟨22, a, b, c, n⟩ (hasS 22) (hasS 22).size 0 ⟨22, a, b, c, n⟩ = mayF ⟨22, a, b, c, n⟩ := by
  show (bif (bif (bif (true && (true && ((b == 0) && ((c == 0) && (n == 0))))) then inF a else false) then inF b else false) then inF c else false) = (true && true && !(false && decide (a > 13)) && inF a && inF b && inF c && (true || a == 0) && (false || b == 0) && (false || c == 0) && (n == 0))
  generalize inF a = ia
  generalize inF b = ib
  generalize inF c = ic
  generalize (n == 0) = n0
  generalize (a == 0) = a0
  generalize (b == 0) = b0
  generalize (c == 0) = c0
  generalize decide (a > 13) = a13
  cases ia <;> cases ib <;> cases ic <;> (revert n0 a0 b0 c0 a13; decide)

theorem may_eq (x : In) (h1 : 1 ≤ x.op) (h2 : x.op ≤ 22) (h7 : (bif x.op == 7 then decide (x.a > 13) else false) = false) : mayL x (hasS x.op.toNat) (hasS x.op.toNat).size 0 x = mayF x := by
  obtain ⟨op, a, b, c, n⟩ := x
  have h1 : 1 ≤ op := h1
  have h2 : op ≤ 22 := h2
  obtain ⟨k, rfl⟩ : ∃ k : Nat, op = k := ⟨op.toNat, by omega⟩
  have hk : k ≤ 22 := by omega
  have hk1 : 1 ≤ k := by omega
  match k, hk, hk1, h7 with
  | 1, _, _, _ => exact may_1 a b c n
  | 2, _, _, _ => exact may_2 a b c n
  | 3, _, _, _ => exact may_3 a b c n
  | 4, _, _, _ => exact may_4 a b c n
  | 5, _, _, _ => exact may_5 a b c n
  | 6, _, _, _ => exact may_6 a b c n
  | 7, _, _, h7 => exact may_7 a b c n h7
  | 8, _, _, _ => exact may_8 a b c n
  | 9, _, _, _ => exact may_9 a b c n
  | 10, _, _, _ => exact may_10 a b c n
  | 11, _, _, _ => exact may_11 a b c n
  | 12, _, _, _ => exact may_12 a b c n
  | 13, _, _, _ => exact may_13 a b c n
  | 14, _, _, _ => exact may_14 a b c n
  | 15, _, _, _ => exact may_15 a b c n
  | 16, _, _, _ => exact may_16 a b c n
  | 17, _, _, _ => exact may_17 a b c n
  | 18, _, _, _ => exact may_18 a b c n
  | 19, _, _, _ => exact may_19 a b c n
  | 20, _, _, _ => exact may_20 a b c n
  | 21, _, _, _ => exact may_21 a b c n
  | 22, _, _, _ => exact may_22 a b c n
  | 0, _, h, _ => exact absurd h (by omega)
  | k + 23, h, _, _ => exact absurd h (by omega)

theorem ascii_has (k : Nat) : asciiB (hasS k) = true := by
  match k with
  | 0 => simp [asciiB, hasS, shapeF]
  | 1 => simp [asciiB, hasS, shapeF]
  | 2 => simp [asciiB, hasS, shapeF]
  | 3 => simp [asciiB, hasS, shapeF]
  | 4 => simp [asciiB, hasS, shapeF]
  | 5 => simp [asciiB, hasS, shapeF]
  | 6 => simp [asciiB, hasS, shapeF]
  | 7 => simp [asciiB, hasS, shapeF]
  | 8 => simp [asciiB, hasS, shapeF]
  | 9 => simp [asciiB, hasS, shapeF]
  | 10 => simp [asciiB, hasS, shapeF]
  | 11 => simp [asciiB, hasS, shapeF]
  | 12 => simp [asciiB, hasS, shapeF]
  | 13 => simp [asciiB, hasS, shapeF]
  | 14 => simp [asciiB, hasS, shapeF]
  | 15 => simp [asciiB, hasS, shapeF]
  | 16 => simp [asciiB, hasS, shapeF]
  | 17 => simp [asciiB, hasS, shapeF]
  | 18 => simp [asciiB, hasS, shapeF]
  | 19 => simp [asciiB, hasS, shapeF]
  | 20 => simp [asciiB, hasS, shapeF]
  | 21 => simp [asciiB, hasS, shapeF]
  | 22 => simp [asciiB, hasS, shapeF]
  | k + 23 => simp [asciiB, hasS, shapeF]
theorem in_call : Callable Tryd.prog 30 := ⟨_, Tryd.func30, by kernel_rfl, rfl⟩
theorem in_local (n : Int) : (inC n).Local Tryd.prog 30 := by
  refine local_of Tryd.func30 rfl (tin_eq n) fun ν w => ?_
  repeat refine ok_chk' (fun h => h) ?_
  exact ok_leaf (fun _ => 0) [] [] trivial rfl trivial rfl
theorem mayL_step {x : In} {s : ByteArray} {p : Nat × In} (h : mayL x s (s.size - p.1) p.1 p.2 = mayL x s s.size 0 x) (hp : p.1 < s.size) (hc : (bt' s p.1 == 78 && farF x) = false) {b : In} (hb : b = zeroF p.2 (bt' s p.1)) : mayL x s (s.size - (p.1 + 1)) (p.1 + 1) b = mayL x s s.size 0 x := by
  rw [← h]
  obtain ⟨g, hg⟩ : ∃ g, s.size - p.1 = g + 1 := ⟨s.size - p.1 - 1, by omega⟩
  rw [hg, show s.size - (p.1 + 1) = g by omega, hb]
  simp only [mayL, hc, cond_false]
theorem mayL_far {x : In} {s : ByteArray} {p : Nat × In} (h : mayL x s (s.size - p.1) p.1 p.2 = mayL x s s.size 0 x) (hp : p.1 < s.size) (hc : (bt' s p.1 == 78 && farF x) = true) : mayL x s s.size 0 x = false := by
  rw [← h]
  obtain ⟨g, hg⟩ : ∃ g, s.size - p.1 = g + 1 := ⟨s.size - p.1 - 1, by omega⟩
  rw [hg]
  simp only [mayL, hc, cond_true]
theorem mayL_end {x : In} {s : ByteArray} {p : Nat × In} (h : mayL x s (s.size - p.1) p.1 p.2 = mayL x s s.size 0 x) (hp : ¬ p.1 < s.size) : mayL x s s.size 0 x = endF x p.2 := by
  rw [← h, show s.size - p.1 = 0 by omega]
  rfl
set_option maxHeartbeats 2000000 in
theorem may_local (x : In) : (mayC x).Local Tryd.prog 13 := by
  refine local_of Tryd.func13 rfl (tmay_eq x) fun ν w => ?_
  refine ok_chk' (fun h => h) (ok_br' (fun h1 => ?_) fun h1 => ?_)
  · have h1' : 1 ≤ x.op := by simp at h1; omega
    refine ok_callf' shapes_call (fits_of rfl rfl trivial fun c _ => ⟨⟨Nat.zero_le _, rfl⟩, ⟨rfl, rfl⟩, ⟨⟨EntRel.rw rfl rfl (fun _ _ => rfl) fun _ _ => rfl, rfl, (fun h => by cases h), .inr rfl⟩, trivial⟩⟩) (shapes_local 1) fun c _ => ?_
    repeat refine ok_chk' (by first | rfl | exact fun h => h | exact fun _ => rfl | (exact fun h => by rw [h]; rfl) | assumption | exact EntRel.box' rfl rfl rfl rfl rfl | exact EntRel.rw rfl rfl (fun _ _ => rfl) fun _ _ => rfl | omega | (simp_all; done) | (simp_all; omega)) ?_
    refine ok_br' (fun h2 => ?_) fun h2 => ?_
    · have hres : mayF x = false := by
        unfold mayF
        cases h3 : decide (x.op ≤ 22) with
        | false => simp
        | true =>
          have h4 : x.op == 7 ∧ x.a > 13 := by simp at h2 h3; exact ⟨by simp; omega, by omega⟩
          simp [h4.1, h4.2]
      exact ok_leaf (fun _ => 0) [] [] trivial (by show _ = XV.nilz _ (XV.ren _ (bool (mayF x))); rw [hres]; rfl) trivial rfl
    · have h3 : x.op ≤ 22 := by simp at h2; omega
      have h7 : (bif x.op == 7 then decide (x.a > 13) else false) = false := by
        cases h4 : (bif x.op == 7 then decide (x.a > 13) else false) with
        | false => rfl
        | true => rw [show (bif x.op == 7 then decide (x.a > 13) else false) = true from h4] at h2; simp at h2
      have heq := may_eq x h1' h3 h7
      refine ok_callf' shapes_call (fits_of rfl rfl trivial fun c _ => ⟨⟨Nat.zero_le _, rfl⟩, ⟨rfl, rfl⟩, ⟨⟨EntRel.rw rfl rfl (fun _ _ => rfl) fun _ _ => rfl, rfl, (fun h => by cases h), .inr rfl⟩, trivial⟩⟩) (shapes_local 3) fun c _ => ?_
      repeat (refine ok_chk' rfl ?_)
      refine (ok_chk' ⟨by omega, by omega, by omega, Nat.one_pos⟩ (ok_chk' ⟨Nat.one_pos, by omega⟩ (ok_both' ?_ (ok_every' fun s => ?_))))
      · repeat (refine ok_chk' rfl ?_)
        exact ok_chk' (EntRel.box' rfl rfl rfl rfl rfl) (ok_chk' (EntRel.rw rfl rfl (fun _ _ => rfl) fun _ _ => rfl) (ok_chk' (EntRel.box' rfl rfl rfl rfl rfl) (ok_chk' (EntRel.rw rfl rfl (fun _ _ => rfl) fun _ _ => rfl) (ok_chk' (EntRel.box' rfl rfl rfl rfl rfl) trivial))))
      · have hp1 := s.2.1
        have hp := s.2.2
        refine ok_chk' ⟨Int.natCast_nonneg _, ascii_has _⟩ (ok_br' (fun hlt => ?_) fun hlt => ?_)
        · have hlt : s.1.1 < (hasS x.op.toNat).size := by simpa using hlt
          refine ok_br' (fun _ => ?_) fun h => by cases h
          refine ok_br' (fun c1 => ?_) fun c1 => ok_br' (fun c2 => ?_) fun c2 => ok_br' (fun c3 => ?_) fun c3 => ok_br' (fun c4 => ?_) fun c4 => ?_
          · have c1 : (bt' (hasS x.op.toNat) s.1.1 == 65) = true := by simpa using c1
            have hc : (bt' (hasS x.op.toNat) s.1.1 == 78 && farF x) = false := by simp at c1; simp [c1]
            (refine ok_some' ⟨(s.1.1 + 1, zeroF s.1.2 (bt' (hasS x.op.toNat) s.1.1)), hlt, mayL_step hp hlt hc rfl⟩ (ok_chk' (by show _ - (s.1.1 + 1) < _ - s.1.1; omega) ?_)); (repeat (refine ok_chk' rfl ?_)); (exact ok_chk' (EntRel.box' rfl rfl rfl rfl rfl) (ok_chk' (EntRel.rw rfl rfl (fun _ _ => rfl) fun _ _ => rfl) (ok_chk' (EntRel.box' (by simp only [zeroF, *, cond_true, cond_false]; rfl) rfl rfl rfl rfl) (ok_chk' (EntRel.rw rfl rfl (fun _ _ => rfl) fun _ _ => rfl) (ok_chk' (EntRel.box' rfl rfl rfl rfl rfl) trivial)))))
          · have c1 : (bt' (hasS x.op.toNat) s.1.1 == 65) = false := by simpa using c1
            have c2 : (bt' (hasS x.op.toNat) s.1.1 == 66) = true := by simpa using c2
            have hc : (bt' (hasS x.op.toNat) s.1.1 == 78 && farF x) = false := by simp at c2; simp [c2]
            (refine ok_some' ⟨(s.1.1 + 1, zeroF s.1.2 (bt' (hasS x.op.toNat) s.1.1)), hlt, mayL_step hp hlt hc rfl⟩ (ok_chk' (by show _ - (s.1.1 + 1) < _ - s.1.1; omega) ?_)); (repeat (refine ok_chk' rfl ?_)); (exact ok_chk' (EntRel.box' rfl rfl rfl rfl rfl) (ok_chk' (EntRel.rw rfl rfl (fun _ _ => rfl) fun _ _ => rfl) (ok_chk' (EntRel.box' (by simp only [zeroF, *, cond_true, cond_false]; rfl) rfl rfl rfl rfl) (ok_chk' (EntRel.rw rfl rfl (fun _ _ => rfl) fun _ _ => rfl) (ok_chk' (EntRel.box' rfl rfl rfl rfl rfl) trivial)))))
          · have c1 : (bt' (hasS x.op.toNat) s.1.1 == 65) = false := by simpa using c1
            have c2 : (bt' (hasS x.op.toNat) s.1.1 == 66) = false := by simpa using c2
            have c3 : (bt' (hasS x.op.toNat) s.1.1 == 67) = true := by simpa using c3
            have hc : (bt' (hasS x.op.toNat) s.1.1 == 78 && farF x) = false := by simp at c3; simp [c3]
            (refine ok_some' ⟨(s.1.1 + 1, zeroF s.1.2 (bt' (hasS x.op.toNat) s.1.1)), hlt, mayL_step hp hlt hc rfl⟩ (ok_chk' (by show _ - (s.1.1 + 1) < _ - s.1.1; omega) ?_)); (repeat (refine ok_chk' rfl ?_)); (exact ok_chk' (EntRel.box' rfl rfl rfl rfl rfl) (ok_chk' (EntRel.rw rfl rfl (fun _ _ => rfl) fun _ _ => rfl) (ok_chk' (EntRel.box' (by simp only [zeroF, *, cond_true, cond_false]; rfl) rfl rfl rfl rfl) (ok_chk' (EntRel.rw rfl rfl (fun _ _ => rfl) fun _ _ => rfl) (ok_chk' (EntRel.box' rfl rfl rfl rfl rfl) trivial)))))
          · have c1 : (bt' (hasS x.op.toNat) s.1.1 == 65) = false := by simpa using c1
            have c2 : (bt' (hasS x.op.toNat) s.1.1 == 66) = false := by simpa using c2
            have c3 : (bt' (hasS x.op.toNat) s.1.1 == 67) = false := by simpa using c3
            have c4 : (bt' (hasS x.op.toNat) s.1.1 == 78) = true := by simpa using c4
            repeat refine ok_chk' (by first | exact fun h => h | (exact fun h => by rw [h]; rfl)) ?_
            refine ok_br' (fun c5 => ?_) fun c5 => ?_
            · have c5 : farF x = true := c5
              have hres : mayF x = false := heq.symm.trans (mayL_far hp hlt (by rw [c4, c5]; rfl))
              exact ok_leaf (fun _ => 0) [] [] trivial (by show _ = XV.nilz _ (XV.ren _ (bool (mayF x))); rw [hres]; rfl) trivial rfl
            · have c5 : farF x = false := c5
              have hc : (bt' (hasS x.op.toNat) s.1.1 == 78 && farF x) = false := by rw [c5, Bool.and_false]
              (refine ok_some' ⟨(s.1.1 + 1, zeroF s.1.2 (bt' (hasS x.op.toNat) s.1.1)), hlt, mayL_step hp hlt hc rfl⟩ (ok_chk' (by show _ - (s.1.1 + 1) < _ - s.1.1; omega) ?_)); (repeat (refine ok_chk' rfl ?_)); (exact ok_chk' (EntRel.box' rfl rfl rfl rfl rfl) (ok_chk' (EntRel.rw rfl rfl (fun _ _ => rfl) fun _ _ => rfl) (ok_chk' (EntRel.box' (by simp only [zeroF, *, cond_true, cond_false]; rfl) rfl rfl rfl rfl) (ok_chk' (EntRel.rw rfl rfl (fun _ _ => rfl) fun _ _ => rfl) (ok_chk' (EntRel.box' rfl rfl rfl rfl rfl) trivial)))))
          · have c1 : (bt' (hasS x.op.toNat) s.1.1 == 65) = false := by simpa using c1
            have c2 : (bt' (hasS x.op.toNat) s.1.1 == 66) = false := by simpa using c2
            have c3 : (bt' (hasS x.op.toNat) s.1.1 == 67) = false := by simpa using c3
            have c4 : (bt' (hasS x.op.toNat) s.1.1 == 78) = false := by simpa using c4
            have hc : (bt' (hasS x.op.toNat) s.1.1 == 78 && farF x) = false := by rw [c4]; rfl
            (refine ok_some' ⟨(s.1.1 + 1, zeroF s.1.2 (bt' (hasS x.op.toNat) s.1.1)), hlt, mayL_step hp hlt hc rfl⟩ (ok_chk' (by show _ - (s.1.1 + 1) < _ - s.1.1; omega) ?_)); (repeat (refine ok_chk' rfl ?_)); (exact ok_chk' (EntRel.box' rfl rfl rfl rfl rfl) (ok_chk' (EntRel.rw rfl rfl (fun _ _ => rfl) fun _ _ => rfl) (ok_chk' (EntRel.box' (by simp only [zeroF, *, cond_true, cond_false]; rfl) rfl rfl rfl rfl) (ok_chk' (EntRel.rw rfl rfl (fun _ _ => rfl) fun _ _ => rfl) (ok_chk' (EntRel.box' rfl rfl rfl rfl rfl) trivial)))))
        · have hlt : ¬ s.1.1 < (hasS x.op.toNat).size := by simpa using hlt
          have hres : mayF x = endF x s.1.2 := heq.symm.trans (mayL_end hp hlt)
          refine ok_br' (fun h => by cases h) fun _ => ?_
          unfold endF at hres
          generalize (s.1.2.op == x.op && (s.1.2.a == 0 && (s.1.2.b == 0 && (s.1.2.c == 0 && s.1.2.n == 0)))) = E at hres ⊢
          generalize inF x.a = A at hres ⊢
          generalize inF x.b = B at hres ⊢
          generalize inF x.c = C at hres ⊢
          cases E <;> cases A <;> cases B <;> cases C <;> simp only [cond_true, cond_false] at hres <;>
            repeat' first | exact ok_leaf (fun _ => 0) [] [] trivial (by show _ = XV.nilz _ (XV.ren _ (bool (mayF x))); rw [hres]; rfl) trivial rfl | (refine ok_brT ?_) | (refine ok_brF ?_) | (refine ok_callf' in_call (fits_of rfl rfl trivial fun c _ => ⟨⟨Nat.le_refl _, rfl⟩, ⟨rfl, rfl⟩, trivial⟩) (in_local _) fun c _ => ?_) | (refine ok_chk' rfl ?_) | (refine ok_chk' (fun h => h) ?_) | (refine ok_chk' (fun h => absurd h Bool.false_ne_true) ?_)
  · have h1' : ¬ 1 ≤ x.op := by simp at h1; omega
    have hres : mayF x = false := by simp [mayF, h1']
    have h1b : decide (x.op < 1) = true := by simp; omega
    repeat refine ok_chk' (by first | exact fun h => h | exact h1b | exact (fun h => by rw [h1] at h; cases h) | exact (fun h => by cases h) | exact (fun h _ => by cases h)) ?_
    refine ok_br' (fun _ => ?_) fun h => by cases h
    exact ok_leaf (fun _ => 0) [] [] trivial (by show _ = XV.nilz _ (XV.ren _ (bool (mayF x))); rw [hres]; rfl) trivial rfl
theorem access_local (x : In) : (accessC x).Local Tryd.prog 12 := by
  refine local_ofP Tryd.func12 rfl (taccess_eq x) fun ν w => ?_
  repeat refine ok_chk' (fun h => h) ?_
  exact ok_leaf (fun _ => 0) [] [] trivial rfl trivial rfl
end Go.Proofs.YtjbnkdpeohbakaaDoor.X.Ip

set_option linter.unusedVariables false
set_option linter.unusedSimpArgs false
namespace Go.Proofs.YtjbnkdpeohbakaaDoor.Open
open Go.RowKit Go.Proofs.YtjbnkdpeohbakaaDoorW.PrintWords

theorem mapM_get {α β : Type} {f : α → Option β} : ∀ {l : List α} {r : List β}, l.mapM f = some r → r.length = l.length ∧ ∀ (j : Nat) (x : α), l[j]? = some x → ∃ y, f x = some y ∧ r[j]? = some y
  | [], r, h => by
    simp at h
    subst h
    exact ⟨rfl, fun j x hx => by simp at hx⟩
  | a :: l, r, h => by
    simp only [List.mapM_cons, Option.bind_eq_bind, Option.bind_eq_some_iff] at h
    obtain ⟨y, hy, ys, hys, hr⟩ := h
    simp at hr
    subst hr
    obtain ⟨h1, h2⟩ := mapM_get hys
    refine ⟨by simp [h1], fun j x hx => ?_⟩
    cases j with
    | zero => simp at hx; subst hx; exact ⟨y, hy, rfl⟩
    | succ j => simpa using h2 j x (by simpa using hx)

structure Opens {α : Type} (P : Program) (t : TypeId) (k : Kd α) (wf : α → Prop) : Prop where
  out : ∀ {H : Type} (enc : TypeId × Value → H) (w : World) (spare : Nat → Bool) (held : Bool) (fuel : Nat) (cs : List Value) (r : DataW H × List MemPlace),
    DataW.trod enc P w 0 spare held fuel t cs = some r → ∃ x, k.K w x cs ∧ wf x

theorem opens_int {P : Program} {t : TypeId} {k : IntKind} (ht : P.underlying t = some (.int k)) : Opens P t (Kd.int k) (fun x => (Lit.int k x).wf = true) := by
  refine ⟨fun {H} enc w spare held fuel cs r h => ?_⟩
  obtain ⟨n, rfl, _, hw⟩ := DataW.trod_int ht h
  exact ⟨n, rfl, hw⟩

theorem opens_string {P : Program} {t : TypeId} (ht : P.underlying t = some .string) : Opens P t Kd.string (fun s => s.size ≤ maxLen) := by
  refine ⟨fun {H} enc w spare held fuel cs r h => ?_⟩
  obtain ⟨n, rfl, _, hw⟩ := DataW.trod_string ht h
  exact ⟨n, rfl, hw⟩

structure OpensF {α : Type} (P : Program) (fs : List Field) (off : Nat) (k : Kd α) (wf : α → Prop) : Prop where
  out : ∀ {H : Type} (enc : TypeId × Value → H) (w : World) (spare : Nat → Bool) (held : Bool) (fuel : Nat) (cs : List Value) (r : List (DataW H × List MemPlace)),
    off + k.sz ≤ cs.length → (fs.mapM fun f => DataW.trod enc P w 0 spare held fuel f.type ((cs.drop f.offset).take (P.cellsOf f.type))) = some r → ∃ x, k.K w x ((cs.drop off).take k.sz) ∧ wf x

theorem opensF_one {α : Type} {P : Program} {f : Field} {off : Nat} {k : Kd α} {wf : α → Prop} (h : Opens P f.type k wf) (ho : f.offset = off) (hs : P.cellsOf f.type = k.sz) : OpensF P [f] off k wf := by
  refine ⟨fun {H} enc w spare held fuel cs r hl hm => ?_⟩
  obtain ⟨_, hg⟩ := mapM_get hm
  obtain ⟨y, hy, _⟩ := hg 0 f rfl
  rw [ho, hs] at hy
  exact h.out enc w spare held fuel _ y hy

theorem opensF_cons {α β : Type} {P : Program} {f : Field} {fs : List Field} {off : Nat} {k : Kd α} {q : Kd β} {wf : α → Prop} {wg : β → Prop} (h : Opens P f.type k wf) (ho : f.offset = off) (hs : P.cellsOf f.type = k.sz)
    (hq : OpensF P fs (off + k.sz) q wg) : OpensF P (f :: fs) off (Kd.pair k q) (fun x => wf x.1 ∧ wg x.2) := by
  refine ⟨fun {H} enc w spare held fuel cs r hl hm => ?_⟩
  have hl' : off + (k.sz + q.sz) ≤ cs.length := hl
  obtain ⟨hlr, hg⟩ := mapM_get hm
  obtain ⟨y, hy, _⟩ := hg 0 f rfl
  rw [ho, hs] at hy
  obtain ⟨x, hx, hw⟩ := h.out enc w spare held fuel _ y hy
  simp only [List.mapM_cons, Option.bind_eq_bind, Option.bind_eq_some_iff] at hm
  obtain ⟨_, _, ys, hys, _⟩ := hm
  obtain ⟨z, hz, hwz⟩ := hq.out enc w spare held fuel cs ys (by omega) hys
  refine ⟨(x, z), ⟨_, _, ?_, hx, hz⟩, hw, hwz⟩
  show (cs.drop off).take (k.sz + q.sz) = _
  rw [List.take_add, List.drop_drop]

theorem opens_struct {α : Type} {P : Program} {t : TypeId} {fs : Array Field} {k : Kd α} {wf : α → Prop} (ht : P.underlying t = some (.struct fs)) (hs : P.cellsOf t = k.sz) (h : OpensF P fs.toList 0 k wf) : Opens P t k wf := by
  refine ⟨fun {H} enc w spare held fuel cs r hr => ?_⟩
  cases fuel with
  | zero => simp [DataW.trod] at hr
  | succ n =>
    rw [DataW.trod.eq_def] at hr
    simp only [ht] at hr
    split at hr
    · rename_i hl
      simp only [Option.map_eq_some_iff] at hr
      obtain ⟨ys, hys, _⟩ := hr
      obtain ⟨x, hx, hw⟩ := h.out enc w spare held n cs ys (by omega) hys
      rw [List.drop_zero, List.take_of_length_le (by omega)] at hx
      exact ⟨x, hx, hw⟩
    · cases hr

theorem opens_wf {α : Type} {P : Program} {t : TypeId} {k : Kd α} {wf wf' : α → Prop} (h : Opens P t k wf) (hw : ∀ x, wf x → wf' x) : Opens P t k wf' := by
  refine ⟨fun {H} enc w spare held fuel cs r hr => ?_⟩
  obtain ⟨x, hx, hwx⟩ := h.out enc w spare held fuel cs r hr
  exact ⟨x, hx, hw x hwx⟩

theorem open_agg_arg {α : Type} {P : Program} {t : TypeId} {k : Kd α} {wf : α → Prop} (h : Opens P t k wf) {H : Type} {enc : TypeId × Value → H} {w : World} {spare : Nat → Bool} {held : Bool} {v : Value} {d : DataW H} {p : List MemPlace}
    (hv : ∃ cs, v = .agg cs) (ht : DataW.Trod enc P w 0 spare held t v d p) : ∃ cs x, v = .agg cs ∧ k.K w x cs.toList ∧ wf x := by
  obtain ⟨cs, rfl⟩ := hv
  obtain ⟨fuel, hf⟩ := ht
  obtain ⟨x, hk, hw⟩ := h.out enc w spare held fuel _ _ hf
  exact ⟨cs, x, rfl, by simpa [Value.cells] using hk, hw⟩
end Go.Proofs.YtjbnkdpeohbakaaDoor.Open

