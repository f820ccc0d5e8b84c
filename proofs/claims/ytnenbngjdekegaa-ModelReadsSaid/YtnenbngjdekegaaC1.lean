/- A symbolic run of functions' texts, proved, and what it tells of the program's functions; no conditions. -/
import Derived.Test.YtnenbngjdekegaaC0
import Derived.OrdersHeld
/- A symbolic run tells what the function does: the whole text. -/
set_option linter.unusedVariables false
set_option linter.unusedSimpArgs false
namespace Go.Proofs.Ytnenbngjdekegaa.X
open Go.RowKit Go.Proofs.YtnenbngjdekegaaW.PrintWords Go.Proofs.Ytnenbngjdekegaa.Base
section
variable {P : Program} {R : Root} {nt : Nat} {Rp : Ending → World → Prop}
theorem alloc_eq (w : World) (o : Obj) : ({ w with heap := w.heap.push o } : World) = w.alloc o := rfl
theorem run_newVar (t : TypeId) (v : Value) (w : World) : (newVar t v).run P w = .ok ⟨w.heap.size, 0, none⟩ (w.alloc (.cells v.cells t)) := by
  simp [newVar, newRow, newObj]
  rfl
theorem yes_none : Yes none := fun b hb => by cases hb
theorem caps_ok {N : Nat} : ∀ {l : List AV} {rs : List Ref}, capsOf l = some rs → l.all (AV.lt N) = true → (rs.all fun r => Nat.blt r.k N) = true ∧ ∀ ν, l.map (AV.den ν) = rs.map (Ref.den ν)
  | [], rs, h, _ => by simp only [capsOf, Option.some.injEq] at h; subst h; exact ⟨rfl, fun _ => rfl⟩
  | .c (.ptr r) :: l, rs, h, hl => by
    simp only [capsOf, Option.map_eq_some_iff] at h
    obtain ⟨rs', h', rfl⟩ := h
    simp only [List.all_cons, Bool.and_eq_true] at hl
    obtain ⟨a, b⟩ := caps_ok h' hl.2
    exact ⟨by simp only [List.all_cons, a, Bool.and_true]; exact hl.1, fun ν => by simp only [List.map_cons, b ν]; rfl⟩
theorem slice_eq {t e : Nat} (hu : P.underlying t = some (.slice e)) (x y : Operand) (A : Option Addr) (n c : Nat) (op : BinOp) (w : World) :
    (op = .eql → (do eqGuard op t x y (.slice A n c) (.slice none 0 0); binOp op t (.slice A n c) (.slice none 0 0)).run P w = .ok (.bool A.isNone) w) ∧ (op = .neq → (do eqGuard op t x y (.slice A n c) (.slice none 0 0); binOp op t (.slice A n c) (.slice none 0 0)).run P w = .ok (.bool (!A.isNone)) w) := by
  refine ⟨?_, ?_⟩ <;> rintro rfl
  · have : (eqGuard .eql t x y (.slice A n c) (.slice none 0 0)).run P w = .ok () w := rfl
    simp only [Sem.run_bind, this, Result.andThen_ok, Lib.run_eql_slice_nil w t e A n c 0 0 hu]
  · have : (eqGuard .neq t x y (.slice A n c) (.slice none 0 0)).run P w = .ok () w := rfl
    have h2 : (binOp .neq t (.slice A n c) (.slice none 0 0)).run P w = .ok (.bool (!A.isNone)) w := by
      simp only [binOp]
      simp [Op.equal, Op.maxDepth, Lib.run_equalIn_slice_nil w 9999 t e A n c 0 0 hu]
    simp only [Sem.run_bind, this, Result.andThen_ok, h2]
theorem ok_xnil {tab : Tab} (ht : TabOk P tab) {ν : Val} {H : Hp} {w : World} (hh : Holds R ν H w) {op : BinOp} {t : Nat} {X Y : AV} {x y : Operand} {K : XV → Hp → Tree} (h : ok P R nt Rp (xnil tab op t X Y H K)) :
    ∃ Z, ok P R nt Rp (K Z H) ∧ Z.lt H.length = true ∧ (do eqGuard op t x y (X.den ν) (Y.den ν); binOp op t (X.den ν) (Y.den ν)).run P w = .ok (Z.den ν) w := by
  unfold xnil at h
  split at h
  · rename_i k j lo sz n cap e _ _ _ _ hti
    obtain ⟨d, i, z, hu, hk, -⟩ := tiOf_spec (ht _ _ hti)
    have hu' : P.underlying t = some (.slice e) := by
      cases d <;> simp only [kdOf] at hk <;> first | (cases hk; done) | (cases hk; exact hu)
    obtain ⟨en, hen, hj, h⟩ := ok_bnd h
    have hnil : (!((ν k j).isNone && Nat.blt 0 (en.n j))) = true := by
      cases hn : Nat.blt 0 (en.n j) with
      | false => simp
      | true =>
        have hn := Nat.blt_eq.mp hn
        have E := hh.ent k en hen
        cases ho : en.own with
        | true =>
          rcases E.own ho j hj with ⟨h0, -, -⟩ | ⟨g, cs, hν, -⟩
          · omega
          · rw [hν]; rfl
        | false =>
          obtain ⟨ad, hν, -, -⟩ := E.ro ho j hj hn
          rw [hν]; rfl
    have h := (h (ν k j).isNone).1 hnil
    have hm : ((ν k j).map (·.add (lo * sz))).isNone = (ν k j).isNone := by cases ν k j <;> rfl
    obtain ⟨r1, r2⟩ := slice_eq hu' x y ((ν k j).map (·.add (lo * sz))) n cap op w
    cases op <;> first | exact h.elim | exact ⟨_, h, rfl, (r1 rfl).trans (by rw [hm]; rfl)⟩ | exact ⟨_, h, rfl, (r2 rfl).trans (by rw [hm]; rfl)⟩
  · rename_i A n cap e _ _ _ _ hti
    obtain ⟨d, i, z, hu, hk, -⟩ := tiOf_spec (ht _ _ hti)
    have hu' : P.underlying t = some (.slice e) := by
      cases d <;> simp only [kdOf] at hk <;> first | (cases hk; done) | (cases hk; exact hu)
    obtain ⟨r1, r2⟩ := slice_eq hu' x y A n cap op w
    cases op <;> first | exact h.elim | exact ⟨_, h, rfl, r1 rfl⟩ | exact ⟨_, h, rfl, r2 rfl⟩
  · exact h.elim
theorem ok_xclear {tab : Tab} (ht : TabOk P tab) {ν : Val} {H : Hp} {w : World} (hh : Holds R ν H w) {t ty : Nat} {l : List AV} {K : XV → Hp → Tree} (h : ok P R nt Rp (xclear tab t l H K)) :
    ∃ H' w', ok P R nt Rp (K (.tup []) H') ∧ H.length ≤ H'.length ∧ Holds R ν H' w' ∧ (Builtin.clear_ #[t] ty (l.map (AV.den ν)).toArray).run P w = .ok (.tuple #[]) w' := by
  unfold xclear at h
  split at h
  · rename_i e _ _ _ _ k j lo sz n cap hti
    obtain ⟨d, i, z, hu, hk, -⟩ := tiOf_spec (ht _ _ hti)
    have hu' : P.underlying t = some (.slice e) := by
      cases d <;> simp only [kdOf] at hk <;> first | (cases hk; done) | (cases hk; exact hu)
    obtain ⟨ti, hte, h⟩ := ok_bnd h
    obtain ⟨en, hen, h⟩ := ok_bnd h
    obtain ⟨hb, h⟩ := bif_not h (fun h => h)
    simp only [Bool.and_eq_true, Bool.not_eq_true'] at hb
    obtain ⟨⟨⟨⟨⟨⟨b1, b2⟩, b3⟩, b4⟩, b5⟩, b6⟩, b7⟩ := hb
    have b3 := Nat.eq_of_beq_eq_true b3
    have b4 := Nat.eq_of_beq_eq_true b4
    have b5 := Nat.eq_of_beq_eq_true b5
    have b7 := Nat.blt_eq.mp b7
    obtain ⟨⟨hj, hr⟩, h⟩ := h
    have hz : (en.fill j lo n (ti.zero.map CV.v)).own = en.own := rfl
    cases n with
    | zero =>
      refine ⟨_, w, h, by rw [set_length]; exact Nat.le_refl _, ?_, ?_⟩
      · have hsame : ∀ j' i, (en.fill j lo 0 (ti.zero.map CV.v)).at j' i = en.at j' i := fun j' i => by
          show (if _ then _ else _) = _
          rw [if_neg (by omega)]
        refine hh.same hen rfl rfl rfl rfl rfl (by rw [show (en.fill j lo 0 (ti.zero.map CV.v)).box = en.box from rfl, b2]) b2 rfl hsame
      · show (Builtin.clear_ #[t] ty #[_]).run P w = _
        simp only [AV.den, CV.den]
        cases ν k j <;> simp [Builtin.clear_, run_underlying hu']
    | succ n =>
      obtain ⟨w', hst, hH⟩ := hh.fill hen b1 b2 hj hr (Nat.succ_pos n) (by omega) (by omega) b6
      refine ⟨_, w', h, by rw [set_length]; exact Nat.le_refl _, hH, ?_⟩
      have E := hh.ent k en hen
      obtain ⟨ad, had⟩ : ∃ ad, ν k j = some ad := by
        rcases E.own b1 j hj with ⟨h0, -, -⟩ | ⟨g, cs, hν, -⟩
        · omega
        · exact ⟨_, hν⟩
      obtain ⟨zv, hzr, hzc⟩ := run_zero' (ht _ _ hte) w
      rw [had, Option.getD_some, b4] at hst
      have hzz : zv.cells = ti.zero.toArray := by rw [← hzc]
      show (Builtin.clear_ #[t] ty #[_]).run P w = _
      simp only [AV.den, CV.den, had, Option.map_some]
      have key : (Builtin.clear_ #[t] ty #[.slice (some (ad.add (lo * sz))) (n + 1) cap]).run P w = ((do storeCells (ad.add (lo * sz)) (Builtin.zeroCells zv.cells (n + 1)).toList; pure (Value.tuple #[]) : Sem Value)).run P w := by
        simp [Builtin.clear_, run_underlying hu', hzr]
      rw [key, hzz, b3, Sem.run_bind, hst]
      rfl
  · exact h.elim
theorem ok_viewAll : ∀ {vs : List (Nat × Nat)} {H : Hp} {K : Hp → Tree}, ok P R nt Rp (viewAll H vs K) → ∃ H2, H2.length = H.length + vs.length ∧ (∀ ν w, Holds R ν H w → ∃ ν2, Agr H.length ν ν2 ∧ (∀ k, k < H2.length → ∀ j, ν2 (viewMap H.length vs k j).1 (viewMap H.length vs k j).2 = ν2 k j) ∧ Holds R ν2 H2 w) ∧ ok P R nt Rp (K H2)
  | [], H, K, h => ⟨H, rfl, fun ν w hh => ⟨ν, Agr.refl _ _, fun k hk j => by simp [viewMap, Nat.blt_eq.mpr hk], hh⟩, h⟩
  | (k0, j0) :: r, H, K, h => by
    obtain ⟨e, he, h⟩ := ok_bnd h
    cases ho : e.own with
    | true => rw [ho] at h; exact h.elim
    | false =>
      rw [ho, cond_false] at h
      obtain ⟨hj, h⟩ := h
      obtain ⟨H2, hl, hv, hK⟩ := ok_viewAll h
      have hl' : (H ++ [e.view j0]).length = H.length + 1 := by simp
      refine ⟨H2, by rw [hl, hl']; simp; omega, fun ν w hh => ?_, hK⟩
      have hAg := Val.set_agr ν H.length (ν k0 j0)
      obtain ⟨ν2, hA, hvs, hh2⟩ := hv _ w (hh.view he ho hj)
      refine ⟨ν2, fun k hk j => (hA k (by omega) j).trans (hAg k hk j), fun k hk j => ?_, hh2⟩
      by_cases h1 : k < H.length
      · simp [viewMap, Nat.blt_eq.mpr h1]
      · have hb1 : Nat.blt k H.length = false := by
          cases hb : Nat.blt k H.length with
          | false => rfl
          | true => exact absurd (Nat.blt_eq.mp hb) h1
        by_cases h2 : k = H.length
        · subst h2
          simp only [viewMap, hb1, cond_false, Nat.sub_self, List.getD_cons_zero]
          have e1 := hA H.length (by rw [hl']; omega) j
          rw [e1]
          have e2 := hA k0 (by rw [hl']; have := Hp.get_lt he; omega) j0
          rw [e2, hAg k0 (Hp.get_lt he)]
          simp [Val.set]
        · have h3 := hvs k hk j
          have hb2 : Nat.blt k (H ++ [e.view j0]).length = false := by
            cases hb : Nat.blt k (H ++ [e.view j0]).length with
            | false => rfl
            | true => exact absurd (Nat.blt_eq.mp hb) (by rw [hl']; omega)
          simp only [viewMap, hb1, hb2, cond_false] at h3 ⊢
          obtain ⟨q, hq⟩ : ∃ q, k = H.length + 1 + q := ⟨k - (H.length + 1), by omega⟩
          subst hq
          rw [hl', show H.length + 1 + q - (H.length + 1) = q by omega] at h3
          rw [show H.length + 1 + q - H.length = q + 1 by omega, List.getD_cons_succ]
          exact h3
theorem ok_xeff {tab : Tab} {G : Ctr} (ht : TabOk P tab) {ν : Val} {tm : Tm} {H : Hp} {a : Act} {w : World} {o : Oper} {K : XV → Hp → Tree} {Q : Exit → Act → World → Prop} (hs : StOk R nt ν tm H a w) (h : ok P R nt Rp (xeff tab G o tm H K)) :
    o.wp P a w (Next P R nt Rp H ν a o.dst K) Q := by
  have hw := hs.tm.wf
  have hh := hs.hp
  unfold xeff at h
  unfold Oper.wp
  split at h
  · rename_i t ho
    obtain ⟨ti, hti, h⟩ := ok_bnd h
    obtain ⟨h1, h⟩ := bif_not h (fun h => h)
    obtain ⟨z, hz, hzc⟩ := run_zero' (ht _ _ hti) w
    have hl : ∀ x ∈ ti.zero.map CV.v, x.lt H.length = true ∧ x.one = true := fun x hx => ⟨by obtain ⟨v, -, rfl⟩ := List.mem_map.1 hx; rfl, List.all_eq_true.1 h1 x hx⟩
    obtain ⟨ν', hA, hd, hH⟩ := ok_newBox hh hl h
    have hcs : ((ti.zero.map CV.v).map (CV.den ν)).toArray = z.cells := by
      apply Array.ext'
      rw [hzc]
      simp only [List.map_map]
      exact (by congr 1 : _ = ti.zero.map id).trans (List.map_id _)
    rw [hcs] at hH
    have hr : (execOp a.eval o).run P w = .ok (.value (.pointer (some ⟨w.heap.size, 0, none⟩))) (w.alloc (.cells z.cells t)) := by
      simp [execOp, ho, Instr.alloc, hz, run_newVar]
    rw [hr]
    exact ⟨_, _, ν', by simp, hA, by simp [XV.lt, AV.lt, CV.lt], by rw [hd], hH, h⟩
  · rename_i t x ho
    obtain ⟨X, h, hX⟩ := ok_ev1 hw h
    have hX := hX yes_none
    obtain ⟨h1, h⟩ := bif_yes h (fun h => h)
    obtain ⟨ν', hA, hd, hH⟩ := ok_newBox hh (fun y hy => ⟨avCells_lt hX.1 y hy, List.all_eq_true.1 h1 y hy⟩) h
    have hcs : ((avCells X).map (CV.den ν)).toArray = (X.den ν).cells := by
      apply Array.ext'
      rw [cells_den h1]
    rw [hcs] at hH
    have he := hX.2 ν a hs.tm
    have hr : (execOp a.eval o).run P w = .ok (.value (.pointer (some ⟨w.heap.size, 0, none⟩))) (w.alloc (.cells (X.den ν).cells t)) := by
      simp [execOp, ho, Instr.box, he, run_newVar]
    rw [hr]
    exact ⟨_, _, ν', by simp, hA, by simp [XV.lt, AV.lt, CV.lt], by rw [hd], hH, h⟩
  · rename_i t p x ho
    obtain ⟨PX, h, hP⟩ := ok_ev1 hw h
    obtain ⟨X, h, hX⟩ := ok_ev1 hw h
    have hP := hP yes_none
    have hX := hX yes_none
    split at h
    · rename_i r _ _
      obtain ⟨w', H', hlen, hst, hH, h⟩ := ok_xstore ht hh hX.1 h
      have he1 : a.eval p = .pointer (some (r.addr ν)) := hP.2 ν a hs.tm
      have he2 := hX.2 ν a hs.tm
      have hr : (execOp a.eval o).run P w = .ok .skip w' := by
        simp [execOp, ho, Instr.storeAt, Instr.sureAddr, he1, he2, hst]
      rw [hr]
      exact ⟨_, _, ν, hlen, Agr.refl _ _, rfl, rfl, hH, h⟩
    · exact h.elim
  · rename_i f args ts ho
    obtain ⟨l, h, hl⟩ := ok_evs hw h
    obtain ⟨F, h, hF⟩ := ok_ev1 hw h
    have hl := hl yes_none
    have hF := hF yes_none
    split at h
    · rename_i fn caps _
      have hlt0 : (l ++ caps.map fun r => AV.c (.ptr r)).all (AV.lt H.length) = true := by
        rw [List.all_append, Bool.and_eq_true]
        refine ⟨hl.1, ?_⟩
        have hcl := hF.1
        simp only [AV.lt, CV.lt] at hcl
        rw [List.all_map]
        exact hcl
      have hcall : ∃ (good : (Nat → Nat) → Prop) (x : (Nat → Nat) → XV) (H' : (Nat → Nat) → Hp), Callable P fn ∧ (∀ c, good c → (x c).lt (H' c).length = true ∧ H.length ≤ (H' c).length ∧ ok P R nt Rp (K (x c) (H' c))) ∧
          ∀ ν w, Holds R ν H w → Calls P fn ((l ++ caps.map fun r => AV.c (.ptr r)).map (AV.den ν)).toArray w fun e w' => ∃ ν' c, good c ∧ Agr H.length ν ν' ∧ e = .returned ((x c).den ν') ∧ Holds R ν' (H' c) w' := by
        have one : ∀ C : CallSpec, ok P R nt Rp (xcall1 C fn (l ++ caps.map fun r => AV.c (.ptr r)) H K) → ∃ (good : (Nat → Nat) → Prop) (x : (Nat → Nat) → XV) (H' : (Nat → Nat) → Hp), Callable P fn ∧ (∀ c, good c → (x c).lt (H' c).length = true ∧ H.length ≤ (H' c).length ∧ ok P R nt Rp (K (x c) (H' c))) ∧
          ∀ ν w, Holds R ν H w → Calls P fn ((l ++ caps.map fun r => AV.c (.ptr r)).map (AV.den ν)).toArray w fun e w' => ∃ ν' c, good c ∧ Agr H.length ν ν' ∧ e = .returned ((x c).den ν') ∧ Holds R ν' (H' c) w' := fun C h => by
          unfold xcall1 at h
          split at h
          · obtain ⟨h1, h2, h3, h4⟩ := h
            obtain ⟨hlt, hcl⟩ := frame hlt0 h2 h3
            exact ⟨C.good, C.x, fun c => setAll (H ++ nilRows C.nils) C.ρ (C.new c), h1, fun c hc => ⟨(hlt c hc).1, (hlt c hc).2, h4 c hc⟩, hcl⟩
          · rename_i v vs hv
            obtain ⟨H2, hl2, hview, harg, h⟩ := ok_viewAll h
            obtain ⟨hb, h⟩ := bif_yes h (fun h => h)
            obtain ⟨h1, h2, h3, h4⟩ := h
            obtain ⟨hlt, hcl⟩ := frame hb h2 h3
            refine ⟨C.good, C.x, fun c => setAll (H2 ++ nilRows C.nils) C.ρ (C.new c), h1, fun c hc => ⟨(hlt c hc).1, Nat.le_trans (by rw [hl2]; omega) (hlt c hc).2, h4 c hc⟩, fun ν w hh => ?_⟩
            obtain ⟨ν2, hA, hVs, hh2⟩ := hview ν w hh
            have hargs : (l ++ caps.map fun r => AV.c (.ptr r)).map (AV.den ν) = C.vargs.map (AV.den ν2) := by
              rw [← List.map_congr_left (fun x hx => AV.den_agr hA (List.all_eq_true.1 hlt0 x hx)), harg, List.map_map]
              refine List.map_congr_left fun x hx => ?_
              have hx := List.all_eq_true.1 hb x hx
              show (x.rg _).den ν2 = _
              rw [← AV.den_rg]
              refine AV.den_agr (N := H2.length) (fun k hk j => ?_) hx
              show ν2 (viewMap H.length (v :: vs) k j).1 (viewMap H.length (v :: vs) k j).2 = ν2 k j
              exact hVs k hk j
            rw [hargs]
            exact (hcl ν2 w hh2).mono fun e w' ⟨ν', c, a1, a2, a3, a4⟩ => ⟨ν', c, a1, fun k hk j => (a2 k (by rw [hl2]; omega) j).trans (hA k hk j), a3, a4⟩
        unfold xcall at h
        split at h
        · exact one _ h
        · obtain ⟨s, h⟩ := h
          exact one _ h
        · obtain ⟨h1, x, H', h2, h3, h4, h5⟩ := h
          exact ⟨fun _ => True, fun _ => x, fun _ => H', h1, fun _ _ => ⟨h2, h3, h5⟩, fun ν w hh => (h4 ν w hh).mono fun e w' ⟨ν', a, b, c⟩ => ⟨ν', fun _ => 0, trivial, a, b, c⟩⟩
      obtain ⟨good, x, H', ⟨fnd, hf1, hf2, hf3⟩, hx, hc⟩ := hcall
      have he : a.eval f = .func (.func fn) #[] (caps.map (Ref.den ν)).toArray := hF.2 ν a hs.tm
      have hargs : args.map a.eval = (l.map (AV.den ν)).toArray := by
        apply Array.ext'
        rw [Array.toList_map, hl.2 ν a hs.tm]
      have hall : (l.map (AV.den ν)).toArray ++ (caps.map (Ref.den ν)).toArray = ((l ++ caps.map fun r => AV.c (.ptr r)).map (AV.den ν)).toArray := by
        apply Array.ext'
        simp [AV.den, CV.den, Function.comp_def]
      have hr : (execOp a.eval o).run P w = .ok (.enter fn ((l ++ caps.map fun r => AV.c (.ptr r)).map (AV.den ν)).toArray) w := by
        simp only [execOp, ho, resolve, he, hargs, Deferred.ofValue, Sem.run_bind, Sem.run_pure, Result.andThen_ok, invoke, Array.empty_append, hall, callFunc, program]
        have hf2' : ¬ fnd.name = "runtime.NumGoroutine" := by simpa using hf2
        have hf3' : ¬ fnd.body = none := fun e => by rw [e] at hf3; cases hf3
        simp [Sem.run, hf1, hf2', hf3']
      rw [hr]
      show Calls P fn _ w _
      refine (hc ν w hh).mono ?_
      rintro e w' ⟨ν', c, hg, hA, rfl, hH⟩
      exact ⟨x c, H' c, ν', (hx c hg).2.1, hA, (hx c hg).1, rfl, hH, (hx c hg).2.2⟩
    · exact h.elim
  · rename_i f first caps ho
    obtain ⟨h1, h⟩ := bif_yes h (fun h => h)
    obtain ⟨l, h, hl⟩ := ok_evs hw h
    obtain ⟨rs, hrs, h⟩ := ok_bnd h
    have hl := hl yes_none
    obtain ⟨hrl, hrd⟩ := caps_ok hrs hl.1
    have hcaps : caps.map a.eval = (rs.map (Ref.den ν)).toArray := by
      apply Array.ext'
      rw [Array.toList_map, hl.2 ν a hs.tm, hrd ν]
    have hfirst : first = #[] := by simpa [Array.isEmpty_iff] using h1
    have hr : (execOp a.eval o).run P w = .ok (.value (.func (.func f) #[] (rs.map (Ref.den ν)).toArray)) w := by
      simp [execOp, ho, Instr.makeFunc, hcaps, hfirst]
    rw [hr]
    exact ⟨_, _, ν, Nat.le_refl _, Agr.refl _ _, by simpa [XV.lt, AV.lt, CV.lt] using hrl, rfl, hh, h⟩
  · rename_i t len ps ho
    obtain ⟨qs, h, hq⟩ := ok_evp hw h
    have hq := hq yes_none
    obtain ⟨X, H', ν', w', hr, h1, h2, h3, h4, h5⟩ := ok_xbuildSl ht hh hq.1 h
    have hr' : (execOp a.eval o).run P w = .ok (.value (X.den ν')) w' := by
      have := hr (ps.map fun p => (p.1, a.eval p.2)) (by rw [Array.toList_map]; exact hq.2 ν a hs.tm)
      simp only [execOp, ho, Sem.run_bind, this, Result.andThen_ok]
      rfl
    rw [hr']
    exact ⟨_, _, ν', h1, h2, h3, rfl, h4, h5⟩
  · rename_i t l c ho
    obtain ⟨L, h, hL⟩ := ok_ev1 hw h
    obtain ⟨C, h, hC⟩ := ok_ev1 hw h
    have hL := hL yes_none
    have hC := hC yes_none
    obtain ⟨X, H', ν', w', hr, h1, h2, h3, h4, h5⟩ := ok_xmake ht hh h
    have e1 := hL.2 ν a hs.tm
    have e2 := hC.2 ν a hs.tm
    have hr' : (execOp a.eval o).run P w = .ok (.value (X.den ν')) w' := by
      simp only [execOp, ho, Sem.run_bind, e1, e2, hr, Result.andThen_ok]
      rfl
    rw [hr']
    exact ⟨_, _, ν', h1, h2, h3, rfl, h4, h5⟩
  · rename_i op t x y ty ho
    obtain ⟨X, h, hX⟩ := ok_ev1 hw h
    obtain ⟨Y, h, hY⟩ := ok_ev1 hw h
    have hX := hX yes_none
    have hY := hY yes_none
    have e1 := hX.2 ν a hs.tm
    have e2 := hY.2 ν a hs.tm
    obtain ⟨Z, h, hZ, hr⟩ := ok_xnil ht hh h
    have hr' : (execOp a.eval o).run P w = .ok (.value (Z.den ν)) w := by
      have hr2 := congrArg (fun r => Result.andThen r fun v w' => .ok (Next.value v) w') hr
      simp only [execOp, ho, e1, e2]
      exact (Sem.run_bind ..).trans hr2
    rw [hr']
    exact ⟨_, _, ν, Nat.le_refl _, Agr.refl _ _, hZ, rfl, hh, h⟩
  · rename_i args ts ho
    obtain ⟨l, h, hl⟩ := ok_evs hw h
    obtain ⟨t, hts, h⟩ := ok_bnd h
    have hl := hl yes_none
    obtain ⟨hsz, h⟩ := bif_not h (fun h => h)
    have hts2 : ts = #[t] := by
      have := Nat.eq_of_beq_eq_true hsz
      apply Array.ext' 
      match hl2 : ts.toList, this with
      | [t0], _ =>
        have : ts.toList[0]? = some t := by rw [Array.getElem?_toList]; exact hts
        rw [hl2] at this
        simp at this
        rw [this]
      | [], h => rw [← Array.length_toList, hl2] at h; cases h
      | _ :: _ :: _, h => rw [← Array.length_toList, hl2] at h; simp at h
    obtain ⟨H', w', h, hlen, hH, hr⟩ := ok_xclear (ty := o.type) ht hh h
    have he : args.map a.eval = (l.map (AV.den ν)).toArray := by
      apply Array.ext'
      rw [Array.toList_map, hl.2 ν a hs.tm]
    have hr' : (execOp a.eval o).run P w = .ok (.value (.tuple #[])) w' := by
      simp only [execOp, ho, resolve, he, invoke, builtin, Sem.run_bind, Sem.run_pure, Result.andThen_ok, hts2, hr]
    rw [hr']
    exact ⟨.tup [], _, ν, hlen, Agr.refl _ _, rfl, rfl, hH, h⟩
  · rename_i args ts ho
    obtain ⟨l, h, hl⟩ := ok_evs hw h
    obtain ⟨t, hts, h⟩ := ok_bnd h
    have hl := hl yes_none
    split at h
    · rename_i s x _ _
      obtain ⟨h1, h⟩ := bif_not h (fun h => h)
      have hts2 : ts = #[t, t] := by
        apply Array.ext'
        match hl2 : ts.toList, h1 with
        | [t0, t1], h1 =>
          have e1 := Nat.eq_of_beq_eq_true h1
          have : ts.toList[0]? = some t := by rw [Array.getElem?_toList]; exact hts
          rw [hl2] at this
          simp at this
          rw [e1, this]
      obtain ⟨X, H', ν', w', hr, h1, h2, h3, h4, h5⟩ := ok_xappend (ty := o.type) ht hh h
      have he : args.map a.eval = #[s.den ν, x.den ν] := by
        apply Array.ext'
        rw [Array.toList_map, hl.2 ν a hs.tm]
        rfl
      have hr' : (execOp a.eval o).run P w = .ok (.value (X.den ν')) w' := by
        simp only [execOp, ho, resolve, he, invoke, builtin, Sem.run_bind, Sem.run_pure, Result.andThen_ok, hts2, hr]
      rw [hr']
      exact ⟨_, _, ν', h1, h2, h3, rfl, h4, h5⟩
    · exact h.elim
  · exact h.elim
/-- What a region's operation leaves behind. -/
def After (P : Program) (R : Root) (nt : Nat) (Rp : Ending → World → Prop) (K : Tm → Hp → Tree) (a : Act) (w : World) : Prop := ∃ tm H ν, StOk R nt ν tm H a w ∧ ok P R nt Rp (K tm H)
theorem StOk.put {ν : Val} {tm : Tm} {H : Hp} {a : Act} {w : World} (h : StOk R nt ν tm H a w) {d : Option Nat} (hd : dstOk nt d = true) {x : XV} {H' : Hp} {ν' : Val} {w' : World} (hlen : H.length ≤ H'.length) (hA : Agr H.length ν ν') (hx : x.lt H'.length = true) (hH : Holds R ν' H' w') :
    StOk R nt ν' (tm.put d x) H' (a.put d (x.den ν')) w' :=
  ⟨(h.tm.agr hlen hA).put h.sz hd hx, hH, by rw [put_df]; exact h.df, by rw [put_size]; exact h.sz⟩
theorem wrap_lt {g : Option Bool} {x : AV} {N : Nat} (h : Yes g → x.lt N = true) : (wrapG g x).lt N = true := by
  cases g with
  | none => exact h yes_none
  | some b =>
    cases b with
    | false => exact XV.lt_false
    | true => simpa [wrapG, XV.lt] using h (fun b hb => by cases hb; rfl)
theorem ok_xone {tab : Tab} {G : Ctr} (ht : TabOk P tab) {ν : Val} {tm : Tm} {H : Hp} {a : Act} {w : World} {ops : Array Oper} {o : Oper} {K : Tm → Hp → Tree} {Q : Exit → Act → World → Prop} (hs : StOk R nt ν tm H a w) (h : ok P R nt Rp (xone tab G nt ops.toList o tm H K)) :
    if Region.wanted o (yielded ops a.tmps) then o.wp P a w (After P R nt Rp K) Q else After P R nt Rp K (a.put o.dst undef) w := by
  unfold xone at h
  obtain ⟨hd, h⟩ := bif_not h (fun h => h)
  have hw := hs.tm.wf
  split at h
  · rename_i l htup
    unfold tupOf at htup
    split at htup
    · rename_i x ho hgd
      split at htup
      · rename_i l' hx
        cases htup
        have hst := hs.put hd (Nat.le_refl _) (Agr.refl _ _) (lt_get hw hx) hs.hp
        rw [if_pos (by simp [Region.wanted, hgd])]
        unfold Oper.wp
        have hr : (execOp a.eval o).run P w = .ok (.value (XV.den ν (.tup l))) w := by
          simp only [execOp, ho, eval_get hs.tm hx]
          rfl
        rw [hr]
        exact ⟨_, _, ν, hst, h⟩
      · cases htup
    · cases htup
  obtain ⟨g, hg, h⟩ := ok_bnd h
  have hval : ∀ (X : AV), ok P R nt Rp (K (tm.put o.dst (wrapG g X)) H) → (Yes g → Vals P R H tm o X) → if Region.wanted o (yielded ops a.tmps) then o.wp P a w (After P R nt Rp K) Q else After P R nt Rp K (a.put o.dst undef) w := fun X hK hX => by
    have hst := hs.put hd (Nat.le_refl _) (Agr.refl _ _) (wrap_lt (g := g) (x := X) (fun y => (hX y).1)) hs.hp
    have hrun : Yes g → (wrapG g X).den ν = X.den ν → o.wp P a w (After P R nt Rp K) Q := fun y hden => by
      unfold Oper.wp
      rw [(hX y).2 ν a w hs.tm hs.hp]
      rw [hden] at hst
      exact ⟨_, _, ν, hst, hK⟩
    cases g with
    | none =>
      rw [show Region.wanted o (yielded ops a.tmps) = true by simp [Region.wanted, guard_none hg], if_pos rfl]
      exact hrun yes_none rfl
    | some b =>
      rw [guard_some hg hs.tm]
      cases b with
      | true => rw [if_pos rfl]; exact hrun (fun b hb => by cases hb; rfl) rfl
      | false => rw [if_neg (by simp)]; exact ⟨_, _, ν, hst, hK⟩
  have heff : ∀ {T : XV → Hp → Tree}, (∀ x H', ok P R nt Rp (T x H') → ok P R nt Rp (K (tm.put o.dst x) H')) → ok P R nt Rp (xeff tab G o tm H T) → o.wp P a w (After P R nt Rp K) Q := fun hT hx => by
    refine Oper.wp_mono ?_ (ok_xeff ht hs hx)
    rintro a' w' ⟨x, H', ν', hlen, hA, hxl, rfl, hH, hk⟩
    exact ⟨_, _, ν', hs.put hd hlen hA hxl hH, hT _ _ hk⟩
  cases hp : pureOp o.op with
  | true =>
    rw [hp, cond_true] at h
    split at h
    · rename_i c x y ho
      obtain ⟨X, hK, hX⟩ := ok_xpick hw ho h
      exact hval X hK hX
    · obtain ⟨X, hK, hX⟩ := ok_xval ht hs.hp.wf hw h
      exact hval X hK hX
  | false =>
    rw [hp, cond_false] at h
    cases g with
    | none =>
      rw [show Region.wanted o (yielded ops a.tmps) = true by simp [Region.wanted, guard_none hg], if_pos rfl]
      exact heff (fun _ _ h => h) h
    | some b =>
      rw [guard_some hg hs.tm]
      cases b with
      | true => rw [if_pos rfl]; exact heff (fun _ _ h => h) (h.1 rfl)
      | false =>
        rw [if_neg (by simp)]
        exact ⟨_, _, ν, hs.put hd (Nat.le_refl _) (Agr.refl _ _) (x := .a (.c (.v undef))) rfl hs.hp, h.2 rfl⟩
theorem ok_xlist {tab : Tab} {G : Ctr} (ht : TabOk P tab) {ops : Array Oper} {K : Tm → Hp → Tree} {Q : Exit → Act → World → Prop} : ∀ {l : List Oper} {ν : Val} {tm : Tm} {H : Hp} {a : Act} {w : World}, StOk R nt ν tm H a w → ok P R nt Rp (xlist tab G nt ops.toList l tm H K) →
    (∀ a w, After P R nt Rp K a w → Q .normal a w) → wpList P ops Q l a w
  | [], ν, tm, H, a, w, hs, h, hQ => wpList_nil (hQ _ _ ⟨_, _, ν, hs, h⟩)
  | o :: r, ν, tm, H, a, w, hs, h, hQ => by
    refine wpList_step fun K' hK' => ?_
    have h1 := ok_xone (Q := Q) ht hs h
    have hnext : ∀ a w, After P R nt Rp (fun tm' H' => xlist tab G nt ops.toList r tm' H' K) a w → K' a w := fun a w ⟨tm', H', ν', hs', h'⟩ => hK' _ _ (ok_xlist ht hs' h' hQ)
    split
    · rename_i hwd; rw [if_pos hwd] at h1; exact Oper.wp_mono hnext h1
    · rename_i hwd; rw [if_neg hwd] at h1; exact hnext _ _ h1
end
end Go.Proofs.Ytnenbngjdekegaa.X

/- A symbolic run tells what the function does: regions that draw their order. -/
set_option linter.unusedVariables false
set_option linter.unusedSimpArgs false
namespace Go.Proofs.Ytnenbngjdekegaa.X
open Go.RowKit Go.Proofs.YtnenbngjdekegaaW.PrintWords Go.Proofs.Ytnenbngjdekegaa.Base
section
variable {P : Program} {ops : Array Oper} {Q : Exit → Act → World → Prop}
/-- j waits for k. -/
inductive Dep (ops : Array Oper) : Nat → Nat → Prop where
  | edge {j k : Nat} {o : Oper} {e : Edge} (ho : ops[j]? = some o) (he : e ∈ o.after) (hb : Region.binds .any e = true) (hk : e.on = k) : Dep ops j k
  | more {j m k : Nat} {o : Oper} {e : Edge} (ho : ops[j]? = some o) (he : e ∈ o.after) (hb : Region.binds .any e = true) (hm : e.on = m) (h : Dep ops m k) : Dep ops j k
def Needed (ops : Array Oper) (listed : Array Bool) (k : Nat) : Prop := ∀ j o, ops[j]? = some o → listed.getD j false = true → pureOp o.op = false → ¬ Dep ops j k
def Closed (ops : Array Oper) (listed : Array Bool) : Prop := ∀ j o, ops[j]? = some o → listed.getD j false = true → ∀ e ∈ o.after, Region.binds .any e = true → listed.getD e.on false = true
theorem Closed.dep {listed : Array Bool} (h : Closed ops listed) {j k : Nat} (hd : Dep ops j k) : listed.getD j false = true → listed.getD k false = true := by
  induction hd with
  | edge ho he hb hk => intro hj; exact hk ▸ h _ _ ho hj _ he hb
  | more ho he hb hm _ ih => intro hj; exact ih (hm ▸ h _ _ ho hj _ he hb)
theorem get_set_ne {listed : Array Bool} {i j : Nat} (h : i ≠ j) (d : Bool) : (listed.setIfInBounds i true).getD j d = listed.getD j d := getD_set_ne d h
theorem get_set_imp {listed : Array Bool} {i j : Nat} (h : (listed.setIfInBounds i true).getD j false = true) : j = i ∨ listed.getD j false = true := by
  by_cases hij : i = j
  · exact .inl hij.symm
  · rw [get_set_ne hij] at h; exact .inr h
theorem Closed.set {listed : Array Bool} (h : Closed ops listed) {i : Nat} (hi : i ∈ Region.ready .any ops listed) : Closed ops (listed.setIfInBounds i true) := by
  intro j o ho hj e he hb
  rcases get_set_imp hj with rfl | hj
  · obtain ⟨-, oi, hoi, hall⟩ := mem_ready.1 hi
    rw [ho] at hoi
    cases hoi
    exact getD_set_true (hall e he hb)
  · exact getD_set_true (h j o ho hj e he hb)
def wpAnyN (P : Program) (ops : Array Oper) (Q : Exit → Act → World → Prop) (N : Nat → World → Prop) : Nat → Array Bool → Act → World → Prop
  | 0, listed, a, w => Region.ready .any ops listed = [] ∧ Q .normal a w
  | fuel + 1, listed, a, w =>
    (Region.ready .any ops listed = [] → Q .normal a w) ∧
    ∀ i ∈ Region.ready .any ops listed, wpOp P ops Q i (fun a' w' => (∀ k, Needed ops (listed.setIfInBounds i true) k → N k w') ∧ wpAnyN P ops Q N fuel (listed.setIfInBounds i true) a' w') a w
theorem wpAny_ofN {N : Nat → World → Prop} : ∀ (fuel : Nat) (listed : Array Bool) (a : Act) (w : World), wpAnyN P ops Q N fuel listed a w → wpAny P .any ops Q fuel listed a w
  | 0, _, _, _, h => h
  | fuel + 1, _, _, _, h => ⟨h.1, fun i hi => wpOp_mono (fun a' w' h' => wpAny_ofN fuel _ a' w' h'.2) (h.2 i hi)⟩
theorem Needed.less {listed : Array Bool} {i k : Nat} (h : Needed ops (listed.setIfInBounds i true) k) : Needed ops listed k := fun j o ho hj hp hd => h j o ho (getD_set_true hj) hp hd
theorem wpAnyN_mono {N N' : Nat → World → Prop} : ∀ (fuel : Nat) (listed : Array Bool) (a : Act) (w : World), (∀ k, Needed ops listed k → ∀ w, N k w → N' k w) → wpAnyN P ops Q N fuel listed a w → wpAnyN P ops Q N' fuel listed a w
  | 0, _, _, _, _, h => h
  | fuel + 1, listed, a, w, hN, h => ⟨h.1, fun i hi => wpOp_mono (fun a' w' h' => ⟨fun k hk => hN k hk.less w' (h'.1 k hk), wpAnyN_mono fuel _ a' w' (fun k hk => hN k hk.less) h'.2⟩) (h.2 i hi)⟩
/-- What only reads may be taken first. -/
theorem wpAnyN_take {N : Nat → World → Prop} {i : Nat} {oi : Oper} {v : Value} (hi : ops[i]? = some oi) (hp : pureOp oi.op = true) (hsel : ∀ (j : Nat) (o : Oper) cs b, ops[j]? = some o → o.op ≠ .select cs b)
    (hQ : ∀ c a w, Q (.panic c) (a.put oi.dst v) w → Q (.panic c) a w) :
    ∀ (fuel : Nat) (listed : Array Bool) (a : Act) (w : World), Closed ops listed →
      (∀ j oj, ops[j]? = some oj → j ≠ i → listed.getD j true = false → (∀ e ∈ oj.after, Region.binds .any e = true → e.on ≠ i) → oi.apart ops oj = true) →
      i ∈ Region.ready .any ops listed → YieldsIf P ops (N i) oi v a → (∀ k, Needed ops listed k → N k w) →
      wpAnyN P ops Q N fuel (listed.setIfInBounds i true) (a.put oi.dst v) w → wpAnyN P ops Q N (fuel + 1) listed a w := by
  have hneed : ∀ listed, Closed ops listed → i ∈ Region.ready .any ops listed → Needed ops listed i := fun listed hc hr j o ho hj _ hd => by
    have := hc.dep hd hj
    have h0 := (mem_ready.1 hr).1
    rcases Nat.lt_or_ge i listed.size with h' | h'
    · simp [h'] at h0 this; rw [h0] at this; cases this
    · simp [Array.getElem?_eq_none h'] at h0
  intro fuel
  induction fuel with
  | zero =>
    intro listed a w hc _ hr hy hN H
    refine ⟨fun h => (by rw [h] at hr; cases hr), fun j hj => ?_⟩
    by_cases hji : j = i
    · subst hji; exact hy.wpOp hi (hN _ (hneed _ hc hr)) ⟨fun k hk => hN k hk.less, H⟩
    · have := ready_mono hj hji
      rw [H.1] at this
      cases this
  | succ fuel ih =>
    intro listed a w hc hfree hr hy hN H
    refine ⟨fun h => (by rw [h] at hr; cases hr), fun j hj => ?_⟩
    by_cases hji : j = i
    · subst hji; exact hy.wpOp hi (hN _ (hneed _ hc hr)) ⟨fun k hk => hN k hk.less, H⟩
    · have h1 := H.2 j (ready_mono hj hji)
      obtain ⟨hjun, oj, hoj, hall⟩ := mem_ready.1 hj
      have hnot : ∀ e ∈ oj.after, Region.binds .any e = true → e.on ≠ i := fun e he hb heq => by
        have h1 := hall e he hb
        have h0 := (mem_ready.1 hr).1
        rw [heq] at h1
        rcases Nat.lt_or_ge i listed.size with h' | h'
        · simp [h'] at h0 h1; rw [h0] at h1; cases h1
        · simp [Array.getElem?_eq_none h'] at h1
      have hri : i ∈ Region.ready .any ops (listed.setIfInBounds j true) := ready_mono hr (Ne.symm hji)
      have hcj := hc.set hj
      have hNi : ∀ k, Needed ops (listed.setIfInBounds j true) k → Needed ops ((listed.setIfInBounds i true).setIfInBounds j true) k := fun k hk jj o ho hjj hpp hd => by
        rw [Array.setIfInBounds_comm _ _ (Ne.symm hji)] at hjj
        rcases get_set_imp hjj with rfl | hjj
        · rw [ho] at hi; cases hi; rw [hp] at hpp; cases hpp
        · exact hk jj o ho hjj hpp hd
      have h1' := wpOp_mono (K' := fun a' w' => N i w' ∧ ((∀ k, Needed ops (listed.setIfInBounds j true) k → N k w') ∧ wpAnyN P ops Q N fuel ((listed.setIfInBounds j true).setIfInBounds i true) a' w')) (fun a' w' h => ⟨h.1 i (hNi i (hneed _ hcj hri)), fun k hk => h.1 k (hNi k hk), by rw [Array.setIfInBounds_comm _ _ hji]; exact h.2⟩) h1
      have h2 := wpOp_putIf hoj (hfree j oj hoj hji hjun hnot) (fun cs b => hsel i oi cs b hi) (fun cs b => hsel j oj cs b hoj) hQ hy h1'
      have hfree' : ∀ k ok, ops[k]? = some ok → k ≠ i → (listed.setIfInBounds j true).getD k true = false →
          (∀ e ∈ ok.after, Region.binds .any e = true → e.on ≠ i) → oi.apart ops ok = true := fun k ok hk hki hun hno => by
        refine hfree k ok hk hki ?_ hno
        by_cases hjk : j = k
        · subst hjk; exact hjun
        · rw [getD_set_ne true hjk] at hun; exact hun
      exact wpOp_mono (fun a' w' h3 => ⟨h3.2.2.1, ih (listed.setIfInBounds j true) a' w' hcj hfree' hri h3.1 h3.2.2.1 h3.2.2.2⟩) h2
theorem dep_sound : ∀ {n j k : Nat}, dep ops.toList n j k = true → Dep ops j k
  | 0, j, k, h => by cases h
  | n + 1, j, k, h => by
    unfold dep at h
    split at h
    · cases h
    · rename_i o ho
      rw [Array.getElem?_toList] at ho
      obtain ⟨e, he, h⟩ := List.any_eq_true.1 h
      simp only [Bool.and_eq_true, Bool.or_eq_true] at h
      have he' : e ∈ o.after := by simpa using he
      rcases h.2 with h2 | h2
      · exact .edge ho he' h.1 (Nat.eq_of_beq_eq_true h2)
      · exact .more ho he' h.1 rfl (dep_sound h2)
theorem edges_spec {listed : Array Bool} {o : Oper} : edgesOk listed o = true ↔ ∀ e ∈ o.after, Region.binds .any e = true → listed.getD e.on false = true := by
  unfold edgesOk
  rw [List.all_eq_true]
  constructor
  · intro h e he hb
    have := h e (by simpa using he)
    simpa [hb] using this
  · intro h e he
    have := h e (by simpa using he)
    cases hb : Region.binds .any e <;> simp_all
theorem firstP_spec {listed : Array Bool} : ∀ {l : List Oper} {s i : Nat} {o : Oper}, firstP listed s l = some (i, o) → s ≤ i ∧ l[i - s]? = some o ∧ listed.getD i true = false ∧ pureOp o.op = true ∧ edgesOk listed o = true
  | [], s, i, o, h => by cases h
  | x :: r, s, i, o, h => by
    unfold firstP at h
    cases hb : (!listed.getD s true && pureOp x.op && edgesOk listed x) with
    | true =>
      rw [hb, cond_true] at h
      simp only [Option.some.injEq, Prod.mk.injEq] at h
      obtain ⟨rfl, rfl⟩ := h
      simp only [Bool.and_eq_true, Bool.not_eq_true'] at hb
      exact ⟨Nat.le_refl _, by simp, hb.1.1, hb.1.2, hb.2⟩
    | false =>
      rw [hb, cond_false] at h
      obtain ⟨h1, h2, h3⟩ := firstP_spec h
      exact ⟨by omega, by rw [show i - s = (i - (s + 1)) + 1 by omega]; simpa using h2, h3⟩
theorem firstP_none {listed : Array Bool} : ∀ {l : List Oper} {s : Nat}, firstP listed s l = none → ∀ i o, l[i]? = some o → listed.getD (s + i) true = false → edgesOk listed o = true → pureOp o.op = false
  | [], s, h, i, o, ho, _, _ => by simp at ho
  | x :: r, s, h, i, o, ho, h1, h2 => by
    unfold firstP at h
    cases hb : (!listed.getD s true && pureOp x.op && edgesOk listed x) with
    | true => rw [hb, cond_true] at h; cases h
    | false =>
      rw [hb, cond_false] at h
      cases i with
      | zero =>
        simp only [List.getElem?_cons_zero, Option.some.injEq] at ho
        subst ho
        rw [Nat.add_zero] at h1
        rw [h1, h2] at hb
        simpa using hb
      | succ i => exact firstP_none h i o (by simpa using ho) (by rw [show s + 1 + i = s + (i + 1) by omega]; exact h1) h2
theorem readyE_mem {listed : Array Bool} : ∀ {l : List Oper} {s : Nat} (i : Nat) (o : Oper), l[i]? = some o → listed.getD (s + i) true = false → edgesOk listed o = true → (s + i, o) ∈ readyE listed s l
  | [], s, i, o, ho, _, _ => by simp at ho
  | x :: r, s, i, o, ho, h1, h2 => by
    unfold readyE
    cases i with
    | zero =>
      simp only [List.getElem?_cons_zero, Option.some.injEq] at ho
      subst ho
      rw [Nat.add_zero] at h1 ⊢
      rw [h1, h2]
      simp
    | succ i =>
      have := readyE_mem (s := s + 1) i o (by simpa using ho) (by rw [show s + 1 + i = s + (i + 1) by omega]; exact h1) h2
      rw [show s + 1 + i = s + (i + 1) by omega] at this
      cases (!listed.getD s true && edgesOk listed x) <;> simp [this]
theorem ready_E {listed : Array Bool} {i : Nat} (h : i ∈ Region.ready .any ops listed) : ∃ o, ops[i]? = some o ∧ (i, o) ∈ readyE listed 0 ops.toList ∧ listed.getD i true = false ∧ edgesOk listed o = true := by
  obtain ⟨h1, o, ho, hall⟩ := mem_ready.1 h
  have h2 := edges_spec.2 hall
  have := readyE_mem (listed := listed) (l := ops.toList) (s := 0) i o (by rw [Array.getElem?_toList]; exact ho) (by rw [Nat.zero_add]; exact h1) h2
  rw [Nat.zero_add] at this
  exact ⟨o, ho, this, h1, h2⟩
end
section
variable {P : Program} {R : Root} {nt : Nat} {Rp : Ending → World → Prop} {ops : Array Oper}
/-- What is known of an operation that was taken. -/
def LogFor (P : Program) (ν : Val) (H : Hp) (q : Nat × Oper × Tm × Option Bool × AV) (S : World → Prop) : Prop :=
  ∃ a : Act, tmOk H.length ν q.2.2.1 a ∧ (Yes q.2.2.2.1 → q.2.2.2.2.lt H.length = true ∧ ∀ w, (execOp a.eval q.2.1).run P w = .ok (.value (q.2.2.2.2.den ν)) w → S w) ∧ (¬ Yes q.2.2.2.1 → ∀ w, S w)
theorem ok_recheck {tab : Tab} (ht : TabOk P tab) {H : Hp} {T : Tree} (hb : Wf H) : ∀ {L : Log}, (∀ q ∈ L, TmWf H.length q.2.2.1) → ok P R nt Rp (recheck tab H T L) → ok P R nt Rp T ∧ ∀ q ∈ L, Yes q.2.2.2.1 → Vals P R H q.2.2.1 q.2.1 q.2.2.2.2
  | [], _, h => ⟨h, by simp⟩
  | (k, o, tm, g, x) :: r, hL, h => by
    have hw := hL (k, o, tm, g, x) (by simp)
    unfold recheck at h
    have key : ∀ y, ok P R nt Rp (chkG g (y = x) (recheck tab H T r)) → (Yes g → Vals P R H tm o y) → ok P R nt Rp T ∧ ∀ q ∈ (k, o, tm, g, x) :: r, Yes q.2.2.2.1 → Vals P R H q.2.2.1 q.2.1 q.2.2.2.2 := fun y h hy => by
      obtain ⟨h1, h2⟩ := ok_chkG h
      obtain ⟨h3, h4⟩ := ok_recheck ht hb (fun q hq => hL q (by simp [hq])) h2
      refine ⟨h3, fun q hq hg => ?_⟩
      rcases List.mem_cons.1 hq with rfl | hq
      · have := hy hg
        rw [h1 hg] at this
        exact this
      · exact h4 q hq hg
    split at h
    · rename_i c x' y' ho
      obtain ⟨y, h, hy⟩ := ok_xpick hw ho h
      exact key y h hy
    · obtain ⟨y, h, hy⟩ := ok_xval ht hb hw h
      exact key y h hy
theorem ok_boths {f : Nat × Oper → Tree} : ∀ {l : List (Nat × Oper)}, ok P R nt Rp (boths f l) → ∀ p ∈ l, ok P R nt Rp (f p)
  | [], _, p, hp => by simp at hp
  | [x], h, p, hp => by simp at hp; subst hp; exact h
  | x :: y :: r, h, p, hp => by
    rcases List.mem_cons.1 hp with rfl | hp
    · exact h.1
    · exact ok_boths h.2 p hp
theorem yes_dec (g : Option Bool) : Yes g ∨ g = some false := by
  cases g with
  | none => exact .inl yes_none
  | some b =>
    cases b with
    | true => exact .inl (fun b hb => by cases hb; rfl)
    | false => exact .inr rfl
theorem ok_xdraw {tab : Tab} {G : Ctr} (ht : TabOk P tab) (hsel : Region.noSelect ops = true) {K : Tm → Hp → Tree} : ∀ {n : Nat} {listed : Array Bool} {tm : Tm} {H : Hp} {L : Log} {ν : Val} {a : Act} {w : World} {N : Nat → World → Prop},
    ok P R nt Rp (xdraw tab G nt ops.toList K n listed tm H L) → StOk R nt ν tm H a w → Closed ops listed → (∀ k, Needed ops listed k → N k w) →
    (∀ k, Needed ops listed k → (∀ w', N k w') ∨ (listed.getD k false = true ∧ ∃ q ∈ L, q.1 = k ∧ LogFor P ν H q (N k))) → (∀ q ∈ L, TmWf H.length q.2.2.1) →
    wpAnyN P ops (fun e a w => e = .normal ∧ After P R nt Rp K a w) N n listed a w := by
  intro n
  induction n with
  | zero =>
    intro listed tm H L ν a w N h hs hc hN hL hLw
    unfold xdraw at h
    split at h
    · exact h.elim
    · split at h
      · rename_i hE
        refine ⟨?_, rfl, tm, H, ν, hs, h⟩
        cases hr : Region.ready .any ops listed with
        | nil => rfl
        | cons i r =>
          obtain ⟨o, -, hm, -⟩ := ready_E (ops := ops) (listed := listed) (i := i) (by rw [hr]; simp)
          rw [hE] at hm
          cases hm
      · exact h.elim
  | succ n ih =>
    intro listed tm H L ν a w N h hs hc hN hL hLw
    have hw := hs.tm.wf
    unfold xdraw at h
    split at h
    · rename_i i o hF
      obtain ⟨-, ho, hun, hp, hed⟩ := firstP_spec hF
      rw [Nat.sub_zero, Array.getElem?_toList] at ho
      obtain ⟨hd, h⟩ := bif_not h (fun h => h)
      simp only [Bool.and_eq_true] at hd
      have hready : i ∈ Region.ready .any ops listed := mem_ready.2 ⟨hun, o, ho, edges_spec.1 hed⟩
      have hfree := Region.free_spec (ops := ops) ho (by simpa using hd.2)
      split at h
      · rename_i l htup
        unfold tupOf at htup
        split at htup
        · rename_i x hop hgd
          split at htup
          · rename_i l' hx
            cases htup
            let N' : Nat → World → Prop := fun k => if k = i then fun _ => True else N k
            have hst := hs.put hd.1 (Nat.le_refl _) (Agr.refl _ _) (lt_get hw hx) hs.hp
            have hrun : ∀ w', (execOp a.eval o).run P w' = .ok (.value (XV.den ν (.tup l))) w' := fun w' => by
              simp only [execOp, hop, eval_get hs.tm hx]
              rfl
            have hN' : ∀ k, Needed ops listed k → N' k w := fun k hk => by
              show (if k = i then fun _ => True else N k) w
              split
              · trivial
              · exact hN k hk
            have hy : YieldsIf P ops (N' i) o (XV.den ν (.tup l)) a := .inl ⟨by simp [Region.wanted, hgd], fun w' _ => hrun w'⟩
            have hlist : ∀ k, listed.getD k false = true → (listed.setIfInBounds i true).getD k false = true := fun k => getD_set_true
            have hrec := ih (N := N') h hst (hc.set hready) (fun k hk => hN' k hk.less) (fun k hk => by
              by_cases hki : k = i
              · subst hki
                refine .inl fun w' => ?_
                show (if k = k then fun _ => True else N k) w'
                rw [if_pos rfl]; trivial
              · have he : N' k = N k := by show (if k = i then fun _ => True else N k) = _; rw [if_neg hki]
                rw [he]
                rcases hL k hk.less with h1 | ⟨h1, q, hq, h2, h3⟩
                · exact .inl h1
                · exact .inr ⟨hlist k h1, q, hq, h2, h3⟩) hLw
            refine wpAnyN_mono _ _ _ _ (fun k hk w' hw' => ?_) (wpAnyN_take ho hp (Region.noSelect_spec hsel) (fun c a w h => by cases h.1) n listed a w hc hfree hready hy hN' hrec)
            by_cases hki : k = i
            · subst hki
              rcases hL k hk with h1 | ⟨h1, -⟩
              · exact h1 w'
              · exfalso
                rcases Nat.lt_or_ge k listed.size with h' | h'
                · simp [h'] at h1 hun; rw [h1] at hun; cases hun
                · simp [Array.getElem?_eq_none h'] at h1
            · have : N' k w' = N k w' := by show (if k = i then fun _ => True else N k) w' = _; rw [if_neg hki]
              rw [← this]; exact hw'
          · cases htup
        · cases htup
      obtain ⟨g, hg, h⟩ := ok_bnd h
      have hval : ∃ X, ok P R nt Rp (xdraw tab G nt ops.toList K n (listed.setIfInBounds i true) (tm.put o.dst (wrapG g X)) H ((i, o, tm, g, X) :: L)) ∧ (Yes g → Vals P R H tm o X) := by
        split at h
        · rename_i c x y hop
          exact ok_xpick hw hop h
        · exact ok_xval ht hs.hp.wf hw h
      obtain ⟨X, h, hX⟩ := hval
      have hwant : Region.wanted o (yielded ops a.tmps) = true ↔ Yes g := by
        cases g with
        | none => simp [Region.wanted, guard_none hg, yes_none]
        | some b =>
          rw [guard_some hg hs.tm]
          constructor
          · intro hb b' hb'; cases hb'; exact hb
          · intro hy; exact hy b rfl
      let S : World → Prop := fun w' => Yes g → (execOp a.eval o).run P w' = .ok (.value (X.den ν)) w'
      let N' : Nat → World → Prop := fun k => if k = i then S else N k
      have hst := hs.put hd.1 (Nat.le_refl _) (Agr.refl _ _) (wrap_lt (g := g) (x := X) (fun y => (hX y).1)) hs.hp
      have hSw : S w := fun y => (hX y).2 ν a w hs.tm hs.hp
      have hN' : ∀ k, Needed ops listed k → N' k w := fun k hk => by
        show (if k = i then S else N k) w
        split
        · exact hSw
        · exact hN k hk
      have hy : YieldsIf P ops (N' i) o ((wrapG g X).den ν) a := by
        rcases yes_dec g with y | rfl
        · refine .inl ⟨hwant.2 y, fun w' hw' => ?_⟩
          have hw' : S w' := by simpa [N'] using hw'
          rw [hw' y]
          cases g with
          | none => rfl
          | some b => have := y b rfl; subst this; rfl
        · refine .inr ⟨?_, rfl⟩
          cases hb : Region.wanted o (yielded ops a.tmps) with
          | false => rfl
          | true => exact absurd (hwant.1 hb false rfl) (by simp)
      have hlist : ∀ k, listed.getD k false = true → (listed.setIfInBounds i true).getD k false = true := fun k => getD_set_true
      have hii : (listed.setIfInBounds i true).getD i false = true := by
        have : i < listed.size := by
          rcases Nat.lt_or_ge i listed.size with h' | h'
          · exact h'
          · simp [Array.getElem?_eq_none h'] at hun
        simp [this]
      have hrec := ih (N := N') h hst (hc.set hready) (fun k hk => hN' k hk.less) (fun k hk => by
        by_cases hki : k = i
        · subst hki
          refine .inr ⟨hii, _, List.mem_cons_self, rfl, a, hs.tm, fun y => ⟨(hX y).1, fun w' hw' => ?_⟩, fun hn w' => ?_⟩
          · show (if k = k then S else N k) w'
            rw [if_pos rfl]; exact fun _ => hw'
          · show (if k = k then S else N k) w'
            rw [if_pos rfl]; exact fun y => absurd y hn
        · have he : N' k = N k := by show (if k = i then S else N k) = _; rw [if_neg hki]
          rw [he]
          rcases hL k hk.less with h1 | ⟨h1, q, hq, h2, h3⟩
          · exact .inl h1
          · exact .inr ⟨hlist k h1, q, List.mem_cons_of_mem _ hq, h2, h3⟩) (fun q hq => by
        rcases List.mem_cons.1 hq with rfl | hq
        · exact hw
        · exact hLw q hq)
      refine wpAnyN_mono _ _ _ _ (fun k hk w' hw' => ?_) (wpAnyN_take ho hp (Region.noSelect_spec hsel) (fun c a w h => by cases h.1) n listed a w hc hfree hready hy hN' hrec)
      by_cases hki : k = i
      · subst hki
        rcases hL k hk with h1 | ⟨h1, -⟩
        · exact h1 w'
        · exfalso
          rcases Nat.lt_or_ge k listed.size with h' | h'
          · simp [h'] at h1 hun; rw [h1] at hun; cases hun
          · simp [Array.getElem?_eq_none h'] at h1
      · have : N' k w' = N k w' := by show (if k = i then S else N k) w' = _; rw [if_neg hki]
        rw [← this]; exact hw'
    · rename_i hF
      split at h
      · rename_i hE
        have hr : Region.ready .any ops listed = [] := by
          cases hr : Region.ready .any ops listed with
          | nil => rfl
          | cons i r =>
            obtain ⟨o, -, hm, -⟩ := ready_E (ops := ops) (listed := listed) (i := i) (by rw [hr]; simp)
            rw [hE] at hm
            cases hm
        exact ⟨fun _ => ⟨rfl, tm, H, ν, hs, h⟩, by rw [hr]; simp⟩
      · rename_i es hE
        have hall := ok_boths h
        refine ⟨fun hr => ?_, fun j hj => ?_⟩
        · exfalso
          cases hes : readyE listed 0 ops.toList with
          | nil => exact hE hes
          | cons p r => 
            have hp := hall p (by rw [hes]; simp)
            have hmem : p ∈ readyE listed 0 ops.toList := by rw [hes]; simp
            have : ∀ {l : List Oper} {s : Nat} {p : Nat × Oper}, p ∈ readyE listed s l → s ≤ p.1 ∧ l[p.1 - s]? = some p.2 ∧ listed.getD p.1 true = false ∧ edgesOk listed p.2 = true := by
              intro l
              induction l with
              | nil => intro s p hp; cases hp
              | cons x r ih2 =>
                intro s p hp
                unfold readyE at hp
                cases hb : (!listed.getD s true && edgesOk listed x) with
                | true =>
                  rw [hb, cond_true] at hp
                  rcases List.mem_cons.1 hp with rfl | hp
                  · simp only [Bool.and_eq_true, Bool.not_eq_true'] at hb
                    exact ⟨Nat.le_refl _, by simp, hb.1, hb.2⟩
                  · obtain ⟨a1, a2, a3⟩ := ih2 hp
                    exact ⟨by omega, by rw [show p.1 - s = (p.1 - (s + 1)) + 1 by omega]; simpa using a2, a3⟩
                | false =>
                  rw [hb, cond_false] at hp
                  obtain ⟨a1, a2, a3⟩ := ih2 hp
                  exact ⟨by omega, by rw [show p.1 - s = (p.1 - (s + 1)) + 1 by omega]; simpa using a2, a3⟩
            obtain ⟨-, a2, a3, a4⟩ := this hmem
            rw [Nat.sub_zero, Array.getElem?_toList] at a2
            have : p.1 ∈ Region.ready .any ops listed := mem_ready.2 ⟨a3, p.2, a2, edges_spec.1 a4⟩
            rw [hr] at this
            cases this
        · obtain ⟨o, ho, hm, hun, hed⟩ := ready_E hj
          have hp : pureOp o.op = false := firstP_none hF j o (by rw [Array.getElem?_toList]; exact ho) (by rw [Nat.zero_add]; exact hun) hed
          have h := hall (j, o) hm
          obtain ⟨hd, h⟩ := bif_not h (fun h => h)
          obtain ⟨g, hg, h⟩ := ok_bnd h
          dsimp only at hd hg h
          have hjl : (listed.setIfInBounds j true).getD j false = true := by
            have : j < listed.size := by
              rcases Nat.lt_or_ge j listed.size with h' | h'
              · exact h'
              · simp [Array.getElem?_eq_none h'] at hun
            simp [this]
          -- what is needed still stands in the log that is kept
          have hkeep : ∀ k, Needed ops (listed.setIfInBounds j true) k → (∀ w', N k w') ∨ (listed.getD k false = true ∧ ∃ q ∈ L.filter (fun q => !dep ops.toList ops.toList.length j q.1), q.1 = k ∧ LogFor P ν H q (N k)) := fun k hk => by
            rcases hL k hk.less with h1 | ⟨h1, q, hq, h2, h3⟩
            · exact .inl h1
            · refine .inr ⟨h1, q, List.mem_filter.2 ⟨hq, ?_⟩, h2, h3⟩
              cases hdp : dep ops.toList ops.toList.length j q.1 with
              | false => rfl
              | true => exact absurd (dep_sound (ops := ops) hdp) (by rw [h2]; exact hk j o ho hjl hp)
          have heff : ok P R nt Rp (xeff tab G o tm H fun x H' => recheck tab H' (xdraw tab G nt ops.toList K n (listed.setIfInBounds j true) (tm.put o.dst x) H' (L.filter fun q => !dep ops.toList ops.toList.length j q.1)) (L.filter fun q => !dep ops.toList ops.toList.length j q.1)) →
              o.wp P a w (fun a' w' => (∀ k, Needed ops (listed.setIfInBounds j true) k → N k w') ∧ wpAnyN P ops (fun e a w => e = .normal ∧ After P R nt Rp K a w) N n (listed.setIfInBounds j true) a' w') (fun e a w => e = .normal ∧ After P R nt Rp K a w) := fun hx => by
            refine Oper.wp_mono ?_ (ok_xeff ht hs hx)
            rintro a' w' ⟨x, H', ν', hlen, hA, hxl, rfl, hH, hk⟩
            have hmono : ∀ q, TmWf H.length q → TmWf H'.length q := fun q hq t y hy => XV.lt_mono hlen (hq t y hy)
            obtain ⟨hT, hre⟩ := ok_recheck ht hH.wf (fun q hq => hmono _ (hLw q (List.mem_filter.1 hq).1)) hk
            have hfor : ∀ k, Needed ops (listed.setIfInBounds j true) k → (∀ w', N k w') ∨ (listed.getD k false = true ∧ ∃ q ∈ L.filter (fun q => !dep ops.toList ops.toList.length j q.1), q.1 = k ∧ LogFor P ν' H' q (N k) ∧ N k w') := fun k hk => by
              rcases hkeep k hk with h1 | ⟨h1, q, hq, h2, ak, b1, b2, b3⟩
              · exact .inl h1
              · refine .inr ⟨h1, q, hq, h2, ⟨ak, b1.agr hlen hA, fun y => ⟨AV.lt_mono hlen (b2 y).1, fun w'' hw'' => (b2 y).2 w'' (by rw [AV.den_agr hA (b2 y).1] at hw''; exact hw'')⟩, b3⟩, ?_⟩
                rcases yes_dec q.2.2.2.1 with y | hno
                · refine (b2 y).2 w' ?_
                  have := (hre q hq y).2 ν' ak w' (b1.agr hlen hA) hH
                  rw [AV.den_agr hA (b2 y).1] at this
                  exact this
                · exact b3 (fun y => absurd (y false hno) (by simp)) w'
            refine ⟨fun k hk => ?_, ih hT (hs.put hd hlen hA hxl hH) (hc.set hj) (fun k hk => ?_) (fun k hk => ?_) (fun q hq => hmono _ (hLw q (List.mem_filter.1 hq).1))⟩
            · rcases hfor k hk with h1 | ⟨-, q, -, -, -, h4⟩
              · exact h1 w'
              · exact h4
            · rcases hfor k hk with h1 | ⟨-, q, -, -, -, h4⟩
              · exact h1 w'
              · exact h4
            · rcases hfor k hk with h1 | ⟨h1, q, hq, h2, h3, -⟩
              · exact .inl h1
              · exact .inr ⟨getD_set_true h1, q, hq, h2, h3⟩
          have hskip : ok P R nt Rp (xdraw tab G nt ops.toList K n (listed.setIfInBounds j true) (tm.put o.dst (.a (.c (.v undef)))) H (L.filter fun q => !dep ops.toList ops.toList.length j q.1)) →
              (∀ k, Needed ops (listed.setIfInBounds j true) k → N k w) ∧ wpAnyN P ops (fun e a w => e = .normal ∧ After P R nt Rp K a w) N n (listed.setIfInBounds j true) (a.put o.dst undef) w := fun hx => by
            refine ⟨fun k hk => hN k hk.less, ih hx (hs.put hd (Nat.le_refl _) (Agr.refl _ _) (x := .a (.c (.v undef))) rfl hs.hp) (hc.set hj) (fun k hk => hN k hk.less) (fun k hk => ?_) (fun q hq => hLw q (List.mem_filter.1 hq).1)⟩
            rcases hkeep k hk with h1 | ⟨h1, q, hq, h2, h3⟩
            · exact .inl h1
            · exact .inr ⟨getD_set_true h1, q, hq, h2, h3⟩
          unfold wpOp
          rw [ho]
          dsimp only
          cases g with
          | none =>
            rw [show Region.wanted o (yielded ops a.tmps) = true by simp [Region.wanted, guard_none hg], if_pos rfl]
            exact .inl (heff h)
          | some b =>
            rw [guard_some hg hs.tm]
            cases b with
            | true => rw [if_pos rfl]; exact .inl (heff (h.1 rfl))
            | false => rw [if_neg (by simp)]; exact hskip (h.2 rfl)
/-- A region that draws its order. -/
theorem ok_region {tab : Tab} {G : Ctr} (ht : TabOk P tab) (hm : P.follows .mixedOrders = true) {id : Nat} {K : Tm → Hp → Tree} {ν : Val} {tm : Tm} {H : Hp} {a : Act} {w : World} {Q : Exit → Act → World → Prop} (hsel : Region.noSelect ops = true)
    (h : ok P R nt Rp (xdraw tab G nt ops.toList K ops.size (Array.replicate ops.size false) tm H [])) (hs : StOk R nt ν tm H a w) (hQ : ∀ a w, After P R nt Rp K a w → Q .normal a w) : (Code.region id ops true).wp P Q a w := by
  have hd : StOk R nt ν tm H a { w with drawn := w.drawn + 1 } := ⟨hs.tm, ⟨hs.hp.upd.drew, fun k e he => (hs.hp.ent k e he).step (Hp.get_lt he) (Nat.le_refl _) (Agr.refl _ _) (fun j hj hl ad hν => rfl), hs.hp.dj, hs.hp.agr⟩, hs.df, hs.sz⟩
  refine Code.wp_mono ?_ (wp_region_any hm (wpAny_ofN (N := fun _ _ => True) _ _ _ _ (ok_xdraw ht hsel h hd (fun j o ho hj => ?_) (fun _ _ => trivial) (fun _ _ => .inl fun _ => trivial) (by simp))))
  · rintro e a w ⟨rfl, h⟩
    exact hQ a w h
  · have hf : ∀ j, (Array.replicate ops.size false).getD j false = false := fun j => by
      by_cases hj : j < ops.size <;> simp [hj]
    rw [hf] at hj
    cases hj
end
end Go.Proofs.Ytnenbngjdekegaa.X

/- A symbolic run tells what the function does: the whole text. -/
set_option linter.unusedVariables false
set_option linter.unusedSimpArgs false
namespace Go.Proofs.Ytnenbngjdekegaa.X
open Go.RowKit Go.Proofs.YtnenbngjdekegaaW.PrintWords Go.Proofs.Ytnenbngjdekegaa.Base
section
variable {P : Program} {R : Root} {nt : Nat} {Rp : Ending → World → Prop}
/-- How a piece of code is left. -/
def Left (P : Program) (R : Root) (nt : Nat) (Rp : Ending → World → Prop) (K : Ex → Tm → Hp → Tree) (e : Exit) (a : Act) (w : World) : Prop := ∃ ex tm H ν, e = ex.to ∧ StOk R nt ν tm H a w ∧ ok P R nt Rp (K ex tm H)
theorem ok_xcode {tab : Tab} {G : Ctr} {I : Inv} {N : Nat} (hN : R.N = N) (ht : TabOk P tab) (hm : P.follows .mixedOrders = true) : ∀ {c : Code} {li : Nat} {K : Ex → Tm → Hp → Tree} {ν : Val} {tm : Tm} {H : Hp} {a : Act} {w : World}, StOk R nt ν tm H a w → ok P R nt Rp (xcode tab G I nt N li c tm H K) → c.wp P (Left P R nt Rp K) a w
  | .skip, li, K, ν, tm, H, a, w, hs, h => wp_skip ⟨.normal, tm, H, ν, rfl, hs, h⟩
  | .label _, li, K, ν, tm, H, a, w, hs, h => wp_label ⟨.normal, tm, H, ν, rfl, hs, h⟩
  | .exit id, li, K, ν, tm, H, a, w, hs, h => wp_exit ⟨.exit id, tm, H, ν, rfl, hs, h⟩
  | .goto l, li, K, ν, tm, H, a, w, hs, h => wp_goto ⟨.goto l, tm, H, ν, rfl, hs, h⟩
  | .ret, li, K, ν, tm, H, a, w, hs, h => wp_ret ⟨.ret, tm, H, ν, rfl, hs, h⟩
  | .region id ops draw, li, K, ν, tm, H, a, w, hs, h => by
    have reg : ∀ {K' : Tm → Hp → Tree}, ok P R nt Rp (xregion tab G nt ops draw tm H K') → (∀ a w, After P R nt Rp K' a w → Left P R nt Rp K .normal a w) → (Code.region id ops draw).wp P (Left P R nt Rp K) a w := fun h hQ => by
      cases draw with
      | true =>
        obtain ⟨hsel, h⟩ := bif_not h (fun h => h)
        exact ok_region ht hm hsel h hs hQ
      | false => exact wp_region_list (ok_xlist ht hs h hQ)
    unfold xcode at h
    split at h
    · exact reg h fun a w ⟨tm', H', ν', hs', h'⟩ => ⟨.normal, tm', H', ν', rfl, hs', h'⟩
    · rename_i L hL
      refine reg h.1 fun a w ⟨tm', H', ν', hs', s, h'⟩ => ?_
      obtain ⟨ν2, hs2, -⟩ := ok_imp hN hs' h'
      exact ⟨.normal, _, _, ν2, rfl, hs2, h.2 s⟩
  | .seq x y, li, K, ν, tm, H, a, w, hs, h => by
    refine wp_seq (Code.wp_mono ?_ (ok_xcode hN ht hm hs h))
    rintro e a' w' ⟨ex, tm', H', ν', rfl, hs', h'⟩
    cases ex with
    | normal => exact ok_xcode hN ht hm hs' h'
    | exit i => exact ⟨.exit i, tm', H', ν', rfl, hs', h'⟩
    | goto l => exact ⟨.goto l, tm', H', ν', rfl, hs', h'⟩
    | ret => exact ⟨.ret, tm', H', ν', rfl, hs', h'⟩
  | .cond c x y, li, K, ν, tm, H, a, w, hs, h => by
    obtain ⟨C, hC, h⟩ := ok_bnd h
    split at h
    · rename_i β
      have he : a.eval c = .bool β := eval_get hs.tm hC
      exact wp_cond_split he (fun hb => ok_xcode hN ht hm hs (h.1 hb)) (fun hb => ok_xcode hN ht hm hs (h.2 hb))
    · exact h.elim
  | .block id c, li, K, ν, tm, H, a, w, hs, h => by
    refine wp_block (Code.wp_mono ?_ (ok_xcode hN ht hm hs h))
    rintro e a' w' ⟨ex, tm', H', ν', rfl, hs', h'⟩
    cases ex with
    | normal => exact ⟨.normal, tm', H', ν', rfl, hs', h'⟩
    | exit i =>
      show if i = id then _ else _
      cases hb : Nat.beq i id with
      | true =>
        have := Nat.eq_of_beq_eq_true hb
        rw [if_pos this]
        simp only [hb, cond_true] at h'
        exact ⟨.normal, tm', H', ν', rfl, hs', h'⟩
      | false =>
        have : ¬ i = id := fun e => by rw [e] at hb; simp at hb
        rw [if_neg this]
        simp only [hb, cond_false] at h'
        exact ⟨.exit i, tm', H', ν', rfl, hs', h'⟩
    | goto l => exact ⟨.goto l, tm', H', ν', rfl, hs', h'⟩
    | ret => exact ⟨.ret, tm', H', ν', rfl, hs', h'⟩
  | .loop c, li, K, ν, tm, H, a, w, hs, h => by
    unfold xcode at h
    split at h
    · exact h ν a w hs
    · rename_i L hL
      obtain ⟨h0, hr⟩ := h
      obtain ⟨s0, h0⟩ : ∃ s, ok P R nt Rp (imp N tm H L.nil0 L.ρ0 (L.S s) (.need True)) := by
        split at h0
        · exact ⟨_, h0⟩
        · exact h0
      obtain ⟨ν0, hs0, -⟩ := ok_imp hN hs h0
      refine wp_loop_ghost (fun n a w => ∃ s ν, L.μ s = n ∧ StOk R nt ν (L.S s).1 (L.S s).2 a w) (L.μ s0) ⟨s0, ν0, rfl, hs0⟩ ?_
      rintro n a w ⟨s, ν, rfl, hs⟩
      refine Code.wp_mono ?_ (ok_xcode hN ht hm hs (hr s))
      rintro e a' w' ⟨ex, tm', H', ν', rfl, hs', h'⟩
      cases ex with
      | normal =>
        obtain ⟨s', hlt, h'⟩ := h'
        obtain ⟨ν2, hs2, -⟩ := ok_imp hN hs' h'
        exact ⟨_, hlt, s', ν2, rfl, hs2⟩
      | exit i => exact ⟨.exit i, tm', H', ν', rfl, hs', h'⟩
      | goto l => exact ⟨.goto l, tm', H', ν', rfl, hs', h'⟩
      | ret => exact ⟨.ret, tm', H', ν', rfl, hs', h'⟩
  | .rangeFunc .., li, K, ν, tm, H, a, w, hs, h => h.elim
  | .scope _, li, K, ν, tm, H, a, w, hs, h => h.elim
  | .refuse _, li, K, ν, tm, H, a, w, hs, h => h.elim
theorem ok_results {tab : Tab} (ht : TabOk P tab) {ν : Val} {tm : Tm} {H : Hp} {a : Act} {w : World} (hs : StOk R nt ν tm H a w) : ∀ {rs : List ResultVar} {K : List AV → Tree}, ok P R nt Rp (xresults tab rs tm H K) →
    ∃ l, ok P R nt Rp (K l) ∧ l.length = rs.length ∧ (rs.mapM fun x => match x with | ResultVar.tmp t => (pure (a.tmps.getD t undef) : Sem Value) | .cell p t => do loadVar t (← asAddr (a.tmps.getD p undef))).run P w = .ok (l.map (AV.den ν)) w
  | [], K, h => ⟨[], h, rfl, by simp⟩
  | .tmp t :: r, K, h => by
    unfold xresults at h
    obtain ⟨X, hX, h⟩ := ok_bnd h
    split at h
    · rename_i x
      obtain ⟨l, h, hl, hr⟩ := ok_results ht hs h
      have := (hs.tm t _ hX).2
      have hg : a.tmps.getD t undef = x.den ν := by simp [this]; rfl
      refine ⟨x :: l, h, by simp [hl], ?_⟩
      simp only [List.mapM_cons, Sem.run_bind, Sem.run_pure, Result.andThen_ok, hr, hg, List.map_cons]
    · exact h.elim
  | .cell p t :: r, K, h => by
    unfold xresults at h
    obtain ⟨X, hX, h⟩ := ok_bnd h
    split at h
    · rename_i q
      obtain ⟨x, h, hx⟩ := ok_xload ht hs.hp.wf h
      obtain ⟨l, h, hl, hr⟩ := ok_results ht hs h
      have := (hs.tm p _ hX).2
      have hg : a.tmps.getD p undef = .pointer (some (q.addr ν)) := by simp [this]; rfl
      refine ⟨x :: l, h, by simp [hl], ?_⟩
      have hld := (hx yes_none).2 ν w hs.hp
      have hadr : (asAddr (a.tmps.getD p undef)).run P w = .ok (q.addr ν) w := by rw [hg]; rfl
      simp only [List.mapM_cons, Sem.run_bind, Sem.run_pure, Result.andThen_ok, hr, List.map_cons, hadr, hld]
    · exact h.elim
theorem args_get : ∀ (l : List AV) (n : Nat) (t : Nat) (x : XV), (xargs n l).get t = some x → n ≤ t ∧ ∃ y, l[t - n]? = some y ∧ x = .a y
  | [], n, t, x, h => by simp [xargs, Tm.get] at h
  | y :: r, n, t, x, h => by
    simp only [xargs, Tm.get] at h
    cases hb : Nat.beq n t with
    | true =>
      rw [hb, cond_true] at h
      have := Nat.eq_of_beq_eq_true hb
      subst this
      exact ⟨Nat.le_refl _, y, by simp, by simpa using h.symm⟩
    | false =>
      rw [hb, cond_false] at h
      obtain ⟨h1, y', h2, h3⟩ := args_get r (n + 1) t x h
      refine ⟨by omega, y', ?_, h3⟩
      rw [show t - n = (t - (n + 1)) + 1 by omega]
      simpa using h2
end
theorem trim_get (keep : List Nat) : ∀ (H : Hp) (i k : Nat) (e : Ent), (trim keep i H).get k = some e → e = Ent.dead ∨ H.get k = some e
  | [], i, k, e, h => by cases k <;> cases h
  | x :: r, i, 0, e, h => by
    have h : some (match keep.any (Nat.beq i) with | true => x | false => Ent.dead) = some e := h
    injection h with h
    split at h
    · exact .inr (by rw [← h]; rfl)
    · exact .inl h.symm
  | x :: r, i, k + 1, e, h => trim_get keep r (i + 1) k e h
theorem trim_length (keep : List Nat) : ∀ (H : Hp) (i : Nat), (trim keep i H).length = H.length
  | [], _ => rfl
  | _ :: r, i => congrArg (· + 1) (trim_length keep r (i + 1))
theorem Holds.trim {R : Root} {ν : Val} {H : Hp} {w : World} (h : Holds R ν H w) (keep : List Nat) : Holds R ν (trim keep 0 H) w := by
  refine ⟨h.upd, fun k e he => ?_, fun k e1 j he1 ho1 hj k' e2 j' he2 hj' hne ad ad' hν hν' hl => ?_, by rw [trim_length]; exact h.agr⟩
  · rw [trim_length]
    rcases trim_get keep H 0 k e he with rfl | he
    · exact dead_ok ..
    · exact h.ent k e he
  · rcases trim_get keep H 0 k e1 he1 with rfl | he1
    · exact absurd hj (Nat.not_lt_zero _)
    · rcases trim_get keep H 0 k' e2 he2 with rfl | he2
      · exact absurd hj' (Nat.not_lt_zero _)
      · exact h.dj k e1 j he1 ho1 hj k' e2 j' he2 hj' hne ad ad' hν hν' hl
/-- A function, by its symbolic run. -/
theorem calls_of {P : Program} {tab : Tab} {G : Ctr} {I : Inv} (ht : TabOk P tab) (hm : P.follows .mixedOrders = true) {f : FuncId} {fn : Func} (hf : P.funcs[f]? = some fn) {R : Root} {Rp : Ending → World → Prop} {ν : Val} {H : Hp} {w : World} {args : List AV} {keep : List Nat} (hN : R.N = H.length) (hh : Holds R ν H w)
    (hl : args.all (AV.lt H.length) = true) (h : ok P R fn.ntmps Rp (xfunc tab G I fn args H keep)) : Calls P f (args.map (AV.den ν)).toArray w Rp := by
  unfold xfunc at h
  split at h
  · exact h.elim
  · rename_i c hb
    obtain ⟨hle, h⟩ := bif_not h (fun h => h)
    have hle : args.length ≤ fn.ntmps := Nat.le_of_ble_eq_true hle
    refine calls_of_wp hf hb (Code.wp_mono ?_ (ok_xcode hN ht hm (ν := ν) (tm := xargs 0 args) (H := H) ⟨fun t x hx => ?_, hh, rfl, by simp; omega⟩ h))
    · rintro e a' w' ⟨ex, tm', H', ν', rfl, hs', h'⟩
      have hres : ∀ {T : Tree}, T = xresults tab fn.results.toList tm' H' (fun l => match l with | [x] => .done (.a x) (trim keep 0 H') | l => .done (.tup l) (trim keep 0 H')) → ok P R fn.ntmps Rp T → a'.defers = [] ∧ ∃ v, (results fn a'.tmps).run P w' = .ok v w' ∧ Rp (.returned v) w' := fun hT hk => by
        subst hT
        obtain ⟨l, hk, hlen, hr⟩ := ok_results ht hs' hk
        have hm : (fn.results.mapM fun x => match x with | ResultVar.tmp t => (pure (a'.tmps.getD t undef) : Sem Value) | .cell p t => do loadVar t (← asAddr (a'.tmps.getD p undef))).run P w' = .ok (l.map (AV.den ν')).toArray w' := by
          rw [Array.mapM_eq_mapM_toList, ← bind_pure_comp, Sem.run_bind, hr]
          rfl
        refine ⟨hs'.df, if h : (l.map (AV.den ν')).toArray.size = 1 then (l.map (AV.den ν')).toArray[0] else .tuple (l.map (AV.den ν')).toArray, ?_, ?_⟩
        · unfold results
          rw [Sem.run_bind]
          refine Eq.trans (congrArg (fun r => Result.andThen r _) hm) ?_
          rfl
        · match l, hk with
          | [x], hk => exact hk ν' w' (hs'.hp.trim keep)
          | [], hk => exact hk ν' w' (hs'.hp.trim keep)
          | x :: y :: r, hk =>
            have := hk ν' w' (hs'.hp.trim keep)
            simpa [XV.den] using this
      cases ex with
      | normal => exact hres rfl h'
      | ret => exact hres rfl h'
      | exit i => exact h'.elim
      | goto l => exact h'.elim
    · obtain ⟨-, y, hy, rfl⟩ := args_get args 0 t x hx
      simp only [Nat.sub_zero] at hy
      refine ⟨List.all_eq_true.1 hl y (List.mem_of_getElem? hy), ?_⟩
      have hlt : t < args.length := (List.getElem?_eq_some_iff.1 hy).1
      rw [Array.getElem?_append_left (by simpa using hlt)]
      simp [hy, XV.den]
end Go.Proofs.Ytnenbngjdekegaa.X

/- The symbolic run, for this program. -/
set_option linter.unusedVariables false
set_option linter.unusedSimpArgs false
namespace Go.Proofs.Ytnenbngjdekegaa.X
open Go.RowKit Go.Proofs.YtnenbngjdekegaaW.PrintWords Go.Proofs.Ytnenbngjdekegaa.Base
theorem get_mem {t : Nat} {ti : TI} : ∀ {l : Tab}, l.get t = some ti → (t, ti) ∈ l
  | [], h => by cases h
  | (u, i) :: r, h => by
    unfold Tab.get at h
    cases hb : Nat.beq u t with
    | true =>
      rw [hb, cond_true] at h
      cases h
      rw [Nat.eq_of_beq_eq_true hb]
      exact List.mem_cons_self
    | false => rw [hb, cond_false] at h; exact List.mem_cons_of_mem _ (get_mem h)
theorem tab_ok : TabOk Try.prog tab := fun t ti h => by
  obtain ⟨i, hi⟩ := List.getElem?_of_mem (get_mem h)
  have := congrArg (·[i]?) tab_all
  simp only [List.getElem?_map, hi, Option.map_some, Option.some.injEq] at this
  exact this
theorem mixed : Try.prog.follows .mixedOrders = true := by kernel_rfl
def nov : Val := fun _ _ => none
theorem holds_nil (w : World) (F G : Nat → Prop) : Holds ⟨w, F, 0, nov, G⟩ nov [] w := ⟨Upd.refl _ _, (fun k e he => by cases k <;> cases he), (fun k e j he => by cases k <;> cases he), ⟨Nat.le_refl _, fun k hk => absurd hk (Nat.not_lt_zero _)⟩⟩
theorem Holds.b0 {w w' : World} {ν : Val} {H : Hp} (h : Holds ⟨w, fun _ => False, 0, nov, fun _ => False⟩ ν H w') : Below w.heap.size w w' := h.upd.below (Nat.le_refl _) (fun k hk => hk.elim)
section
variable {P : Program} {R : Root} {nt : Nat} {Rp : Ending → World → Prop}
theorem ok_br' {b : Bool} {t e : Tree} (h1 : b = true → ok P R nt Rp t) (h2 : b = false → ok P R nt Rp e) : ok P R nt Rp (.br b t e) := ⟨h1, h2⟩
theorem ok_chk' {p : Prop} {t : Tree} (h1 : p) (h2 : ok P R nt Rp t) : ok P R nt Rp (.chk p t) := ⟨h1, h2⟩
theorem ok_both' {t e : Tree} (h1 : ok P R nt Rp t) (h2 : ok P R nt Rp e) : ok P R nt Rp (.both t e) := ⟨h1, h2⟩
theorem ok_all' {good : (Nat → Nat) → Prop} {k : (Nat → Nat) → Tree} (h : ∀ c, good c → ok P R nt Rp (k c)) : ok P R nt Rp (.all good k) := h
theorem ok_done' {x : XV} {H : Hp} (h : ∀ ν w, Holds R ν H w → Rp (.returned (x.den ν)) w) : ok P R nt Rp (.done x H) := h
end
/-- What a tree without loops comes to. -/
def Tree.val {α : Type} (leaf : XV → α) (d : α) : Tree → α
  | .done x _ => leaf x
  | .br b t e => bif b then t.val leaf d else e.val leaf d
  | .chk _ t => t.val leaf d
  | .callf _ _ _ _ k => (k fun _ => 0).val leaf d
  | .all _ k => (k fun _ => 0).val leaf d
  | _ => d
/-! ### What one entry is to another -/
def plainB : List CV → Bool
  | [] => true
  | .v _ :: r => plainB r
  | _ :: _ => false
theorem plain_ren {n0 : Nat} {ρ : List Nat} {N : Nat} : ∀ {l : List CV}, plainB l = true → l = l.map (fun x => (x.ren ρ).nilz n0) ∧ ∀ x ∈ l, x.lt N = true
  | [], _ => ⟨rfl, fun x hx => by cases hx⟩
  | .v y :: r, h => by
    obtain ⟨h1, h2⟩ := plain_ren (l := r) h
    refine ⟨?_, fun x hx => ?_⟩
    · show _ = CV.v y :: List.map _ r
      rw [← h1]
    · rcases List.mem_cons.1 hx with rfl | hx
      · rfl
      · exact h2 x hx
  | .ptr _ :: r, h => by cases h
  | .sl .. :: r, h => by cases h
  | .fn .. :: r, h => by cases h
  | .ifp .. :: r, h => by cases h
theorem EntRel.plain {n0 : Nat} {ρ : List Nat} {N : Nat} {e e2 : Ent} (ho : e2.own = e.own) (ht : e2.ty = e.ty) (hs : e2.sz = e.sz) (hm : e2.m = e.m) (hb : e2.box = true → e.box = true ∧ e2.ov = [] ∧ e2.n 0 = 1) (hn : ∀ j, j < e.m → e2.n j = e.n j ∧ e2.cap j = e.cap j)
    (ha : ∀ j, j < e.m → ∀ i, i < e.n j → e.at j i = e2.at j i ∧ plainB (e2.at j i) = true) : EntRel n0 ρ N e e2 :=
  ⟨ho, ht, hs, hm, hb, hn, fun j hj i hi => ⟨(ha j hj i hi).1.trans (plain_ren (N := N) (ha j hj i hi).2).1, (plain_ren (N := N) (ρ := ρ) (n0 := n0) (ha j hj i hi).2).2⟩⟩
theorem EntRel.row {n0 : Nat} {ρ : List Nat} {N ty sz n cap n2 cap2 : Nat} {f f2 : Nat → List CV} (hn : n2 = n) (hc : cap2 = cap) (hf : ∀ i, i < n → f i = f2 i) (hp : ∀ i, i < n → plainB (f2 i) = true) : EntRel n0 ρ N (Ent.mkRow ty sz n cap f) (Ent.mkRow ty sz n2 cap2 f2) :=
  EntRel.plain rfl rfl rfl rfl (fun h => by cases h) (fun _ _ => ⟨hn, hc⟩) fun _ _ i hi => ⟨hf i hi, hp i hi⟩
/-- A row, of one's own or but read. -/
def Ent.rw (own : Bool) (ty sz n cap : Nat) (f : Nat → List CV) : Ent := ⟨own, false, ty, sz, 1, fun _ => n, fun _ => cap, fun _ i => f i, []⟩
theorem EntRel.rw {n0 : Nat} {ρ : List Nat} {N ty sz n cap n2 cap2 : Nat} {own : Bool} {f f2 : Nat → List CV} (hn : n2 = n) (hc : cap2 = cap) (hf : ∀ i, i < n → f i = f2 i) (hp : ∀ i, i < n → plainB (f2 i) = true) : EntRel n0 ρ N (Ent.rw own ty sz n cap f) (Ent.rw own ty sz n2 cap2 f2) :=
  EntRel.plain rfl rfl rfl rfl (fun h => by cases h) (fun _ _ => ⟨hn, hc⟩) fun _ _ i hi => ⟨hf i hi, hp i hi⟩
theorem EntRel.dead {n0 : Nat} {ρ : List Nat} {N : Nat} : EntRel n0 ρ N Ent.dead Ent.dead := EntRel.plain rfl rfl rfl rfl (fun h => by cases h) (fun _ _ => ⟨rfl, rfl⟩) fun _ hj => absurd hj (Nat.not_lt_zero _)
theorem EntRel.box_ {n0 : Nat} {ρ : List Nat} {N ty : Nat} {cs cs2 : List CV} (h1 : cs = cs2.map (fun x => (x.ren ρ).nilz n0)) (h2 : cs2.all (CV.lt N) = true) : EntRel n0 ρ N (Ent.mkBox ty cs) (Ent.mkBox ty cs2) := by
  have hl : cs.length = cs2.length := by rw [h1, List.length_map]
  exact ⟨rfl, rfl, hl.symm, rfl, fun _ => ⟨rfl, rfl, rfl⟩, fun _ _ => ⟨rfl, rfl⟩, fun j _ i _ => ⟨h1, List.all_eq_true.1 h2⟩⟩
theorem EntRel.box' {n0 : Nat} {ρ : List Nat} {N ty sz : Nat} {n n2 c c2 : Nat → Nat} {cs cs2 : List CV} (h1 : cs = cs2.map (fun x => (x.ren ρ).nilz n0)) (h2 : cs2.all (CV.lt N) = true) (hn : n 0 = n2 0) (hc : c 0 = c2 0) (h3 : n2 0 = 1) : EntRel n0 ρ N ⟨true, true, ty, sz, 1, n, c, fun _ _ => cs, []⟩ ⟨true, true, ty, sz, 1, n2, c2, fun _ _ => cs2, []⟩ :=
  ⟨rfl, rfl, rfl, rfl, fun _ => ⟨rfl, rfl, h3⟩, fun j hj => by
    have hj : j < 1 := hj
    obtain rfl : j = 0 := by omega
    exact ⟨hn.symm, hc.symm⟩, fun j _ i _ => ⟨h1, List.all_eq_true.1 h2⟩⟩
def Rels (n0 : Nat) (U : Hp) (ρ : List Nat) (N : Nat) : List Nat → Hp → Prop
  | _, [] => True
  | k :: ks, e2 :: r => (∃ e, U.get k = some e ∧ EntRel n0 ρ N e e2) ∧ Rels n0 U ρ N ks r
  | [], _ :: _ => False
def Rels2 (n0 : Nat) (U : Hp) (ρ : List Nat) (N : Nat) : List Nat → Hp → Prop
  | _, [] => True
  | k :: ks, e2 :: r => (e2 = Ent.dead ∨ ∃ e, U.get k = some e ∧ EntRel n0 ρ N e e2) ∧ Rels2 n0 U ρ N ks r
  | [], _ :: _ => False
theorem Rels2.get {n0 : Nat} {U : Hp} {ρ : List Nat} {N : Nat} : ∀ {ks : List Nat} {S : Hp}, Rels2 n0 U ρ N ks S → ∀ k e2, S.get k = some e2 → e2 = Ent.dead ∨ ∃ e, U.get (ks.getD k 0) = some e ∧ EntRel n0 ρ N e e2
  | _, [], _, k, e2, h => by cases k <;> cases h
  | k0 :: ks, e0 :: S, h, 0, e2, hx => by
    have hx : some e0 = some e2 := hx
    cases hx
    simpa using h.1
  | k0 :: ks, e0 :: S, h, k + 1, e2, hx => by simpa using Rels2.get h.2 k e2 hx
  | [], _ :: _, h, _, _, _ => h.elim
theorem Rels.get {n0 : Nat} {U : Hp} {ρ : List Nat} {N : Nat} : ∀ {ks : List Nat} {S : Hp}, Rels n0 U ρ N ks S → ∀ k e2, S.get k = some e2 → ∃ e, U.get (ks.getD k 0) = some e ∧ EntRel n0 ρ N e e2
  | _, [], _, k, e2, h => by cases k <;> cases h
  | k0 :: ks, e0 :: S, h, 0, e2, hx => by
    have hx : some e0 = some e2 := hx
    cases hx
    simpa using h.1
  | k0 :: ks, e0 :: S, h, k + 1, e2, hx => by simpa using Rels.get h.2 k e2 hx
  | [], _ :: _, h, _, _, _ => h.elim
/-- And how a callee's entries stand to the caller's. -/
def Back (n0 : Nat) (ρ : List Nat) (N : Nat) (H0 : Hp) : Nat → Hp → Hp → Prop
  | _, _, [] => True
  | k, e :: new, e2 :: r => (EntRel n0 ρ N e e2 ∧ e.box = e2.box ∧ (e.box = true → e.ov = [] ∧ e.n 0 = 1) ∧ (e2.own = true ∨ e2.own = e2.own)) ∧ Back n0 ρ N H0 (k + 1) new r
  | _, [], _ :: _ => False
theorem Back.get {n0 : Nat} {ρ : List Nat} {N : Nat} {H0 : Hp} : ∀ {k0 : Nat} {new S : Hp}, Back n0 ρ N H0 k0 new S → ∀ k e2, S.get k = some e2 → ∃ e, new.get k = some e ∧ EntRel n0 ρ N e e2 ∧ e.box = e2.box ∧ (e.box = true → e.ov = [] ∧ e.n 0 = 1) ∧ (e2.own = true ∨ e2.own = e2.own)
  | _, _, [], _, k, e2, h => by cases k <;> cases h
  | k0, e :: new, e0 :: S, h, 0, e2, hx => by
    have hx : some e0 = some e2 := hx
    cases hx
    exact ⟨e, rfl, h.1⟩
  | k0, e :: new, e0 :: S, h, k + 1, e2, hx => by
    obtain ⟨e', h1, h2, h3, h4, h5⟩ := Back.get h.2 k e2 hx
    exact ⟨e', h1, h2, h3, h4, h5⟩
  | _, [], _ :: _, h, _, _, _ => h.elim
theorem fits_of {C : CallSpec} {args : List AV} {H : Hp} (hb : (nodup C.ρ && Nat.beq C.ρ.length C.H0.length && C.ρ.all (fun k => Nat.blt k (C.up H).length) && C.args0.all (AV.lt C.H0.length)) = true)
    (ha : args = C.args0.map (fun x => (x.ren C.ρ).nilz H.length)) (hs : Rels H.length (C.up H) C.ρ C.H0.length C.ρ C.H0)
    (h1 : ∀ c, C.good c → (C.H0.length ≤ (C.H1 c).length ∧ (C.new c).length = (C.H1 c).length) ∧ (C.x c = (C.x0 c).ren (C.ρ' H c) ∧ (C.x0 c).lt (C.H1 c).length = true) ∧ Back ((C.up H).length + (C.H1 c).length) (C.ρ' H c) (C.H1 c).length C.H0 0 (C.new c) (C.H1 c)) : C.Fits args H := by
  simp only [Bool.and_eq_true] at hb
  obtain ⟨⟨⟨h2, h3⟩, h4⟩, h5⟩ := hb
  refine ⟨h2, Nat.eq_of_beq_eq_true h3, fun k hk => Nat.blt_eq.mp (List.all_eq_true.1 h4 k hk), ⟨ha, h5⟩, hs.get, fun c hc => (h1 c hc).1, fun c hc => (h1 c hc).2.1, fun c hc k e2 he => ?_⟩
  exact (h1 c hc).2.2.get k e2 he
/-! ### What a function does, of itself -/
def CallSpec.Post (C : CallSpec) (ν : Val) (w : World) (e : Ending) (w' : World) : Prop := ∃ ν' c, C.good c ∧ e = .returned ((C.x0 c).den ν') ∧ Holds (rootOf ν C.H0 w) ν' (C.H1 c) w'
theorem local_of {G : Ctr} {I : Inv} {f : FuncId} {fn : Func} (hf : Try.prog.funcs[f]? = some fn) {C : CallSpec} (hl : C.args0.all (AV.lt C.H0.length) = true) {keep : List Nat} {T : Tree} (he : xfunc tab G I fn C.args0 C.H0 keep = T) (h : ∀ ν w, ok Try.prog (rootOf ν C.H0 w) fn.ntmps (C.Post ν w) T) : C.Local Try.prog f :=
  fun ν w hh => calls_of tab_ok mixed hf rfl hh hl (he ▸ h ν w)
theorem ok_leaf {P : Program} {nt : Nat} {C : CallSpec} {ν : Val} {w : World} {x : XV} {H : Hp} (c : Nat → Nat) (nils : List (Nat × Nat)) (ρ : List Nat) (hg : C.good c) (hx : x = ((C.x0 c).ren ρ).nilz H.length) (hs : Rels H.length (H ++ nilRows nils) ρ (C.H1 c).length ρ (C.H1 c))
    (hb : (x.lt H.length && (C.x0 c).lt (C.H1 c).length && nodup ρ && Nat.beq ρ.length (C.H1 c).length && headId ρ 0 C.H0.length && Nat.ble C.H0.length (C.H1 c).length) = true) : ok P (rootOf ν C.H0 w) nt (C.Post ν w) (.done x H) := by
  simp only [Bool.and_eq_true] at hb
  obtain ⟨⟨⟨⟨⟨h1, h2⟩, h3⟩, h4⟩, h5⟩, h6⟩ := hb
  intro ν1 w' hh
  obtain ⟨ν2, hA, hnil, hh2⟩ := hh.nils nils
  have hlen := Nat.eq_of_beq_eq_true h4
  have hρ : ∀ q, q < (C.H1 c).length → ρ.getD q 0 < (H ++ nilRows nils).length := fun q hq => by
    obtain ⟨e, he, -⟩ := hs.get q _ (by rw [Hp.get_eq]; exact List.getElem?_eq_getElem hq)
    exact Hp.get_lt he
  refine ⟨ν2.ren ρ, c, hg, ?_, hh2.ren hnil (nodup_spec h3) hlen (take_id h5) (Nat.le_of_ble_eq_true h6) hs.get⟩
  rw [← XV.den_agr hA h1, hx, XV.den_nilz hnil (XV.lt_ren hρ h2), XV.den_ren]
/-- A leaf, member by member. -/
theorem ok_leafG {P : Program} {nt : Nat} {C : CallSpec} {ν : Val} {w : World} {x : XV} {H : Hp} (c : Nat → Nat) (nils : List (Nat × Nat)) (ρ σ : Rn) (hg : C.good c) (hx : x = ((C.x0 c).rg ρ).nilz H.length) (hlt : (x.lt H.length && (C.x0 c).lt (C.H1 c).length) = true)
    (hok : RnOk C.H0.length (C.H1 c).length (H ++ nilRows nils).length ρ) (hs : RgAll H.length ρ σ (H ++ nilRows nils) (C.H1 c).length 0 (C.H1 c)) : ok P (rootOf ν C.H0 w) nt (C.Post ν w) (.done x H) := by
  simp only [Bool.and_eq_true] at hlt
  intro ν1 w' hh
  obtain ⟨ν2, hA, hnil, hh2⟩ := hh.nils nils
  refine ⟨ν2.rg ρ, c, hg, ?_, hh2.rg hnil hok hs⟩
  rw [← XV.den_agr hA hlt.1, hx, XV.den_nilz hnil (XV.lt_rg hok.2.2 hlt.2), XV.den_rg]
section
variable {n0 : Nat} {ρ σ : Rn} {U : Hp} {N k : Nat}
theorem EntRg.dead : EntRg n0 ρ σ U N k Ent.dead := ⟨⟨(fun h => by cases h), .inl rfl⟩, fun j hj => absurd hj (Nat.not_lt_zero _)⟩
theorem EntRg.one {e e2 : Ent} (hb : BoxOk e2) (hm : e2.m = 1) (hu : U.get (ρ k 0).1 = some e) (mr : MemRel n0 ρ N e (ρ k 0).2 e2 0) (hσ : σ (ρ k 0).1 (ρ k 0).2 = (k, 0) ∨ (e2.own = false ∧ (e.own = false ∨ e2.n 0 = 0))) : EntRg n0 ρ σ U N k e2 :=
  ⟨hb, fun j hj => by obtain rfl : j = 0 := (by omega); exact ⟨e, hu, mr, hσ⟩⟩
theorem EntRg.box {ty sz : Nat} {n n2 c c2 : Nat → Nat} {cs cs2 : List CV} (hu : U.get (ρ k 0).1 = some ⟨true, true, ty, sz, 1, n, c, fun _ _ => cs, []⟩) (h0 : (ρ k 0).2 = 0) (h1 : cs = cs2.map (fun x => (x.rg ρ).nilz n0)) (h2 : cs2.all (CV.lt N) = true) (hn : n2 0 = n 0) (hc : c2 0 = c 0) (h3 : n2 0 = 1) (hσ : σ (ρ k 0).1 (ρ k 0).2 = (k, 0)) : EntRg n0 ρ σ U N k ⟨true, true, ty, sz, 1, n2, c2, fun _ _ => cs2, []⟩ :=
  EntRg.one ⟨(fun _ => ⟨rfl, rfl, h3, rfl⟩), .inl rfl⟩ rfl hu ⟨by rw [h0]; exact Nat.one_pos, fun h => h, rfl, rfl, by rw [h0]; exact hn, by rw [h0]; exact hc, fun i _ => ⟨h1, List.all_eq_true.1 h2⟩⟩ (.inl hσ)
theorem plain_rg : ∀ {l : List CV}, plainB l = true → l = l.map (fun x => (x.rg ρ).nilz n0) ∧ ∀ x ∈ l, x.lt N = true
  | [], _ => ⟨rfl, fun x hx => by cases hx⟩
  | .v y :: r, h => by
    obtain ⟨h1, h2⟩ := plain_rg (l := r) h
    refine ⟨?_, fun x hx => ?_⟩
    · show _ = CV.v y :: List.map _ r
      rw [← h1]
    · rcases List.mem_cons.1 hx with rfl | hx
      · rfl
      · exact h2 x hx
  | .ptr _ :: r, h => by cases h
  | .sl .. :: r, h => by cases h
  | .fn .. :: r, h => by cases h
  | .ifp .. :: r, h => by cases h
/-- A row of plain values. -/
theorem EntRg.rw {own2 : Bool} {ty sz n2 cap2 : Nat} {f2 : Nat → List CV} {e : Ent} (hu : U.get (ρ k 0).1 = some e) (h0 : (ρ k 0).2 < e.m) (ho : own2 = true → e.own = true) (ho2 : own2 = true ∨ 0 < sz) (ht : ty = e.ty) (hsz : sz = e.sz) (hn : n2 = e.n (ρ k 0).2) (hc : cap2 = e.cap (ρ k 0).2)
    (hf : ∀ i, i < n2 → e.at (ρ k 0).2 i = f2 i) (hp : ∀ i, i < n2 → plainB (f2 i) = true) (hσ : σ (ρ k 0).1 (ρ k 0).2 = (k, 0) ∨ (own2 = false ∧ (e.own = false ∨ n2 = 0))) : EntRg n0 ρ σ U N k (Ent.rw own2 ty sz n2 cap2 f2) :=
  EntRg.one ⟨(fun h => by cases h), ho2⟩ rfl hu ⟨h0, ho, ht, hsz, hn, hc, fun i hi => ⟨(hf i (hn ▸ hi)).trans (plain_rg (N := N) (hp i (hn ▸ hi))).1, (plain_rg (N := N) (ρ := ρ) (n0 := n0) (hp i (hn ▸ hi))).2⟩⟩ hσ
end
/-- Blocks by a list of numbers. -/
def lr (l : List Nat) : Rn := fun k j => (l.getD k 0, j)
def idxL (i : Nat) : Nat → List Nat → Nat → Nat
  | _, [], a => a
  | q, k :: r, a => idxL i (q + 1) r (bif Nat.beq k i then q else a)
def invL (l : List Nat) (n : Nat) : List Nat := (List.range n).map fun i => idxL i 0 l 0
def Rm.of (l : List Nat) (n : Nat) : Rm := .g (lr l) (lr (invL l n))
/-- A leaf where some of what is known is let go, or moved. -/
theorem ok_leaf2 {P : Program} {nt : Nat} {C : CallSpec} {ν : Val} {w : World} {x : XV} {H : Hp} (c : Nat → Nat) (nils : List (Nat × Nat)) (ρ : List Nat) (hg : C.good c) (hx : x = ((C.x0 c).ren ρ).nilz H.length) (hs : Rels2 H.length (H ++ nilRows nils) ρ (C.H1 c).length ρ (C.H1 c))
    (hb : (x.lt H.length && (C.x0 c).lt (C.H1 c).length && liveNodup ρ (C.H1 c) && Nat.beq ρ.length (C.H1 c).length && headId ρ 0 C.H0.length && Nat.ble C.H0.length (C.H1 c).length && ρ.all (fun k => Nat.blt k (H ++ nilRows nils).length)) = true) : ok P (rootOf ν C.H0 w) nt (C.Post ν w) (.done x H) := by
  simp only [Bool.and_eq_true] at hb
  obtain ⟨⟨⟨⟨⟨⟨h1, h2⟩, h3⟩, h4⟩, h5⟩, h6⟩, h7⟩ := hb
  intro ν1 w' hh
  obtain ⟨ν2, hA, hnil, hh2⟩ := hh.nils nils
  have hlen := Nat.eq_of_beq_eq_true h4
  have hρ : ∀ q, q < (C.H1 c).length → ρ.getD q 0 < (H ++ nilRows nils).length := fun q hq => by
    rw [List.getD_eq_getElem?_getD, List.getElem?_eq_getElem (by omega), Option.getD_some]
    exact Nat.blt_eq.mp (List.all_eq_true.1 h7 _ (List.getElem_mem _))
  refine ⟨ν2.ren ρ, c, hg, ?_, hh2.ren2 hnil h3 hlen (take_id h5) (Nat.le_of_ble_eq_true h6) hρ hs.get⟩
  rw [← XV.den_agr hA h1, hx, XV.den_nilz hnil (XV.lt_ren hρ h2), XV.den_ren]
section
variable {P : Program} {R : Root} {nt : Nat} {Rp : Ending → World → Prop}
theorem ok_every' {σ : Type} {k : σ → Tree} (h : ∀ s, ok P R nt Rp (k s)) : ok P R nt Rp (.every σ k) := h
theorem ok_some' {σ : Type} {k : σ → Tree} (s : σ) (h : ok P R nt Rp (k s)) : ok P R nt Rp (.some_ σ k) := ⟨s, h⟩
theorem ok_need' {p : Prop} (h : p) : ok P R nt Rp (.need p) := h
theorem ok_callf' {f : FuncId} {args : List AV} {H : Hp} {C : CallSpec} {k : (Nat → Nat) → Tree} (hc : Callable P f) (hf : C.Fits args H) (hl : C.Local P f) (hk : ∀ c, C.good c → ok P R nt Rp (k c)) : ok P R nt Rp (.callf f args H C k) := ⟨hc, hf, hl, hk⟩
end
/-- A function of plain values. -/
theorem calls0 {G : Ctr} {I : Inv} {f : FuncId} {fn : Func} (hf : Try.prog.funcs[f]? = some fn) (w : World) (args : List AV) (hl : args.all (AV.lt 0) = true) {v : Value}
    (h : ok Try.prog ⟨w, fun _ => False, 0, nov, fun _ => False⟩ fn.ntmps (fun e w' => e = .returned v ∧ Below w.heap.size w w') (xfunc tab G I fn args [] [])) :
    Calls Try.prog f (args.map (AV.den nov)).toArray w fun e w' => e = .returned v ∧ Below w.heap.size w w' :=
  calls_of tab_ok mixed hf rfl (holds_nil w _ _) hl h
end Go.Proofs.Ytnenbngjdekegaa.X

/- The model: things, by the symbolic run. -/
set_option linter.unusedVariables false
set_option linter.unusedSimpArgs false
namespace Go.Proofs.Ytnenbngjdekegaa.X
open Go Go.RowKit Go.Proofs.YtnenbngjdekegaaW.PrintWords Go.Proofs.Ytnenbngjdekegaa.Base
abbrev Wt := Int × Int
def wc (x : Wt) : List CV := [.v (.int .i64 x.1), .v (.int .i64 x.2)]
def wrow (ws : List Wt) (i : Nat) : List CV := wc (ws.getD i (0, 0))
theorem wrow_plain (ws : List Wt) (i : Nat) : plainB (wrow ws i) = true := rfl
def iv (x : Int) : CV := .v (.int .i64 x)
structure Thg where
  kd : Int
  n : Int
  o : Int
  h : Int
  r0 : Int
  r1 : Int
  r2 : Int
  r3 : Int
  r4 : Int
  r5 : Int
  r6 : Int
  r7 : Int
  f : Int
  i : Int
def Thg.cv (x : Thg) (W : CV) : List CV := [iv x.kd, iv x.n, iv x.o, iv x.h, iv x.r0, iv x.r1, iv x.r2, iv x.r3, iv x.r4, iv x.r5, iv x.r6, iv x.r7, W, iv x.f, iv x.i]
/-- A thing whose waiters lie in block k, from lo on. -/
def Thg.av (x : Thg) (k lo n cap : Nat) : AV := .agg (x.cv (.sl k 0 lo 2 n cap))
abbrev WT : Nat := 37
abbrev Ent.ws (own : Bool) (cap : Nat) (ws : List Wt) : Ent := Ent.rw own WT 2 ws.length cap (wrow ws)
theorem EntRel.ws {n0 : Nat} {ρ : List Nat} {N cap : Nat} {own : Bool} {ws : List Wt} : EntRel n0 ρ N (Ent.ws own cap ws) (Ent.ws own cap ws) := EntRel.rw rfl rfl (fun _ _ => rfl) fun i _ => wrow_plain ws i
def placeF (ws : List Wt) (t : Int) (i : Nat) : Int := match ws with
  | [] => -1
  | x :: r => bif x.1 == t then i else placeF r t (i + 1)
/-- A loop that counts: slot t, up to n; p: what is known of the count. -/
def countInv (t n : Nat) (p : Nat → Prop) (h : p 0) (tm : Tm) (H : Hp) : LoopInv := ⟨{i : Nat // p i}, fun i => (tm.put (some t) (.a (.c (.v (.int .i64 (i.1 : Int))))), H), fun i => n - i.1, some ⟨0, h⟩, [], .l (List.range H.length), [], fun _ _ => .l (List.range H.length)⟩
def putAll : Tm → Tm → Tm
  | [], tm => tm
  | (u, x) :: r, tm => (putAll r tm).put (some u) x
def ia (x : Int) : XV := .a (.c (.v (.int .i64 x)))
/-- A loop that counts up to n, and has more than the count. -/
def cntInv (n : Nat) (p : Nat → Prop) (h : p 0) (vars : Nat → Tm) (tm : Tm) (H : Hp) : LoopInv := ⟨{i : Nat // p i}, fun i => (putAll (vars i.1) tm, H), fun i => n - i.1, some ⟨0, h⟩, [], .l (List.range H.length), [], fun _ _ => .l (List.range H.length)⟩
/-- A call that but reads. -/
def rdSpec (ρ : List Nat) (args0 : List AV) (H0 : Hp) (x : XV) : CallSpec := ⟨[], ρ, args0, H0, fun _ => True, fun _ => x, fun _ => H0, fun _ => x, fun _ => H0, [], []⟩
theorem wrap64 {x : Int} (h1 : -9223372036854775808 ≤ x) (h2 : x ≤ 9223372036854775807) : IntKind.wrap .i64 x = x := IntWalk.i64_in x ⟨h1, h2⟩
def placeP (ws : List Wt) (t : Int) (i : Nat) : Prop := i ≤ ws.length ∧ placeF ws t 0 = placeF (ws.drop i) t i
theorem placeP0 (ws : List Wt) (t : Int) : placeP ws t 0 := ⟨Nat.zero_le _, rfl⟩
theorem placeP.step {ws : List Wt} {t : Int} {i : Nat} (h : placeP ws t i) (hi : i < ws.length) : placeF ws t 0 = bif (ws.getD i (0, 0)).1 == t then (i : Int) else placeF (ws.drop (i + 1)) t (i + 1) := by
  rw [h.2, List.drop_eq_getElem_cons hi]
  simp only [placeF, List.getD_eq_getElem?_getD, List.getElem?_eq_getElem hi, Option.getD_some]
theorem placeP.over {ws : List Wt} {t : Int} {i : Nat} (h : placeP ws t i) (hi : ¬ i < ws.length) : placeF ws t 0 = -1 := by
  rw [h.2, List.drop_of_length_le (by omega)]; rfl
def t16 (x : Thg) (t : Int) (ws : List Wt) (own : Bool) (cap : Nat) : Tree :=
  Tree.both
   (Tree.chk (XV.a (AV.c (CV.v (Value.int IntKind.i64 (0 : Int)))) = XV.a (AV.c (CV.v (Value.int IntKind.i64 (0 : Int)))))
   (Tree.chk (XV.a (AV.c (CV.v (Value.int IntKind.i64 (0 : Int)))) = XV.a (AV.c (CV.v (Value.int IntKind.i64 (0 : Int)))))
   (Tree.chk (XV.a (AV.c (CV.ptr { k := 1, j := 0, i := 0, sz := 15, c := 0, d := 0, dn := 0, cu := 0 })) = XV.a (AV.c (CV.ptr { k := 1, j := 0, i := 0, sz := 15, c := 0, d := 0, dn := 0, cu := 0 })))
   (Tree.chk (XV.a (AV.agg [CV.v (Value.int IntKind.i64 x.1), CV.v (Value.int IntKind.i64 x.2), CV.v (Value.int IntKind.i64 x.3), CV.v (Value.int IntKind.i64 x.4), CV.v (Value.int IntKind.i64 x.5), CV.v (Value.int IntKind.i64 x.6), CV.v (Value.int IntKind.i64 x.7), CV.v (Value.int IntKind.i64 x.8), CV.v (Value.int IntKind.i64 x.9), CV.v (Value.int IntKind.i64 x.10), CV.v (Value.int IntKind.i64 x.11), CV.v (Value.int IntKind.i64 x.12), CV.sl 0 0 0 2 (List.length ws) cap, CV.v (Value.int IntKind.i64 x.13), CV.v (Value.int IntKind.i64 x.14)]) = XV.a (AV.agg [CV.v (Value.int IntKind.i64 x.1), CV.v (Value.int IntKind.i64 x.2), CV.v (Value.int IntKind.i64 x.3), CV.v (Value.int IntKind.i64 x.4), CV.v (Value.int IntKind.i64 x.5), CV.v (Value.int IntKind.i64 x.6), CV.v (Value.int IntKind.i64 x.7), CV.v (Value.int IntKind.i64 x.8), CV.v (Value.int IntKind.i64 x.9), CV.v (Value.int IntKind.i64 x.10), CV.v (Value.int IntKind.i64 x.11), CV.v (Value.int IntKind.i64 x.12), CV.sl 0 0 0 2 (List.length ws) cap, CV.v (Value.int IntKind.i64 x.13), CV.v (Value.int IntKind.i64 x.14)]))
   (Tree.chk (XV.a (AV.c (CV.v (Value.int IntKind.i64 t))) = XV.a (AV.c (CV.v (Value.int IntKind.i64 t))))
   (Tree.chk (EntRel 2 [0, 1] 2 { own := own, box := false, ty := 37, sz := 2, m := 1, n := fun x => List.length ws, cap := fun x => cap, f := fun x i => [CV.v (Value.int IntKind.i64 (Prod.fst (List.getD ws i ((0 : Int), (0 : Int))))), CV.v (Value.int IntKind.i64 (Prod.snd (List.getD ws i ((0 : Int), (0 : Int)))))], ov := [] } { own := own, box := false, ty := 37, sz := 2, m := 1, n := fun x => List.length ws, cap := fun x => cap, f := fun x i => [CV.v (Value.int IntKind.i64 (Prod.fst (List.getD ws i ((0 : Int), (0 : Int))))), CV.v (Value.int IntKind.i64 (Prod.snd (List.getD ws i ((0 : Int), (0 : Int)))))], ov := [] })
   (Tree.chk (EntRel 2 [0, 1] 2 { own := true, box := true, ty := 25, sz := 15, m := 1, n := fun x => 1, cap := fun x => 1, f := fun x_1 x_2 => [CV.v (Value.int IntKind.i64 x.1), CV.v (Value.int IntKind.i64 x.2), CV.v (Value.int IntKind.i64 x.3), CV.v (Value.int IntKind.i64 x.4), CV.v (Value.int IntKind.i64 x.5), CV.v (Value.int IntKind.i64 x.6), CV.v (Value.int IntKind.i64 x.7), CV.v (Value.int IntKind.i64 x.8), CV.v (Value.int IntKind.i64 x.9), CV.v (Value.int IntKind.i64 x.10), CV.v (Value.int IntKind.i64 x.11), CV.v (Value.int IntKind.i64 x.12), CV.sl 0 0 0 2 (List.length ws) cap, CV.v (Value.int IntKind.i64 x.13), CV.v (Value.int IntKind.i64 x.14)], ov := [] } { own := true, box := true, ty := 25, sz := 15, m := 1, n := fun x => 1, cap := fun x => 1, f := fun x_1 x_2 => [CV.v (Value.int IntKind.i64 x.1), CV.v (Value.int IntKind.i64 x.2), CV.v (Value.int IntKind.i64 x.3), CV.v (Value.int IntKind.i64 x.4), CV.v (Value.int IntKind.i64 x.5), CV.v (Value.int IntKind.i64 x.6), CV.v (Value.int IntKind.i64 x.7), CV.v (Value.int IntKind.i64 x.8), CV.v (Value.int IntKind.i64 x.9), CV.v (Value.int IntKind.i64 x.10), CV.v (Value.int IntKind.i64 x.11), CV.v (Value.int IntKind.i64 x.12), CV.sl 0 0 0 2 (List.length ws) cap, CV.v (Value.int IntKind.i64 x.13), CV.v (Value.int IntKind.i64 x.14)], ov := [] })
   (Tree.need True))))))))
   (Tree.every { i // placeP ws t i } fun s => Tree.br (decide ((↑(Subtype.val s) : Int) < (↑(List.length ws) : Int)))
   (Tree.chk ((0 : Int) ≤ (↑(Subtype.val s) : Int) ∧ (↑(Subtype.val s) : Int) < (↑(List.length ws) : Int) ∧ Int.toNat (↑(Subtype.val s) : Int) < List.length ws ∧ 0 < 1)
   (Tree.chk (0 < 1 ∧ Int.toNat (↑(Subtype.val s) : Int) < List.length ws)
   (Tree.br (Prod.fst (List.getD ws (Int.toNat (↑(Subtype.val s) : Int)) ((0 : Int), (0 : Int))) == t)
   (Tree.done (XV.a (AV.c (CV.v (Value.int IntKind.i64 (↑(Subtype.val s) : Int))))) [{ own := own, box := false, ty := 37, sz := 2, m := 1, n := fun x => List.length ws, cap := fun x => cap, f := fun x i => [CV.v (Value.int IntKind.i64 (Prod.fst (List.getD ws i ((0 : Int), (0 : Int))))), CV.v (Value.int IntKind.i64 (Prod.snd (List.getD ws i ((0 : Int), (0 : Int)))))], ov := [] }, Ent.dead])
   (Tree.some_ { i // placeP ws t i } fun s' => Tree.chk (List.length ws - Subtype.val s' < List.length ws - Subtype.val s)
   (Tree.chk (XV.a (AV.c (CV.v (Value.int IntKind.i64 (IntKind.wrap IntKind.i64 ((↑(Subtype.val s) : Int) + (1 : Int)))))) = XV.a (AV.c (CV.v (Value.int IntKind.i64 (↑(Subtype.val s') : Int)))))
   (Tree.chk (XV.a (AV.c (CV.v (Value.int IntKind.i64 (0 : Int)))) = XV.a (AV.c (CV.v (Value.int IntKind.i64 (0 : Int)))))
   (Tree.chk (XV.a (AV.c (CV.ptr { k := 1, j := 0, i := 0, sz := 15, c := 0, d := 0, dn := 0, cu := 0 })) = XV.a (AV.c (CV.ptr { k := 1, j := 0, i := 0, sz := 15, c := 0, d := 0, dn := 0, cu := 0 })))
   (Tree.chk (XV.a (AV.agg [CV.v (Value.int IntKind.i64 x.1), CV.v (Value.int IntKind.i64 x.2), CV.v (Value.int IntKind.i64 x.3), CV.v (Value.int IntKind.i64 x.4), CV.v (Value.int IntKind.i64 x.5), CV.v (Value.int IntKind.i64 x.6), CV.v (Value.int IntKind.i64 x.7), CV.v (Value.int IntKind.i64 x.8), CV.v (Value.int IntKind.i64 x.9), CV.v (Value.int IntKind.i64 x.10), CV.v (Value.int IntKind.i64 x.11), CV.v (Value.int IntKind.i64 x.12), CV.sl 0 0 0 2 (List.length ws) cap, CV.v (Value.int IntKind.i64 x.13), CV.v (Value.int IntKind.i64 x.14)]) = XV.a (AV.agg [CV.v (Value.int IntKind.i64 x.1), CV.v (Value.int IntKind.i64 x.2), CV.v (Value.int IntKind.i64 x.3), CV.v (Value.int IntKind.i64 x.4), CV.v (Value.int IntKind.i64 x.5), CV.v (Value.int IntKind.i64 x.6), CV.v (Value.int IntKind.i64 x.7), CV.v (Value.int IntKind.i64 x.8), CV.v (Value.int IntKind.i64 x.9), CV.v (Value.int IntKind.i64 x.10), CV.v (Value.int IntKind.i64 x.11), CV.v (Value.int IntKind.i64 x.12), CV.sl 0 0 0 2 (List.length ws) cap, CV.v (Value.int IntKind.i64 x.13), CV.v (Value.int IntKind.i64 x.14)]))
   (Tree.chk (XV.a (AV.c (CV.v (Value.int IntKind.i64 t))) = XV.a (AV.c (CV.v (Value.int IntKind.i64 t))))
   (Tree.chk (EntRel 2 [0, 1] 2 { own := own, box := false, ty := 37, sz := 2, m := 1, n := fun x => List.length ws, cap := fun x => cap, f := fun x i => [CV.v (Value.int IntKind.i64 (Prod.fst (List.getD ws i ((0 : Int), (0 : Int))))), CV.v (Value.int IntKind.i64 (Prod.snd (List.getD ws i ((0 : Int), (0 : Int)))))], ov := [] } { own := own, box := false, ty := 37, sz := 2, m := 1, n := fun x => List.length ws, cap := fun x => cap, f := fun x i => [CV.v (Value.int IntKind.i64 (Prod.fst (List.getD ws i ((0 : Int), (0 : Int))))), CV.v (Value.int IntKind.i64 (Prod.snd (List.getD ws i ((0 : Int), (0 : Int)))))], ov := [] })
   (Tree.chk (EntRel 2 [0, 1] 2 { own := true, box := true, ty := 25, sz := 15, m := 1, n := fun x => 1, cap := fun x => 1, f := fun x_1 x_2 => [CV.v (Value.int IntKind.i64 x.1), CV.v (Value.int IntKind.i64 x.2), CV.v (Value.int IntKind.i64 x.3), CV.v (Value.int IntKind.i64 x.4), CV.v (Value.int IntKind.i64 x.5), CV.v (Value.int IntKind.i64 x.6), CV.v (Value.int IntKind.i64 x.7), CV.v (Value.int IntKind.i64 x.8), CV.v (Value.int IntKind.i64 x.9), CV.v (Value.int IntKind.i64 x.10), CV.v (Value.int IntKind.i64 x.11), CV.v (Value.int IntKind.i64 x.12), CV.sl 0 0 0 2 (List.length ws) cap, CV.v (Value.int IntKind.i64 x.13), CV.v (Value.int IntKind.i64 x.14)], ov := [] } { own := true, box := true, ty := 25, sz := 15, m := 1, n := fun x => 1, cap := fun x => 1, f := fun x_1 x_2 => [CV.v (Value.int IntKind.i64 x.1), CV.v (Value.int IntKind.i64 x.2), CV.v (Value.int IntKind.i64 x.3), CV.v (Value.int IntKind.i64 x.4), CV.v (Value.int IntKind.i64 x.5), CV.v (Value.int IntKind.i64 x.6), CV.v (Value.int IntKind.i64 x.7), CV.v (Value.int IntKind.i64 x.8), CV.v (Value.int IntKind.i64 x.9), CV.v (Value.int IntKind.i64 x.10), CV.v (Value.int IntKind.i64 x.11), CV.v (Value.int IntKind.i64 x.12), CV.sl 0 0 0 2 (List.length ws) cap, CV.v (Value.int IntKind.i64 x.13), CV.v (Value.int IntKind.i64 x.14)], ov := [] })
   (Tree.need True))))))))))))
   (Tree.done (XV.a (AV.c (CV.v (Value.int IntKind.i64 (-1 : Int))))) [{ own := own, box := false, ty := 37, sz := 2, m := 1, n := fun x => List.length ws, cap := fun x => cap, f := fun x i => [CV.v (Value.int IntKind.i64 (Prod.fst (List.getD ws i ((0 : Int), (0 : Int))))), CV.v (Value.int IntKind.i64 (Prod.snd (List.getD ws i ((0 : Int), (0 : Int)))))], ov := [] }, Ent.dead]))
theorem t16_eq (x : Thg) (t : Int) (ws : List Wt) (own : Bool) (cap : Nat) : xfunc tab noCtr (lpI fun _ tm H => (countInv 5 ws.length (placeP ws t) (placeP0 ws t) tm H)) Go.Proofs.Try.f30 [x.av 0 0 ws.length cap, .c (iv t)] [Ent.ws own cap ws] [0] = t16 x t ws own cap := by kernel_rfl
def placeC (x : Thg) (t : Int) (ws : List Wt) (own : Bool) (cap : Nat) (ρ : List Nat) : CallSpec := rdSpec ρ [x.av 0 0 ws.length cap, .c (iv t)] [Ent.ws own cap ws] (.a (.c (iv (placeF ws t 0))))
theorem place_local (x : Thg) (t : Int) (ws : List Wt) (own : Bool) (cap : Nat) (ρ : List Nat) (hl : ws.length ≤ 9223372036854775806) : (placeC x t ws own cap ρ).Local Try.prog 30 := by
  refine local_of Try.func30 rfl (t16_eq x t ws own cap) fun ν w => ?_
  refine ok_both' ?_ (ok_every' fun s => ok_br' (fun h => ?_) fun h => ?_)
  · repeat' first | exact rfl | exact EntRel.ws | exact EntRel.box' rfl rfl rfl rfl rfl | exact trivial | refine ok_chk' ?_ ?_
  · have hp : placeP ws t s.1 := s.2
    have hi : s.1 < ws.length := by simp only [decide_eq_true_eq] at h; omega
    refine ok_chk' ⟨by omega, by omega, by omega, by omega⟩ (ok_chk' ⟨by omega, by omega⟩ (ok_br' (fun h2 => ?_) fun h2 => ?_))
    · refine ok_leaf (fun _ => 0) [] [0] trivial ?_ ⟨⟨_, rfl, EntRel.ws⟩, trivial⟩ rfl
      show _ = XV.a (.c (iv (placeF ws t 0)))
      have h2 : ((ws.getD s.1 (0, 0)).1 == t) = true := h2
      rw [hp.step hi, h2]; rfl
    · have h2 : ((ws.getD s.1 (0, 0)).1 == t) = false := h2
      refine ok_some' ⟨s.1 + 1, hi, by rw [hp.step hi, h2]; rfl⟩ (ok_chk' (Nat.sub_lt_sub_left hi (Nat.lt_succ_self _)) (ok_chk' ?_ ?_))
      · rw [wrap64 (by omega) (by omega)]; rfl
      · repeat' first | exact rfl | exact EntRel.ws | exact EntRel.box' rfl rfl rfl rfl rfl | exact trivial | refine ok_chk' ?_ ?_
  · refine ok_leaf (fun _ => 0) [] [0] trivial ?_ ⟨⟨_, rfl, EntRel.ws⟩, trivial⟩ rfl
    show _ = XV.a (.c (iv (placeF ws t 0)))
    rw [s.2.over (by simp only [decide_eq_false_iff_not] at h; omega)]; rfl
end Go.Proofs.Ytnenbngjdekegaa.X

/- The model: reads, waits. -/
set_option linter.unusedVariables false
set_option linter.unusedSimpArgs false
namespace Go.Proofs.Ytnenbngjdekegaa.X
open Go Go.RowKit Go.Proofs.YtnenbngjdekegaaW.PrintWords Go.Proofs.Ytnenbngjdekegaa.Base
def Thg.rs (x : Thg) : List Int := [x.r0, x.r1, x.r2, x.r3, x.r4, x.r5, x.r6, x.r7]
def allW (l : List Int) : Nat → Int
  | 0 => 0
  | i + 1 => IntKind.wrap .i64 (allW l i + l.getD i 0)
def le8 (i : Nat) : Prop := i ≤ 8
theorem le80 : le8 0 := Nat.zero_le _
abbrev bref (k sz : Nat) : Ref := ⟨k, 0, 0, sz, 0, 0, 0, 0⟩
abbrev Ent.ibox (t : Int) : Ent := Ent.mkBox 3 [iv t]
def sameC (a b t : Int) (ρ : List Nat) : CallSpec := rdSpec ρ [.agg [iv a, iv b], .c (.ptr (bref 0 1))] [Ent.ibox t] (.a (.c (.v (.bool (a == t)))))
def sameG (t : Int) : Ctr := fun f args H => match args with
  | [.agg [.v (.int _ a), .v (.int _ b)], .c (.ptr r)] => some (sameC a b t [r.k])
  | _ => none
def indexC (ws : List Wt) (t : Int) (own : Bool) (cap fid : Nat) (ρ : List Nat) : CallSpec := rdSpec ρ [.c (.sl 0 0 0 2 ws.length cap), .c (.fn fid [bref 1 1])] [Ent.ws own cap ws, Ent.ibox t] (.a (.c (iv (placeF ws t 0))))
def indexG (ws : List Wt) (t : Int) (own : Bool) : Ctr := fun f args H => match args with
  | [.c (.sl k _ _ _ _ cap), .c (.fn fid [r])] => some (indexC ws t own cap fid [k, r.k])
  | _ => none
def containsC (ws : List Wt) (t : Int) (own : Bool) (cap fid : Nat) (ρ : List Nat) : CallSpec := rdSpec ρ [.c (.sl 0 0 0 2 ws.length cap), .c (.fn fid [bref 1 1])] [Ent.ws own cap ws, Ent.ibox t] (.a (.c (.v (.bool (decide (placeF ws t 0 ≥ 0))))))
def containsG (ws : List Wt) (t : Int) (own : Bool) : Ctr := fun f args H => match args with
  | [.c (.sl k _ _ _ _ cap), .c (.fn fid [r])] => some (containsC ws t own cap fid [k, r.k])
  | _ => none
def treads (x : Thg) (ws : List Wt) (own : Bool) (cap : Nat) : Tree :=
  Tree.both
   (Tree.chk (XV.a (AV.c (iv (0 : Int))) = XV.a (AV.c (iv (0 : Int))))
   (Tree.chk (XV.a (AV.c (iv (0 : Int))) = XV.a (AV.c (iv (0 : Int))))
   (Tree.chk (XV.a (AV.agg [iv x.5, iv x.6, iv x.7, iv x.8, iv x.9, iv x.10, iv x.11, iv x.12]) = XV.a (AV.agg [iv x.5, iv x.6, iv x.7, iv x.8, iv x.9, iv x.10, iv x.11, iv x.12]))
   (Tree.chk (XV.a (AV.c (CV.ptr { k := 1, j := 0, i := 0, sz := 15, c := 4, d := 0, dn := 0, cu := 0 })) = XV.a (AV.c (CV.ptr { k := 1, j := 0, i := 0, sz := 15, c := 4, d := 0, dn := 0, cu := 0 })))
   (Tree.chk (XV.a (AV.c (iv (0 : Int))) = XV.a (AV.c (iv (0 : Int))))
   (Tree.chk (XV.a (AV.c (CV.ptr { k := 1, j := 0, i := 0, sz := 15, c := 0, d := 0, dn := 0, cu := 0 })) = XV.a (AV.c (CV.ptr { k := 1, j := 0, i := 0, sz := 15, c := 0, d := 0, dn := 0, cu := 0 })))
   (Tree.chk (XV.a (AV.agg [iv x.1, iv x.2, iv x.3, iv x.4, iv x.5, iv x.6, iv x.7, iv x.8, iv x.9, iv x.10, iv x.11, iv x.12, CV.sl 0 0 0 2 (List.length ws) cap, iv x.13, iv x.14]) = XV.a (AV.agg [iv x.1, iv x.2, iv x.3, iv x.4, iv x.5, iv x.6, iv x.7, iv x.8, iv x.9, iv x.10, iv x.11, iv x.12, CV.sl 0 0 0 2 (List.length ws) cap, iv x.13, iv x.14]))
   (Tree.chk (EntRel 2 [0, 1] 2 (Ent.ws own cap ws) (Ent.ws own cap ws))
   (Tree.chk (EntRel 2 [0, 1] 2 (Ent.mkBox 25 [iv x.1, iv x.2, iv x.3, iv x.4, iv x.5, iv x.6, iv x.7, iv x.8, iv x.9, iv x.10, iv x.11, iv x.12, CV.sl 0 0 0 2 (List.length ws) cap, iv x.13, iv x.14]) (Ent.mkBox 25 [iv x.1, iv x.2, iv x.3, iv x.4, iv x.5, iv x.6, iv x.7, iv x.8, iv x.9, iv x.10, iv x.11, iv x.12, CV.sl 0 0 0 2 (List.length ws) cap, iv x.13, iv x.14]))
   (Tree.need True))))))))))
   (Tree.every { i // le8 i } fun s => Tree.br (decide ((↑(Subtype.val s) : Int) < (8 : Int)))
   (Tree.chk ((0 : Int) ≤ (↑(Subtype.val s) : Int) ∧ (↑(Subtype.val s) : Int) < (↑8 : Int))
   (Tree.some_ { i // le8 i } fun s' => Tree.chk (8 - Subtype.val s' < 8 - Subtype.val s)
   (Tree.chk (XV.a (AV.c (iv (IntKind.wrap IntKind.i64 ((↑(Subtype.val s) : Int) + (1 : Int))))) = XV.a (AV.c (iv (↑(Subtype.val s') : Int))))
   (Tree.chk (XV.a (AV.c (iv (IntKind.wrap IntKind.i64 (allW [x.5, x.6, x.7, x.8, x.9, x.10, x.11, x.12] (Subtype.val s) + List.getD [x.5, x.6, x.7, x.8, x.9, x.10, x.11, x.12] (Int.toNat (↑(Subtype.val s) : Int)) (0 : Int))))) = XV.a (AV.c (iv (allW [x.5, x.6, x.7, x.8, x.9, x.10, x.11, x.12] (Subtype.val s')))))
   (Tree.chk (XV.a (AV.agg [iv x.5, iv x.6, iv x.7, iv x.8, iv x.9, iv x.10, iv x.11, iv x.12]) = XV.a (AV.agg [iv x.5, iv x.6, iv x.7, iv x.8, iv x.9, iv x.10, iv x.11, iv x.12]))
   (Tree.chk (XV.a (AV.c (CV.ptr { k := 1, j := 0, i := 0, sz := 15, c := 4, d := 0, dn := 0, cu := 0 })) = XV.a (AV.c (CV.ptr { k := 1, j := 0, i := 0, sz := 15, c := 4, d := 0, dn := 0, cu := 0 })))
   (Tree.chk (XV.a (AV.c (iv (0 : Int))) = XV.a (AV.c (iv (0 : Int))))
   (Tree.chk (XV.a (AV.c (CV.ptr { k := 1, j := 0, i := 0, sz := 15, c := 0, d := 0, dn := 0, cu := 0 })) = XV.a (AV.c (CV.ptr { k := 1, j := 0, i := 0, sz := 15, c := 0, d := 0, dn := 0, cu := 0 })))
   (Tree.chk (XV.a (AV.agg [iv x.1, iv x.2, iv x.3, iv x.4, iv x.5, iv x.6, iv x.7, iv x.8, iv x.9, iv x.10, iv x.11, iv x.12, CV.sl 0 0 0 2 (List.length ws) cap, iv x.13, iv x.14]) = XV.a (AV.agg [iv x.1, iv x.2, iv x.3, iv x.4, iv x.5, iv x.6, iv x.7, iv x.8, iv x.9, iv x.10, iv x.11, iv x.12, CV.sl 0 0 0 2 (List.length ws) cap, iv x.13, iv x.14]))
   (Tree.chk (EntRel 2 [0, 1] 2 (Ent.ws own cap ws) (Ent.ws own cap ws))
   (Tree.chk (EntRel 2 [0, 1] 2 (Ent.mkBox 25 [iv x.1, iv x.2, iv x.3, iv x.4, iv x.5, iv x.6, iv x.7, iv x.8, iv x.9, iv x.10, iv x.11, iv x.12, CV.sl 0 0 0 2 (List.length ws) cap, iv x.13, iv x.14]) (Ent.mkBox 25 [iv x.1, iv x.2, iv x.3, iv x.4, iv x.5, iv x.6, iv x.7, iv x.8, iv x.9, iv x.10, iv x.11, iv x.12, CV.sl 0 0 0 2 (List.length ws) cap, iv x.13, iv x.14]))
   (Tree.need True))))))))))))
   (Tree.done (XV.a (AV.c (iv (allW [x.5, x.6, x.7, x.8, x.9, x.10, x.11, x.12] (Subtype.val s))))) [(Ent.ws own cap ws), Ent.dead]))
theorem treads_eq (x : Thg) (ws : List Wt) (own : Bool) (cap : Nat) : xfunc tab noCtr (lpI fun _ tm H => (cntInv 8 le8 le80 (fun i => [(8, ia i), (3, ia (allW x.rs i))]) tm H)) Go.Proofs.Try.f37 [x.av 0 0 ws.length cap] [Ent.ws own cap ws] [0] = treads x ws own cap := by kernel_rfl
def tReads (x : Thg) (ws : List Wt) (own : Bool) (cap : Nat) : Tree :=
  Tree.both
   (Tree.chk (XV.a (AV.c (iv (0 : Int))) = XV.a (AV.c (iv (0 : Int))))
   (Tree.chk (XV.a (AV.c (iv (0 : Int))) = XV.a (AV.c (iv (0 : Int))))
   (Tree.chk (XV.a (AV.c (iv (0 : Int))) = XV.a (AV.c (iv (0 : Int))))
   (Tree.chk (XV.a (AV.c (CV.ptr { k := 1, j := 0, i := 0, sz := 15, c := 0, d := 0, dn := 0, cu := 0 })) = XV.a (AV.c (CV.ptr { k := 1, j := 0, i := 0, sz := 15, c := 0, d := 0, dn := 0, cu := 0 })))
   (Tree.chk (XV.a (AV.agg [iv x.1, iv x.2, iv x.3, iv x.4, iv x.5, iv x.6, iv x.7, iv x.8, iv x.9, iv x.10, iv x.11, iv x.12, CV.sl 0 0 0 2 (List.length ws) cap, iv x.13, iv x.14]) = XV.a (AV.agg [iv x.1, iv x.2, iv x.3, iv x.4, iv x.5, iv x.6, iv x.7, iv x.8, iv x.9, iv x.10, iv x.11, iv x.12, CV.sl 0 0 0 2 (List.length ws) cap, iv x.13, iv x.14]))
   (Tree.chk (EntRel 2 [0, 1] 2 (Ent.ws own cap ws) (Ent.ws own cap ws))
   (Tree.chk (EntRel 2 [0, 1] 2 (Ent.mkBox 25 [iv x.1, iv x.2, iv x.3, iv x.4, iv x.5, iv x.6, iv x.7, iv x.8, iv x.9, iv x.10, iv x.11, iv x.12, CV.sl 0 0 0 2 (List.length ws) cap, iv x.13, iv x.14]) (Ent.mkBox 25 [iv x.1, iv x.2, iv x.3, iv x.4, iv x.5, iv x.6, iv x.7, iv x.8, iv x.9, iv x.10, iv x.11, iv x.12, CV.sl 0 0 0 2 (List.length ws) cap, iv x.13, iv x.14]))
   (Tree.need True))))))))
   (Tree.every { i // le8 i } fun s => Tree.br (decide ((↑(Subtype.val s) : Int) < (8 : Int)))
   (Tree.chk ((0 : Int) ≤ (↑(Subtype.val s) : Int) ∧ (↑(Subtype.val s) : Int) < (↑8 : Int))
   (Tree.chk (Int.toNat (↑(Subtype.val s) : Int) < 8)
   (Tree.some_ { i // le8 i } fun s' => Tree.chk (8 - Subtype.val s' < 8 - Subtype.val s)
   (Tree.chk (XV.a (AV.c (iv (IntKind.wrap IntKind.i64 ((↑(Subtype.val s) : Int) + (1 : Int))))) = XV.a (AV.c (iv (↑(Subtype.val s') : Int))))
   (Tree.chk (XV.a (AV.c (iv (IntKind.wrap IntKind.i64 (allW [x.5, x.6, x.7, x.8, x.9, x.10, x.11, x.12] (Subtype.val s) + List.getD [x.5, x.6, x.7, x.8, x.9, x.10, x.11, x.12] (Int.toNat (↑(Subtype.val s) : Int)) (0 : Int))))) = XV.a (AV.c (iv (allW [x.5, x.6, x.7, x.8, x.9, x.10, x.11, x.12] (Subtype.val s')))))
   (Tree.chk (XV.a (AV.c (iv (0 : Int))) = XV.a (AV.c (iv (0 : Int))))
   (Tree.chk (XV.a (AV.c (CV.ptr { k := 1, j := 0, i := 0, sz := 15, c := 0, d := 0, dn := 0, cu := 0 })) = XV.a (AV.c (CV.ptr { k := 1, j := 0, i := 0, sz := 15, c := 0, d := 0, dn := 0, cu := 0 })))
   (Tree.chk (XV.a (AV.agg [iv x.1, iv x.2, iv x.3, iv x.4, iv x.5, iv x.6, iv x.7, iv x.8, iv x.9, iv x.10, iv x.11, iv x.12, CV.sl 0 0 0 2 (List.length ws) cap, iv x.13, iv x.14]) = XV.a (AV.agg [iv x.1, iv x.2, iv x.3, iv x.4, iv x.5, iv x.6, iv x.7, iv x.8, iv x.9, iv x.10, iv x.11, iv x.12, CV.sl 0 0 0 2 (List.length ws) cap, iv x.13, iv x.14]))
   (Tree.chk (EntRel 2 [0, 1] 2 (Ent.ws own cap ws) (Ent.ws own cap ws))
   (Tree.chk (EntRel 2 [0, 1] 2 (Ent.mkBox 25 [iv x.1, iv x.2, iv x.3, iv x.4, iv x.5, iv x.6, iv x.7, iv x.8, iv x.9, iv x.10, iv x.11, iv x.12, CV.sl 0 0 0 2 (List.length ws) cap, iv x.13, iv x.14]) (Ent.mkBox 25 [iv x.1, iv x.2, iv x.3, iv x.4, iv x.5, iv x.6, iv x.7, iv x.8, iv x.9, iv x.10, iv x.11, iv x.12, CV.sl 0 0 0 2 (List.length ws) cap, iv x.13, iv x.14]))
   (Tree.need True)))))))))))
   (Tree.done (XV.a (AV.c (iv (allW [x.5, x.6, x.7, x.8, x.9, x.10, x.11, x.12] (Subtype.val s))))) [(Ent.ws own cap ws), Ent.dead]))
theorem tReads_eq (x : Thg) (ws : List Wt) (own : Bool) (cap : Nat) : xfunc tab noCtr (lpI fun _ tm H => (cntInv 8 le8 le80 (fun i => [(4, ia i), (3, ia (allW x.rs i))]) tm H)) Go.Proofs.Try.f33 [x.av 0 0 ws.length cap] [Ent.ws own cap ws] [0] = tReads x ws own cap := by kernel_rfl
def tsame1 (a b t : Int) : Tree :=
  Tree.done (XV.a (AV.c (CV.v (Value.bool (a == t))))) [(Ent.mkBox 3 [iv t]), Ent.dead]
theorem tsame1_eq (a b t : Int) : xfunc tab noCtr noInv Go.Proofs.Try.f39 [.agg [iv a, iv b], .c (.ptr (bref 0 1))] [Ent.ibox t] [0] = tsame1 a b t := by kernel_rfl
def tsame2 (a b t : Int) : Tree :=
  Tree.done (XV.a (AV.c (CV.v (Value.bool (a == t))))) [(Ent.mkBox 3 [iv t]), Ent.dead]
theorem tsame2_eq (a b t : Int) : xfunc tab noCtr noInv Go.Proofs.Try.f41 [.agg [iv a, iv b], .c (.ptr (bref 0 1))] [Ent.ibox t] [0] = tsame2 a b t := by kernel_rfl
def tindex (ws : List Wt) (t : Int) (own : Bool) (cap fid : Nat) : Tree :=
  Tree.both
   (Tree.chk (XV.a (AV.c (iv (0 : Int))) = XV.a (AV.c (iv (0 : Int))))
   (Tree.chk (XV.a (AV.c (iv (↑(List.length ws) : Int))) = XV.a (AV.c (iv (↑(List.length ws) : Int))))
   (Tree.chk (XV.a (AV.c (CV.sl 0 0 0 2 (List.length ws) cap)) = XV.a (AV.c (CV.sl 0 0 0 2 (List.length ws) cap)))
   (Tree.chk (XV.a (AV.c (iv (0 : Int))) = XV.a (AV.c (iv (0 : Int))))
   (Tree.chk (XV.a (AV.c (CV.sl 0 0 0 2 (List.length ws) cap)) = XV.a (AV.c (CV.sl 0 0 0 2 (List.length ws) cap)))
   (Tree.chk (XV.a (AV.c (CV.fn fid [{ k := 1, j := 0, i := 0, sz := 1, c := 0, d := 0, dn := 0, cu := 0 }])) = XV.a (AV.c (CV.fn fid [{ k := 1, j := 0, i := 0, sz := 1, c := 0, d := 0, dn := 0, cu := 0 }])))
   (Tree.chk (EntRel 2 [0, 1] 2 (Ent.ws own cap ws) (Ent.ws own cap ws))
   (Tree.chk (EntRel 2 [0, 1] 2 (Ent.mkBox 3 [iv t]) (Ent.mkBox 3 [iv t]))
   (Tree.need True)))))))))
   (Tree.every { i // placeP ws t i } fun s => Tree.br (decide ((↑(Subtype.val s) : Int) < (↑(List.length ws) : Int)))
   (Tree.chk ((0 : Int) ≤ (↑(Subtype.val s) : Int) ∧ (↑(Subtype.val s) : Int) < (↑(List.length ws) : Int) ∧ Int.toNat (↑(Subtype.val s) : Int) < List.length ws ∧ 0 < 1)
   (Tree.chk (0 < 1 ∧ Int.toNat (↑(Subtype.val s) : Int) < List.length ws)
   (Tree.callf fid [AV.agg [iv (Prod.fst (List.getD ws (Int.toNat (↑(Subtype.val s) : Int)) ((0 : Int), (0 : Int)))), iv (Prod.snd (List.getD ws (Int.toNat (↑(Subtype.val s) : Int)) ((0 : Int), (0 : Int))))], AV.c (CV.ptr { k := 1, j := 0, i := 0, sz := 1, c := 0, d := 0, dn := 0, cu := 0 })] [(Ent.ws own cap ws), (Ent.mkBox 3 [iv t])] (sameC (Prod.fst (List.getD ws (Int.toNat (↑(Subtype.val s) : Int)) ((0 : Int), (0 : Int)))) (Prod.snd (List.getD ws (Int.toNat (↑(Subtype.val s) : Int)) ((0 : Int), (0 : Int)))) t [1]) fun c => Tree.br (Prod.fst (List.getD ws (Int.toNat (↑(Subtype.val s) : Int)) ((0 : Int), (0 : Int))) == t)
   (Tree.done (XV.a (AV.c (iv (↑(Subtype.val s) : Int)))) [(Ent.ws own cap ws), (Ent.mkBox 3 [iv t])])
   (Tree.some_ { i // placeP ws t i } fun s' => Tree.chk (List.length ws - Subtype.val s' < List.length ws - Subtype.val s)
   (Tree.chk (XV.a (AV.c (iv (IntKind.wrap IntKind.i64 ((↑(Subtype.val s) : Int) + (1 : Int))))) = XV.a (AV.c (iv (↑(Subtype.val s') : Int))))
   (Tree.chk (XV.a (AV.c (iv (↑(List.length ws) : Int))) = XV.a (AV.c (iv (↑(List.length ws) : Int))))
   (Tree.chk (XV.a (AV.c (CV.sl 0 0 0 2 (List.length ws) cap)) = XV.a (AV.c (CV.sl 0 0 0 2 (List.length ws) cap)))
   (Tree.chk (XV.a (AV.c (iv (0 : Int))) = XV.a (AV.c (iv (0 : Int))))
   (Tree.chk (XV.a (AV.c (CV.sl 0 0 0 2 (List.length ws) cap)) = XV.a (AV.c (CV.sl 0 0 0 2 (List.length ws) cap)))
   (Tree.chk (XV.a (AV.c (CV.fn fid [{ k := 1, j := 0, i := 0, sz := 1, c := 0, d := 0, dn := 0, cu := 0 }])) = XV.a (AV.c (CV.fn fid [{ k := 1, j := 0, i := 0, sz := 1, c := 0, d := 0, dn := 0, cu := 0 }])))
   (Tree.chk (EntRel 2 [0, 1] 2 (Ent.ws own cap ws) (Ent.ws own cap ws))
   (Tree.chk (EntRel 2 [0, 1] 2 (Ent.mkBox 3 [iv t]) (Ent.mkBox 3 [iv t]))
   (Tree.need True)))))))))))))
   (Tree.done (XV.a (AV.c (iv (-1 : Int)))) [(Ent.ws own cap ws), (Ent.mkBox 3 [iv t])]))
theorem tindex_eq (ws : List Wt) (t : Int) (own : Bool) (cap fid : Nat) : xfunc tab (sameG t) (lpI fun _ tm H => (countInv 8 ws.length (placeP ws t) (placeP0 ws t) tm H)) Go.Proofs.Try.f42 [.c (.sl 0 0 0 2 ws.length cap), .c (.fn fid [bref 1 1])] [Ent.ws own cap ws, Ent.ibox t] [0, 1] = tindex ws t own cap fid := by kernel_rfl
def tcontains (ws : List Wt) (t : Int) (own : Bool) (cap fid : Nat) : Tree :=
  Tree.callf 42 [AV.c (CV.sl 0 0 0 2 (List.length ws) cap), AV.c (CV.fn fid [{ k := 1, j := 0, i := 0, sz := 1, c := 0, d := 0, dn := 0, cu := 0 }])] [(Ent.ws own cap ws), (Ent.mkBox 3 [iv t])] (indexC ws t own cap fid [0, 1]) fun c => Tree.done (XV.a (AV.c (CV.v (Value.bool (decide (placeF ws t 0 ≥ (0 : Int))))))) [(Ent.ws own cap ws), (Ent.mkBox 3 [iv t])]
theorem tcontains_eq (ws : List Wt) (t : Int) (own : Bool) (cap fid : Nat) : xfunc tab (indexG ws t own) noInv Go.Proofs.Try.f38 [.c (.sl 0 0 0 2 ws.length cap), .c (.fn fid [bref 1 1])] [Ent.ws own cap ws, Ent.ibox t] [0, 1] = tcontains ws t own cap fid := by kernel_rfl
def twaits (x : Thg) (ws : List Wt) (t : Int) (own : Bool) (cap : Nat) : Tree :=
  Tree.callf 38 [AV.c (CV.sl 0 0 0 2 (List.length ws) cap), AV.c (CV.fn 39 [{ k := 2, j := 0, i := 0, sz := 1, c := 0, d := 0, dn := 0, cu := 0 }])] [(Ent.ws own cap ws), (Ent.mkBox 25 [iv x.1, iv x.2, iv x.3, iv x.4, iv x.5, iv x.6, iv x.7, iv x.8, iv x.9, iv x.10, iv x.11, iv x.12, CV.sl 0 0 0 2 (List.length ws) cap, iv x.13, iv x.14]), (Ent.mkBox 3 [iv t])] (containsC ws t own cap 39 [0, 2]) fun c => Tree.done (XV.a (AV.c (CV.v (Value.bool (decide (placeF ws t 0 ≥ (0 : Int))))))) [(Ent.ws own cap ws), Ent.dead, Ent.dead]
theorem twaits_eq (x : Thg) (ws : List Wt) (t : Int) (own : Bool) (cap : Nat) : xfunc tab (containsG ws t own) noInv Go.Proofs.Try.f34 [x.av 0 0 ws.length cap, .c (iv t)] [Ent.ws own cap ws] [0] = twaits x ws t own cap := by kernel_rfl
end Go.Proofs.Ytnenbngjdekegaa.X

/- The model: reads, waits: proved. -/
set_option linter.unusedVariables false
set_option linter.unusedSimpArgs false
namespace Go.Proofs.Ytnenbngjdekegaa.X
open Go Go.RowKit Go.Proofs.YtnenbngjdekegaaW.PrintWords Go.Proofs.Ytnenbngjdekegaa.Base
def readsC (x : Thg) (ws : List Wt) (own : Bool) (cap : Nat) (ρ : List Nat) : CallSpec := rdSpec ρ [x.av 0 0 ws.length cap] [Ent.ws own cap ws] (.a (.c (iv (allW x.rs 8))))
theorem reads_local (x : Thg) (ws : List Wt) (own : Bool) (cap : Nat) (ρ : List Nat) : (readsC x ws own cap ρ).Local Try.prog 37 := by
  refine local_of Try.func37 rfl (treads_eq x ws own cap) fun ν w => ?_
  refine ok_both' ?_ (ok_every' fun s => ok_br' (fun h => ?_) fun h => ?_)
  · repeat' first | exact rfl | exact EntRel.ws | exact EntRel.box' rfl rfl rfl rfl rfl | exact trivial | refine ok_chk' ?_ ?_
  · have hi : s.1 < 8 := by simp only [decide_eq_true_eq] at h; omega
    refine ok_chk' ⟨by omega, by omega⟩ (ok_some' ⟨s.1 + 1, hi⟩ (ok_chk' (Nat.sub_lt_sub_left hi (Nat.lt_succ_self _)) (ok_chk' ?_ ?_)))
    · (rw [wrap64 (by omega) (by omega)]; try rfl)
    · repeat' first | exact rfl | exact EntRel.ws | exact EntRel.box' rfl rfl rfl rfl rfl | exact trivial | refine ok_chk' ?_ ?_
  · refine ok_leaf (fun _ => 0) [] [0] trivial ?_ ⟨⟨_, rfl, EntRel.ws⟩, trivial⟩ rfl
    have hs : s.1 = 8 := by have : s.1 ≤ 8 := s.2; simp only [decide_eq_false_iff_not] at h; omega
    show XV.a (.c (iv (allW x.rs s.1))) = XV.a (.c (iv (allW x.rs 8)))
    rw [hs]
theorem Reads_local (x : Thg) (ws : List Wt) (own : Bool) (cap : Nat) (ρ : List Nat) : (readsC x ws own cap ρ).Local Try.prog 33 := by
  refine local_of Try.func33 rfl (tReads_eq x ws own cap) fun ν w => ?_
  refine ok_both' ?_ (ok_every' fun s => ok_br' (fun h => ?_) fun h => ?_)
  · repeat' first | exact rfl | exact EntRel.ws | exact EntRel.box' rfl rfl rfl rfl rfl | exact trivial | refine ok_chk' ?_ ?_
  · have hi : s.1 < 8 := by simp only [decide_eq_true_eq] at h; omega
    refine ok_chk' ⟨by omega, by omega⟩ (ok_chk' (show (s.1 : Int).toNat < _ by omega) (ok_some' ⟨s.1 + 1, hi⟩ (ok_chk' (Nat.sub_lt_sub_left hi (Nat.lt_succ_self _)) (ok_chk' ?_ ?_))))
    · (rw [wrap64 (by omega) (by omega)]; try rfl)
    · repeat' first | exact rfl | exact EntRel.ws | exact EntRel.box' rfl rfl rfl rfl rfl | exact trivial | refine ok_chk' ?_ ?_
  · refine ok_leaf (fun _ => 0) [] [0] trivial ?_ ⟨⟨_, rfl, EntRel.ws⟩, trivial⟩ rfl
    have hs : s.1 = 8 := by have : s.1 ≤ 8 := s.2; simp only [decide_eq_false_iff_not] at h; omega
    show XV.a (.c (iv (allW x.rs s.1))) = XV.a (.c (iv (allW x.rs 8)))
    rw [hs]
theorem same1_local (a b t : Int) (ρ : List Nat) : (sameC a b t ρ).Local Try.prog 39 :=
  local_of Try.func39 rfl (tsame1_eq a b t) fun ν w => ok_leaf (fun _ => 0) [] [0] trivial rfl ⟨⟨_, rfl, EntRel.box' rfl rfl rfl rfl rfl⟩, trivial⟩ rfl
theorem same2_local (a b t : Int) (ρ : List Nat) : (sameC a b t ρ).Local Try.prog 41 :=
  local_of Try.func41 rfl (tsame2_eq a b t) fun ν w => ok_leaf (fun _ => 0) [] [0] trivial rfl ⟨⟨_, rfl, EntRel.box' rfl rfl rfl rfl rfl⟩, trivial⟩ rfl
/-- A function that tells whether somebody is the one. -/
def Same (t : Int) (fid : Nat) : Prop := Callable Try.prog fid ∧ ∀ a b ρ, (sameC a b t ρ).Local Try.prog fid
theorem same1 (t : Int) : Same t 39 := ⟨⟨_, Try.func39, by kernel_rfl, rfl⟩, fun a b ρ => same1_local a b t ρ⟩
theorem same2 (t : Int) : Same t 41 := ⟨⟨_, Try.func41, by kernel_rfl, rfl⟩, fun a b ρ => same2_local a b t ρ⟩
theorem index_local (ws : List Wt) (t : Int) (own : Bool) (cap fid : Nat) (ρ : List Nat) (hl : ws.length ≤ 9223372036854775806) (hf : Same t fid) : (indexC ws t own cap fid ρ).Local Try.prog 42 := by
  refine local_of Try.func42 rfl (tindex_eq ws t own cap fid) fun ν w => ?_
  refine ok_both' ?_ (ok_every' fun s => ok_br' (fun h => ?_) fun h => ?_)
  · repeat' first | exact rfl | exact EntRel.ws | exact EntRel.box' rfl rfl rfl rfl rfl | exact trivial | refine ok_chk' ?_ ?_
  · have hp : placeP ws t s.1 := s.2
    have hi : s.1 < ws.length := by simp only [decide_eq_true_eq] at h; omega
    refine ok_chk' ⟨by omega, by omega, by omega, by omega⟩ (ok_chk' ⟨by omega, by omega⟩ (ok_callf' hf.1 (fits_of rfl rfl ⟨⟨_, rfl, EntRel.box' rfl rfl rfl rfl rfl⟩, trivial⟩ fun c _ => ⟨⟨Nat.le_refl _, rfl⟩, ⟨rfl, rfl⟩, ⟨⟨EntRel.box' rfl rfl rfl rfl rfl, rfl, (fun _ => ⟨rfl, rfl⟩), .inr rfl⟩, trivial⟩⟩) (hf.2 _ _ _) fun c _ => ok_br' (fun h2 => ?_) fun h2 => ?_))
    · refine ok_leaf (fun _ => 0) [] [0, 1] trivial ?_ ⟨⟨_, rfl, EntRel.ws⟩, ⟨_, rfl, EntRel.box' rfl rfl rfl rfl rfl⟩, trivial⟩ rfl
      show _ = XV.a (.c (iv (placeF ws t 0)))
      have h2 : ((ws.getD s.1 (0, 0)).1 == t) = true := h2
      rw [hp.step hi, h2]; try rfl
    · have h2 : ((ws.getD s.1 (0, 0)).1 == t) = false := h2
      refine ok_some' ⟨s.1 + 1, hi, by rw [hp.step hi, h2]; try rfl⟩ (ok_chk' (Nat.sub_lt_sub_left hi (Nat.lt_succ_self _)) (ok_chk' ?_ ?_))
      · (rw [wrap64 (by omega) (by omega)]; try rfl)
      · repeat' first | exact rfl | exact EntRel.ws | exact EntRel.box' rfl rfl rfl rfl rfl | exact trivial | refine ok_chk' ?_ ?_
  · refine ok_leaf (fun _ => 0) [] [0, 1] trivial ?_ ⟨⟨_, rfl, EntRel.ws⟩, ⟨_, rfl, EntRel.box' rfl rfl rfl rfl rfl⟩, trivial⟩ rfl
    show _ = XV.a (.c (iv (placeF ws t 0)))
    rw [s.2.over (by simp only [decide_eq_false_iff_not] at h; omega)]; try rfl
theorem contains_local (ws : List Wt) (t : Int) (own : Bool) (cap fid : Nat) (ρ : List Nat) (hl : ws.length ≤ 9223372036854775806) (hf : Same t fid) : (containsC ws t own cap fid ρ).Local Try.prog 38 :=
  local_of Try.func38 rfl (tcontains_eq ws t own cap fid) fun ν w =>
    ok_callf' ⟨_, Try.func42, by kernel_rfl, rfl⟩ (fits_of rfl rfl ⟨⟨_, rfl, EntRel.ws⟩, ⟨_, rfl, EntRel.box' rfl rfl rfl rfl rfl⟩, trivial⟩ fun c _ => ⟨⟨Nat.le_refl _, rfl⟩, ⟨rfl, rfl⟩, ⟨⟨EntRel.ws, rfl, (fun h => by cases h), .inr rfl⟩, ⟨EntRel.box' rfl rfl rfl rfl rfl, rfl, (fun _ => ⟨rfl, rfl⟩), .inr rfl⟩, trivial⟩⟩) (index_local ws t own cap fid _ hl hf) fun c _ =>
      ok_leaf (fun _ => 0) [] [0, 1] trivial rfl ⟨⟨_, rfl, EntRel.ws⟩, ⟨_, rfl, EntRel.box' rfl rfl rfl rfl rfl⟩, trivial⟩ rfl
def waitsC (x : Thg) (ws : List Wt) (t : Int) (own : Bool) (cap : Nat) (ρ : List Nat) : CallSpec := rdSpec ρ [x.av 0 0 ws.length cap, .c (iv t)] [Ent.ws own cap ws] (.a (.c (.v (.bool (decide (placeF ws t 0 ≥ 0))))))
theorem waits_local (x : Thg) (ws : List Wt) (t : Int) (own : Bool) (cap : Nat) (ρ : List Nat) (hl : ws.length ≤ 9223372036854775806) : (waitsC x ws t own cap ρ).Local Try.prog 34 :=
  local_of Try.func34 rfl (twaits_eq x ws t own cap) fun ν w =>
    ok_callf' ⟨_, Try.func38, by kernel_rfl, rfl⟩ (fits_of rfl rfl ⟨⟨_, rfl, EntRel.ws⟩, ⟨_, rfl, EntRel.box' rfl rfl rfl rfl rfl⟩, trivial⟩ fun c _ => ⟨⟨Nat.le_refl _, rfl⟩, ⟨rfl, rfl⟩, ⟨⟨EntRel.ws, rfl, (fun h => by cases h), .inr rfl⟩, ⟨EntRel.box' rfl rfl rfl rfl rfl, rfl, (fun _ => ⟨rfl, rfl⟩), .inr rfl⟩, trivial⟩⟩) (contains_local ws t own cap _ _ hl (same1 t)) fun c _ =>
      ok_leaf (fun _ => 0) [] [0] trivial rfl ⟨⟨_, rfl, EntRel.ws⟩, trivial⟩ rfl
end Go.Proofs.Ytnenbngjdekegaa.X

/- The model: trees of what is done to things. -/
set_option linter.unusedVariables false
set_option linter.unusedSimpArgs false
namespace Go.Proofs.Ytnenbngjdekegaa.X
open Go Go.RowKit Go.Proofs.YtnenbngjdekegaaW.PrintWords Go.Proofs.Ytnenbngjdekegaa.Base
def markA (k v : Int) : AV := .agg [iv k, iv v]
def intOf : CV → Int
  | .v (.int _ n) => n
  | _ => 0
/-- A thing, of its cells. -/
def thgOf (l : List CV) : Thg := match l with
  | [a0, a1, a2, a3, a4, a5, a6, a7, a8, a9, a10, a11, _, a13, a14] => ⟨intOf a0, intOf a1, intOf a2, intOf a3, intOf a4, intOf a5, intOf a6, intOf a7, intOf a8, intOf a9, intOf a10, intOf a11, intOf a13, intOf a14⟩
  | _ => ⟨0, 0, 0, 0, 0, 0, 0, 0, 0, 0, 0, 0, 0, 0⟩
def slK : List CV → Nat
  | [_, _, _, _, _, _, _, _, _, _, _, _, .sl k _ _ _ _ _, _, _] => k
  | _ => 0
def slCap : List CV → Nat
  | [_, _, _, _, _, _, _, _, _, _, _, _, .sl _ _ _ _ _ c, _, _] => c
  | _ => 0
def tfree (x : Thg) (ws : List Wt) (own : Bool) (cap : Nat) : Tree :=
  Tree.br (IntKind.wrap IntKind.i64 (x.4 - (1 : Int)) == (0 : Int))
   (Tree.done (XV.a (AV.agg [iv x.1, iv x.2, iv (-1 : Int), iv (IntKind.wrap IntKind.i64 (x.4 - (1 : Int))), iv x.5, iv x.6, iv x.7, iv x.8, iv x.9, iv x.10, iv x.11, iv x.12, CV.sl 0 0 0 2 (List.length ws) cap, iv x.13, iv x.14])) [(Ent.ws own cap ws), Ent.dead, Ent.dead])
   (Tree.done (XV.a (AV.agg [iv x.1, iv x.2, iv x.3, iv (IntKind.wrap IntKind.i64 (x.4 - (1 : Int))), iv x.5, iv x.6, iv x.7, iv x.8, iv x.9, iv x.10, iv x.11, iv x.12, CV.sl 0 0 0 2 (List.length ws) cap, iv x.13, iv x.14])) [(Ent.ws own cap ws), Ent.dead, Ent.dead])
theorem tfree_eq (x : Thg) (ws : List Wt) (own : Bool) (cap : Nat) : xfunc tab noCtr noInv Go.Proofs.Try.f35 [x.av 0 0 ws.length cap] [Ent.ws own cap ws] [0] = tfree x ws own cap := by kernel_rfl
def tfreed (x : Thg) (ws : List Wt) (own : Bool) (cap : Nat) : Tree :=
  Tree.br (IntKind.wrap IntKind.i64 (x.4 - (1 : Int)) == (0 : Int))
   (Tree.done (XV.a (AV.agg [iv x.1, iv x.2, iv (-1 : Int), iv (IntKind.wrap IntKind.i64 (x.4 - (1 : Int))), iv x.5, iv x.6, iv x.7, iv x.8, iv x.9, iv x.10, iv x.11, iv x.12, CV.sl 0 0 0 2 (List.length ws) cap, iv x.13, iv x.14])) [(Ent.ws own cap ws), Ent.dead, Ent.dead])
   (Tree.done (XV.a (AV.agg [iv x.1, iv x.2, iv x.3, iv (IntKind.wrap IntKind.i64 (x.4 - (1 : Int))), iv x.5, iv x.6, iv x.7, iv x.8, iv x.9, iv x.10, iv x.11, iv x.12, CV.sl 0 0 0 2 (List.length ws) cap, iv x.13, iv x.14])) [(Ent.ws own cap ws), Ent.dead, Ent.dead])
theorem tfreed_eq (x : Thg) (ws : List Wt) (own : Bool) (cap : Nat) : xfunc tab noCtr noInv Go.Proofs.Try.f31 [x.av 0 0 ws.length cap] [Ent.ws own cap ws] [0] = tfreed x ws own cap := by kernel_rfl
def tsema (x : Thg) (k v : Int) (ws : List Wt) (own : Bool) (cap : Nat) : Tree :=
  Tree.chk (decide (v ≥ (1 : Int)) = true → decide (v ≥ (1 : Int)) = true)
   (Tree.chk (decide (v ≥ (1 : Int)) = true → decide (v ≥ (1 : Int)) = true)
   (Tree.chk (decide (v ≥ (1 : Int)) = true → decide (v ≥ (1 : Int)) = true)
   (Tree.chk (decide (v ≥ (1 : Int)) = true → decide (v ≥ (1 : Int)) = true)
   (Tree.chk (decide (v ≥ (1 : Int)) = true → decide (v ≥ (1 : Int)) = true)
   (Tree.br (k == (1 : Int))
   (Tree.chk ((!!decide (v ≥ (1 : Int))) = true → (!!decide (v ≥ (1 : Int))) = true)
   (Tree.chk ((!!decide (v ≥ (1 : Int))) = true → (!!decide (v ≥ (1 : Int))) = true)
   (Tree.chk ((!!decide (v ≥ (1 : Int))) = true → (!!decide (v ≥ (1 : Int))) = true)
   (Tree.chk ((!decide (v ≥ (1 : Int))) = false → (!!decide (v ≥ (1 : Int))) = true)
   (Tree.br (bif !decide (v ≥ (1 : Int)) then true else decide (v > x.2))
   (Tree.done (XV.tup [AV.agg [iv x.1, iv x.2, iv x.3, iv x.4, iv x.5, iv x.6, iv x.7, iv x.8, iv x.9, iv x.10, iv x.11, iv x.12, CV.sl 0 0 0 2 (List.length ws) cap, iv x.13, iv x.14], AV.c (CV.v (Value.bool false))]) [(Ent.ws own cap ws), Ent.dead, Ent.dead, Ent.dead])
   (Tree.done (XV.tup [AV.agg [iv x.1, iv (IntKind.wrap IntKind.i64 (x.2 - v)), iv x.3, iv x.4, iv x.5, iv x.6, iv x.7, iv x.8, iv x.9, iv x.10, iv x.11, iv x.12, CV.sl 0 0 0 2 (List.length ws) cap, iv x.13, iv x.14], AV.c (CV.v (Value.bool true))]) [(Ent.ws own cap ws), Ent.dead, Ent.dead, Ent.dead]))))))
   (Tree.br (k == (3 : Int))
   (Tree.chk ((!decide (v ≥ (1 : Int))) = false → (!!decide (v ≥ (1 : Int))) = true)
   (Tree.br (bif !decide (v ≥ (1 : Int)) then true else bif decide (v ≥ (1 : Int)) then decide (v > IntKind.wrap IntKind.i64 ((1000 : Int) - x.2)) else false)
   (Tree.done (XV.tup [AV.agg [iv x.1, iv x.2, iv x.3, iv x.4, iv x.5, iv x.6, iv x.7, iv x.8, iv x.9, iv x.10, iv x.11, iv x.12, CV.sl 0 0 0 2 (List.length ws) cap, iv x.13, iv x.14], AV.c (CV.v (Value.bool false))]) [(Ent.ws own cap ws), Ent.dead, Ent.dead, Ent.dead])
   (Tree.done (XV.tup [AV.agg [iv x.1, iv (IntKind.wrap IntKind.i64 (x.2 + v)), iv x.3, iv x.4, iv x.5, iv x.6, iv x.7, iv x.8, iv x.9, iv x.10, iv x.11, iv x.12, CV.sl 0 0 0 2 (List.length ws) cap, iv x.13, iv x.14], AV.c (CV.v (Value.bool true))]) [(Ent.ws own cap ws), Ent.dead, Ent.dead, Ent.dead])))
   (Tree.br (k == (7 : Int))
   (Tree.done (XV.tup [AV.agg [iv x.1, iv x.2, iv x.3, iv x.4, iv x.5, iv x.6, iv x.7, iv x.8, iv x.9, iv x.10, iv x.11, iv x.12, CV.sl 0 0 0 2 (List.length ws) cap, iv x.13, iv x.14], AV.c (CV.v (Value.bool (bif decide (v ≥ (1 : Int)) then decide (v > IntKind.wrap IntKind.i64 ((1000 : Int) - x.2)) else false)))]) [(Ent.ws own cap ws), Ent.dead, Ent.dead, Ent.dead])
   (Tree.br (k == (5 : Int))
   (Tree.chk (AV.c (CV.v (Value.bool (decide (v > x.2)))) = AV.c (CV.v (Value.bool (decide (v > x.2)))))
   (Tree.chk (AV.c (iv x.2) = AV.c (iv x.2))
   (Tree.chk (AV.c (CV.ptr { k := 1, j := 0, i := 0, sz := 15, c := 1, d := 0, dn := 0, cu := 0 }) = AV.c (CV.ptr { k := 1, j := 0, i := 0, sz := 15, c := 1, d := 0, dn := 0, cu := 0 }))
   (Tree.chk (AV.c (iv v) = AV.c (iv v))
   (Tree.done (XV.tup [AV.agg [iv x.1, iv x.2, iv x.3, iv x.4, iv x.5, iv x.6, iv x.7, iv x.8, iv x.9, iv x.10, iv x.11, iv x.12, CV.sl 0 0 0 2 (List.length ws) cap, iv x.13, iv x.14], AV.c (CV.v (Value.bool (decide (v > x.2))))]) [(Ent.ws own cap ws), Ent.dead, Ent.dead, Ent.dead])))))
   (Tree.br (k == (9 : Int))
   (Tree.done (XV.tup [AV.agg [iv x.1, iv (0 : Int), iv x.3, iv x.4, iv x.5, iv x.6, iv x.7, iv x.8, iv x.9, iv x.10, iv x.11, iv x.12, CV.sl 0 0 0 2 (List.length ws) cap, iv x.13, iv x.14], AV.c (CV.v (Value.bool (v == x.2)))]) [(Ent.ws own cap ws), Ent.dead, Ent.dead, Ent.dead])
   (Tree.done (XV.tup [AV.agg [iv x.1, iv x.2, iv x.3, iv x.4, iv x.5, iv x.6, iv x.7, iv x.8, iv x.9, iv x.10, iv x.11, iv x.12, CV.sl 0 0 0 2 (List.length ws) cap, iv x.13, iv x.14], AV.c (CV.v (Value.bool false))]) [(Ent.ws own cap ws), Ent.dead, Ent.dead, Ent.dead]))))))))))
theorem tsema_eq (x : Thg) (k v : Int) (ws : List Wt) (own : Bool) (cap : Nat) : xfunc tab noCtr noInv Go.Proofs.Try.f26 [x.av 0 0 ws.length cap, markA k v] [Ent.ws own cap ws] [0] = tsema x k v ws own cap := by kernel_rfl
def tlatch (x : Thg) (k v : Int) (ws : List Wt) (own : Bool) (cap : Nat) : Tree :=
  Tree.br (k == (1 : Int))
   (Tree.chk ((x.2 == (0 : Int)) = true → (x.2 == (0 : Int)) = true)
   (Tree.chk ((x.2 == (0 : Int)) = true → (x.2 == (0 : Int)) = true)
   (Tree.done (XV.tup [AV.agg [iv x.1, iv x.2, iv x.3, iv x.4, iv x.5, iv x.6, iv x.7, iv x.8, iv x.9, iv x.10, iv x.11, iv x.12, CV.sl 0 0 0 2 (List.length ws) cap, iv x.13, iv x.14], AV.c (CV.v (Value.bool (bif x.2 == (0 : Int) then v == (0 : Int) else false)))]) [(Ent.ws own cap ws), Ent.dead, Ent.dead, Ent.dead])))
   (Tree.br (k == (8 : Int))
   (Tree.chk ((v == (1 : Int)) = true → (v == (1 : Int)) = true)
   (Tree.chk ((v == (1 : Int)) = true → (v == (1 : Int)) = true)
   (Tree.chk ((v == (1 : Int)) = true → (v == (1 : Int)) = true)
   (Tree.chk ((!bif v == (1 : Int) then decide (x.2 > (0 : Int)) else false) = true → (!bif v == (1 : Int) then decide (x.2 > (0 : Int)) else false) = true)
   (Tree.chk ((!bif v == (1 : Int) then decide (x.2 > (0 : Int)) else false) = true → (!bif v == (1 : Int) then decide (x.2 > (0 : Int)) else false) = true)
   (Tree.chk (((!bif v == (1 : Int) then decide (x.2 > (0 : Int)) else false) && v == (0 : Int)) = true → ((!bif v == (1 : Int) then decide (x.2 > (0 : Int)) else false) && v == (0 : Int)) = true)
   (Tree.chk (((!bif v == (1 : Int) then decide (x.2 > (0 : Int)) else false) && v == (0 : Int)) = true → ((!bif v == (1 : Int) then decide (x.2 > (0 : Int)) else false) && v == (0 : Int)) = true)
   (Tree.chk ((!bif v == (1 : Int) then decide (x.2 > (0 : Int)) else false) = true → (!bif v == (1 : Int) then decide (x.2 > (0 : Int)) else false) = true)
   (Tree.chk ((!bif v == (1 : Int) then decide (x.2 > (0 : Int)) else false) = true → (v == (0 : Int)) = true → ((!bif v == (1 : Int) then decide (x.2 > (0 : Int)) else false) && v == (0 : Int)) = true)
   (Tree.chk ((bif v == (1 : Int) then decide (x.2 > (0 : Int)) else false) = false → (!bif v == (1 : Int) then decide (x.2 > (0 : Int)) else false) = true)
   (Tree.done (XV.tup [AV.agg [iv x.1, iv (IntKind.wrap IntKind.i64 (x.2 - bitsI BinOp.and IntKind.i64 v (1 : Int))), iv x.3, iv x.4, iv x.5, iv x.6, iv x.7, iv x.8, iv x.9, iv x.10, iv x.11, iv x.12, CV.sl 0 0 0 2 (List.length ws) cap, iv x.13, iv x.14], AV.c (CV.v (Value.bool (bif bif v == (1 : Int) then decide (x.2 > (0 : Int)) else false then true else bif v == (0 : Int) then x.2 == (0 : Int) else false)))]) [(Ent.ws own cap ws), Ent.dead, Ent.dead, Ent.dead])))))))))))
   (Tree.done (XV.tup [AV.agg [iv x.1, iv x.2, iv x.3, iv x.4, iv x.5, iv x.6, iv x.7, iv x.8, iv x.9, iv x.10, iv x.11, iv x.12, CV.sl 0 0 0 2 (List.length ws) cap, iv x.13, iv x.14], AV.c (CV.v (Value.bool false))]) [(Ent.ws own cap ws), Ent.dead, Ent.dead, Ent.dead]))
theorem tlatch_eq (x : Thg) (k v : Int) (ws : List Wt) (own : Bool) (cap : Nat) : xfunc tab noCtr noInv Go.Proofs.Try.f27 [x.av 0 0 ws.length cap, markA k v] [Ent.ws own cap ws] [0] = tlatch x k v ws own cap := by kernel_rfl
def tswap (x : Thg) (t k v : Int) (ws : List Wt) (own : Bool) (cap : Nat) : Tree :=
  Tree.br (k == (15 : Int))
   (Tree.chk ((!x.13 != (-1 : Int)) = true → (!x.13 != (-1 : Int)) = true)
   (Tree.chk ((!x.13 != (-1 : Int)) = true → (!x.13 != (-1 : Int)) = true)
   (Tree.chk ((x.13 != (-1 : Int)) = false → (!x.13 != (-1 : Int)) = true)
   (Tree.chk ((!bif x.13 != (-1 : Int) then true else decide (v < (0 : Int))) = true → (!bif x.13 != (-1 : Int) then true else decide (v < (0 : Int))) = true)
   (Tree.chk ((!bif x.13 != (-1 : Int) then true else decide (v < (0 : Int))) = true → (!bif x.13 != (-1 : Int) then true else decide (v < (0 : Int))) = true)
   (Tree.chk ((bif x.13 != (-1 : Int) then true else decide (v < (0 : Int))) = false → (!bif x.13 != (-1 : Int) then true else decide (v < (0 : Int))) = true)
   (Tree.br (bif bif x.13 != (-1 : Int) then true else decide (v < (0 : Int)) then true else decide (v > (1000 : Int)))
   (Tree.done (XV.tup [AV.agg [iv x.1, iv x.2, iv x.3, iv x.4, iv x.5, iv x.6, iv x.7, iv x.8, iv x.9, iv x.10, iv x.11, iv x.12, CV.sl 0 0 0 2 (List.length ws) cap, iv x.13, iv x.14], AV.c (CV.v (Value.bool false))]) [(Ent.ws own cap ws), Ent.dead, Ent.dead, Ent.dead])
   (Tree.chk (AV.c (iv v) = AV.c (iv v))
   (Tree.chk (AV.c (CV.ptr { k := 2, j := 0, i := 0, sz := 2, c := 1, d := 0, dn := 0, cu := 0 }) = AV.c (CV.ptr { k := 2, j := 0, i := 0, sz := 2, c := 1, d := 0, dn := 0, cu := 0 }))
   (Tree.done (XV.tup [AV.agg [iv x.1, iv x.2, iv x.3, iv x.4, iv x.5, iv x.6, iv x.7, iv x.8, iv x.9, iv x.10, iv x.11, iv x.12, CV.sl 0 0 0 2 (List.length ws) cap, iv t, iv v], AV.c (CV.v (Value.bool true))]) [(Ent.ws own cap ws), Ent.dead, Ent.dead, Ent.dead]))))))))))
   (Tree.br (k == (14 : Int))
   (Tree.chk ((x.13 != (-1 : Int)) = true → (x.13 != (-1 : Int)) = true)
   (Tree.chk ((x.13 != (-1 : Int)) = true → (x.13 != (-1 : Int)) = true)
   (Tree.chk ((x.13 != (-1 : Int)) = true → (x.13 != (-1 : Int)) = true)
   (Tree.chk ((x.13 != (-1 : Int)) = true → (x.13 != (-1 : Int)) = true)
   (Tree.chk ((bif x.13 != (-1 : Int) then x.13 != t else false) = true → (bif x.13 != (-1 : Int) then x.13 != t else false) = true)
   (Tree.chk ((bif x.13 != (-1 : Int) then x.13 != t else false) = true → (bif x.13 != (-1 : Int) then x.13 != t else false) = true)
   (Tree.chk ((bif x.13 != (-1 : Int) then x.13 != t else false) = true → (bif x.13 != (-1 : Int) then x.13 != t else false) = true)
   (Tree.chk ((bif x.13 != (-1 : Int) then x.13 != t else false) = true → (bif x.13 != (-1 : Int) then x.13 != t else false) = true)
   (Tree.chk ((bif x.13 != (-1 : Int) then x.13 != t else false) = true → (bif x.13 != (-1 : Int) then x.13 != t else false) = true)
   (Tree.done (XV.tup [AV.agg [iv x.1, iv x.2, iv x.3, iv x.4, iv x.5, iv x.6, iv x.7, iv x.8, iv x.9, iv x.10, iv x.11, iv x.12, CV.sl 0 0 0 2 (List.length ws) cap, iv (-1 : Int), iv (0 : Int)], AV.c (CV.v (Value.bool (bif bif x.13 != (-1 : Int) then x.13 != t else false then v == x.13 else false)))]) [(Ent.ws own cap ws), Ent.dead, Ent.dead, Ent.dead]))))))))))
   (Tree.br (k == (16 : Int))
   (Tree.chk ((x.13 == t) = true → (x.13 == t) = true)
   (Tree.chk ((x.13 == t) = true → (x.13 == t) = true)
   (Tree.chk ((x.13 == t) = true → (x.13 == t) = true)
   (Tree.done (XV.tup [AV.agg [iv x.1, iv x.2, iv x.3, iv x.4, iv x.5, iv x.6, iv x.7, iv x.8, iv x.9, iv x.10, iv x.11, iv x.12, CV.sl 0 0 0 2 (List.length ws) cap, iv (-1 : Int), iv (0 : Int)], AV.c (CV.v (Value.bool (bif x.13 == t then v == (0 : Int) else false)))]) [(Ent.ws own cap ws), Ent.dead, Ent.dead, Ent.dead]))))
   (Tree.done (XV.tup [AV.agg [iv x.1, iv x.2, iv x.3, iv x.4, iv x.5, iv x.6, iv x.7, iv x.8, iv x.9, iv x.10, iv x.11, iv x.12, CV.sl 0 0 0 2 (List.length ws) cap, iv x.13, iv x.14], AV.c (CV.v (Value.bool false))]) [(Ent.ws own cap ws), Ent.dead, Ent.dead, Ent.dead])))
theorem tswap_eq (x : Thg) (t k v : Int) (ws : List Wt) (own : Bool) (cap : Nat) : xfunc tab noCtr noInv Go.Proofs.Try.f29 [x.av 0 0 ws.length cap, .c (iv t), markA k v] [Ent.ws own cap ws] [0] = tswap x t k v ws own cap := by kernel_rfl
end Go.Proofs.Ytnenbngjdekegaa.X

/- The model: what is done to things. -/
set_option linter.unusedVariables false
set_option linter.unusedSimpArgs false
namespace Go.Proofs.Ytnenbngjdekegaa.X
open Go Go.RowKit Go.Proofs.YtnenbngjdekegaaW.PrintWords Go.Proofs.Ytnenbngjdekegaa.Base
def thgB : XV → Thg × Bool
  | .tup [.agg l, .c (.v (.bool b))] => (thgOf l, b)
  | _ => (thgOf [], false)
def thg1 : XV → Thg
  | .a (.agg l) => thgOf l
  | _ => thgOf []
def semaS (x : Thg) (k v : Int) : Thg × Bool :=
  bif k == (1 : Int) then bif bif !decide (v ≥ (1 : Int)) then true else decide (v > x.2) then (x, false) else ({ kd := x.1, n := IntKind.wrap IntKind.i64 (x.2 - v), o := x.3, h := x.4, r0 := x.5, r1 := x.6, r2 := x.7, r3 := x.8, r4 := x.9, r5 := x.10, r6 := x.11, r7 := x.12, f := x.13, i := x.14 }, true)
  else bif k == (3 : Int) then bif bif !decide (v ≥ (1 : Int)) then true else bif decide (v ≥ (1 : Int)) then decide (v > IntKind.wrap IntKind.i64 ((1000 : Int) - x.2)) else false then (x, false) else ({ kd := x.1, n := IntKind.wrap IntKind.i64 (x.2 + v), o := x.3, h := x.4, r0 := x.5, r1 := x.6, r2 := x.7, r3 := x.8, r4 := x.9, r5 := x.10, r6 := x.11, r7 := x.12, f := x.13, i := x.14 }, true) else bif k == (7 : Int) then (x, bif decide (v ≥ (1 : Int)) then decide (v > IntKind.wrap IntKind.i64 ((1000 : Int) - x.2)) else false) else bif k == (5 : Int) then (x, decide (v > x.2)) else bif k == (9 : Int) then ({ kd := x.1, n := (0 : Int), o := x.3, h := x.4, r0 := x.5, r1 := x.6, r2 := x.7, r3 := x.8, r4 := x.9, r5 := x.10, r6 := x.11, r7 := x.12, f := x.13, i := x.14 }, v == x.2) else (x, false)
def latchS (x : Thg) (k v : Int) : Thg × Bool :=
  bif k == (1 : Int) then (x, bif x.2 == (0 : Int) then v == (0 : Int) else false)
  else bif k == (8 : Int) then ({ kd := x.1, n := IntKind.wrap IntKind.i64 (x.2 - bitsI BinOp.and IntKind.i64 v (1 : Int)), o := x.3, h := x.4, r0 := x.5, r1 := x.6, r2 := x.7, r3 := x.8, r4 := x.9, r5 := x.10, r6 := x.11, r7 := x.12, f := x.13, i := x.14 }, bif bif v == (1 : Int) then decide (x.2 > (0 : Int)) else false then true else bif v == (0 : Int) then x.2 == (0 : Int) else false) else (x, false)
def swapS (x : Thg) (t k v : Int) : Thg × Bool :=
  bif k == (15 : Int) then bif bif bif x.13 != (-1 : Int) then true else decide (v < (0 : Int)) then true else decide (v > (1000 : Int)) then (x, false) else ({ kd := x.1, n := x.2, o := x.3, h := x.4, r0 := x.5, r1 := x.6, r2 := x.7, r3 := x.8, r4 := x.9, r5 := x.10, r6 := x.11, r7 := x.12, f := t, i := v }, true)
  else bif k == (14 : Int) then ({ kd := x.1, n := x.2, o := x.3, h := x.4, r0 := x.5, r1 := x.6, r2 := x.7, r3 := x.8, r4 := x.9, r5 := x.10, r6 := x.11, r7 := x.12, f := (-1 : Int), i := (0 : Int) }, bif bif x.13 != (-1 : Int) then x.13 != t else false then v == x.13 else false) else bif k == (16 : Int) then ({ kd := x.1, n := x.2, o := x.3, h := x.4, r0 := x.5, r1 := x.6, r2 := x.7, r3 := x.8, r4 := x.9, r5 := x.10, r6 := x.11, r7 := x.12, f := (-1 : Int), i := (0 : Int) }, bif x.13 == t then v == (0 : Int) else false) else (x, false)
def freeS (x : Thg) : Thg :=
  bif IntKind.wrap IntKind.i64 (x.4 - (1 : Int)) == (0 : Int) then { kd := x.1, n := x.2, o := (-1 : Int), h := IntKind.wrap IntKind.i64 (x.4 - (1 : Int)), r0 := x.5, r1 := x.6, r2 := x.7, r3 := x.8, r4 := x.9, r5 := x.10, r6 := x.11, r7 := x.12, f := x.13, i := x.14 }
  else { kd := x.1, n := x.2, o := x.3, h := IntKind.wrap IntKind.i64 (x.4 - (1 : Int)), r0 := x.5, r1 := x.6, r2 := x.7, r3 := x.8, r4 := x.9, r5 := x.10, r6 := x.11, r7 := x.12, f := x.13, i := x.14 }
def thgR (S : Thg × Bool) (n cap : Nat) : XV := .tup [S.1.av 0 0 n cap, .c (.v (.bool S.2))]
def semaC (x : Thg) (k v : Int) (ws : List Wt) (own : Bool) (cap : Nat) (ρ : List Nat) : CallSpec := rdSpec ρ [x.av 0 0 ws.length cap, markA k v] [Ent.ws own cap ws] (thgR (semaS x k v) ws.length cap)
theorem sema_local (x : Thg) (k v : Int) (ws : List Wt) (own : Bool) (cap : Nat) (ρ : List Nat) : (semaC x k v ws own cap ρ).Local Try.prog 26 := by
  refine local_of Try.func26 rfl (tsema_eq x k v ws own cap) fun ν w => ?_
  repeat' first | refine ok_br' (fun h => ?_) (fun h => ?_) | (refine ok_chk' ?_ ?_; focus (first | exact fun h => h | (simp; done) | (simp; omega) | (simp_all; done) | (simp_all; omega) | (generalize ws.length = L at *; simp; omega) | (generalize ws.length = L at *; simp_all; omega))) | refine ok_leaf (fun _ => 0) [] [0] trivial ?_ ⟨⟨_, rfl, EntRel.ws⟩, trivial⟩ rfl
  all_goals (show XV.tup _ = thgR (semaS x k v) ws.length cap; simp only [semaS, *, cond_true, cond_false]; rfl)
def latchC (x : Thg) (k v : Int) (ws : List Wt) (own : Bool) (cap : Nat) (ρ : List Nat) : CallSpec := rdSpec ρ [x.av 0 0 ws.length cap, markA k v] [Ent.ws own cap ws] (thgR (latchS x k v) ws.length cap)
theorem latch_local (x : Thg) (k v : Int) (ws : List Wt) (own : Bool) (cap : Nat) (ρ : List Nat) : (latchC x k v ws own cap ρ).Local Try.prog 27 := by
  refine local_of Try.func27 rfl (tlatch_eq x k v ws own cap) fun ν w => ?_
  repeat' first | refine ok_br' (fun h => ?_) (fun h => ?_) | (refine ok_chk' ?_ ?_; focus (first | exact fun h => h | (simp; done) | (simp; omega) | (simp_all; done) | (simp_all; omega) | (generalize ws.length = L at *; simp; omega) | (generalize ws.length = L at *; simp_all; omega))) | refine ok_leaf (fun _ => 0) [] [0] trivial ?_ ⟨⟨_, rfl, EntRel.ws⟩, trivial⟩ rfl
  all_goals (show XV.tup _ = thgR (latchS x k v) ws.length cap; simp only [latchS, *, cond_true, cond_false]; rfl)
def swapC (x : Thg) (t k v : Int) (ws : List Wt) (own : Bool) (cap : Nat) (ρ : List Nat) : CallSpec := rdSpec ρ [x.av 0 0 ws.length cap, .c (iv t), markA k v] [Ent.ws own cap ws] (thgR (swapS x t k v) ws.length cap)
theorem swap_local (x : Thg) (t k v : Int) (ws : List Wt) (own : Bool) (cap : Nat) (ρ : List Nat) : (swapC x t k v ws own cap ρ).Local Try.prog 29 := by
  refine local_of Try.func29 rfl (tswap_eq x t k v ws own cap) fun ν w => ?_
  repeat' first | refine ok_br' (fun h => ?_) (fun h => ?_) | (refine ok_chk' ?_ ?_; focus (first | exact fun h => h | (simp; done) | (simp; omega) | (simp_all; done) | (simp_all; omega) | (generalize ws.length = L at *; simp; omega) | (generalize ws.length = L at *; simp_all; omega))) | refine ok_leaf (fun _ => 0) [] [0] trivial ?_ ⟨⟨_, rfl, EntRel.ws⟩, trivial⟩ rfl
  all_goals (show XV.tup _ = thgR (swapS x t k v) ws.length cap; simp only [swapS, *, cond_true, cond_false]; rfl)
def freeC (x : Thg) (ws : List Wt) (own : Bool) (cap : Nat) (ρ : List Nat) : CallSpec := rdSpec ρ [x.av 0 0 ws.length cap] [Ent.ws own cap ws] (.a ((freeS x).av 0 0 ws.length cap))
theorem free_local (x : Thg) (ws : List Wt) (own : Bool) (cap : Nat) (ρ : List Nat) : (freeC x ws own cap ρ).Local Try.prog 35 := by
  refine local_of Try.func35 rfl (tfree_eq x ws own cap) fun ν w => ?_
  repeat' first | refine ok_br' (fun h => ?_) (fun h => ?_) | (refine ok_chk' ?_ ?_; focus (first | exact fun h => h | (simp; done) | (simp; omega) | (simp_all; done) | (simp_all; omega) | (generalize ws.length = L at *; simp; omega) | (generalize ws.length = L at *; simp_all; omega))) | refine ok_leaf (fun _ => 0) [] [0] trivial ?_ ⟨⟨_, rfl, EntRel.ws⟩, trivial⟩ rfl
  all_goals (show XV.a _ = XV.a ((freeS x).av 0 0 ws.length cap); simp only [freeS, *, cond_true, cond_false]; rfl)
theorem freed_local (x : Thg) (ws : List Wt) (own : Bool) (cap : Nat) (ρ : List Nat) : (freeC x ws own cap ρ).Local Try.prog 31 := by
  refine local_of Try.func31 rfl (tfreed_eq x ws own cap) fun ν w => ?_
  repeat' first | refine ok_br' (fun h => ?_) (fun h => ?_) | (refine ok_chk' ?_ ?_; focus (first | exact fun h => h | (simp; done) | (simp; omega) | (simp_all; done) | (simp_all; omega) | (generalize ws.length = L at *; simp; omega) | (generalize ws.length = L at *; simp_all; omega))) | refine ok_leaf (fun _ => 0) [] [0] trivial ?_ ⟨⟨_, rfl, EntRel.ws⟩, trivial⟩ rfl
  all_goals (show XV.a _ = XV.a ((freeS x).av 0 0 ws.length cap); simp only [freeS, *, cond_true, cond_false]; rfl)
end Go.Proofs.Ytnenbngjdekegaa.X

/- The model: trees of what is done with rows. -/
set_option linter.unusedVariables false
set_option linter.unusedSimpArgs false
namespace Go.Proofs.Ytnenbngjdekegaa.X
open Go Go.RowKit Go.Proofs.YtnenbngjdekegaaW.PrintWords Go.Proofs.Ytnenbngjdekegaa.Base
def readsG (ws : List Wt) (own : Bool) : Ctr := fun f args H => match args with
  | [.agg l] => if f = 37 ∨ f = 33 then some (readsC (thgOf l) ws own (slCap l) [slK l]) else some (freeC (thgOf l) ws own (slCap l) [slK l])
  | [.agg l, .c (.v (.int _ t))] => some (waitsC (thgOf l) ws t own (slCap l) [slK l])
  | _ => none
def trw (x : Thg) (t k v : Int) (ws : List Wt) (own : Bool) (cap : Nat) : Tree :=
  Tree.callf 37 [AV.agg [iv x.1, iv x.2, iv x.3, iv x.4, iv x.5, iv x.6, iv x.7, iv x.8, iv x.9, iv x.10, iv x.11, iv x.12, CV.sl 0 0 0 2 (List.length ws) cap, iv x.13, iv x.14]] [(Ent.ws own cap ws), (Ent.mkBox 25 [iv x.1, iv x.2, iv x.3, iv x.4, iv x.5, iv x.6, iv x.7, iv x.8, iv x.9, iv x.10, iv x.11, iv x.12, CV.sl 0 0 0 2 (List.length ws) cap, iv x.13, iv x.14]), (Ent.mkBox 29 [iv k, iv v]), (Ent.mkBox 25 [iv (0 : Int), iv (0 : Int), iv (0 : Int), iv (0 : Int), iv (0 : Int), iv (0 : Int), iv (0 : Int), iv (0 : Int), iv (0 : Int), iv (0 : Int), iv (0 : Int), iv (0 : Int), CV.v (Value.slice none 0 0), iv (0 : Int), iv (0 : Int)])] (readsC x ws own cap [0]) fun c => Tree.chk (AV.c (CV.v (Value.bool (x.3 == t))) = AV.c (CV.v (Value.bool (x.3 == t))))
   (Tree.chk (AV.c (iv t) = AV.c (iv t))
   (Tree.chk (AV.c (iv x.3) = AV.c (iv x.3))
   (Tree.chk (AV.c (CV.ptr { k := 1, j := 0, i := 0, sz := 15, c := 2, d := 0, dn := 0, cu := 0 }) = AV.c (CV.ptr { k := 1, j := 0, i := 0, sz := 15, c := 2, d := 0, dn := 0, cu := 0 }))
   (Tree.chk (AV.c (iv v) = AV.c (iv v))
   (Tree.chk (AV.c (CV.ptr { k := 2, j := 0, i := 0, sz := 2, c := 1, d := 0, dn := 0, cu := 0 }) = AV.c (CV.ptr { k := 2, j := 0, i := 0, sz := 2, c := 1, d := 0, dn := 0, cu := 0 }))
   (Tree.br (k == (1 : Int))
   (Tree.chk ((v == (1 : Int)) = true → (v == (1 : Int)) = true)
   (Tree.chk ((v == (1 : Int)) = true → (v == (1 : Int)) = true)
   (Tree.chk ((v == (1 : Int)) = true → (v == (1 : Int)) = true)
   (Tree.chk ((v == (1 : Int) && x.3 == (-1 : Int)) = true → (v == (1 : Int) && x.3 == (-1 : Int)) = true)
   (Tree.chk ((v == (1 : Int)) = true → (v == (1 : Int)) = true)
   (Tree.chk ((v == (1 : Int)) = true → (x.3 == (-1 : Int)) = true → (v == (1 : Int) && x.3 == (-1 : Int)) = true)
   (Tree.chk ((v == (1 : Int)) = true → (v == (1 : Int)) = true)
   (Tree.chk ((v == (1 : Int) && !bif x.3 == (-1 : Int) then allW [x.5, x.6, x.7, x.8, x.9, x.10, x.11, x.12] 8 == (0 : Int) else false) = true → (v == (1 : Int) && !bif x.3 == (-1 : Int) then allW [x.5, x.6, x.7, x.8, x.9, x.10, x.11, x.12] 8 == (0 : Int) else false) = true)
   (Tree.chk (((v == (1 : Int) && !bif x.3 == (-1 : Int) then allW [x.5, x.6, x.7, x.8, x.9, x.10, x.11, x.12] 8 == (0 : Int) else false) && x.3 == t) = true → ((v == (1 : Int) && !bif x.3 == (-1 : Int) then allW [x.5, x.6, x.7, x.8, x.9, x.10, x.11, x.12] 8 == (0 : Int) else false) && x.3 == t) = true)
   (Tree.chk (((v == (1 : Int) && !bif x.3 == (-1 : Int) then allW [x.5, x.6, x.7, x.8, x.9, x.10, x.11, x.12] 8 == (0 : Int) else false) && x.3 == t) = true → ((v == (1 : Int) && !bif x.3 == (-1 : Int) then allW [x.5, x.6, x.7, x.8, x.9, x.10, x.11, x.12] 8 == (0 : Int) else false) && x.3 == t) = true)
   (Tree.chk ((v == (1 : Int) && !bif x.3 == (-1 : Int) then allW [x.5, x.6, x.7, x.8, x.9, x.10, x.11, x.12] 8 == (0 : Int) else false) = true → (v == (1 : Int) && !bif x.3 == (-1 : Int) then allW [x.5, x.6, x.7, x.8, x.9, x.10, x.11, x.12] 8 == (0 : Int) else false) = true)
   (Tree.chk ((v == (1 : Int) && !bif x.3 == (-1 : Int) then allW [x.5, x.6, x.7, x.8, x.9, x.10, x.11, x.12] 8 == (0 : Int) else false) = true → (x.3 == t) = true → ((v == (1 : Int) && !bif x.3 == (-1 : Int) then allW [x.5, x.6, x.7, x.8, x.9, x.10, x.11, x.12] 8 == (0 : Int) else false) && x.3 == t) = true)
   (Tree.chk ((v == (1 : Int)) = true → (v == (1 : Int)) = true)
   (Tree.chk ((v == (1 : Int)) = true → (bif x.3 == (-1 : Int) then allW [x.5, x.6, x.7, x.8, x.9, x.10, x.11, x.12] 8 == (0 : Int) else false) = false → (v == (1 : Int) && !bif x.3 == (-1 : Int) then allW [x.5, x.6, x.7, x.8, x.9, x.10, x.11, x.12] 8 == (0 : Int) else false) = true)
   (Tree.chk ((v == (1 : Int)) = true → (v == (1 : Int)) = true)
   (Tree.done (XV.tup [AV.agg [iv x.1, iv x.2, iv t, iv (IntKind.wrap IntKind.i64 (x.4 + (1 : Int))), iv x.5, iv x.6, iv x.7, iv x.8, iv x.9, iv x.10, iv x.11, iv x.12, CV.sl 0 0 0 2 (List.length ws) cap, iv x.13, iv x.14], AV.c (CV.v (Value.bool (bif v == (1 : Int) then bif bif x.3 == (-1 : Int) then allW [x.5, x.6, x.7, x.8, x.9, x.10, x.11, x.12] 8 == (0 : Int) else false then true else bif x.3 == t then decide (x.4 < (1000 : Int)) else false else false)))]) [(Ent.ws own cap ws), Ent.dead, Ent.dead, Ent.dead]))))))))))))))))
   (Tree.br (k == (3 : Int))
   (Tree.callf 35 [AV.agg [iv x.1, iv x.2, iv x.3, iv x.4, iv x.5, iv x.6, iv x.7, iv x.8, iv x.9, iv x.10, iv x.11, iv x.12, CV.sl 0 0 0 2 (List.length ws) cap, iv x.13, iv x.14]] [(Ent.ws own cap ws), (Ent.mkBox 25 [iv x.1, iv x.2, iv x.3, iv x.4, iv x.5, iv x.6, iv x.7, iv x.8, iv x.9, iv x.10, iv x.11, iv x.12, CV.sl 0 0 0 2 (List.length ws) cap, iv x.13, iv x.14]), (Ent.mkBox 29 [iv k, iv v]), (Ent.mkBox 25 [iv (0 : Int), iv (0 : Int), iv (0 : Int), iv (0 : Int), iv (0 : Int), iv (0 : Int), iv (0 : Int), iv (0 : Int), iv (0 : Int), iv (0 : Int), iv (0 : Int), iv (0 : Int), CV.v (Value.slice none 0 0), iv (0 : Int), iv (0 : Int)])] (freeC x ws own cap [0]) fun c => Tree.chk ((x.3 == t) = true → (x.3 == t) = true)
   (Tree.chk ((x.3 == t) = true → (x.3 == t) = true)
   (Tree.done (XV.tup [AV.agg [iv (freeS x).1, iv (freeS x).2, iv (freeS x).3, iv (freeS x).4, iv (freeS x).5, iv (freeS x).6, iv (freeS x).7, iv (freeS x).8, iv (freeS x).9, iv (freeS x).10, iv (freeS x).11, iv (freeS x).12, CV.sl 0 0 0 2 (List.length ws) cap, iv (freeS x).13, iv (freeS x).14], AV.c (CV.v (Value.bool (bif x.3 == t then v == (0 : Int) else false)))]) [(Ent.ws own cap ws), Ent.dead, Ent.dead, Ent.dead])))
   (Tree.br (k == (2 : Int))
   (Tree.chk ((0 : Int) ≤ t ∧ t < (↑8 : Int))
   (Tree.chk (Int.toNat t < 8)
   (Tree.chk ((0 : Int) ≤ t ∧ t < (↑8 : Int))
   (Tree.chk (Int.toNat t < 8)
   (Tree.chk ((v == (0 : Int)) = true → (v == (0 : Int)) = true)
   (Tree.chk ((v == (0 : Int)) = true → (v == (0 : Int)) = true)
   (Tree.chk ((v == (0 : Int)) = true → (v == (0 : Int)) = true)
   (Tree.chk ((v == (0 : Int)) = true → (v == (0 : Int)) = true)
   (Tree.chk ((v == (0 : Int)) = true → (x.3 == (-1 : Int)) = false → (v == (0 : Int) && !x.3 == (-1 : Int)) = true)
   (Tree.chk ((v == (0 : Int)) = true → (v == (0 : Int)) = true)
   (Tree.chk ((bif v == (0 : Int) then bif x.3 == (-1 : Int) then true else x.3 == t else false) = true → (bif v == (0 : Int) then bif x.3 == (-1 : Int) then true else x.3 == t else false) = true)
   (Tree.chk ((bif v == (0 : Int) then bif x.3 == (-1 : Int) then true else x.3 == t else false) = true → (bif v == (0 : Int) then bif x.3 == (-1 : Int) then true else x.3 == t else false) = true)
   (Tree.done (XV.tup [AV.agg [iv x.1, iv x.2, iv x.3, iv x.4, iv (if Int.toNat t = 0 then IntKind.wrap IntKind.i64 (List.getD [x.5, x.6, x.7, x.8, x.9, x.10, x.11, x.12] (Int.toNat t) (0 : Int) + (1 : Int)) else x.5), iv (if Int.toNat t = 1 then IntKind.wrap IntKind.i64 (List.getD [x.5, x.6, x.7, x.8, x.9, x.10, x.11, x.12] (Int.toNat t) (0 : Int) + (1 : Int)) else x.6), iv (if Int.toNat t = 2 then IntKind.wrap IntKind.i64 (List.getD [x.5, x.6, x.7, x.8, x.9, x.10, x.11, x.12] (Int.toNat t) (0 : Int) + (1 : Int)) else x.7), iv (if Int.toNat t = 3 then IntKind.wrap IntKind.i64 (List.getD [x.5, x.6, x.7, x.8, x.9, x.10, x.11, x.12] (Int.toNat t) (0 : Int) + (1 : Int)) else x.8), iv (if Int.toNat t = 4 then IntKind.wrap IntKind.i64 (List.getD [x.5, x.6, x.7, x.8, x.9, x.10, x.11, x.12] (Int.toNat t) (0 : Int) + (1 : Int)) else x.9), iv (if Int.toNat t = 5 then IntKind.wrap IntKind.i64 (List.getD [x.5, x.6, x.7, x.8, x.9, x.10, x.11, x.12] (Int.toNat t) (0 : Int) + (1 : Int)) else x.10), iv (if Int.toNat t = 6 then IntKind.wrap IntKind.i64 (List.getD [x.5, x.6, x.7, x.8, x.9, x.10, x.11, x.12] (Int.toNat t) (0 : Int) + (1 : Int)) else x.11), iv (if Int.toNat t = 7 then IntKind.wrap IntKind.i64 (List.getD [x.5, x.6, x.7, x.8, x.9, x.10, x.11, x.12] (Int.toNat t) (0 : Int) + (1 : Int)) else x.12), CV.sl 0 0 0 2 (List.length ws) cap, iv x.13, iv x.14], AV.c (CV.v (Value.bool (bif bif v == (0 : Int) then bif x.3 == (-1 : Int) then true else x.3 == t else false then decide (allW [x.5, x.6, x.7, x.8, x.9, x.10, x.11, x.12] 8 < (1000 : Int)) else false)))]) [(Ent.ws own cap ws), Ent.dead, Ent.dead, Ent.dead])))))))))))))
   (Tree.br (k == (4 : Int))
   (Tree.chk ((0 : Int) ≤ t ∧ t < (↑8 : Int))
   (Tree.chk (Int.toNat t < 8)
   (Tree.chk ((0 : Int) ≤ t ∧ t < (↑8 : Int))
   (Tree.chk (Int.toNat t < 8)
   (Tree.chk ((v == (0 : Int)) = true → (v == (0 : Int)) = true)
   (Tree.chk ((v == (0 : Int)) = true → (v == (0 : Int)) = true)
   (Tree.chk ((v == (0 : Int)) = true → (0 : Int) ≤ t ∧ t < (↑8 : Int))
   (Tree.chk ((v == (0 : Int)) = true → (v == (0 : Int)) = true)
   (Tree.chk ((v == (0 : Int)) = true → Int.toNat t < 8)
   (Tree.chk ((v == (0 : Int)) = true → (v == (0 : Int)) = true)
   (Tree.chk ((v == (0 : Int)) = true → (v == (0 : Int)) = true)
   (Tree.chk ((v == (0 : Int)) = true → (v == (0 : Int)) = true)
   (Tree.chk (AV.c (CV.v (Value.bool (bif v == (0 : Int) then decide (List.getD [if Int.toNat t = 0 then IntKind.wrap IntKind.i64 (List.getD [x.5, x.6, x.7, x.8, x.9, x.10, x.11, x.12] (Int.toNat t) (0 : Int) - (1 : Int)) else x.5, if Int.toNat t = 1 then IntKind.wrap IntKind.i64 (List.getD [x.5, x.6, x.7, x.8, x.9, x.10, x.11, x.12] (Int.toNat t) (0 : Int) - (1 : Int)) else x.6, if Int.toNat t = 2 then IntKind.wrap IntKind.i64 (List.getD [x.5, x.6, x.7, x.8, x.9, x.10, x.11, x.12] (Int.toNat t) (0 : Int) - (1 : Int)) else x.7, if Int.toNat t = 3 then IntKind.wrap IntKind.i64 (List.getD [x.5, x.6, x.7, x.8, x.9, x.10, x.11, x.12] (Int.toNat t) (0 : Int) - (1 : Int)) else x.8, if Int.toNat t = 4 then IntKind.wrap IntKind.i64 (List.getD [x.5, x.6, x.7, x.8, x.9, x.10, x.11, x.12] (Int.toNat t) (0 : Int) - (1 : Int)) else x.9, if Int.toNat t = 5 then IntKind.wrap IntKind.i64 (List.getD [x.5, x.6, x.7, x.8, x.9, x.10, x.11, x.12] (Int.toNat t) (0 : Int) - (1 : Int)) else x.10, if Int.toNat t = 6 then IntKind.wrap IntKind.i64 (List.getD [x.5, x.6, x.7, x.8, x.9, x.10, x.11, x.12] (Int.toNat t) (0 : Int) - (1 : Int)) else x.11, if Int.toNat t = 7 then IntKind.wrap IntKind.i64 (List.getD [x.5, x.6, x.7, x.8, x.9, x.10, x.11, x.12] (Int.toNat t) (0 : Int) - (1 : Int)) else x.12] (Int.toNat t) (0 : Int) ≥ (0 : Int)) else false))) = AV.c (CV.v (Value.bool (bif v == (0 : Int) then decide (List.getD [if Int.toNat t = 0 then IntKind.wrap IntKind.i64 (List.getD [x.5, x.6, x.7, x.8, x.9, x.10, x.11, x.12] (Int.toNat t) (0 : Int) - (1 : Int)) else x.5, if Int.toNat t = 1 then IntKind.wrap IntKind.i64 (List.getD [x.5, x.6, x.7, x.8, x.9, x.10, x.11, x.12] (Int.toNat t) (0 : Int) - (1 : Int)) else x.6, if Int.toNat t = 2 then IntKind.wrap IntKind.i64 (List.getD [x.5, x.6, x.7, x.8, x.9, x.10, x.11, x.12] (Int.toNat t) (0 : Int) - (1 : Int)) else x.7, if Int.toNat t = 3 then IntKind.wrap IntKind.i64 (List.getD [x.5, x.6, x.7, x.8, x.9, x.10, x.11, x.12] (Int.toNat t) (0 : Int) - (1 : Int)) else x.8, if Int.toNat t = 4 then IntKind.wrap IntKind.i64 (List.getD [x.5, x.6, x.7, x.8, x.9, x.10, x.11, x.12] (Int.toNat t) (0 : Int) - (1 : Int)) else x.9, if Int.toNat t = 5 then IntKind.wrap IntKind.i64 (List.getD [x.5, x.6, x.7, x.8, x.9, x.10, x.11, x.12] (Int.toNat t) (0 : Int) - (1 : Int)) else x.10, if Int.toNat t = 6 then IntKind.wrap IntKind.i64 (List.getD [x.5, x.6, x.7, x.8, x.9, x.10, x.11, x.12] (Int.toNat t) (0 : Int) - (1 : Int)) else x.11, if Int.toNat t = 7 then IntKind.wrap IntKind.i64 (List.getD [x.5, x.6, x.7, x.8, x.9, x.10, x.11, x.12] (Int.toNat t) (0 : Int) - (1 : Int)) else x.12] (Int.toNat t) (0 : Int) ≥ (0 : Int)) else false))))
   (Tree.chk ((v == (0 : Int)) = true → (v == (0 : Int)) = true)
   (Tree.chk ((v == (0 : Int)) = true → AV.c (CV.v (Value.bool (decide (List.getD [if Int.toNat t = 0 then IntKind.wrap IntKind.i64 (List.getD [x.5, x.6, x.7, x.8, x.9, x.10, x.11, x.12] (Int.toNat t) (0 : Int) - (1 : Int)) else x.5, if Int.toNat t = 1 then IntKind.wrap IntKind.i64 (List.getD [x.5, x.6, x.7, x.8, x.9, x.10, x.11, x.12] (Int.toNat t) (0 : Int) - (1 : Int)) else x.6, if Int.toNat t = 2 then IntKind.wrap IntKind.i64 (List.getD [x.5, x.6, x.7, x.8, x.9, x.10, x.11, x.12] (Int.toNat t) (0 : Int) - (1 : Int)) else x.7, if Int.toNat t = 3 then IntKind.wrap IntKind.i64 (List.getD [x.5, x.6, x.7, x.8, x.9, x.10, x.11, x.12] (Int.toNat t) (0 : Int) - (1 : Int)) else x.8, if Int.toNat t = 4 then IntKind.wrap IntKind.i64 (List.getD [x.5, x.6, x.7, x.8, x.9, x.10, x.11, x.12] (Int.toNat t) (0 : Int) - (1 : Int)) else x.9, if Int.toNat t = 5 then IntKind.wrap IntKind.i64 (List.getD [x.5, x.6, x.7, x.8, x.9, x.10, x.11, x.12] (Int.toNat t) (0 : Int) - (1 : Int)) else x.10, if Int.toNat t = 6 then IntKind.wrap IntKind.i64 (List.getD [x.5, x.6, x.7, x.8, x.9, x.10, x.11, x.12] (Int.toNat t) (0 : Int) - (1 : Int)) else x.11, if Int.toNat t = 7 then IntKind.wrap IntKind.i64 (List.getD [x.5, x.6, x.7, x.8, x.9, x.10, x.11, x.12] (Int.toNat t) (0 : Int) - (1 : Int)) else x.12] (Int.toNat t) (0 : Int) ≥ (0 : Int))))) = AV.c (CV.v (Value.bool (decide (List.getD [if Int.toNat t = 0 then IntKind.wrap IntKind.i64 (List.getD [x.5, x.6, x.7, x.8, x.9, x.10, x.11, x.12] (Int.toNat t) (0 : Int) - (1 : Int)) else x.5, if Int.toNat t = 1 then IntKind.wrap IntKind.i64 (List.getD [x.5, x.6, x.7, x.8, x.9, x.10, x.11, x.12] (Int.toNat t) (0 : Int) - (1 : Int)) else x.6, if Int.toNat t = 2 then IntKind.wrap IntKind.i64 (List.getD [x.5, x.6, x.7, x.8, x.9, x.10, x.11, x.12] (Int.toNat t) (0 : Int) - (1 : Int)) else x.7, if Int.toNat t = 3 then IntKind.wrap IntKind.i64 (List.getD [x.5, x.6, x.7, x.8, x.9, x.10, x.11, x.12] (Int.toNat t) (0 : Int) - (1 : Int)) else x.8, if Int.toNat t = 4 then IntKind.wrap IntKind.i64 (List.getD [x.5, x.6, x.7, x.8, x.9, x.10, x.11, x.12] (Int.toNat t) (0 : Int) - (1 : Int)) else x.9, if Int.toNat t = 5 then IntKind.wrap IntKind.i64 (List.getD [x.5, x.6, x.7, x.8, x.9, x.10, x.11, x.12] (Int.toNat t) (0 : Int) - (1 : Int)) else x.10, if Int.toNat t = 6 then IntKind.wrap IntKind.i64 (List.getD [x.5, x.6, x.7, x.8, x.9, x.10, x.11, x.12] (Int.toNat t) (0 : Int) - (1 : Int)) else x.11, if Int.toNat t = 7 then IntKind.wrap IntKind.i64 (List.getD [x.5, x.6, x.7, x.8, x.9, x.10, x.11, x.12] (Int.toNat t) (0 : Int) - (1 : Int)) else x.12] (Int.toNat t) (0 : Int) ≥ (0 : Int))))))
   (Tree.chk ((v == (0 : Int)) = true → (v == (0 : Int)) = true)
   (Tree.chk ((v == (0 : Int)) = true → Int.toNat t < 8)
   (Tree.chk ((v == (0 : Int)) = true → AV.c (iv (List.getD [if Int.toNat t = 0 then IntKind.wrap IntKind.i64 (List.getD [x.5, x.6, x.7, x.8, x.9, x.10, x.11, x.12] (Int.toNat t) (0 : Int) - (1 : Int)) else x.5, if Int.toNat t = 1 then IntKind.wrap IntKind.i64 (List.getD [x.5, x.6, x.7, x.8, x.9, x.10, x.11, x.12] (Int.toNat t) (0 : Int) - (1 : Int)) else x.6, if Int.toNat t = 2 then IntKind.wrap IntKind.i64 (List.getD [x.5, x.6, x.7, x.8, x.9, x.10, x.11, x.12] (Int.toNat t) (0 : Int) - (1 : Int)) else x.7, if Int.toNat t = 3 then IntKind.wrap IntKind.i64 (List.getD [x.5, x.6, x.7, x.8, x.9, x.10, x.11, x.12] (Int.toNat t) (0 : Int) - (1 : Int)) else x.8, if Int.toNat t = 4 then IntKind.wrap IntKind.i64 (List.getD [x.5, x.6, x.7, x.8, x.9, x.10, x.11, x.12] (Int.toNat t) (0 : Int) - (1 : Int)) else x.9, if Int.toNat t = 5 then IntKind.wrap IntKind.i64 (List.getD [x.5, x.6, x.7, x.8, x.9, x.10, x.11, x.12] (Int.toNat t) (0 : Int) - (1 : Int)) else x.10, if Int.toNat t = 6 then IntKind.wrap IntKind.i64 (List.getD [x.5, x.6, x.7, x.8, x.9, x.10, x.11, x.12] (Int.toNat t) (0 : Int) - (1 : Int)) else x.11, if Int.toNat t = 7 then IntKind.wrap IntKind.i64 (List.getD [x.5, x.6, x.7, x.8, x.9, x.10, x.11, x.12] (Int.toNat t) (0 : Int) - (1 : Int)) else x.12] (Int.toNat t) (0 : Int))) = AV.c (iv (List.getD [if Int.toNat t = 0 then IntKind.wrap IntKind.i64 (List.getD [x.5, x.6, x.7, x.8, x.9, x.10, x.11, x.12] (Int.toNat t) (0 : Int) - (1 : Int)) else x.5, if Int.toNat t = 1 then IntKind.wrap IntKind.i64 (List.getD [x.5, x.6, x.7, x.8, x.9, x.10, x.11, x.12] (Int.toNat t) (0 : Int) - (1 : Int)) else x.6, if Int.toNat t = 2 then IntKind.wrap IntKind.i64 (List.getD [x.5, x.6, x.7, x.8, x.9, x.10, x.11, x.12] (Int.toNat t) (0 : Int) - (1 : Int)) else x.7, if Int.toNat t = 3 then IntKind.wrap IntKind.i64 (List.getD [x.5, x.6, x.7, x.8, x.9, x.10, x.11, x.12] (Int.toNat t) (0 : Int) - (1 : Int)) else x.8, if Int.toNat t = 4 then IntKind.wrap IntKind.i64 (List.getD [x.5, x.6, x.7, x.8, x.9, x.10, x.11, x.12] (Int.toNat t) (0 : Int) - (1 : Int)) else x.9, if Int.toNat t = 5 then IntKind.wrap IntKind.i64 (List.getD [x.5, x.6, x.7, x.8, x.9, x.10, x.11, x.12] (Int.toNat t) (0 : Int) - (1 : Int)) else x.10, if Int.toNat t = 6 then IntKind.wrap IntKind.i64 (List.getD [x.5, x.6, x.7, x.8, x.9, x.10, x.11, x.12] (Int.toNat t) (0 : Int) - (1 : Int)) else x.11, if Int.toNat t = 7 then IntKind.wrap IntKind.i64 (List.getD [x.5, x.6, x.7, x.8, x.9, x.10, x.11, x.12] (Int.toNat t) (0 : Int) - (1 : Int)) else x.12] (Int.toNat t) (0 : Int))))
   (Tree.chk ((v == (0 : Int)) = true → (v == (0 : Int)) = true)
   (Tree.chk ((v == (0 : Int)) = true → (v == (0 : Int)) = true)
   (Tree.chk ((v == (0 : Int)) = true → (0 : Int) ≤ t ∧ t < (↑8 : Int))
   (Tree.chk ((v == (0 : Int)) = true → AV.c (CV.ptr { k := 1, j := 0, i := 0, sz := 15, c := 4, d := Int.toNat t, dn := 8, cu := 0 }) = AV.c (CV.ptr { k := 1, j := 0, i := 0, sz := 15, c := 4, d := Int.toNat t, dn := 8, cu := 0 }))
   (Tree.chk ((v == (0 : Int)) = true → AV.c (CV.ptr { k := 1, j := 0, i := 0, sz := 15, c := 4, d := 0, dn := 0, cu := 0 }) = AV.c (CV.ptr { k := 1, j := 0, i := 0, sz := 15, c := 4, d := 0, dn := 0, cu := 0 }))
   (Tree.chk ((v == (0 : Int)) = true → AV.c (iv t) = AV.c (iv t))
   (Tree.done (XV.tup [AV.agg [iv x.1, iv x.2, iv x.3, iv x.4, iv (if Int.toNat t = 0 then IntKind.wrap IntKind.i64 (List.getD [x.5, x.6, x.7, x.8, x.9, x.10, x.11, x.12] (Int.toNat t) (0 : Int) - (1 : Int)) else x.5), iv (if Int.toNat t = 1 then IntKind.wrap IntKind.i64 (List.getD [x.5, x.6, x.7, x.8, x.9, x.10, x.11, x.12] (Int.toNat t) (0 : Int) - (1 : Int)) else x.6), iv (if Int.toNat t = 2 then IntKind.wrap IntKind.i64 (List.getD [x.5, x.6, x.7, x.8, x.9, x.10, x.11, x.12] (Int.toNat t) (0 : Int) - (1 : Int)) else x.7), iv (if Int.toNat t = 3 then IntKind.wrap IntKind.i64 (List.getD [x.5, x.6, x.7, x.8, x.9, x.10, x.11, x.12] (Int.toNat t) (0 : Int) - (1 : Int)) else x.8), iv (if Int.toNat t = 4 then IntKind.wrap IntKind.i64 (List.getD [x.5, x.6, x.7, x.8, x.9, x.10, x.11, x.12] (Int.toNat t) (0 : Int) - (1 : Int)) else x.9), iv (if Int.toNat t = 5 then IntKind.wrap IntKind.i64 (List.getD [x.5, x.6, x.7, x.8, x.9, x.10, x.11, x.12] (Int.toNat t) (0 : Int) - (1 : Int)) else x.10), iv (if Int.toNat t = 6 then IntKind.wrap IntKind.i64 (List.getD [x.5, x.6, x.7, x.8, x.9, x.10, x.11, x.12] (Int.toNat t) (0 : Int) - (1 : Int)) else x.11), iv (if Int.toNat t = 7 then IntKind.wrap IntKind.i64 (List.getD [x.5, x.6, x.7, x.8, x.9, x.10, x.11, x.12] (Int.toNat t) (0 : Int) - (1 : Int)) else x.12), CV.sl 0 0 0 2 (List.length ws) cap, iv x.13, iv x.14], AV.c (CV.v (Value.bool (bif v == (0 : Int) then decide (List.getD [if Int.toNat t = 0 then IntKind.wrap IntKind.i64 (List.getD [x.5, x.6, x.7, x.8, x.9, x.10, x.11, x.12] (Int.toNat t) (0 : Int) - (1 : Int)) else x.5, if Int.toNat t = 1 then IntKind.wrap IntKind.i64 (List.getD [x.5, x.6, x.7, x.8, x.9, x.10, x.11, x.12] (Int.toNat t) (0 : Int) - (1 : Int)) else x.6, if Int.toNat t = 2 then IntKind.wrap IntKind.i64 (List.getD [x.5, x.6, x.7, x.8, x.9, x.10, x.11, x.12] (Int.toNat t) (0 : Int) - (1 : Int)) else x.7, if Int.toNat t = 3 then IntKind.wrap IntKind.i64 (List.getD [x.5, x.6, x.7, x.8, x.9, x.10, x.11, x.12] (Int.toNat t) (0 : Int) - (1 : Int)) else x.8, if Int.toNat t = 4 then IntKind.wrap IntKind.i64 (List.getD [x.5, x.6, x.7, x.8, x.9, x.10, x.11, x.12] (Int.toNat t) (0 : Int) - (1 : Int)) else x.9, if Int.toNat t = 5 then IntKind.wrap IntKind.i64 (List.getD [x.5, x.6, x.7, x.8, x.9, x.10, x.11, x.12] (Int.toNat t) (0 : Int) - (1 : Int)) else x.10, if Int.toNat t = 6 then IntKind.wrap IntKind.i64 (List.getD [x.5, x.6, x.7, x.8, x.9, x.10, x.11, x.12] (Int.toNat t) (0 : Int) - (1 : Int)) else x.11, if Int.toNat t = 7 then IntKind.wrap IntKind.i64 (List.getD [x.5, x.6, x.7, x.8, x.9, x.10, x.11, x.12] (Int.toNat t) (0 : Int) - (1 : Int)) else x.12] (Int.toNat t) (0 : Int) ≥ (0 : Int)) else false)))]) [(Ent.ws own cap ws), Ent.dead, Ent.dead, Ent.dead])))))))))))))))))))))))))
   (Tree.br (k == (5 : Int))
   (Tree.chk ((v == (0 : Int)) = true → (v == (0 : Int)) = true)
   (Tree.chk ((v == (0 : Int)) = true → (v == (0 : Int)) = true)
   (Tree.chk ((bif v == (0 : Int) then !x.3 == t else false) = true → (bif v == (0 : Int) then !x.3 == t else false) = true)
   (Tree.chk ((bif v == (0 : Int) then !x.3 == t else false) = true → (bif v == (0 : Int) then !x.3 == t else false) = true)
   (Tree.chk ((bif v == (0 : Int) then !x.3 == t else false) = true → (bif v == (0 : Int) then !x.3 == t else false) = true)
   (Tree.chk (((bif v == (0 : Int) then !x.3 == t else false) && !x.3 != (-1 : Int)) = true → ((bif v == (0 : Int) then !x.3 == t else false) && !x.3 != (-1 : Int)) = true)
   (Tree.chk ((bif v == (0 : Int) then !x.3 == t else false) = true → (bif v == (0 : Int) then !x.3 == t else false) = true)
   (Tree.chk ((bif v == (0 : Int) then !x.3 == t else false) = true → (x.3 != (-1 : Int)) = false → ((bif v == (0 : Int) then !x.3 == t else false) && !x.3 != (-1 : Int)) = true)
   (Tree.chk ((bif v == (0 : Int) then !x.3 == t else false) = true → (bif v == (0 : Int) then !x.3 == t else false) = true)
   (Tree.chk ((!bif bif v == (0 : Int) then !x.3 == t else false then bif x.3 != (-1 : Int) then true else decide (allW [x.5, x.6, x.7, x.8, x.9, x.10, x.11, x.12] 8 > (0 : Int)) else false) = true → (!bif bif v == (0 : Int) then !x.3 == t else false then bif x.3 != (-1 : Int) then true else decide (allW [x.5, x.6, x.7, x.8, x.9, x.10, x.11, x.12] 8 > (0 : Int)) else false) = true)
   (Tree.chk ((!bif bif v == (0 : Int) then !x.3 == t else false then bif x.3 != (-1 : Int) then true else decide (allW [x.5, x.6, x.7, x.8, x.9, x.10, x.11, x.12] 8 > (0 : Int)) else false) = true → (!bif bif v == (0 : Int) then !x.3 == t else false then bif x.3 != (-1 : Int) then true else decide (allW [x.5, x.6, x.7, x.8, x.9, x.10, x.11, x.12] 8 > (0 : Int)) else false) = true)
   (Tree.chk (((!bif bif v == (0 : Int) then !x.3 == t else false then bif x.3 != (-1 : Int) then true else decide (allW [x.5, x.6, x.7, x.8, x.9, x.10, x.11, x.12] 8 > (0 : Int)) else false) && v == (1 : Int)) = true → ((!bif bif v == (0 : Int) then !x.3 == t else false then bif x.3 != (-1 : Int) then true else decide (allW [x.5, x.6, x.7, x.8, x.9, x.10, x.11, x.12] 8 > (0 : Int)) else false) && v == (1 : Int)) = true)
   (Tree.chk (((!bif bif v == (0 : Int) then !x.3 == t else false then bif x.3 != (-1 : Int) then true else decide (allW [x.5, x.6, x.7, x.8, x.9, x.10, x.11, x.12] 8 > (0 : Int)) else false) && v == (1 : Int)) = true → ((!bif bif v == (0 : Int) then !x.3 == t else false then bif x.3 != (-1 : Int) then true else decide (allW [x.5, x.6, x.7, x.8, x.9, x.10, x.11, x.12] 8 > (0 : Int)) else false) && v == (1 : Int)) = true)
   (Tree.chk ((!bif bif v == (0 : Int) then !x.3 == t else false then bif x.3 != (-1 : Int) then true else decide (allW [x.5, x.6, x.7, x.8, x.9, x.10, x.11, x.12] 8 > (0 : Int)) else false) = true → (!bif bif v == (0 : Int) then !x.3 == t else false then bif x.3 != (-1 : Int) then true else decide (allW [x.5, x.6, x.7, x.8, x.9, x.10, x.11, x.12] 8 > (0 : Int)) else false) = true)
   (Tree.chk ((!bif bif v == (0 : Int) then !x.3 == t else false then bif x.3 != (-1 : Int) then true else decide (allW [x.5, x.6, x.7, x.8, x.9, x.10, x.11, x.12] 8 > (0 : Int)) else false) = true → (v == (1 : Int)) = true → ((!bif bif v == (0 : Int) then !x.3 == t else false then bif x.3 != (-1 : Int) then true else decide (allW [x.5, x.6, x.7, x.8, x.9, x.10, x.11, x.12] 8 > (0 : Int)) else false) && v == (1 : Int)) = true)
   (Tree.chk ((!bif bif v == (0 : Int) then !x.3 == t else false then bif x.3 != (-1 : Int) then true else decide (allW [x.5, x.6, x.7, x.8, x.9, x.10, x.11, x.12] 8 > (0 : Int)) else false) = true → (!bif bif v == (0 : Int) then !x.3 == t else false then bif x.3 != (-1 : Int) then true else decide (allW [x.5, x.6, x.7, x.8, x.9, x.10, x.11, x.12] 8 > (0 : Int)) else false) = true)
   (Tree.chk (((!bif bif v == (0 : Int) then !x.3 == t else false then bif x.3 != (-1 : Int) then true else decide (allW [x.5, x.6, x.7, x.8, x.9, x.10, x.11, x.12] 8 > (0 : Int)) else false) && bif v == (1 : Int) then x.3 != (-1 : Int) else false) = true → ((!bif bif v == (0 : Int) then !x.3 == t else false then bif x.3 != (-1 : Int) then true else decide (allW [x.5, x.6, x.7, x.8, x.9, x.10, x.11, x.12] 8 > (0 : Int)) else false) && bif v == (1 : Int) then x.3 != (-1 : Int) else false) = true)
   (Tree.chk ((!bif bif v == (0 : Int) then !x.3 == t else false then bif x.3 != (-1 : Int) then true else decide (allW [x.5, x.6, x.7, x.8, x.9, x.10, x.11, x.12] 8 > (0 : Int)) else false) = true → (!bif bif v == (0 : Int) then !x.3 == t else false then bif x.3 != (-1 : Int) then true else decide (allW [x.5, x.6, x.7, x.8, x.9, x.10, x.11, x.12] 8 > (0 : Int)) else false) = true)
   (Tree.chk ((!bif bif v == (0 : Int) then !x.3 == t else false then bif x.3 != (-1 : Int) then true else decide (allW [x.5, x.6, x.7, x.8, x.9, x.10, x.11, x.12] 8 > (0 : Int)) else false) = true → (bif v == (1 : Int) then x.3 != (-1 : Int) else false) = true → ((!bif bif v == (0 : Int) then !x.3 == t else false then bif x.3 != (-1 : Int) then true else decide (allW [x.5, x.6, x.7, x.8, x.9, x.10, x.11, x.12] 8 > (0 : Int)) else false) && bif v == (1 : Int) then x.3 != (-1 : Int) else false) = true)
   (Tree.chk ((bif bif v == (0 : Int) then !x.3 == t else false then bif x.3 != (-1 : Int) then true else decide (allW [x.5, x.6, x.7, x.8, x.9, x.10, x.11, x.12] 8 > (0 : Int)) else false) = false → (!bif bif v == (0 : Int) then !x.3 == t else false then bif x.3 != (-1 : Int) then true else decide (allW [x.5, x.6, x.7, x.8, x.9, x.10, x.11, x.12] 8 > (0 : Int)) else false) = true)
   (Tree.done (XV.tup [AV.agg [iv x.1, iv x.2, iv x.3, iv x.4, iv x.5, iv x.6, iv x.7, iv x.8, iv x.9, iv x.10, iv x.11, iv x.12, CV.sl 0 0 0 2 (List.length ws) cap, iv x.13, iv x.14], AV.c (CV.v (Value.bool (bif bif bif v == (0 : Int) then !x.3 == t else false then bif x.3 != (-1 : Int) then true else decide (allW [x.5, x.6, x.7, x.8, x.9, x.10, x.11, x.12] 8 > (0 : Int)) else false then true else bif bif v == (1 : Int) then x.3 != (-1 : Int) else false then !x.3 == t else false)))]) [(Ent.ws own cap ws), Ent.dead, Ent.dead, Ent.dead])))))))))))))))))))))
   (Tree.br (k == (6 : Int))
   (Tree.chk ((v == (0 : Int)) = true → (v == (0 : Int)) = true)
   (Tree.chk ((v == (0 : Int)) = true → (v == (0 : Int)) = true)
   (Tree.chk ((!bif v == (0 : Int) then !x.3 == t else false) = true → (!bif v == (0 : Int) then !x.3 == t else false) = true)
   (Tree.chk ((!bif v == (0 : Int) then !x.3 == t else false) = true → (!bif v == (0 : Int) then !x.3 == t else false) = true)
   (Tree.chk (((!bif v == (0 : Int) then !x.3 == t else false) && v == (1 : Int)) = true → ((!bif v == (0 : Int) then !x.3 == t else false) && v == (1 : Int)) = true)
   (Tree.chk (((!bif v == (0 : Int) then !x.3 == t else false) && v == (1 : Int)) = true → ((!bif v == (0 : Int) then !x.3 == t else false) && v == (1 : Int)) = true)
   (Tree.chk (((!bif v == (0 : Int) then !x.3 == t else false) && v == (1 : Int)) = true → (0 : Int) ≤ t ∧ t < (↑8 : Int))
   (Tree.chk (((!bif v == (0 : Int) then !x.3 == t else false) && v == (1 : Int)) = true → ((!bif v == (0 : Int) then !x.3 == t else false) && v == (1 : Int)) = true)
   (Tree.chk (((!bif v == (0 : Int) then !x.3 == t else false) && v == (1 : Int)) = true → Int.toNat t < 8)
   (Tree.chk (((!bif v == (0 : Int) then !x.3 == t else false) && v == (1 : Int)) = true → ((!bif v == (0 : Int) then !x.3 == t else false) && v == (1 : Int)) = true)
   (Tree.chk ((!bif v == (0 : Int) then !x.3 == t else false) = true → (!bif v == (0 : Int) then !x.3 == t else false) = true)
   (Tree.chk ((!bif v == (0 : Int) then !x.3 == t else false) = true → (v == (1 : Int)) = true → ((!bif v == (0 : Int) then !x.3 == t else false) && v == (1 : Int)) = true)
   (Tree.chk ((bif v == (0 : Int) then !x.3 == t else false) = false → (!bif v == (0 : Int) then !x.3 == t else false) = true)
   (Tree.chk ((bif v == (0 : Int) then !x.3 == t else false) = false → (!bif v == (0 : Int) then !x.3 == t else false) = true)
   (Tree.chk (AV.c (CV.v (Value.bool (bif bif v == (0 : Int) then !x.3 == t else false then true else bif v == (1 : Int) then List.getD [x.5, x.6, x.7, x.8, x.9, x.10, x.11, x.12] (Int.toNat t) (0 : Int) == (0 : Int) else false))) = AV.c (CV.v (Value.bool (bif bif v == (0 : Int) then !x.3 == t else false then true else bif v == (1 : Int) then List.getD [x.5, x.6, x.7, x.8, x.9, x.10, x.11, x.12] (Int.toNat t) (0 : Int) == (0 : Int) else false))))
   (Tree.chk ((!bif v == (0 : Int) then !x.3 == t else false) = true → (!bif v == (0 : Int) then !x.3 == t else false) = true)
   (Tree.chk ((!bif v == (0 : Int) then !x.3 == t else false) = true → (v == (1 : Int)) = true → ((!bif v == (0 : Int) then !x.3 == t else false) && v == (1 : Int)) = true)
   (Tree.chk ((!bif v == (0 : Int) then !x.3 == t else false) = true → AV.c (CV.v (Value.bool (bif v == (1 : Int) then List.getD [x.5, x.6, x.7, x.8, x.9, x.10, x.11, x.12] (Int.toNat t) (0 : Int) == (0 : Int) else false))) = AV.c (CV.v (Value.bool (bif v == (1 : Int) then List.getD [x.5, x.6, x.7, x.8, x.9, x.10, x.11, x.12] (Int.toNat t) (0 : Int) == (0 : Int) else false))))
   (Tree.chk (((!bif v == (0 : Int) then !x.3 == t else false) && v == (1 : Int)) = true → ((!bif v == (0 : Int) then !x.3 == t else false) && v == (1 : Int)) = true)
   (Tree.chk (((!bif v == (0 : Int) then !x.3 == t else false) && v == (1 : Int)) = true → AV.c (CV.v (Value.bool (List.getD [x.5, x.6, x.7, x.8, x.9, x.10, x.11, x.12] (Int.toNat t) (0 : Int) == (0 : Int)))) = AV.c (CV.v (Value.bool (List.getD [x.5, x.6, x.7, x.8, x.9, x.10, x.11, x.12] (Int.toNat t) (0 : Int) == (0 : Int)))))
   (Tree.chk (((!bif v == (0 : Int) then !x.3 == t else false) && v == (1 : Int)) = true → ((!bif v == (0 : Int) then !x.3 == t else false) && v == (1 : Int)) = true)
   (Tree.chk (((!bif v == (0 : Int) then !x.3 == t else false) && v == (1 : Int)) = true → Int.toNat t < 8)
   (Tree.chk (((!bif v == (0 : Int) then !x.3 == t else false) && v == (1 : Int)) = true → AV.c (iv (List.getD [x.5, x.6, x.7, x.8, x.9, x.10, x.11, x.12] (Int.toNat t) (0 : Int))) = AV.c (iv (List.getD [x.5, x.6, x.7, x.8, x.9, x.10, x.11, x.12] (Int.toNat t) (0 : Int))))
   (Tree.chk (((!bif v == (0 : Int) then !x.3 == t else false) && v == (1 : Int)) = true → ((!bif v == (0 : Int) then !x.3 == t else false) && v == (1 : Int)) = true)
   (Tree.chk (((!bif v == (0 : Int) then !x.3 == t else false) && v == (1 : Int)) = true → ((!bif v == (0 : Int) then !x.3 == t else false) && v == (1 : Int)) = true)
   (Tree.chk (((!bif v == (0 : Int) then !x.3 == t else false) && v == (1 : Int)) = true → (0 : Int) ≤ t ∧ t < (↑8 : Int))
   (Tree.chk (((!bif v == (0 : Int) then !x.3 == t else false) && v == (1 : Int)) = true → AV.c (CV.ptr { k := 1, j := 0, i := 0, sz := 15, c := 4, d := Int.toNat t, dn := 8, cu := 0 }) = AV.c (CV.ptr { k := 1, j := 0, i := 0, sz := 15, c := 4, d := Int.toNat t, dn := 8, cu := 0 }))
   (Tree.chk (((!bif v == (0 : Int) then !x.3 == t else false) && v == (1 : Int)) = true → AV.c (CV.ptr { k := 1, j := 0, i := 0, sz := 15, c := 4, d := 0, dn := 0, cu := 0 }) = AV.c (CV.ptr { k := 1, j := 0, i := 0, sz := 15, c := 4, d := 0, dn := 0, cu := 0 }))
   (Tree.chk (((!bif v == (0 : Int) then !x.3 == t else false) && v == (1 : Int)) = true → AV.c (iv t) = AV.c (iv t))
   (Tree.done (XV.tup [AV.agg [iv x.1, iv x.2, iv x.3, iv x.4, iv x.5, iv x.6, iv x.7, iv x.8, iv x.9, iv x.10, iv x.11, iv x.12, CV.sl 0 0 0 2 (List.length ws) cap, iv x.13, iv x.14], AV.c (CV.v (Value.bool (bif bif v == (0 : Int) then !x.3 == t else false then true else bif v == (1 : Int) then List.getD [x.5, x.6, x.7, x.8, x.9, x.10, x.11, x.12] (Int.toNat t) (0 : Int) == (0 : Int) else false)))]) [(Ent.ws own cap ws), Ent.dead, Ent.dead, Ent.dead]))))))))))))))))))))))))))))))
   (Tree.br (k == (7 : Int))
   (Tree.chk ((v == (0 : Int)) = true → (v == (0 : Int)) = true)
   (Tree.chk ((bif v == (0 : Int) then x.3 == t else false) = true → (bif v == (0 : Int) then x.3 == t else false) = true)
   (Tree.chk ((bif v == (0 : Int) then x.3 == t else false) = true → (bif v == (0 : Int) then x.3 == t else false) = true)
   (Tree.chk ((bif v == (0 : Int) then x.3 == t else false) = true → (bif v == (0 : Int) then x.3 == t else false) = true)
   (Tree.chk ((!bif bif v == (0 : Int) then x.3 == t else false then x.4 == (1000 : Int) else false) = true → (!bif bif v == (0 : Int) then x.3 == t else false then x.4 == (1000 : Int) else false) = true)
   (Tree.chk ((!bif bif v == (0 : Int) then x.3 == t else false then x.4 == (1000 : Int) else false) = true → (!bif bif v == (0 : Int) then x.3 == t else false then x.4 == (1000 : Int) else false) = true)
   (Tree.chk (((!bif bif v == (0 : Int) then x.3 == t else false then x.4 == (1000 : Int) else false) && v == (1 : Int)) = true → ((!bif bif v == (0 : Int) then x.3 == t else false then x.4 == (1000 : Int) else false) && v == (1 : Int)) = true)
   (Tree.chk ((!bif bif v == (0 : Int) then x.3 == t else false then x.4 == (1000 : Int) else false) = true → (!bif bif v == (0 : Int) then x.3 == t else false then x.4 == (1000 : Int) else false) = true)
   (Tree.chk ((!bif bif v == (0 : Int) then x.3 == t else false then x.4 == (1000 : Int) else false) = true → (v == (1 : Int)) = true → ((!bif bif v == (0 : Int) then x.3 == t else false then x.4 == (1000 : Int) else false) && v == (1 : Int)) = true)
   (Tree.chk ((bif bif v == (0 : Int) then x.3 == t else false then x.4 == (1000 : Int) else false) = false → (!bif bif v == (0 : Int) then x.3 == t else false then x.4 == (1000 : Int) else false) = true)
   (Tree.done (XV.tup [AV.agg [iv x.1, iv x.2, iv x.3, iv x.4, iv x.5, iv x.6, iv x.7, iv x.8, iv x.9, iv x.10, iv x.11, iv x.12, CV.sl 0 0 0 2 (List.length ws) cap, iv x.13, iv x.14], AV.c (CV.v (Value.bool (bif bif bif v == (0 : Int) then x.3 == t else false then x.4 == (1000 : Int) else false then true else bif v == (1 : Int) then allW [x.5, x.6, x.7, x.8, x.9, x.10, x.11, x.12] 8 == (1000 : Int) else false)))]) [(Ent.ws own cap ws), Ent.dead, Ent.dead, Ent.dead])))))))))))
   (Tree.done (XV.tup [AV.agg [iv x.1, iv x.2, iv x.3, iv x.4, iv x.5, iv x.6, iv x.7, iv x.8, iv x.9, iv x.10, iv x.11, iv x.12, CV.sl 0 0 0 2 (List.length ws) cap, iv x.13, iv x.14], AV.c (CV.v (Value.bool false))]) [(Ent.ws own cap ws), Ent.dead, Ent.dead, Ent.dead])))))))))))))
theorem trw_eq (x : Thg) (t k v : Int) (ws : List Wt) (own : Bool) (cap : Nat) : xfunc tab (readsG ws own) noInv Go.Proofs.Try.f28 [x.av 0 0 ws.length cap, .c (iv t), markA k v] [Ent.ws own cap ws] [0] = trw x t k v ws own cap := by kernel_rfl
def trwr (x : Thg) (t k v : Int) (ws : List Wt) (own : Bool) (cap : Nat) : Tree :=
  Tree.callf 33 [AV.agg [iv x.1, iv x.2, iv x.3, iv x.4, iv x.5, iv x.6, iv x.7, iv x.8, iv x.9, iv x.10, iv x.11, iv x.12, CV.sl 0 0 0 2 (List.length ws) cap, iv x.13, iv x.14]] [(Ent.ws own cap ws), (Ent.mkBox 25 [iv x.1, iv x.2, iv x.3, iv x.4, iv x.5, iv x.6, iv x.7, iv x.8, iv x.9, iv x.10, iv x.11, iv x.12, CV.sl 0 0 0 2 (List.length ws) cap, iv x.13, iv x.14]), (Ent.mkBox 25 [iv (0 : Int), iv (0 : Int), iv (0 : Int), iv (0 : Int), iv (0 : Int), iv (0 : Int), iv (0 : Int), iv (0 : Int), iv (0 : Int), iv (0 : Int), iv (0 : Int), iv (0 : Int), CV.v (Value.slice none 0 0), iv (0 : Int), iv (0 : Int)])] (readsC x ws own cap [0]) fun c => Tree.br (k == (1 : Int))
   (Tree.chk ((v == (1 : Int)) = true → (v == (1 : Int)) = true)
   (Tree.chk ((v == (1 : Int)) = true → (v == (1 : Int)) = true)
   (Tree.chk ((v == (1 : Int)) = true → (v == (1 : Int)) = true)
   (Tree.chk ((v == (1 : Int) && x.3 == (-1 : Int)) = true → (v == (1 : Int) && x.3 == (-1 : Int)) = true)
   (Tree.chk ((v == (1 : Int)) = true → (v == (1 : Int)) = true)
   (Tree.chk ((v == (1 : Int)) = true → (x.3 == (-1 : Int)) = true → (v == (1 : Int) && x.3 == (-1 : Int)) = true)
   (Tree.chk ((v == (1 : Int)) = true → (v == (1 : Int)) = true)
   (Tree.chk ((v == (1 : Int) && !bif x.3 == (-1 : Int) then allW [x.5, x.6, x.7, x.8, x.9, x.10, x.11, x.12] 8 == (0 : Int) else false) = true → (v == (1 : Int) && !bif x.3 == (-1 : Int) then allW [x.5, x.6, x.7, x.8, x.9, x.10, x.11, x.12] 8 == (0 : Int) else false) = true)
   (Tree.chk (((v == (1 : Int) && !bif x.3 == (-1 : Int) then allW [x.5, x.6, x.7, x.8, x.9, x.10, x.11, x.12] 8 == (0 : Int) else false) && x.3 == t) = true → ((v == (1 : Int) && !bif x.3 == (-1 : Int) then allW [x.5, x.6, x.7, x.8, x.9, x.10, x.11, x.12] 8 == (0 : Int) else false) && x.3 == t) = true)
   (Tree.chk (((v == (1 : Int) && !bif x.3 == (-1 : Int) then allW [x.5, x.6, x.7, x.8, x.9, x.10, x.11, x.12] 8 == (0 : Int) else false) && x.3 == t) = true → ((v == (1 : Int) && !bif x.3 == (-1 : Int) then allW [x.5, x.6, x.7, x.8, x.9, x.10, x.11, x.12] 8 == (0 : Int) else false) && x.3 == t) = true)
   (Tree.chk ((v == (1 : Int) && !bif x.3 == (-1 : Int) then allW [x.5, x.6, x.7, x.8, x.9, x.10, x.11, x.12] 8 == (0 : Int) else false) = true → (v == (1 : Int) && !bif x.3 == (-1 : Int) then allW [x.5, x.6, x.7, x.8, x.9, x.10, x.11, x.12] 8 == (0 : Int) else false) = true)
   (Tree.chk ((v == (1 : Int) && !bif x.3 == (-1 : Int) then allW [x.5, x.6, x.7, x.8, x.9, x.10, x.11, x.12] 8 == (0 : Int) else false) = true → (x.3 == t) = true → ((v == (1 : Int) && !bif x.3 == (-1 : Int) then allW [x.5, x.6, x.7, x.8, x.9, x.10, x.11, x.12] 8 == (0 : Int) else false) && x.3 == t) = true)
   (Tree.chk ((v == (1 : Int)) = true → (v == (1 : Int)) = true)
   (Tree.chk ((v == (1 : Int)) = true → (bif x.3 == (-1 : Int) then allW [x.5, x.6, x.7, x.8, x.9, x.10, x.11, x.12] 8 == (0 : Int) else false) = false → (v == (1 : Int) && !bif x.3 == (-1 : Int) then allW [x.5, x.6, x.7, x.8, x.9, x.10, x.11, x.12] 8 == (0 : Int) else false) = true)
   (Tree.chk ((v == (1 : Int)) = true → (v == (1 : Int)) = true)
   (Tree.br (bif v == (1 : Int) then bif bif x.3 == (-1 : Int) then allW [x.5, x.6, x.7, x.8, x.9, x.10, x.11, x.12] 8 == (0 : Int) else false then true else bif x.3 == t then decide (x.4 < (1000 : Int)) else false else false)
   (Tree.done (XV.tup [AV.agg [iv x.1, iv x.2, iv t, iv (IntKind.wrap IntKind.i64 (x.4 + (1 : Int))), iv x.5, iv x.6, iv x.7, iv x.8, iv x.9, iv x.10, iv x.11, iv x.12, CV.sl 0 0 0 2 (List.length ws) cap, iv x.13, iv x.14], AV.c (CV.v (Value.bool true))]) [(Ent.ws own cap ws), Ent.dead, Ent.dead])
   (Tree.done (XV.tup [AV.agg [iv x.1, iv x.2, iv x.3, iv x.4, iv x.5, iv x.6, iv x.7, iv x.8, iv x.9, iv x.10, iv x.11, iv x.12, CV.sl 0 0 0 2 (List.length ws) cap, iv x.13, iv x.14], AV.c (CV.v (Value.bool false))]) [(Ent.ws own cap ws), Ent.dead, Ent.dead])))))))))))))))))
   (Tree.br (k == (2 : Int))
   (Tree.chk ((v == (0 : Int)) = true → (v == (0 : Int)) = true)
   (Tree.chk ((v == (0 : Int)) = true → (v == (0 : Int)) = true)
   (Tree.chk ((v == (0 : Int)) = true → (v == (0 : Int)) = true)
   (Tree.chk ((v == (0 : Int)) = true → (v == (0 : Int)) = true)
   (Tree.chk ((v == (0 : Int)) = true → (x.3 == (-1 : Int)) = false → (v == (0 : Int) && !x.3 == (-1 : Int)) = true)
   (Tree.chk ((v == (0 : Int)) = true → (v == (0 : Int)) = true)
   (Tree.chk ((bif v == (0 : Int) then bif x.3 == (-1 : Int) then true else x.3 == t else false) = true → (bif v == (0 : Int) then bif x.3 == (-1 : Int) then true else x.3 == t else false) = true)
   (Tree.chk ((bif v == (0 : Int) then bif x.3 == (-1 : Int) then true else x.3 == t else false) = true → (bif v == (0 : Int) then bif x.3 == (-1 : Int) then true else x.3 == t else false) = true)
   (Tree.br (bif bif v == (0 : Int) then bif x.3 == (-1 : Int) then true else x.3 == t else false then decide (allW [x.5, x.6, x.7, x.8, x.9, x.10, x.11, x.12] 8 < (1000 : Int)) else false)
   (Tree.chk ((0 : Int) ≤ t ∧ t < (↑8 : Int))
   (Tree.chk (Int.toNat t < 8)
   (Tree.chk ((0 : Int) ≤ t ∧ t < (↑8 : Int))
   (Tree.chk (Int.toNat t < 8)
   (Tree.done (XV.tup [AV.agg [iv x.1, iv x.2, iv x.3, iv x.4, iv (if Int.toNat t = 0 then IntKind.wrap IntKind.i64 (List.getD [x.5, x.6, x.7, x.8, x.9, x.10, x.11, x.12] (Int.toNat t) (0 : Int) + (1 : Int)) else x.5), iv (if Int.toNat t = 1 then IntKind.wrap IntKind.i64 (List.getD [x.5, x.6, x.7, x.8, x.9, x.10, x.11, x.12] (Int.toNat t) (0 : Int) + (1 : Int)) else x.6), iv (if Int.toNat t = 2 then IntKind.wrap IntKind.i64 (List.getD [x.5, x.6, x.7, x.8, x.9, x.10, x.11, x.12] (Int.toNat t) (0 : Int) + (1 : Int)) else x.7), iv (if Int.toNat t = 3 then IntKind.wrap IntKind.i64 (List.getD [x.5, x.6, x.7, x.8, x.9, x.10, x.11, x.12] (Int.toNat t) (0 : Int) + (1 : Int)) else x.8), iv (if Int.toNat t = 4 then IntKind.wrap IntKind.i64 (List.getD [x.5, x.6, x.7, x.8, x.9, x.10, x.11, x.12] (Int.toNat t) (0 : Int) + (1 : Int)) else x.9), iv (if Int.toNat t = 5 then IntKind.wrap IntKind.i64 (List.getD [x.5, x.6, x.7, x.8, x.9, x.10, x.11, x.12] (Int.toNat t) (0 : Int) + (1 : Int)) else x.10), iv (if Int.toNat t = 6 then IntKind.wrap IntKind.i64 (List.getD [x.5, x.6, x.7, x.8, x.9, x.10, x.11, x.12] (Int.toNat t) (0 : Int) + (1 : Int)) else x.11), iv (if Int.toNat t = 7 then IntKind.wrap IntKind.i64 (List.getD [x.5, x.6, x.7, x.8, x.9, x.10, x.11, x.12] (Int.toNat t) (0 : Int) + (1 : Int)) else x.12), CV.sl 0 0 0 2 (List.length ws) cap, iv x.13, iv x.14], AV.c (CV.v (Value.bool true))]) [(Ent.ws own cap ws), Ent.dead, Ent.dead])))))
   (Tree.done (XV.tup [AV.agg [iv x.1, iv x.2, iv x.3, iv x.4, iv x.5, iv x.6, iv x.7, iv x.8, iv x.9, iv x.10, iv x.11, iv x.12, CV.sl 0 0 0 2 (List.length ws) cap, iv x.13, iv x.14], AV.c (CV.v (Value.bool false))]) [(Ent.ws own cap ws), Ent.dead, Ent.dead]))))))))))
   (Tree.br (k == (3 : Int))
   (Tree.chk ((x.3 == t) = true → (x.3 == t) = true)
   (Tree.chk ((x.3 == t) = true → (x.3 == t) = true)
   (Tree.br (bif x.3 == t then v == (0 : Int) else false)
   (Tree.callf 31 [AV.agg [iv x.1, iv x.2, iv x.3, iv x.4, iv x.5, iv x.6, iv x.7, iv x.8, iv x.9, iv x.10, iv x.11, iv x.12, CV.sl 0 0 0 2 (List.length ws) cap, iv x.13, iv x.14]] [(Ent.ws own cap ws), (Ent.mkBox 25 [iv x.1, iv x.2, iv x.3, iv x.4, iv x.5, iv x.6, iv x.7, iv x.8, iv x.9, iv x.10, iv x.11, iv x.12, CV.sl 0 0 0 2 (List.length ws) cap, iv x.13, iv x.14]), (Ent.mkBox 25 [iv (0 : Int), iv (0 : Int), iv (0 : Int), iv (0 : Int), iv (0 : Int), iv (0 : Int), iv (0 : Int), iv (0 : Int), iv (0 : Int), iv (0 : Int), iv (0 : Int), iv (0 : Int), CV.v (Value.slice none 0 0), iv (0 : Int), iv (0 : Int)])] (freeC x ws own cap [0]) fun c => Tree.done (XV.tup [AV.agg [iv (freeS x).1, iv (freeS x).2, iv (freeS x).3, iv (freeS x).4, iv (freeS x).5, iv (freeS x).6, iv (freeS x).7, iv (freeS x).8, iv (freeS x).9, iv (freeS x).10, iv (freeS x).11, iv (freeS x).12, CV.sl 0 0 0 2 (List.length ws) cap, iv (freeS x).13, iv (freeS x).14], AV.c (CV.v (Value.bool true))]) [(Ent.ws own cap ws), Ent.dead, Ent.dead])
   (Tree.done (XV.tup [AV.agg [iv x.1, iv x.2, iv x.3, iv x.4, iv x.5, iv x.6, iv x.7, iv x.8, iv x.9, iv x.10, iv x.11, iv x.12, CV.sl 0 0 0 2 (List.length ws) cap, iv x.13, iv x.14], AV.c (CV.v (Value.bool false))]) [(Ent.ws own cap ws), Ent.dead, Ent.dead]))))
   (Tree.br (k == (4 : Int))
   (Tree.chk ((v == (0 : Int)) = true → (v == (0 : Int)) = true)
   (Tree.chk ((v == (0 : Int)) = true → (v == (0 : Int)) = true)
   (Tree.chk ((v == (0 : Int)) = true → (0 : Int) ≤ t ∧ t < (↑8 : Int))
   (Tree.chk ((v == (0 : Int)) = true → (v == (0 : Int)) = true)
   (Tree.chk ((v == (0 : Int)) = true → Int.toNat t < 8)
   (Tree.chk ((v == (0 : Int)) = true → (v == (0 : Int)) = true)
   (Tree.chk ((v == (0 : Int)) = true → (v == (0 : Int)) = true)
   (Tree.br (bif v == (0 : Int) then decide (List.getD [x.5, x.6, x.7, x.8, x.9, x.10, x.11, x.12] (Int.toNat t) (0 : Int) > (0 : Int)) else false)
   (Tree.chk ((0 : Int) ≤ t ∧ t < (↑8 : Int))
   (Tree.chk (Int.toNat t < 8)
   (Tree.chk ((0 : Int) ≤ t ∧ t < (↑8 : Int))
   (Tree.chk (Int.toNat t < 8)
   (Tree.done (XV.tup [AV.agg [iv x.1, iv x.2, iv x.3, iv x.4, iv (if Int.toNat t = 0 then IntKind.wrap IntKind.i64 (List.getD [x.5, x.6, x.7, x.8, x.9, x.10, x.11, x.12] (Int.toNat t) (0 : Int) - (1 : Int)) else x.5), iv (if Int.toNat t = 1 then IntKind.wrap IntKind.i64 (List.getD [x.5, x.6, x.7, x.8, x.9, x.10, x.11, x.12] (Int.toNat t) (0 : Int) - (1 : Int)) else x.6), iv (if Int.toNat t = 2 then IntKind.wrap IntKind.i64 (List.getD [x.5, x.6, x.7, x.8, x.9, x.10, x.11, x.12] (Int.toNat t) (0 : Int) - (1 : Int)) else x.7), iv (if Int.toNat t = 3 then IntKind.wrap IntKind.i64 (List.getD [x.5, x.6, x.7, x.8, x.9, x.10, x.11, x.12] (Int.toNat t) (0 : Int) - (1 : Int)) else x.8), iv (if Int.toNat t = 4 then IntKind.wrap IntKind.i64 (List.getD [x.5, x.6, x.7, x.8, x.9, x.10, x.11, x.12] (Int.toNat t) (0 : Int) - (1 : Int)) else x.9), iv (if Int.toNat t = 5 then IntKind.wrap IntKind.i64 (List.getD [x.5, x.6, x.7, x.8, x.9, x.10, x.11, x.12] (Int.toNat t) (0 : Int) - (1 : Int)) else x.10), iv (if Int.toNat t = 6 then IntKind.wrap IntKind.i64 (List.getD [x.5, x.6, x.7, x.8, x.9, x.10, x.11, x.12] (Int.toNat t) (0 : Int) - (1 : Int)) else x.11), iv (if Int.toNat t = 7 then IntKind.wrap IntKind.i64 (List.getD [x.5, x.6, x.7, x.8, x.9, x.10, x.11, x.12] (Int.toNat t) (0 : Int) - (1 : Int)) else x.12), CV.sl 0 0 0 2 (List.length ws) cap, iv x.13, iv x.14], AV.c (CV.v (Value.bool true))]) [(Ent.ws own cap ws), Ent.dead, Ent.dead])))))
   (Tree.done (XV.tup [AV.agg [iv x.1, iv x.2, iv x.3, iv x.4, iv x.5, iv x.6, iv x.7, iv x.8, iv x.9, iv x.10, iv x.11, iv x.12, CV.sl 0 0 0 2 (List.length ws) cap, iv x.13, iv x.14], AV.c (CV.v (Value.bool false))]) [(Ent.ws own cap ws), Ent.dead, Ent.dead])))))))))
   (Tree.br (k == (5 : Int))
   (Tree.chk ((v == (0 : Int)) = true → (v == (0 : Int)) = true)
   (Tree.chk ((v == (0 : Int)) = true → (v == (0 : Int)) = true)
   (Tree.chk ((bif v == (0 : Int) then !x.3 == t else false) = true → (bif v == (0 : Int) then !x.3 == t else false) = true)
   (Tree.chk ((bif v == (0 : Int) then !x.3 == t else false) = true → (bif v == (0 : Int) then !x.3 == t else false) = true)
   (Tree.chk ((bif v == (0 : Int) then !x.3 == t else false) = true → (bif v == (0 : Int) then !x.3 == t else false) = true)
   (Tree.chk (((bif v == (0 : Int) then !x.3 == t else false) && !x.3 != (-1 : Int)) = true → ((bif v == (0 : Int) then !x.3 == t else false) && !x.3 != (-1 : Int)) = true)
   (Tree.chk ((bif v == (0 : Int) then !x.3 == t else false) = true → (bif v == (0 : Int) then !x.3 == t else false) = true)
   (Tree.chk ((bif v == (0 : Int) then !x.3 == t else false) = true → (x.3 != (-1 : Int)) = false → ((bif v == (0 : Int) then !x.3 == t else false) && !x.3 != (-1 : Int)) = true)
   (Tree.chk ((bif v == (0 : Int) then !x.3 == t else false) = true → (bif v == (0 : Int) then !x.3 == t else false) = true)
   (Tree.chk ((!bif bif v == (0 : Int) then !x.3 == t else false then bif x.3 != (-1 : Int) then true else decide (allW [x.5, x.6, x.7, x.8, x.9, x.10, x.11, x.12] 8 > (0 : Int)) else false) = true → (!bif bif v == (0 : Int) then !x.3 == t else false then bif x.3 != (-1 : Int) then true else decide (allW [x.5, x.6, x.7, x.8, x.9, x.10, x.11, x.12] 8 > (0 : Int)) else false) = true)
   (Tree.chk ((!bif bif v == (0 : Int) then !x.3 == t else false then bif x.3 != (-1 : Int) then true else decide (allW [x.5, x.6, x.7, x.8, x.9, x.10, x.11, x.12] 8 > (0 : Int)) else false) = true → (!bif bif v == (0 : Int) then !x.3 == t else false then bif x.3 != (-1 : Int) then true else decide (allW [x.5, x.6, x.7, x.8, x.9, x.10, x.11, x.12] 8 > (0 : Int)) else false) = true)
   (Tree.chk (((!bif bif v == (0 : Int) then !x.3 == t else false then bif x.3 != (-1 : Int) then true else decide (allW [x.5, x.6, x.7, x.8, x.9, x.10, x.11, x.12] 8 > (0 : Int)) else false) && v == (1 : Int)) = true → ((!bif bif v == (0 : Int) then !x.3 == t else false then bif x.3 != (-1 : Int) then true else decide (allW [x.5, x.6, x.7, x.8, x.9, x.10, x.11, x.12] 8 > (0 : Int)) else false) && v == (1 : Int)) = true)
   (Tree.chk (((!bif bif v == (0 : Int) then !x.3 == t else false then bif x.3 != (-1 : Int) then true else decide (allW [x.5, x.6, x.7, x.8, x.9, x.10, x.11, x.12] 8 > (0 : Int)) else false) && v == (1 : Int)) = true → ((!bif bif v == (0 : Int) then !x.3 == t else false then bif x.3 != (-1 : Int) then true else decide (allW [x.5, x.6, x.7, x.8, x.9, x.10, x.11, x.12] 8 > (0 : Int)) else false) && v == (1 : Int)) = true)
   (Tree.chk ((!bif bif v == (0 : Int) then !x.3 == t else false then bif x.3 != (-1 : Int) then true else decide (allW [x.5, x.6, x.7, x.8, x.9, x.10, x.11, x.12] 8 > (0 : Int)) else false) = true → (!bif bif v == (0 : Int) then !x.3 == t else false then bif x.3 != (-1 : Int) then true else decide (allW [x.5, x.6, x.7, x.8, x.9, x.10, x.11, x.12] 8 > (0 : Int)) else false) = true)
   (Tree.chk ((!bif bif v == (0 : Int) then !x.3 == t else false then bif x.3 != (-1 : Int) then true else decide (allW [x.5, x.6, x.7, x.8, x.9, x.10, x.11, x.12] 8 > (0 : Int)) else false) = true → (v == (1 : Int)) = true → ((!bif bif v == (0 : Int) then !x.3 == t else false then bif x.3 != (-1 : Int) then true else decide (allW [x.5, x.6, x.7, x.8, x.9, x.10, x.11, x.12] 8 > (0 : Int)) else false) && v == (1 : Int)) = true)
   (Tree.chk ((!bif bif v == (0 : Int) then !x.3 == t else false then bif x.3 != (-1 : Int) then true else decide (allW [x.5, x.6, x.7, x.8, x.9, x.10, x.11, x.12] 8 > (0 : Int)) else false) = true → (!bif bif v == (0 : Int) then !x.3 == t else false then bif x.3 != (-1 : Int) then true else decide (allW [x.5, x.6, x.7, x.8, x.9, x.10, x.11, x.12] 8 > (0 : Int)) else false) = true)
   (Tree.chk (((!bif bif v == (0 : Int) then !x.3 == t else false then bif x.3 != (-1 : Int) then true else decide (allW [x.5, x.6, x.7, x.8, x.9, x.10, x.11, x.12] 8 > (0 : Int)) else false) && bif v == (1 : Int) then x.3 != (-1 : Int) else false) = true → ((!bif bif v == (0 : Int) then !x.3 == t else false then bif x.3 != (-1 : Int) then true else decide (allW [x.5, x.6, x.7, x.8, x.9, x.10, x.11, x.12] 8 > (0 : Int)) else false) && bif v == (1 : Int) then x.3 != (-1 : Int) else false) = true)
   (Tree.chk ((!bif bif v == (0 : Int) then !x.3 == t else false then bif x.3 != (-1 : Int) then true else decide (allW [x.5, x.6, x.7, x.8, x.9, x.10, x.11, x.12] 8 > (0 : Int)) else false) = true → (!bif bif v == (0 : Int) then !x.3 == t else false then bif x.3 != (-1 : Int) then true else decide (allW [x.5, x.6, x.7, x.8, x.9, x.10, x.11, x.12] 8 > (0 : Int)) else false) = true)
   (Tree.chk ((!bif bif v == (0 : Int) then !x.3 == t else false then bif x.3 != (-1 : Int) then true else decide (allW [x.5, x.6, x.7, x.8, x.9, x.10, x.11, x.12] 8 > (0 : Int)) else false) = true → (bif v == (1 : Int) then x.3 != (-1 : Int) else false) = true → ((!bif bif v == (0 : Int) then !x.3 == t else false then bif x.3 != (-1 : Int) then true else decide (allW [x.5, x.6, x.7, x.8, x.9, x.10, x.11, x.12] 8 > (0 : Int)) else false) && bif v == (1 : Int) then x.3 != (-1 : Int) else false) = true)
   (Tree.chk ((bif bif v == (0 : Int) then !x.3 == t else false then bif x.3 != (-1 : Int) then true else decide (allW [x.5, x.6, x.7, x.8, x.9, x.10, x.11, x.12] 8 > (0 : Int)) else false) = false → (!bif bif v == (0 : Int) then !x.3 == t else false then bif x.3 != (-1 : Int) then true else decide (allW [x.5, x.6, x.7, x.8, x.9, x.10, x.11, x.12] 8 > (0 : Int)) else false) = true)
   (Tree.done (XV.tup [AV.agg [iv x.1, iv x.2, iv x.3, iv x.4, iv x.5, iv x.6, iv x.7, iv x.8, iv x.9, iv x.10, iv x.11, iv x.12, CV.sl 0 0 0 2 (List.length ws) cap, iv x.13, iv x.14], AV.c (CV.v (Value.bool (bif bif bif v == (0 : Int) then !x.3 == t else false then bif x.3 != (-1 : Int) then true else decide (allW [x.5, x.6, x.7, x.8, x.9, x.10, x.11, x.12] 8 > (0 : Int)) else false then true else bif bif v == (1 : Int) then x.3 != (-1 : Int) else false then !x.3 == t else false)))]) [(Ent.ws own cap ws), Ent.dead, Ent.dead])))))))))))))))))))))
   (Tree.br (k == (6 : Int))
   (Tree.chk ((v == (0 : Int)) = true → (v == (0 : Int)) = true)
   (Tree.chk ((v == (0 : Int)) = true → (v == (0 : Int)) = true)
   (Tree.chk ((!bif v == (0 : Int) then !x.3 == t else false) = true → (!bif v == (0 : Int) then !x.3 == t else false) = true)
   (Tree.chk ((!bif v == (0 : Int) then !x.3 == t else false) = true → (!bif v == (0 : Int) then !x.3 == t else false) = true)
   (Tree.chk (((!bif v == (0 : Int) then !x.3 == t else false) && v == (1 : Int)) = true → ((!bif v == (0 : Int) then !x.3 == t else false) && v == (1 : Int)) = true)
   (Tree.chk (((!bif v == (0 : Int) then !x.3 == t else false) && v == (1 : Int)) = true → ((!bif v == (0 : Int) then !x.3 == t else false) && v == (1 : Int)) = true)
   (Tree.chk (((!bif v == (0 : Int) then !x.3 == t else false) && v == (1 : Int)) = true → (0 : Int) ≤ t ∧ t < (↑8 : Int))
   (Tree.chk (((!bif v == (0 : Int) then !x.3 == t else false) && v == (1 : Int)) = true → ((!bif v == (0 : Int) then !x.3 == t else false) && v == (1 : Int)) = true)
   (Tree.chk (((!bif v == (0 : Int) then !x.3 == t else false) && v == (1 : Int)) = true → Int.toNat t < 8)
   (Tree.chk (((!bif v == (0 : Int) then !x.3 == t else false) && v == (1 : Int)) = true → ((!bif v == (0 : Int) then !x.3 == t else false) && v == (1 : Int)) = true)
   (Tree.chk ((!bif v == (0 : Int) then !x.3 == t else false) = true → (!bif v == (0 : Int) then !x.3 == t else false) = true)
   (Tree.chk ((!bif v == (0 : Int) then !x.3 == t else false) = true → (v == (1 : Int)) = true → ((!bif v == (0 : Int) then !x.3 == t else false) && v == (1 : Int)) = true)
   (Tree.chk ((bif v == (0 : Int) then !x.3 == t else false) = false → (!bif v == (0 : Int) then !x.3 == t else false) = true)
   (Tree.chk ((bif v == (0 : Int) then !x.3 == t else false) = false → (!bif v == (0 : Int) then !x.3 == t else false) = true)
   (Tree.chk (AV.c (CV.v (Value.bool (bif bif v == (0 : Int) then !x.3 == t else false then true else bif v == (1 : Int) then List.getD [x.5, x.6, x.7, x.8, x.9, x.10, x.11, x.12] (Int.toNat t) (0 : Int) == (0 : Int) else false))) = AV.c (CV.v (Value.bool (bif bif v == (0 : Int) then !x.3 == t else false then true else bif v == (1 : Int) then List.getD [x.5, x.6, x.7, x.8, x.9, x.10, x.11, x.12] (Int.toNat t) (0 : Int) == (0 : Int) else false))))
   (Tree.chk ((!bif v == (0 : Int) then !x.3 == t else false) = true → (!bif v == (0 : Int) then !x.3 == t else false) = true)
   (Tree.chk ((!bif v == (0 : Int) then !x.3 == t else false) = true → (v == (1 : Int)) = true → ((!bif v == (0 : Int) then !x.3 == t else false) && v == (1 : Int)) = true)
   (Tree.chk ((!bif v == (0 : Int) then !x.3 == t else false) = true → AV.c (CV.v (Value.bool (bif v == (1 : Int) then List.getD [x.5, x.6, x.7, x.8, x.9, x.10, x.11, x.12] (Int.toNat t) (0 : Int) == (0 : Int) else false))) = AV.c (CV.v (Value.bool (bif v == (1 : Int) then List.getD [x.5, x.6, x.7, x.8, x.9, x.10, x.11, x.12] (Int.toNat t) (0 : Int) == (0 : Int) else false))))
   (Tree.chk (((!bif v == (0 : Int) then !x.3 == t else false) && v == (1 : Int)) = true → ((!bif v == (0 : Int) then !x.3 == t else false) && v == (1 : Int)) = true)
   (Tree.chk (((!bif v == (0 : Int) then !x.3 == t else false) && v == (1 : Int)) = true → AV.c (CV.v (Value.bool (List.getD [x.5, x.6, x.7, x.8, x.9, x.10, x.11, x.12] (Int.toNat t) (0 : Int) == (0 : Int)))) = AV.c (CV.v (Value.bool (List.getD [x.5, x.6, x.7, x.8, x.9, x.10, x.11, x.12] (Int.toNat t) (0 : Int) == (0 : Int)))))
   (Tree.chk (((!bif v == (0 : Int) then !x.3 == t else false) && v == (1 : Int)) = true → ((!bif v == (0 : Int) then !x.3 == t else false) && v == (1 : Int)) = true)
   (Tree.chk (((!bif v == (0 : Int) then !x.3 == t else false) && v == (1 : Int)) = true → Int.toNat t < 8)
   (Tree.chk (((!bif v == (0 : Int) then !x.3 == t else false) && v == (1 : Int)) = true → AV.c (iv (List.getD [x.5, x.6, x.7, x.8, x.9, x.10, x.11, x.12] (Int.toNat t) (0 : Int))) = AV.c (iv (List.getD [x.5, x.6, x.7, x.8, x.9, x.10, x.11, x.12] (Int.toNat t) (0 : Int))))
   (Tree.chk (((!bif v == (0 : Int) then !x.3 == t else false) && v == (1 : Int)) = true → ((!bif v == (0 : Int) then !x.3 == t else false) && v == (1 : Int)) = true)
   (Tree.chk (((!bif v == (0 : Int) then !x.3 == t else false) && v == (1 : Int)) = true → ((!bif v == (0 : Int) then !x.3 == t else false) && v == (1 : Int)) = true)
   (Tree.chk (((!bif v == (0 : Int) then !x.3 == t else false) && v == (1 : Int)) = true → (0 : Int) ≤ t ∧ t < (↑8 : Int))
   (Tree.chk (((!bif v == (0 : Int) then !x.3 == t else false) && v == (1 : Int)) = true → AV.c (CV.ptr { k := 1, j := 0, i := 0, sz := 15, c := 4, d := Int.toNat t, dn := 8, cu := 0 }) = AV.c (CV.ptr { k := 1, j := 0, i := 0, sz := 15, c := 4, d := Int.toNat t, dn := 8, cu := 0 }))
   (Tree.chk (((!bif v == (0 : Int) then !x.3 == t else false) && v == (1 : Int)) = true → AV.c (CV.ptr { k := 1, j := 0, i := 0, sz := 15, c := 4, d := 0, dn := 0, cu := 0 }) = AV.c (CV.ptr { k := 1, j := 0, i := 0, sz := 15, c := 4, d := 0, dn := 0, cu := 0 }))
   (Tree.chk (((!bif v == (0 : Int) then !x.3 == t else false) && v == (1 : Int)) = true → AV.c (iv t) = AV.c (iv t))
   (Tree.done (XV.tup [AV.agg [iv x.1, iv x.2, iv x.3, iv x.4, iv x.5, iv x.6, iv x.7, iv x.8, iv x.9, iv x.10, iv x.11, iv x.12, CV.sl 0 0 0 2 (List.length ws) cap, iv x.13, iv x.14], AV.c (CV.v (Value.bool (bif bif v == (0 : Int) then !x.3 == t else false then true else bif v == (1 : Int) then List.getD [x.5, x.6, x.7, x.8, x.9, x.10, x.11, x.12] (Int.toNat t) (0 : Int) == (0 : Int) else false)))]) [(Ent.ws own cap ws), Ent.dead, Ent.dead]))))))))))))))))))))))))))))))
   (Tree.br (k == (7 : Int))
   (Tree.chk ((v == (0 : Int)) = true → (v == (0 : Int)) = true)
   (Tree.chk ((bif v == (0 : Int) then x.3 == t else false) = true → (bif v == (0 : Int) then x.3 == t else false) = true)
   (Tree.chk ((bif v == (0 : Int) then x.3 == t else false) = true → (bif v == (0 : Int) then x.3 == t else false) = true)
   (Tree.chk ((bif v == (0 : Int) then x.3 == t else false) = true → (bif v == (0 : Int) then x.3 == t else false) = true)
   (Tree.chk ((!bif bif v == (0 : Int) then x.3 == t else false then x.4 == (1000 : Int) else false) = true → (!bif bif v == (0 : Int) then x.3 == t else false then x.4 == (1000 : Int) else false) = true)
   (Tree.chk ((!bif bif v == (0 : Int) then x.3 == t else false then x.4 == (1000 : Int) else false) = true → (!bif bif v == (0 : Int) then x.3 == t else false then x.4 == (1000 : Int) else false) = true)
   (Tree.chk (((!bif bif v == (0 : Int) then x.3 == t else false then x.4 == (1000 : Int) else false) && v == (1 : Int)) = true → ((!bif bif v == (0 : Int) then x.3 == t else false then x.4 == (1000 : Int) else false) && v == (1 : Int)) = true)
   (Tree.chk ((!bif bif v == (0 : Int) then x.3 == t else false then x.4 == (1000 : Int) else false) = true → (!bif bif v == (0 : Int) then x.3 == t else false then x.4 == (1000 : Int) else false) = true)
   (Tree.chk ((!bif bif v == (0 : Int) then x.3 == t else false then x.4 == (1000 : Int) else false) = true → (v == (1 : Int)) = true → ((!bif bif v == (0 : Int) then x.3 == t else false then x.4 == (1000 : Int) else false) && v == (1 : Int)) = true)
   (Tree.chk ((bif bif v == (0 : Int) then x.3 == t else false then x.4 == (1000 : Int) else false) = false → (!bif bif v == (0 : Int) then x.3 == t else false then x.4 == (1000 : Int) else false) = true)
   (Tree.done (XV.tup [AV.agg [iv x.1, iv x.2, iv x.3, iv x.4, iv x.5, iv x.6, iv x.7, iv x.8, iv x.9, iv x.10, iv x.11, iv x.12, CV.sl 0 0 0 2 (List.length ws) cap, iv x.13, iv x.14], AV.c (CV.v (Value.bool (bif bif bif v == (0 : Int) then x.3 == t else false then x.4 == (1000 : Int) else false then true else bif v == (1 : Int) then allW [x.5, x.6, x.7, x.8, x.9, x.10, x.11, x.12] 8 == (1000 : Int) else false)))]) [(Ent.ws own cap ws), Ent.dead, Ent.dead])))))))))))
   (Tree.done (XV.tup [AV.agg [iv x.1, iv x.2, iv x.3, iv x.4, iv x.5, iv x.6, iv x.7, iv x.8, iv x.9, iv x.10, iv x.11, iv x.12, CV.sl 0 0 0 2 (List.length ws) cap, iv x.13, iv x.14], AV.c (CV.v (Value.bool false))]) [(Ent.ws own cap ws), Ent.dead, Ent.dead])))))))
theorem trwr_eq (x : Thg) (t k v : Int) (ws : List Wt) (own : Bool) (cap : Nat) : xfunc tab (readsG ws own) noInv Go.Proofs.Try.f23 [x.av 0 0 ws.length cap, .c (iv t), .c (iv k), .c (iv v)] [Ent.ws own cap ws] [0] = trwr x t k v ws own cap := by kernel_rfl
def tsemar (x : Thg) (k v : Int) (ws : List Wt) (own : Bool) (cap : Nat) : Tree :=
  Tree.br (k == (1 : Int))
   (Tree.chk (decide (v ≥ (1 : Int)) = true → decide (v ≥ (1 : Int)) = true)
   (Tree.chk (decide (v ≥ (1 : Int)) = true → decide (v ≥ (1 : Int)) = true)
   (Tree.chk (decide (v ≥ (1 : Int)) = true → decide (v ≥ (1 : Int)) = true)
   (Tree.br (bif decide (v ≥ (1 : Int)) then decide (v ≤ x.2) else false)
   (Tree.done (XV.tup [AV.agg [iv x.1, iv (IntKind.wrap IntKind.i64 (x.2 - v)), iv x.3, iv x.4, iv x.5, iv x.6, iv x.7, iv x.8, iv x.9, iv x.10, iv x.11, iv x.12, CV.sl 0 0 0 2 (List.length ws) cap, iv x.13, iv x.14], AV.c (CV.v (Value.bool true))]) [(Ent.ws own cap ws), Ent.dead, Ent.dead])
   (Tree.done (XV.tup [AV.agg [iv x.1, iv x.2, iv x.3, iv x.4, iv x.5, iv x.6, iv x.7, iv x.8, iv x.9, iv x.10, iv x.11, iv x.12, CV.sl 0 0 0 2 (List.length ws) cap, iv x.13, iv x.14], AV.c (CV.v (Value.bool false))]) [(Ent.ws own cap ws), Ent.dead, Ent.dead])))))
   (Tree.br (k == (3 : Int))
   (Tree.chk (decide (v ≥ (1 : Int)) = true → decide (v ≥ (1 : Int)) = true)
   (Tree.chk (decide (v ≥ (1 : Int)) = true → decide (v ≥ (1 : Int)) = true)
   (Tree.chk (decide (v ≥ (1 : Int)) = true → decide (v ≥ (1 : Int)) = true)
   (Tree.chk (decide (v ≥ (1 : Int)) = true → decide (v ≥ (1 : Int)) = true)
   (Tree.br (bif decide (v ≥ (1 : Int)) then decide (v ≤ IntKind.wrap IntKind.i64 ((1000 : Int) - x.2)) else false)
   (Tree.done (XV.tup [AV.agg [iv x.1, iv (IntKind.wrap IntKind.i64 (x.2 + v)), iv x.3, iv x.4, iv x.5, iv x.6, iv x.7, iv x.8, iv x.9, iv x.10, iv x.11, iv x.12, CV.sl 0 0 0 2 (List.length ws) cap, iv x.13, iv x.14], AV.c (CV.v (Value.bool true))]) [(Ent.ws own cap ws), Ent.dead, Ent.dead])
   (Tree.done (XV.tup [AV.agg [iv x.1, iv x.2, iv x.3, iv x.4, iv x.5, iv x.6, iv x.7, iv x.8, iv x.9, iv x.10, iv x.11, iv x.12, CV.sl 0 0 0 2 (List.length ws) cap, iv x.13, iv x.14], AV.c (CV.v (Value.bool false))]) [(Ent.ws own cap ws), Ent.dead, Ent.dead]))))))
   (Tree.br (k == (5 : Int))
   (Tree.done (XV.tup [AV.agg [iv x.1, iv x.2, iv x.3, iv x.4, iv x.5, iv x.6, iv x.7, iv x.8, iv x.9, iv x.10, iv x.11, iv x.12, CV.sl 0 0 0 2 (List.length ws) cap, iv x.13, iv x.14], AV.c (CV.v (Value.bool (decide (v > x.2))))]) [(Ent.ws own cap ws), Ent.dead, Ent.dead])
   (Tree.br (k == (7 : Int))
   (Tree.chk (decide (v ≥ (1 : Int)) = true → decide (v ≥ (1 : Int)) = true)
   (Tree.chk (decide (v ≥ (1 : Int)) = true → decide (v ≥ (1 : Int)) = true)
   (Tree.chk (decide (v ≥ (1 : Int)) = true → decide (v ≥ (1 : Int)) = true)
   (Tree.chk (decide (v ≥ (1 : Int)) = true → decide (v ≥ (1 : Int)) = true)
   (Tree.done (XV.tup [AV.agg [iv x.1, iv x.2, iv x.3, iv x.4, iv x.5, iv x.6, iv x.7, iv x.8, iv x.9, iv x.10, iv x.11, iv x.12, CV.sl 0 0 0 2 (List.length ws) cap, iv x.13, iv x.14], AV.c (CV.v (Value.bool (bif decide (v ≥ (1 : Int)) then decide (v > IntKind.wrap IntKind.i64 ((1000 : Int) - x.2)) else false)))]) [(Ent.ws own cap ws), Ent.dead, Ent.dead])))))
   (Tree.br (k == (9 : Int))
   (Tree.br (v == x.2)
   (Tree.done (XV.tup [AV.agg [iv x.1, iv (0 : Int), iv x.3, iv x.4, iv x.5, iv x.6, iv x.7, iv x.8, iv x.9, iv x.10, iv x.11, iv x.12, CV.sl 0 0 0 2 (List.length ws) cap, iv x.13, iv x.14], AV.c (CV.v (Value.bool true))]) [(Ent.ws own cap ws), Ent.dead, Ent.dead])
   (Tree.done (XV.tup [AV.agg [iv x.1, iv x.2, iv x.3, iv x.4, iv x.5, iv x.6, iv x.7, iv x.8, iv x.9, iv x.10, iv x.11, iv x.12, CV.sl 0 0 0 2 (List.length ws) cap, iv x.13, iv x.14], AV.c (CV.v (Value.bool false))]) [(Ent.ws own cap ws), Ent.dead, Ent.dead]))
   (Tree.done (XV.tup [AV.agg [iv x.1, iv x.2, iv x.3, iv x.4, iv x.5, iv x.6, iv x.7, iv x.8, iv x.9, iv x.10, iv x.11, iv x.12, CV.sl 0 0 0 2 (List.length ws) cap, iv x.13, iv x.14], AV.c (CV.v (Value.bool false))]) [(Ent.ws own cap ws), Ent.dead, Ent.dead])))))
theorem tsemar_eq (x : Thg) (k v : Int) (ws : List Wt) (own : Bool) (cap : Nat) : xfunc tab noCtr noInv Go.Proofs.Try.f22 [x.av 0 0 ws.length cap, .c (iv k), .c (iv v)] [Ent.ws own cap ws] [0] = tsemar x k v ws own cap := by kernel_rfl
def tswapr (x : Thg) (t k v : Int) (ws : List Wt) (own : Bool) (cap : Nat) : Tree :=
  Tree.br (k == (15 : Int))
   (Tree.chk ((x.13 == (-1 : Int)) = true → (x.13 == (-1 : Int)) = true)
   (Tree.chk ((x.13 == (-1 : Int)) = true → (x.13 == (-1 : Int)) = true)
   (Tree.chk ((bif x.13 == (-1 : Int) then decide (v ≥ (0 : Int)) else false) = true → (bif x.13 == (-1 : Int) then decide (v ≥ (0 : Int)) else false) = true)
   (Tree.chk ((bif x.13 == (-1 : Int) then decide (v ≥ (0 : Int)) else false) = true → (bif x.13 == (-1 : Int) then decide (v ≥ (0 : Int)) else false) = true)
   (Tree.br (bif bif x.13 == (-1 : Int) then decide (v ≥ (0 : Int)) else false then decide (v ≤ (1000 : Int)) else false)
   (Tree.done (XV.tup [AV.agg [iv x.1, iv x.2, iv x.3, iv x.4, iv x.5, iv x.6, iv x.7, iv x.8, iv x.9, iv x.10, iv x.11, iv x.12, CV.sl 0 0 0 2 (List.length ws) cap, iv t, iv v], AV.c (CV.v (Value.bool true))]) [(Ent.ws own cap ws), Ent.dead, Ent.dead])
   (Tree.done (XV.tup [AV.agg [iv x.1, iv x.2, iv x.3, iv x.4, iv x.5, iv x.6, iv x.7, iv x.8, iv x.9, iv x.10, iv x.11, iv x.12, CV.sl 0 0 0 2 (List.length ws) cap, iv x.13, iv x.14], AV.c (CV.v (Value.bool false))]) [(Ent.ws own cap ws), Ent.dead, Ent.dead]))))))
   (Tree.br (k == (14 : Int))
   (Tree.chk ((x.13 != (-1 : Int)) = true → (x.13 != (-1 : Int)) = true)
   (Tree.chk ((x.13 != (-1 : Int)) = true → (x.13 != (-1 : Int)) = true)
   (Tree.chk ((x.13 != (-1 : Int)) = true → (x.13 != (-1 : Int)) = true)
   (Tree.chk ((x.13 != (-1 : Int)) = true → (x.13 != (-1 : Int)) = true)
   (Tree.chk ((bif x.13 != (-1 : Int) then x.13 != t else false) = true → (bif x.13 != (-1 : Int) then x.13 != t else false) = true)
   (Tree.chk ((bif x.13 != (-1 : Int) then x.13 != t else false) = true → (bif x.13 != (-1 : Int) then x.13 != t else false) = true)
   (Tree.chk ((bif x.13 != (-1 : Int) then x.13 != t else false) = true → (bif x.13 != (-1 : Int) then x.13 != t else false) = true)
   (Tree.chk ((bif x.13 != (-1 : Int) then x.13 != t else false) = true → (bif x.13 != (-1 : Int) then x.13 != t else false) = true)
   (Tree.br (bif bif x.13 != (-1 : Int) then x.13 != t else false then v == x.13 else false)
   (Tree.done (XV.tup [AV.agg [iv x.1, iv x.2, iv x.3, iv x.4, iv x.5, iv x.6, iv x.7, iv x.8, iv x.9, iv x.10, iv x.11, iv x.12, CV.sl 0 0 0 2 (List.length ws) cap, iv (-1 : Int), iv (0 : Int)], AV.c (CV.v (Value.bool true))]) [(Ent.ws own cap ws), Ent.dead, Ent.dead])
   (Tree.done (XV.tup [AV.agg [iv x.1, iv x.2, iv x.3, iv x.4, iv x.5, iv x.6, iv x.7, iv x.8, iv x.9, iv x.10, iv x.11, iv x.12, CV.sl 0 0 0 2 (List.length ws) cap, iv x.13, iv x.14], AV.c (CV.v (Value.bool false))]) [(Ent.ws own cap ws), Ent.dead, Ent.dead]))))))))))
   (Tree.br (k == (16 : Int))
   (Tree.chk ((x.13 == t) = true → (x.13 == t) = true)
   (Tree.chk ((x.13 == t) = true → (x.13 == t) = true)
   (Tree.br (bif x.13 == t then v == (0 : Int) else false)
   (Tree.done (XV.tup [AV.agg [iv x.1, iv x.2, iv x.3, iv x.4, iv x.5, iv x.6, iv x.7, iv x.8, iv x.9, iv x.10, iv x.11, iv x.12, CV.sl 0 0 0 2 (List.length ws) cap, iv (-1 : Int), iv (0 : Int)], AV.c (CV.v (Value.bool true))]) [(Ent.ws own cap ws), Ent.dead, Ent.dead])
   (Tree.done (XV.tup [AV.agg [iv x.1, iv x.2, iv x.3, iv x.4, iv x.5, iv x.6, iv x.7, iv x.8, iv x.9, iv x.10, iv x.11, iv x.12, CV.sl 0 0 0 2 (List.length ws) cap, iv x.13, iv x.14], AV.c (CV.v (Value.bool false))]) [(Ent.ws own cap ws), Ent.dead, Ent.dead]))))
   (Tree.done (XV.tup [AV.agg [iv x.1, iv x.2, iv x.3, iv x.4, iv x.5, iv x.6, iv x.7, iv x.8, iv x.9, iv x.10, iv x.11, iv x.12, CV.sl 0 0 0 2 (List.length ws) cap, iv x.13, iv x.14], AV.c (CV.v (Value.bool false))]) [(Ent.ws own cap ws), Ent.dead, Ent.dead])))
theorem tswapr_eq (x : Thg) (t k v : Int) (ws : List Wt) (own : Bool) (cap : Nat) : xfunc tab noCtr noInv Go.Proofs.Try.f24 [x.av 0 0 ws.length cap, .c (iv t), .c (iv k), .c (iv v)] [Ent.ws own cap ws] [0] = tswapr x t k v ws own cap := by kernel_rfl
def tclone (ws : List Wt) (own : Bool) (cap : Nat) : Tree :=
  Tree.chk (0 < 1)
   (Tree.every Bool fun b => Tree.br (!(b && Nat.blt 0 (List.length ws)))
   (Tree.br b
   (Tree.done (XV.a (AV.c (CV.v (Value.slice none 0 0)))) [(Ent.ws own cap ws)])
   (Tree.chk ((0 + List.length ws) * 16 ≤ 140737488355328)
   (Tree.chk (0 < 1 ∧ 0 + List.length ws ≤ List.length ws)
   (Tree.chk (0 = 0 ∧ 0 = 0)
   (Tree.all (fun c => 0 + List.length ws ≤ c 0 ∧ c 0 ≤ maxLen) fun c => Tree.done (XV.a (AV.c (CV.sl 2 0 0 2 (0 + List.length ws) (c 0)))) [(Ent.ws own cap ws), Ent.dead, { own := true, box := false, ty := 37, sz := 2, m := 1, n := fun x => 0 + List.length ws, cap := fun x => c 0, f := fun x i => [iv (Prod.fst (List.getD ws (i - 0) ((0 : Int), (0 : Int)))), iv (Prod.snd (List.getD ws (i - 0) ((0 : Int), (0 : Int))))], ov := [] }])))))
   (Tree.need True))
theorem tclone_eq (ws : List Wt) (own : Bool) (cap : Nat) : xfunc tab noCtr noInv Go.Proofs.Try.f19 [.c (.sl 0 0 0 2 ws.length cap)] [Ent.ws own cap ws] [0, 1, 2, 3] = tclone ws own cap := by kernel_rfl
def tcopy (x : Thg) (ws : List Wt) (own : Bool) (cap : Nat) : Tree :=
  Tree.chk ((0 + List.length ws) * 16 ≤ 140737488355328)
   (Tree.chk (0 < 1 ∧ 0 + List.length ws ≤ List.length ws)
   (Tree.chk (0 = 0 ∧ 0 = 0)
   (Tree.all (fun c => 0 + List.length ws ≤ c 0 ∧ c 0 ≤ maxLen) fun c => Tree.done (XV.a (AV.agg [iv x.1, iv x.2, iv x.3, iv x.4, iv x.5, iv x.6, iv x.7, iv x.8, iv x.9, iv x.10, iv x.11, iv x.12, CV.sl 4 0 0 2 (0 + List.length ws) (c 0), iv x.13, iv x.14])) [(Ent.ws own cap ws), (Ent.mkBox 25 [iv x.1, iv x.2, iv x.3, iv x.4, iv x.5, iv x.6, iv x.7, iv x.8, iv x.9, iv x.10, iv x.11, iv x.12, CV.sl 4 0 0 2 (0 + List.length ws) (c 0), iv x.13, iv x.14]), (Ent.mkBox 25 [iv x.1, iv x.2, iv x.3, iv x.4, iv x.5, iv x.6, iv x.7, iv x.8, iv x.9, iv x.10, iv x.11, iv x.12, CV.sl 4 0 0 2 (0 + List.length ws) (c 0), iv x.13, iv x.14]), Ent.dead, { own := true, box := false, ty := 37, sz := 2, m := 1, n := fun x => 0 + List.length ws, cap := fun x => c 0, f := fun x i => [iv (Prod.fst (List.getD ws (i - 0) ((0 : Int), (0 : Int)))), iv (Prod.snd (List.getD ws (i - 0) ((0 : Int), (0 : Int))))], ov := [] }])))
theorem tcopy_eq (x : Thg) (ws : List Wt) (own : Bool) (cap : Nat) : xfunc tab noCtr noInv Go.Proofs.Try.f13 [x.av 0 0 ws.length cap] [Ent.ws own cap ws] [0, 1, 2, 3, 4] = tcopy x ws own cap := by kernel_rfl
end Go.Proofs.Ytnenbngjdekegaa.X

/- The model: what is done with rows, proved. -/
set_option linter.unusedVariables false
set_option linter.unusedSimpArgs false
namespace Go.Proofs.Ytnenbngjdekegaa.X
open Go Go.RowKit Go.Proofs.YtnenbngjdekegaaW.PrintWords Go.Proofs.Ytnenbngjdekegaa.Base
def rwS (x : Thg) (t k v : Int) : Thg × Bool :=
  bif k == (1 : Int) then ({ kd := x.1, n := x.2, o := t, h := IntKind.wrap IntKind.i64 (x.4 + (1 : Int)), r0 := x.5, r1 := x.6, r2 := x.7, r3 := x.8, r4 := x.9, r5 := x.10, r6 := x.11, r7 := x.12, f := x.13, i := x.14 }, bif v == (1 : Int) then bif bif x.3 == (-1 : Int) then allW [x.5, x.6, x.7, x.8, x.9, x.10, x.11, x.12] 8 == (0 : Int) else false then true else bif x.3 == t then decide (x.4 < (1000 : Int)) else false else false)
  else bif k == (3 : Int) then (freeS x, bif x.3 == t then v == (0 : Int) else false) else bif k == (2 : Int) then ({ kd := x.1, n := x.2, o := x.3, h := x.4, r0 := if Int.toNat t = 0 then IntKind.wrap IntKind.i64 (List.getD [x.5, x.6, x.7, x.8, x.9, x.10, x.11, x.12] (Int.toNat t) (0 : Int) + (1 : Int)) else x.5, r1 := if Int.toNat t = 1 then IntKind.wrap IntKind.i64 (List.getD [x.5, x.6, x.7, x.8, x.9, x.10, x.11, x.12] (Int.toNat t) (0 : Int) + (1 : Int)) else x.6, r2 := if Int.toNat t = 2 then IntKind.wrap IntKind.i64 (List.getD [x.5, x.6, x.7, x.8, x.9, x.10, x.11, x.12] (Int.toNat t) (0 : Int) + (1 : Int)) else x.7, r3 := if Int.toNat t = 3 then IntKind.wrap IntKind.i64 (List.getD [x.5, x.6, x.7, x.8, x.9, x.10, x.11, x.12] (Int.toNat t) (0 : Int) + (1 : Int)) else x.8, r4 := if Int.toNat t = 4 then IntKind.wrap IntKind.i64 (List.getD [x.5, x.6, x.7, x.8, x.9, x.10, x.11, x.12] (Int.toNat t) (0 : Int) + (1 : Int)) else x.9, r5 := if Int.toNat t = 5 then IntKind.wrap IntKind.i64 (List.getD [x.5, x.6, x.7, x.8, x.9, x.10, x.11, x.12] (Int.toNat t) (0 : Int) + (1 : Int)) else x.10, r6 := if Int.toNat t = 6 then IntKind.wrap IntKind.i64 (List.getD [x.5, x.6, x.7, x.8, x.9, x.10, x.11, x.12] (Int.toNat t) (0 : Int) + (1 : Int)) else x.11, r7 := if Int.toNat t = 7 then IntKind.wrap IntKind.i64 (List.getD [x.5, x.6, x.7, x.8, x.9, x.10, x.11, x.12] (Int.toNat t) (0 : Int) + (1 : Int)) else x.12, f := x.13, i := x.14 }, bif bif v == (0 : Int) then bif x.3 == (-1 : Int) then true else x.3 == t else false then decide (allW [x.5, x.6, x.7, x.8, x.9, x.10, x.11, x.12] 8 < (1000 : Int)) else false) else bif k == (4 : Int) then ({ kd := x.1, n := x.2, o := x.3, h := x.4, r0 := if Int.toNat t = 0 then IntKind.wrap IntKind.i64 (List.getD [x.5, x.6, x.7, x.8, x.9, x.10, x.11, x.12] (Int.toNat t) (0 : Int) - (1 : Int)) else x.5, r1 := if Int.toNat t = 1 then IntKind.wrap IntKind.i64 (List.getD [x.5, x.6, x.7, x.8, x.9, x.10, x.11, x.12] (Int.toNat t) (0 : Int) - (1 : Int)) else x.6, r2 := if Int.toNat t = 2 then IntKind.wrap IntKind.i64 (List.getD [x.5, x.6, x.7, x.8, x.9, x.10, x.11, x.12] (Int.toNat t) (0 : Int) - (1 : Int)) else x.7, r3 := if Int.toNat t = 3 then IntKind.wrap IntKind.i64 (List.getD [x.5, x.6, x.7, x.8, x.9, x.10, x.11, x.12] (Int.toNat t) (0 : Int) - (1 : Int)) else x.8, r4 := if Int.toNat t = 4 then IntKind.wrap IntKind.i64 (List.getD [x.5, x.6, x.7, x.8, x.9, x.10, x.11, x.12] (Int.toNat t) (0 : Int) - (1 : Int)) else x.9, r5 := if Int.toNat t = 5 then IntKind.wrap IntKind.i64 (List.getD [x.5, x.6, x.7, x.8, x.9, x.10, x.11, x.12] (Int.toNat t) (0 : Int) - (1 : Int)) else x.10, r6 := if Int.toNat t = 6 then IntKind.wrap IntKind.i64 (List.getD [x.5, x.6, x.7, x.8, x.9, x.10, x.11, x.12] (Int.toNat t) (0 : Int) - (1 : Int)) else x.11, r7 := if Int.toNat t = 7 then IntKind.wrap IntKind.i64 (List.getD [x.5, x.6, x.7, x.8, x.9, x.10, x.11, x.12] (Int.toNat t) (0 : Int) - (1 : Int)) else x.12, f := x.13, i := x.14 }, bif v == (0 : Int) then decide (List.getD [if Int.toNat t = 0 then IntKind.wrap IntKind.i64 (List.getD [x.5, x.6, x.7, x.8, x.9, x.10, x.11, x.12] (Int.toNat t) (0 : Int) - (1 : Int)) else x.5, if Int.toNat t = 1 then IntKind.wrap IntKind.i64 (List.getD [x.5, x.6, x.7, x.8, x.9, x.10, x.11, x.12] (Int.toNat t) (0 : Int) - (1 : Int)) else x.6, if Int.toNat t = 2 then IntKind.wrap IntKind.i64 (List.getD [x.5, x.6, x.7, x.8, x.9, x.10, x.11, x.12] (Int.toNat t) (0 : Int) - (1 : Int)) else x.7, if Int.toNat t = 3 then IntKind.wrap IntKind.i64 (List.getD [x.5, x.6, x.7, x.8, x.9, x.10, x.11, x.12] (Int.toNat t) (0 : Int) - (1 : Int)) else x.8, if Int.toNat t = 4 then IntKind.wrap IntKind.i64 (List.getD [x.5, x.6, x.7, x.8, x.9, x.10, x.11, x.12] (Int.toNat t) (0 : Int) - (1 : Int)) else x.9, if Int.toNat t = 5 then IntKind.wrap IntKind.i64 (List.getD [x.5, x.6, x.7, x.8, x.9, x.10, x.11, x.12] (Int.toNat t) (0 : Int) - (1 : Int)) else x.10, if Int.toNat t = 6 then IntKind.wrap IntKind.i64 (List.getD [x.5, x.6, x.7, x.8, x.9, x.10, x.11, x.12] (Int.toNat t) (0 : Int) - (1 : Int)) else x.11, if Int.toNat t = 7 then IntKind.wrap IntKind.i64 (List.getD [x.5, x.6, x.7, x.8, x.9, x.10, x.11, x.12] (Int.toNat t) (0 : Int) - (1 : Int)) else x.12] (Int.toNat t) (0 : Int) ≥ (0 : Int)) else false) else bif k == (5 : Int) then (x, bif bif bif v == (0 : Int) then !x.3 == t else false then bif x.3 != (-1 : Int) then true else decide (allW [x.5, x.6, x.7, x.8, x.9, x.10, x.11, x.12] 8 > (0 : Int)) else false then true else bif bif v == (1 : Int) then x.3 != (-1 : Int) else false then !x.3 == t else false) else bif k == (6 : Int) then (x, bif bif v == (0 : Int) then !x.3 == t else false then true else bif v == (1 : Int) then List.getD [x.5, x.6, x.7, x.8, x.9, x.10, x.11, x.12] (Int.toNat t) (0 : Int) == (0 : Int) else false) else bif k == (7 : Int) then (x, bif bif bif v == (0 : Int) then x.3 == t else false then x.4 == (1000 : Int) else false then true else bif v == (1 : Int) then allW [x.5, x.6, x.7, x.8, x.9, x.10, x.11, x.12] 8 == (1000 : Int) else false) else (x, false)
def rwrS (x : Thg) (t k v : Int) : Thg × Bool :=
  bif k == (1 : Int) then bif bif v == (1 : Int) then bif bif x.3 == (-1 : Int) then allW [x.5, x.6, x.7, x.8, x.9, x.10, x.11, x.12] 8 == (0 : Int) else false then true else bif x.3 == t then decide (x.4 < (1000 : Int)) else false else false then ({ kd := x.1, n := x.2, o := t, h := IntKind.wrap IntKind.i64 (x.4 + (1 : Int)), r0 := x.5, r1 := x.6, r2 := x.7, r3 := x.8, r4 := x.9, r5 := x.10, r6 := x.11, r7 := x.12, f := x.13, i := x.14 }, true) else (x, false)
  else bif k == (2 : Int) then bif bif bif v == (0 : Int) then bif x.3 == (-1 : Int) then true else x.3 == t else false then decide (allW [x.5, x.6, x.7, x.8, x.9, x.10, x.11, x.12] 8 < (1000 : Int)) else false then ({ kd := x.1, n := x.2, o := x.3, h := x.4, r0 := if Int.toNat t = 0 then IntKind.wrap IntKind.i64 (List.getD [x.5, x.6, x.7, x.8, x.9, x.10, x.11, x.12] (Int.toNat t) (0 : Int) + (1 : Int)) else x.5, r1 := if Int.toNat t = 1 then IntKind.wrap IntKind.i64 (List.getD [x.5, x.6, x.7, x.8, x.9, x.10, x.11, x.12] (Int.toNat t) (0 : Int) + (1 : Int)) else x.6, r2 := if Int.toNat t = 2 then IntKind.wrap IntKind.i64 (List.getD [x.5, x.6, x.7, x.8, x.9, x.10, x.11, x.12] (Int.toNat t) (0 : Int) + (1 : Int)) else x.7, r3 := if Int.toNat t = 3 then IntKind.wrap IntKind.i64 (List.getD [x.5, x.6, x.7, x.8, x.9, x.10, x.11, x.12] (Int.toNat t) (0 : Int) + (1 : Int)) else x.8, r4 := if Int.toNat t = 4 then IntKind.wrap IntKind.i64 (List.getD [x.5, x.6, x.7, x.8, x.9, x.10, x.11, x.12] (Int.toNat t) (0 : Int) + (1 : Int)) else x.9, r5 := if Int.toNat t = 5 then IntKind.wrap IntKind.i64 (List.getD [x.5, x.6, x.7, x.8, x.9, x.10, x.11, x.12] (Int.toNat t) (0 : Int) + (1 : Int)) else x.10, r6 := if Int.toNat t = 6 then IntKind.wrap IntKind.i64 (List.getD [x.5, x.6, x.7, x.8, x.9, x.10, x.11, x.12] (Int.toNat t) (0 : Int) + (1 : Int)) else x.11, r7 := if Int.toNat t = 7 then IntKind.wrap IntKind.i64 (List.getD [x.5, x.6, x.7, x.8, x.9, x.10, x.11, x.12] (Int.toNat t) (0 : Int) + (1 : Int)) else x.12, f := x.13, i := x.14 }, true) else (x, false) else bif k == (3 : Int) then bif bif x.3 == t then v == (0 : Int) else false then (freeS x, true) else (x, false) else bif k == (4 : Int) then bif bif v == (0 : Int) then decide (List.getD [x.5, x.6, x.7, x.8, x.9, x.10, x.11, x.12] (Int.toNat t) (0 : Int) > (0 : Int)) else false then ({ kd := x.1, n := x.2, o := x.3, h := x.4, r0 := if Int.toNat t = 0 then IntKind.wrap IntKind.i64 (List.getD [x.5, x.6, x.7, x.8, x.9, x.10, x.11, x.12] (Int.toNat t) (0 : Int) - (1 : Int)) else x.5, r1 := if Int.toNat t = 1 then IntKind.wrap IntKind.i64 (List.getD [x.5, x.6, x.7, x.8, x.9, x.10, x.11, x.12] (Int.toNat t) (0 : Int) - (1 : Int)) else x.6, r2 := if Int.toNat t = 2 then IntKind.wrap IntKind.i64 (List.getD [x.5, x.6, x.7, x.8, x.9, x.10, x.11, x.12] (Int.toNat t) (0 : Int) - (1 : Int)) else x.7, r3 := if Int.toNat t = 3 then IntKind.wrap IntKind.i64 (List.getD [x.5, x.6, x.7, x.8, x.9, x.10, x.11, x.12] (Int.toNat t) (0 : Int) - (1 : Int)) else x.8, r4 := if Int.toNat t = 4 then IntKind.wrap IntKind.i64 (List.getD [x.5, x.6, x.7, x.8, x.9, x.10, x.11, x.12] (Int.toNat t) (0 : Int) - (1 : Int)) else x.9, r5 := if Int.toNat t = 5 then IntKind.wrap IntKind.i64 (List.getD [x.5, x.6, x.7, x.8, x.9, x.10, x.11, x.12] (Int.toNat t) (0 : Int) - (1 : Int)) else x.10, r6 := if Int.toNat t = 6 then IntKind.wrap IntKind.i64 (List.getD [x.5, x.6, x.7, x.8, x.9, x.10, x.11, x.12] (Int.toNat t) (0 : Int) - (1 : Int)) else x.11, r7 := if Int.toNat t = 7 then IntKind.wrap IntKind.i64 (List.getD [x.5, x.6, x.7, x.8, x.9, x.10, x.11, x.12] (Int.toNat t) (0 : Int) - (1 : Int)) else x.12, f := x.13, i := x.14 }, true) else (x, false) else bif k == (5 : Int) then (x, bif bif bif v == (0 : Int) then !x.3 == t else false then bif x.3 != (-1 : Int) then true else decide (allW [x.5, x.6, x.7, x.8, x.9, x.10, x.11, x.12] 8 > (0 : Int)) else false then true else bif bif v == (1 : Int) then x.3 != (-1 : Int) else false then !x.3 == t else false) else bif k == (6 : Int) then (x, bif bif v == (0 : Int) then !x.3 == t else false then true else bif v == (1 : Int) then List.getD [x.5, x.6, x.7, x.8, x.9, x.10, x.11, x.12] (Int.toNat t) (0 : Int) == (0 : Int) else false) else bif k == (7 : Int) then (x, bif bif bif v == (0 : Int) then x.3 == t else false then x.4 == (1000 : Int) else false then true else bif v == (1 : Int) then allW [x.5, x.6, x.7, x.8, x.9, x.10, x.11, x.12] 8 == (1000 : Int) else false) else (x, false)
def semarS (x : Thg) (k v : Int) : Thg × Bool :=
  bif k == (1 : Int) then bif bif decide (v ≥ (1 : Int)) then decide (v ≤ x.2) else false then ({ kd := x.1, n := IntKind.wrap IntKind.i64 (x.2 - v), o := x.3, h := x.4, r0 := x.5, r1 := x.6, r2 := x.7, r3 := x.8, r4 := x.9, r5 := x.10, r6 := x.11, r7 := x.12, f := x.13, i := x.14 }, true) else (x, false)
  else bif k == (3 : Int) then bif bif decide (v ≥ (1 : Int)) then decide (v ≤ IntKind.wrap IntKind.i64 ((1000 : Int) - x.2)) else false then ({ kd := x.1, n := IntKind.wrap IntKind.i64 (x.2 + v), o := x.3, h := x.4, r0 := x.5, r1 := x.6, r2 := x.7, r3 := x.8, r4 := x.9, r5 := x.10, r6 := x.11, r7 := x.12, f := x.13, i := x.14 }, true) else (x, false) else bif k == (5 : Int) then (x, decide (v > x.2)) else bif k == (7 : Int) then (x, bif decide (v ≥ (1 : Int)) then decide (v > IntKind.wrap IntKind.i64 ((1000 : Int) - x.2)) else false) else bif k == (9 : Int) then bif v == x.2 then ({ kd := x.1, n := (0 : Int), o := x.3, h := x.4, r0 := x.5, r1 := x.6, r2 := x.7, r3 := x.8, r4 := x.9, r5 := x.10, r6 := x.11, r7 := x.12, f := x.13, i := x.14 }, true) else (x, false) else (x, false)
def swaprS (x : Thg) (t k v : Int) : Thg × Bool :=
  bif k == (15 : Int) then bif bif bif x.13 == (-1 : Int) then decide (v ≥ (0 : Int)) else false then decide (v ≤ (1000 : Int)) else false then ({ kd := x.1, n := x.2, o := x.3, h := x.4, r0 := x.5, r1 := x.6, r2 := x.7, r3 := x.8, r4 := x.9, r5 := x.10, r6 := x.11, r7 := x.12, f := t, i := v }, true) else (x, false)
  else bif k == (14 : Int) then bif bif bif x.13 != (-1 : Int) then x.13 != t else false then v == x.13 else false then ({ kd := x.1, n := x.2, o := x.3, h := x.4, r0 := x.5, r1 := x.6, r2 := x.7, r3 := x.8, r4 := x.9, r5 := x.10, r6 := x.11, r7 := x.12, f := (-1 : Int), i := (0 : Int) }, true) else (x, false) else bif k == (16 : Int) then bif bif x.13 == t then v == (0 : Int) else false then ({ kd := x.1, n := x.2, o := x.3, h := x.4, r0 := x.5, r1 := x.6, r2 := x.7, r3 := x.8, r4 := x.9, r5 := x.10, r6 := x.11, r7 := x.12, f := (-1 : Int), i := (0 : Int) }, true) else (x, false) else (x, false)
theorem reads_call : Callable Try.prog 37 := ⟨_, Try.func37, by kernel_rfl, rfl⟩
theorem Reads_call : Callable Try.prog 33 := ⟨_, Try.func33, by kernel_rfl, rfl⟩
theorem free_call : Callable Try.prog 35 := ⟨_, Try.func35, by kernel_rfl, rfl⟩
theorem freed_call : Callable Try.prog 31 := ⟨_, Try.func31, by kernel_rfl, rfl⟩
def semarC (x : Thg) (k v : Int) (ws : List Wt) (own : Bool) (cap : Nat) (ρ : List Nat) : CallSpec := rdSpec ρ [x.av 0 0 ws.length cap, .c (iv k), .c (iv v)] [Ent.ws own cap ws] (thgR (semarS x k v) ws.length cap)
theorem semar_local (x : Thg) (k v : Int) (ws : List Wt) (own : Bool) (cap : Nat) (ρ : List Nat) : (semarC x k v ws own cap ρ).Local Try.prog 22 := by
  refine local_of Try.func22 rfl (tsemar_eq x k v ws own cap) fun ν w => ?_
  repeat' first | refine ok_br' (fun h => ?_) (fun h => ?_) | (refine ok_chk' ?_ ?_; focus (first | exact fun h => h | (simp; done) | (simp; omega) | (simp_all; done) | (simp_all; omega) | (generalize ws.length = L at *; simp; omega) | (generalize ws.length = L at *; simp_all; omega))) | refine ok_leaf (fun _ => 0) [] [0] trivial ?_ ⟨⟨_, rfl, EntRel.ws⟩, trivial⟩ rfl
  all_goals (show XV.tup _ = thgR (semarS x k v) ws.length cap; simp only [semarS, *, cond_true, cond_false]; rfl)
def swaprC (x : Thg) (t k v : Int) (ws : List Wt) (own : Bool) (cap : Nat) (ρ : List Nat) : CallSpec := rdSpec ρ [x.av 0 0 ws.length cap, .c (iv t), .c (iv k), .c (iv v)] [Ent.ws own cap ws] (thgR (swaprS x t k v) ws.length cap)
theorem swapr_local (x : Thg) (t k v : Int) (ws : List Wt) (own : Bool) (cap : Nat) (ρ : List Nat) : (swaprC x t k v ws own cap ρ).Local Try.prog 24 := by
  refine local_of Try.func24 rfl (tswapr_eq x t k v ws own cap) fun ν w => ?_
  repeat' first | refine ok_br' (fun h => ?_) (fun h => ?_) | (refine ok_chk' ?_ ?_; focus (first | exact fun h => h | (simp; done) | (simp; omega) | (simp_all; done) | (simp_all; omega) | (generalize ws.length = L at *; simp; omega) | (generalize ws.length = L at *; simp_all; omega))) | refine ok_leaf (fun _ => 0) [] [0] trivial ?_ ⟨⟨_, rfl, EntRel.ws⟩, trivial⟩ rfl
  all_goals (show XV.tup _ = thgR (swaprS x t k v) ws.length cap; simp only [swaprS, *, cond_true, cond_false]; rfl)
def rwC (x : Thg) (t k v : Int) (ws : List Wt) (own : Bool) (cap : Nat) (ρ : List Nat) : CallSpec := rdSpec ρ [x.av 0 0 ws.length cap, .c (iv t), markA k v] [Ent.ws own cap ws] (thgR (rwS x t k v) ws.length cap)
set_option maxHeartbeats 2000000 in
theorem rw_local (x : Thg) (t k v : Int) (ws : List Wt) (own : Bool) (cap : Nat) (ρ : List Nat) (t0 : 0 ≤ t) (t8 : t < 8) : (rwC x t k v ws own cap ρ).Local Try.prog 28 := by
  refine local_of Try.func28 rfl (trw_eq x t k v ws own cap) fun ν w => ?_
  repeat' first | refine ok_br' (fun h => ?_) (fun h => ?_) | (refine ok_callf' reads_call (fits_of rfl rfl ⟨⟨_, rfl, EntRel.ws⟩, trivial⟩ fun c _ => ⟨⟨Nat.le_refl _, rfl⟩, ⟨rfl, rfl⟩, ⟨⟨EntRel.ws, rfl, (fun h => by cases h), .inr rfl⟩, trivial⟩⟩) (reads_local _ _ _ _ _) fun c _ => ?_) | (refine ok_callf' free_call (fits_of rfl rfl ⟨⟨_, rfl, EntRel.ws⟩, trivial⟩ fun c _ => ⟨⟨Nat.le_refl _, rfl⟩, ⟨rfl, rfl⟩, ⟨⟨EntRel.ws, rfl, (fun h => by cases h), .inr rfl⟩, trivial⟩⟩) (free_local _ _ _ _ _) fun c _ => ?_) | (refine ok_chk' ?_ ?_; focus (first | exact fun h => h | (simp; done) | (simp; omega) | (simp_all; done) | (simp_all; omega) | (generalize ws.length = L at *; simp; omega) | (generalize ws.length = L at *; simp_all; omega))) | refine ok_both' ?_ ?_ | refine ok_leaf (fun _ => 0) [] [0] trivial ?_ ⟨⟨_, rfl, EntRel.ws⟩, trivial⟩ rfl
  all_goals (show XV.tup _ = thgR (rwS x t k v) ws.length cap; simp only [rwS, *, cond_true, cond_false]; rfl)
end Go.Proofs.Ytnenbngjdekegaa.X

/- The model: rows copied, cut. -/
set_option linter.unusedVariables false
set_option linter.unusedSimpArgs false
namespace Go.Proofs.Ytnenbngjdekegaa.X
open Go Go.RowKit Go.Proofs.YtnenbngjdekegaaW.PrintWords Go.Proofs.Ytnenbngjdekegaa.Base
/-- A call that makes new rows; k: how many blocks the caller knows. -/
def rowSpec (ρ : List Nat) (k : Nat) (args0 : List AV) (H0 : Hp) (good : (Nat → Nat) → Prop) (x0 : (Nat → Nat) → XV) (H1 : (Nat → Nat) → Hp) : CallSpec :=
  ⟨[], ρ, args0, H0, good, x0, H1, fun c => (x0 c).ren (ρ ++ (List.range ((H1 c).length - ρ.length)).map (· + k)), H1, [], []⟩
def fitsC (n : Nat) (c : Nat → Nat) : Prop := n ≤ c 0 ∧ c 0 ≤ maxLen
def cloneC (ws : List Wt) (own : Bool) (cap k : Nat) (ρ : List Nat) : CallSpec := rowSpec ρ k [.c (.sl 0 0 0 2 ws.length cap)] [Ent.ws own cap ws] (fitsC ws.length) (fun c => .a (.c (.sl 1 0 0 2 ws.length (c 0)))) fun c => [Ent.ws own cap ws, Ent.ws true (c 0) ws]
theorem clone_local (ws : List Wt) (own : Bool) (cap k : Nat) (ρ : List Nat) (hl : ws.length ≤ 1000000) : (cloneC ws own cap k ρ).Local Try.prog 19 := by
  refine local_of Try.func19 rfl (tclone_eq ws own cap) fun ν w => ?_
  refine ok_chk' Nat.one_pos (ok_every' fun b => ok_br' (fun h => ok_br' (fun hb => ?_) fun hb => ?_) fun h => trivial)
  · obtain rfl : ws = [] := by
      rw [hb] at h
      cases ws with
      | nil => rfl
      | cons a r =>
        have hlt : Nat.blt 0 (a :: r).length = true := Nat.blt_eq.mpr (by simp)
        rw [hlt] at h
        cases h
    exact ok_leaf (fun _ => 0) [(WT, 2)] [0, 1] ⟨Nat.le_refl _, Nat.zero_le _⟩ rfl ⟨⟨_, rfl, EntRel.ws⟩, ⟨_, rfl, EntRel.rw rfl rfl (fun i hi => absurd hi (Nat.not_lt_zero _)) fun i hi => absurd hi (Nat.not_lt_zero _)⟩, trivial⟩ rfl
  · refine ok_chk' (by omega) (ok_chk' ⟨by omega, by omega⟩ (ok_chk' ⟨rfl, rfl⟩ (ok_all' fun c hc => ?_)))
    refine ok_leaf c [] [0, 2] ⟨by have := hc.1; omega, hc.2⟩ (by simp only [Nat.zero_add]; rfl) ⟨⟨_, rfl, EntRel.ws⟩, ⟨_, rfl, EntRel.rw (by simp) rfl (fun i hi => rfl) fun i _ => wrow_plain ws i⟩, trivial⟩ rfl
def copyC (x : Thg) (ws : List Wt) (own : Bool) (cap k : Nat) (ρ : List Nat) : CallSpec := rowSpec ρ k [x.av 0 0 ws.length cap] [Ent.ws own cap ws] (fitsC ws.length) (fun c => .a (x.av 1 0 ws.length (c 0))) fun c => [Ent.ws own cap ws, Ent.ws true (c 0) ws]
theorem copy_local (x : Thg) (ws : List Wt) (own : Bool) (cap k : Nat) (ρ : List Nat) (hl : ws.length ≤ 1000000) : (copyC x ws own cap k ρ).Local Try.prog 13 := by
  refine local_of Try.func13 rfl (tcopy_eq x ws own cap) fun ν w => ?_
  refine ok_chk' (by omega) (ok_chk' ⟨by omega, by omega⟩ (ok_chk' ⟨rfl, rfl⟩ (ok_all' fun c hc => ?_)))
  refine ok_leaf c [] [0, 4] ⟨by have := hc.1; omega, hc.2⟩ (by simp only [Nat.zero_add]; rfl) ⟨⟨_, rfl, EntRel.ws⟩, ⟨_, rfl, EntRel.rw (by simp) rfl (fun i hi => rfl) fun i _ => wrow_plain ws i⟩, trivial⟩ rfl
set_option maxHeartbeats 2000000 in
theorem rwr_local (x : Thg) (t k v : Int) (ws : List Wt) (own : Bool) (cap : Nat) (ρ : List Nat) (t0 : 0 ≤ t) (t8 : t < 8) : (rdSpec ρ [x.av 0 0 ws.length cap, .c (iv t), .c (iv k), .c (iv v)] [Ent.ws own cap ws] (thgR (rwrS x t k v) ws.length cap)).Local Try.prog 23 := by
  refine local_of Try.func23 rfl (trwr_eq x t k v ws own cap) fun ν w => ?_
  repeat' first | refine ok_br' (fun h => ?_) (fun h => ?_) | (refine ok_callf' Reads_call (fits_of rfl rfl ⟨⟨_, rfl, EntRel.ws⟩, trivial⟩ fun c _ => ⟨⟨Nat.le_refl _, rfl⟩, ⟨rfl, rfl⟩, ⟨⟨EntRel.ws, rfl, (fun h => by cases h), .inr rfl⟩, trivial⟩⟩) (Reads_local _ _ _ _ _) fun c _ => ?_) | (refine ok_callf' freed_call (fits_of rfl rfl ⟨⟨_, rfl, EntRel.ws⟩, trivial⟩ fun c _ => ⟨⟨Nat.le_refl _, rfl⟩, ⟨rfl, rfl⟩, ⟨⟨EntRel.ws, rfl, (fun h => by cases h), .inr rfl⟩, trivial⟩⟩) (freed_local _ _ _ _ _) fun c _ => ?_) | (refine ok_chk' ?_ ?_; focus (first | exact fun h => h | (simp; done) | (simp; omega) | (simp_all; done) | (simp_all; omega) | (generalize ws.length = L at *; simp; omega) | (generalize ws.length = L at *; simp_all; omega))) | refine ok_both' ?_ ?_ | refine ok_leaf (fun _ => 0) [] [0] trivial ?_ ⟨⟨_, rfl, EntRel.ws⟩, trivial⟩ rfl
  all_goals (show XV.tup _ = thgR (rwrS x t k v) ws.length cap; simp only [rwrS, *, cond_true, cond_false]; rfl)
/-! ### Without one -/
def woF (ws : List Wt) (at_ : Int) : Nat → List Wt
  | 0 => []
  | i + 1 => bif (i : Int) != at_ then woF ws at_ i ++ [ws.getD i (0, 0)] else woF ws at_ i
def woInv (ws : List Wt) (at_ : Int) (own : Bool) (cap : Nat) (tm : Tm) (H : Hp) : LoopInv :=
  ⟨{p : Nat × Nat // p.1 ≤ ws.length ∧ (woF ws at_ p.1).length ≤ p.2 ∧ p.2 ≤ maxLen}, fun p => (putAll [(5, .a (.c (.sl 1 0 0 2 (woF ws at_ p.1.1).length p.1.2))), (6, ia p.1.1)] tm, [Ent.ws own cap ws, Ent.ws true p.1.2 (woF ws at_ p.1.1)]), fun p => ws.length - p.1.1, some ⟨(0, 0), Nat.zero_le _, Nat.le_refl _, Nat.zero_le _⟩,
   [(WT, 2)], .l [0, 1], [], fun tm H => match tm.get 5 with | some (.a (.c (.sl k _ _ _ _ _))) => .l [0, k] | _ => .l [0, 1]⟩
def twithout (ws : List Wt) (t : Int) (own : Bool) (cap : Nat) : Tree :=
  Tree.both
   (Tree.chk (XV.a (AV.c (CV.v (Value.slice none 0 0))) = XV.a (AV.c (CV.v (Value.slice none 0 0))))
   (Tree.chk (XV.a (AV.c (iv (0 : Int))) = XV.a (AV.c (iv (0 : Int))))
   (Tree.chk (XV.a (AV.c (CV.v (Value.slice none 0 0))) = XV.a (AV.c (CV.v (Value.slice none 0 0))))
   (Tree.chk (XV.a (AV.c (CV.sl 0 0 0 2 (List.length ws) cap)) = XV.a (AV.c (CV.sl 0 0 0 2 (List.length ws) cap)))
   (Tree.chk (XV.a (AV.c (iv t)) = XV.a (AV.c (iv t)))
   (Tree.chk (EntRel 1 [0, 1] 2 (Ent.ws own cap ws) (Ent.ws own cap ws))
   (Tree.chk (EntRel 1 [0, 1] 2 { own := true, box := false, ty := 37, sz := 2, m := 1, n := fun x => 0, cap := fun x => 0, f := fun x x_1 => [], ov := [] } { own := true, box := false, ty := 37, sz := 2, m := 1, n := fun x => 0, cap := fun x => 0, f := fun x i => [iv (0 : Int), iv (0 : Int)], ov := [] })
   (Tree.need True))))))))
   (Tree.every { p // Prod.fst p ≤ List.length ws ∧ List.length (woF ws t (Prod.fst p)) ≤ Prod.snd p ∧ Prod.snd p ≤ maxLen } fun s => Tree.br (decide ((↑(Prod.fst (Subtype.val s)) : Int) < (↑(List.length ws) : Int)))
   (Tree.br ((↑(Prod.fst (Subtype.val s)) : Int) != t)
   (Tree.chk ((0 : Int) ≤ (↑(Prod.fst (Subtype.val s)) : Int) ∧ (↑(Prod.fst (Subtype.val s)) : Int) < (↑(List.length ws) : Int) ∧ Int.toNat (↑(Prod.fst (Subtype.val s)) : Int) < List.length ws ∧ 0 < 1)
   (Tree.chk (0 < 1 ∧ Int.toNat (↑(Prod.fst (Subtype.val s)) : Int) < List.length ws)
   (Tree.chk ((List.length (woF ws t (Prod.fst (Subtype.val s))) + 1) * 16 ≤ 140737488355328)
   (Tree.chk (0 < 1 ∧ 1 ≤ 1)
   (Tree.chk (List.length (woF ws t (Prod.fst (Subtype.val s))) = List.length (woF ws t (Prod.fst (Subtype.val s))) ∧ Prod.snd (Subtype.val s) = Prod.snd (Subtype.val s))
   (Tree.all (fun c => List.length (woF ws t (Prod.fst (Subtype.val s))) + 1 ≤ c 0 ∧ c 0 ≤ maxLen) fun c => Tree.some_ { p // Prod.fst p ≤ List.length ws ∧ List.length (woF ws t (Prod.fst p)) ≤ Prod.snd p ∧ Prod.snd p ≤ maxLen } fun s' => Tree.chk (List.length ws - Prod.fst (Subtype.val s') < List.length ws - Prod.fst (Subtype.val s))
   (Tree.chk (XV.a (AV.c (CV.sl 3 0 0 2 (List.length (woF ws t (Prod.fst (Subtype.val s))) + 1) (c 0))) = XV.a (AV.c (CV.sl 3 0 0 2 (List.length (woF ws t (Prod.fst (Subtype.val s')))) (Prod.snd (Subtype.val s')))))
   (Tree.chk (XV.a (AV.c (iv (IntKind.wrap IntKind.i64 ((↑(Prod.fst (Subtype.val s)) : Int) + (1 : Int))))) = XV.a (AV.c (iv (↑(Prod.fst (Subtype.val s')) : Int))))
   (Tree.chk (XV.a (AV.c (CV.v (Value.slice none 0 0))) = XV.a (AV.c (CV.v (Value.slice none 0 0))))
   (Tree.chk (XV.a (AV.c (CV.sl 0 0 0 2 (List.length ws) cap)) = XV.a (AV.c (CV.sl 0 0 0 2 (List.length ws) cap)))
   (Tree.chk (XV.a (AV.c (iv t)) = XV.a (AV.c (iv t)))
   (Tree.chk (EntRel 4 [0, 3] 2 (Ent.ws own cap ws) (Ent.ws own cap ws))
   (Tree.chk (EntRel 4 [0, 3] 2 { own := true, box := false, ty := 37, sz := 2, m := 1, n := fun x => List.length (woF ws t (Prod.fst (Subtype.val s))) + 1, cap := fun x => c 0, f := fun x i => if i < List.length (woF ws t (Prod.fst (Subtype.val s))) then [iv (Prod.fst (List.getD (woF ws t (Prod.fst (Subtype.val s))) i ((0 : Int), (0 : Int)))), iv (Prod.snd (List.getD (woF ws t (Prod.fst (Subtype.val s))) i ((0 : Int), (0 : Int))))] else [iv (Prod.fst (List.getD ws (Int.toNat (↑(Prod.fst (Subtype.val s)) : Int)) ((0 : Int), (0 : Int)))), iv (Prod.snd (List.getD ws (Int.toNat (↑(Prod.fst (Subtype.val s)) : Int)) ((0 : Int), (0 : Int))))], ov := [] } (Ent.ws true (Prod.snd (Subtype.val s')) (woF ws t (Prod.fst (Subtype.val s')))))
   (Tree.need True))))))))))))))
   (Tree.some_ { p // Prod.fst p ≤ List.length ws ∧ List.length (woF ws t (Prod.fst p)) ≤ Prod.snd p ∧ Prod.snd p ≤ maxLen } fun s' => Tree.chk (List.length ws - Prod.fst (Subtype.val s') < List.length ws - Prod.fst (Subtype.val s))
   (Tree.chk (XV.a (AV.c (CV.sl 1 0 0 2 (List.length (woF ws t (Prod.fst (Subtype.val s)))) (Prod.snd (Subtype.val s)))) = XV.a (AV.c (CV.sl 1 0 0 2 (List.length (woF ws t (Prod.fst (Subtype.val s')))) (Prod.snd (Subtype.val s')))))
   (Tree.chk (XV.a (AV.c (iv (IntKind.wrap IntKind.i64 ((↑(Prod.fst (Subtype.val s)) : Int) + (1 : Int))))) = XV.a (AV.c (iv (↑(Prod.fst (Subtype.val s')) : Int))))
   (Tree.chk (XV.a (AV.c (CV.v (Value.slice none 0 0))) = XV.a (AV.c (CV.v (Value.slice none 0 0))))
   (Tree.chk (XV.a (AV.c (CV.sl 0 0 0 2 (List.length ws) cap)) = XV.a (AV.c (CV.sl 0 0 0 2 (List.length ws) cap)))
   (Tree.chk (XV.a (AV.c (iv t)) = XV.a (AV.c (iv t)))
   (Tree.chk (EntRel 2 [0, 1] 2 (Ent.ws own cap ws) (Ent.ws own cap ws))
   (Tree.chk (EntRel 2 [0, 1] 2 (Ent.ws true (Prod.snd (Subtype.val s)) (woF ws t (Prod.fst (Subtype.val s)))) (Ent.ws true (Prod.snd (Subtype.val s')) (woF ws t (Prod.fst (Subtype.val s')))))
   (Tree.need True))))))))))
   (Tree.done (XV.a (AV.c (CV.sl 1 0 0 2 (List.length (woF ws t (Prod.fst (Subtype.val s)))) (Prod.snd (Subtype.val s))))) [(Ent.ws own cap ws), (Ent.ws true (Prod.snd (Subtype.val s)) (woF ws t (Prod.fst (Subtype.val s))))]))
theorem twithout_eq (ws : List Wt) (t : Int) (own : Bool) (cap : Nat) : xfunc tab noCtr (lpI fun _ tm H => (woInv ws t own cap tm H)) Go.Proofs.Try.f32 [.c (.sl 0 0 0 2 ws.length cap), .c (iv t)] [Ent.ws own cap ws] [0, 1] = twithout ws t own cap := by kernel_rfl
end Go.Proofs.Ytnenbngjdekegaa.X

/- The model: without one, proved; and who waits no more. -/
set_option linter.unusedVariables false
set_option linter.unusedSimpArgs false
namespace Go.Proofs.Ytnenbngjdekegaa.X
open Go Go.RowKit Go.Proofs.YtnenbngjdekegaaW.PrintWords Go.Proofs.Ytnenbngjdekegaa.Base
theorem woT_le (ws : List Wt) (t : Int) : ∀ i, (woF ws t i).length ≤ i
  | 0 => Nat.le_refl _
  | i + 1 => by
    have := woT_le ws t i
    unfold woF
    cases ((i : Int) != t) <;> simp <;> omega
def withoutC (ws : List Wt) (t : Int) (own : Bool) (cap k : Nat) (ρ : List Nat) : CallSpec := rowSpec ρ k [.c (.sl 0 0 0 2 ws.length cap), .c (iv t)] [Ent.ws own cap ws] (fitsC (woF ws t ws.length).length) (fun c => .a (.c (.sl 1 0 0 2 (woF ws t ws.length).length (c 0)))) fun c => [Ent.ws own cap ws, Ent.ws true (c 0) (woF ws t ws.length)]
theorem without_local (ws : List Wt) (t : Int) (own : Bool) (cap k : Nat) (ρ : List Nat) (hl : ws.length ≤ 1000000) : (withoutC ws t own cap k ρ).Local Try.prog 32 := by
  refine local_of Try.func32 rfl (twithout_eq ws t own cap) fun ν w => ?_
  refine ok_both' ?_ (ok_every' fun s => ok_br' (fun h => ok_br' (fun h2 => ?_) fun h2 => ?_) fun h => ?_)
  · repeat' first | exact rfl | exact EntRel.ws | exact EntRel.rw rfl rfl (fun i hi => absurd hi (Nat.not_lt_zero _)) (fun i hi => absurd hi (Nat.not_lt_zero _)) | exact trivial | refine ok_chk' ?_ ?_
  · have hi : s.1.1 < ws.length := by simp only [decide_eq_true_eq] at h; omega
    have hle := woT_le ws t s.1.1
    have h2 : ((s.1.1 : Int) != t) = true := h2
    have hw : woF ws t (s.1.1 + 1) = woF ws t s.1.1 ++ [ws.getD s.1.1 (0, 0)] := by simp only [woF, h2, cond_true]
    refine ok_chk' ⟨by omega, by omega, by omega, by omega⟩ (ok_chk' ⟨by omega, by omega⟩ (ok_chk' (by omega) (ok_chk' ⟨by omega, by omega⟩ (ok_chk' ⟨rfl, rfl⟩ (ok_all' fun c hc => ?_)))))
    refine ok_some' ⟨(s.1.1 + 1, c 0), hi, by rw [hw]; simpa using hc.1, hc.2⟩ (ok_chk' (Nat.sub_lt_sub_left hi (Nat.lt_succ_self _)) (ok_chk' ?_ (ok_chk' ?_ ?_)))
    · show XV.a (.c (.sl 3 0 0 2 ((woF ws t s.1.1).length + 1) (c 0))) = XV.a (.c (.sl 3 0 0 2 (woF ws t (s.1.1 + 1)).length (c 0)))
      rw [hw, List.length_append]; try rfl
    · (rw [wrap64 (by omega) (by omega)]; try rfl)
    · refine ok_chk' rfl (ok_chk' rfl (ok_chk' rfl (ok_chk' EntRel.ws (ok_chk' ?_ trivial))))
      refine EntRel.rw (by rw [hw, List.length_append]; try rfl) rfl (fun i hi2 => ?_) fun i _ => wrow_plain _ i
      show (if i < (woF ws t s.1.1).length then wrow (woF ws t s.1.1) i else wc (ws.getD (s.1.1 : Int).toNat (0, 0))) = wrow (woF ws t (s.1.1 + 1)) i
      rw [hw, Int.toNat_natCast]
      unfold wrow
      by_cases hlt : i < (woF ws t s.1.1).length
      · rw [if_pos hlt, List.getD_eq_getElem?_getD, List.getD_eq_getElem?_getD, List.getElem?_append_left hlt]
      · have : i = (woF ws t s.1.1).length := by
          have hi2 : i < (woF ws t s.1.1).length + 1 := hi2
          omega
        rw [if_neg hlt, List.getD_eq_getElem?_getD (l := _ ++ _), List.getElem?_append_right (by omega), this, Nat.sub_self]
        rfl
  · have hi : s.1.1 < ws.length := by simp only [decide_eq_true_eq] at h; omega
    have h2 : ((s.1.1 : Int) != t) = false := h2
    have hw : woF ws t (s.1.1 + 1) = woF ws t s.1.1 := by simp only [woF, h2, cond_false]
    refine ok_some' ⟨(s.1.1 + 1, s.1.2), hi, by rw [hw]; exact s.2.2.1, s.2.2.2⟩ (ok_chk' (Nat.sub_lt_sub_left hi (Nat.lt_succ_self _)) (ok_chk' ?_ (ok_chk' ?_ ?_)))
    · show XV.a (.c (.sl 1 0 0 2 (woF ws t s.1.1).length s.1.2)) = XV.a (.c (.sl 1 0 0 2 (woF ws t (s.1.1 + 1)).length s.1.2))
      rw [hw]
    · (rw [wrap64 (by omega) (by omega)]; try rfl)
    · refine ok_chk' rfl (ok_chk' rfl (ok_chk' rfl (ok_chk' EntRel.ws (ok_chk' ?_ trivial))))
      exact EntRel.rw (by rw [hw]) rfl (fun i _ => by show wrow (woF ws t s.1.1) i = wrow (woF ws t (s.1.1 + 1)) i; rw [hw]) fun i _ => wrow_plain _ i
  · have hs : s.1.1 = ws.length := by have := s.2.1; simp only [decide_eq_false_iff_not] at h; omega
    have hq : woF ws t s.1.1 = woF ws t ws.length := congrArg (woF ws t) hs
    have hf : fitsC (woF ws t s.1.1).length fun _ => s.1.2 := ⟨s.2.2.1, s.2.2.2⟩
    have hf : fitsC (woF ws t ws.length).length fun _ => s.1.2 := by rw [← congrArg List.length hq]; exact hf
    refine ok_leaf (fun _ => s.1.2) [] [0, 1] hf (congrArg (fun l : List Wt => XV.a (.c (.sl 1 0 0 2 l.length s.1.2))) hq) ⟨⟨_, rfl, EntRel.ws⟩, ⟨_, rfl, ?_⟩, trivial⟩ rfl
    exact EntRel.rw (congrArg List.length hq).symm rfl (fun i _ => congrArg (fun l => wrow l i) hq) fun i _ => wrow_plain _ i
/-! ### Who waits no more -/
def notF (ws : List Wt) (t : Int) : List Wt := ws.filter fun x => x.1 != t
def keptF (ws : List Wt) (t : Int) (j : Nat) : List Wt := notF (ws.take j) t
def midF (ws : List Wt) (t : Int) (j : Nat) : List Wt := keptF ws t j ++ ws.drop (keptF ws t j).length
def delF (ws : List Wt) (t : Int) : List Wt := notF ws t ++ List.replicate (ws.length - (notF ws t).length) (0, 0)
def delP (ws : List Wt) (t : Int) (j : Nat) : Prop := placeF ws t 0 = -1 ∨ (0 < j ∧ j ≤ ws.length ∧ (keptF ws t j).length < j)
theorem placeF_spec (t : Int) : ∀ (ws : List Wt) (i : Nat), placeF ws t i = -1 ∧ (∀ x ∈ ws, (x.1 == t) = false) ∨ ∃ k, k < ws.length ∧ placeF ws t i = ((i + k : Nat) : Int) ∧ notF (ws.take k) t = ws.take k ∧ ((ws.getD k (0, 0)).1 == t) = true
  | [], i => .inl ⟨rfl, fun x hx => by cases hx⟩
  | x :: r, i => by
    cases hx : (x.1 == t) with
    | true => exact .inr ⟨0, by simp, by simp [placeF, hx], rfl, hx⟩
    | false =>
      rcases placeF_spec t r (i + 1) with ⟨h1, h2⟩ | ⟨k, h1, h2, h3, h4⟩
      · refine .inl ⟨by simp only [placeF, hx, cond_false]; exact h1, fun y hy => ?_⟩
        rcases List.mem_cons.1 hy with rfl | hy
        · exact hx
        · exact h2 y hy
      · refine .inr ⟨k + 1, by simpa using h1, ?_, ?_, by simpa using h4⟩
        · simp only [placeF, hx, cond_false, h2]
          congr 1
          omega
        · simp only [notF, List.take_succ_cons] at h3 ⊢
          rw [List.filter_cons, show (x.1 != t) = true by simp [bne, hx], if_pos rfl, h3]
theorem take_getD (ws : List Wt) {k : Nat} (h : k < ws.length) : ws.take (k + 1) = ws.take k ++ [ws.getD k (0, 0)] := by
  rw [List.take_succ_eq_append_getElem h, List.getD_eq_getElem?_getD, List.getElem?_eq_getElem h, Option.getD_some]
theorem keptF_succ (ws : List Wt) (t : Int) {k : Nat} (h : k < ws.length) : keptF ws t (k + 1) = if ((ws.getD k (0, 0)).1 == t) = true then keptF ws t k else keptF ws t k ++ [ws.getD k (0, 0)] := by
  unfold keptF notF
  rw [take_getD ws h, List.filter_append, List.filter_cons]
  cases hx : ((ws.getD k (0, 0)).1 == t) <;> simp only [bne, hx, Bool.not_true, Bool.not_false, if_true, if_false, List.filter_nil, List.append_nil, Bool.false_eq_true] <;> rfl
theorem keptF_le (ws : List Wt) (t : Int) (k : Nat) : (keptF ws t k).length ≤ k := by
  unfold keptF notF
  exact Nat.le_trans (List.length_filter_le _ _) (by simp; omega)
theorem delP0 (ws : List Wt) (t : Int) : delP ws t ((placeF ws t 0).toNat + 1) := by
  rcases placeF_spec t ws 0 with ⟨h1, -⟩ | ⟨k, h1, h2, h3, h4⟩
  · exact .inl h1
  · refine .inr ?_
    rw [h2]
    have : (((0 + k : Nat) : Int)).toNat = k := by simp
    rw [this]
    refine ⟨Nat.succ_pos _, h1, ?_⟩
    rw [keptF_succ ws t h1, if_pos h4]
    have := keptF_le ws t k
    omega
def delInv (ws : List Wt) (t : Int) (cap : Nat) (tm : Tm) (H : Hp) : LoopInv :=
  ⟨{j : Nat // delP ws t j}, fun j => (putAll [(5, ia (keptF ws t j.1).length), (6, ia j.1)] tm, [Ent.ws true cap (midF ws t j.1), Ent.ibox t]), fun j => ws.length - j.1, some ⟨(placeF ws t 0).toNat + 1, delP0 ws t⟩, [], .l [0, 1], [], fun _ _ => .l [0, 1]⟩
def delG (ws : List Wt) (t : Int) : Ctr := fun f args H => match args with
  | [.agg [.v (.int _ a), .v (.int _ b)], .c (.ptr r)] => some (sameC a b t [r.k])
  | [.c (.sl k _ _ _ _ cap), .c (.fn fid [r])] => some (indexC ws t true cap fid [k, r.k])
  | _ => none
def tdelete (ws : List Wt) (t : Int) (cap fid : Nat) : Tree :=
  Tree.callf 42 [AV.c (CV.sl 0 0 0 2 (List.length ws) cap), AV.c (CV.fn fid [{ k := 1, j := 0, i := 0, sz := 1, c := 0, d := 0, dn := 0, cu := 0 }])] [(Ent.ws true cap ws), (Ent.mkBox 3 [iv t])] (indexC ws t true cap fid [0, 1]) fun c => Tree.br (placeF ws t 0 == (-1 : Int))
   (Tree.done (XV.a (AV.c (CV.sl 0 0 0 2 (List.length ws) cap))) [(Ent.ws true cap ws), (Ent.mkBox 3 [iv t])])
   (Tree.both
   (Tree.chk (XV.a (AV.c (iv (placeF ws t 0))) = XV.a (AV.c (iv (↑(List.length (keptF ws t (Int.toNat (placeF ws t 0) + 1))) : Int))))
   (Tree.chk (XV.a (AV.c (iv (IntKind.wrap IntKind.i64 (placeF ws t 0 + (1 : Int))))) = XV.a (AV.c (iv (↑(Int.toNat (placeF ws t 0) + 1) : Int))))
   (Tree.chk (XV.a (AV.c (iv (IntKind.wrap IntKind.i64 (placeF ws t 0 + (1 : Int))))) = XV.a (AV.c (iv (IntKind.wrap IntKind.i64 (placeF ws t 0 + (1 : Int))))))
   (Tree.chk (XV.a (AV.c (iv (placeF ws t 0))) = XV.a (AV.c (iv (placeF ws t 0))))
   (Tree.chk (XV.a (AV.c (CV.v (Value.bool (placeF ws t 0 == (-1 : Int))))) = XV.a (AV.c (CV.v (Value.bool (placeF ws t 0 == (-1 : Int))))))
   (Tree.chk (XV.a (AV.c (iv (placeF ws t 0))) = XV.a (AV.c (iv (placeF ws t 0))))
   (Tree.chk (XV.a (AV.c (iv (placeF ws t 0))) = XV.a (AV.c (iv (placeF ws t 0))))
   (Tree.chk (XV.a (AV.c (CV.fn fid [{ k := 1, j := 0, i := 0, sz := 1, c := 0, d := 0, dn := 0, cu := 0 }])) = XV.a (AV.c (CV.fn fid [{ k := 1, j := 0, i := 0, sz := 1, c := 0, d := 0, dn := 0, cu := 0 }])))
   (Tree.chk (XV.a (AV.c (CV.sl 0 0 0 2 (List.length ws) cap)) = XV.a (AV.c (CV.sl 0 0 0 2 (List.length ws) cap)))
   (Tree.chk (XV.a (AV.c (CV.v (Value.slice none 0 0))) = XV.a (AV.c (CV.v (Value.slice none 0 0))))
   (Tree.chk (XV.a (AV.c (CV.sl 0 0 0 2 (List.length ws) cap)) = XV.a (AV.c (CV.sl 0 0 0 2 (List.length ws) cap)))
   (Tree.chk (XV.a (AV.c (CV.fn fid [{ k := 1, j := 0, i := 0, sz := 1, c := 0, d := 0, dn := 0, cu := 0 }])) = XV.a (AV.c (CV.fn fid [{ k := 1, j := 0, i := 0, sz := 1, c := 0, d := 0, dn := 0, cu := 0 }])))
   (Tree.chk (EntRel 2 [0, 1] 2 (Ent.ws true cap ws) (Ent.ws true cap (midF ws t (Int.toNat (placeF ws t 0) + 1))))
   (Tree.chk (EntRel 2 [0, 1] 2 (Ent.mkBox 3 [iv t]) (Ent.mkBox 3 [iv t]))
   (Tree.need True)))))))))))))))
   (Tree.every { j // delP ws t j } fun s => Tree.br (decide ((↑(Subtype.val s) : Int) < (↑(List.length ws) : Int)))
   (Tree.chk ((0 : Int) ≤ (↑(Subtype.val s) : Int) ∧ (↑(Subtype.val s) : Int) < (↑(List.length ws) : Int) ∧ Int.toNat (↑(Subtype.val s) : Int) < List.length (midF ws t (Subtype.val s)) ∧ 0 < 1)
   (Tree.chk (0 < 1 ∧ Int.toNat (↑(Subtype.val s) : Int) < List.length (midF ws t (Subtype.val s)))
   (Tree.callf fid [AV.agg [iv (Prod.fst (List.getD (midF ws t (Subtype.val s)) (Int.toNat (↑(Subtype.val s) : Int)) ((0 : Int), (0 : Int)))), iv (Prod.snd (List.getD (midF ws t (Subtype.val s)) (Int.toNat (↑(Subtype.val s) : Int)) ((0 : Int), (0 : Int))))], AV.c (CV.ptr { k := 1, j := 0, i := 0, sz := 1, c := 0, d := 0, dn := 0, cu := 0 })] [(Ent.ws true cap (midF ws t (Subtype.val s))), (Ent.mkBox 3 [iv t]), (Ent.mkBox 37 [iv (Prod.fst (List.getD (midF ws t (Subtype.val s)) (Int.toNat (↑(Subtype.val s) : Int)) ((0 : Int), (0 : Int)))), iv (Prod.snd (List.getD (midF ws t (Subtype.val s)) (Int.toNat (↑(Subtype.val s) : Int)) ((0 : Int), (0 : Int))))])] (sameC (Prod.fst (List.getD (midF ws t (Subtype.val s)) (Int.toNat (↑(Subtype.val s) : Int)) ((0 : Int), (0 : Int)))) (Prod.snd (List.getD (midF ws t (Subtype.val s)) (Int.toNat (↑(Subtype.val s) : Int)) ((0 : Int), (0 : Int)))) t [1]) fun c_1 => Tree.br (!Prod.fst (List.getD (midF ws t (Subtype.val s)) (Int.toNat (↑(Subtype.val s) : Int)) ((0 : Int), (0 : Int))) == t)
   (Tree.chk ((0 : Int) ≤ (↑(List.length (keptF ws t (Subtype.val s))) : Int) ∧ (↑(List.length (keptF ws t (Subtype.val s))) : Int) < (↑(List.length ws) : Int) ∧ Int.toNat (↑(List.length (keptF ws t (Subtype.val s))) : Int) < List.length (midF ws t (Subtype.val s)) ∧ 0 < 1)
   (Tree.chk (0 < 1 ∧ Int.toNat (↑(List.length (keptF ws t (Subtype.val s))) : Int) < List.length (midF ws t (Subtype.val s)))
   (Tree.some_ { j // delP ws t j } fun s' => Tree.chk (List.length ws - Subtype.val s' < List.length ws - Subtype.val s)
   (Tree.chk (XV.a (AV.c (iv (IntKind.wrap IntKind.i64 ((↑(List.length (keptF ws t (Subtype.val s))) : Int) + (1 : Int))))) = XV.a (AV.c (iv (↑(List.length (keptF ws t (Subtype.val s'))) : Int))))
   (Tree.chk (XV.a (AV.c (iv (IntKind.wrap IntKind.i64 ((↑(Subtype.val s) : Int) + (1 : Int))))) = XV.a (AV.c (iv (↑(Subtype.val s') : Int))))
   (Tree.chk (XV.a (AV.c (iv (IntKind.wrap IntKind.i64 (placeF ws t 0 + (1 : Int))))) = XV.a (AV.c (iv (IntKind.wrap IntKind.i64 (placeF ws t 0 + (1 : Int))))))
   (Tree.chk (XV.a (AV.c (iv (placeF ws t 0))) = XV.a (AV.c (iv (placeF ws t 0))))
   (Tree.chk (XV.a (AV.c (CV.v (Value.bool (placeF ws t 0 == (-1 : Int))))) = XV.a (AV.c (CV.v (Value.bool (placeF ws t 0 == (-1 : Int))))))
   (Tree.chk (XV.a (AV.c (iv (placeF ws t 0))) = XV.a (AV.c (iv (placeF ws t 0))))
   (Tree.chk (XV.a (AV.c (iv (placeF ws t 0))) = XV.a (AV.c (iv (placeF ws t 0))))
   (Tree.chk (XV.a (AV.c (CV.fn fid [{ k := 1, j := 0, i := 0, sz := 1, c := 0, d := 0, dn := 0, cu := 0 }])) = XV.a (AV.c (CV.fn fid [{ k := 1, j := 0, i := 0, sz := 1, c := 0, d := 0, dn := 0, cu := 0 }])))
   (Tree.chk (XV.a (AV.c (CV.sl 0 0 0 2 (List.length ws) cap)) = XV.a (AV.c (CV.sl 0 0 0 2 (List.length ws) cap)))
   (Tree.chk (XV.a (AV.c (CV.v (Value.slice none 0 0))) = XV.a (AV.c (CV.v (Value.slice none 0 0))))
   (Tree.chk (XV.a (AV.c (CV.sl 0 0 0 2 (List.length ws) cap)) = XV.a (AV.c (CV.sl 0 0 0 2 (List.length ws) cap)))
   (Tree.chk (XV.a (AV.c (CV.fn fid [{ k := 1, j := 0, i := 0, sz := 1, c := 0, d := 0, dn := 0, cu := 0 }])) = XV.a (AV.c (CV.fn fid [{ k := 1, j := 0, i := 0, sz := 1, c := 0, d := 0, dn := 0, cu := 0 }])))
   (Tree.chk (EntRel 3 [0, 1] 2 { own := true, box := false, ty := 37, sz := 2, m := 1, n := fun a => List.length (midF ws t (Subtype.val s)), cap := fun a => cap, f := fun a a_1 => [iv (Prod.fst (List.getD (midF ws t (Subtype.val s)) a_1 ((0 : Int), (0 : Int)))), iv (Prod.snd (List.getD (midF ws t (Subtype.val s)) a_1 ((0 : Int), (0 : Int))))], ov := [(33, 0, Int.toNat (↑(List.length (keptF ws t (Subtype.val s))) : Int), [iv (Prod.fst (List.getD (midF ws t (Subtype.val s)) (Int.toNat (↑(Subtype.val s) : Int)) ((0 : Int), (0 : Int)))), iv (Prod.snd (List.getD (midF ws t (Subtype.val s)) (Int.toNat (↑(Subtype.val s) : Int)) ((0 : Int), (0 : Int))))])] } (Ent.ws true cap (midF ws t (Subtype.val s'))))
   (Tree.chk (EntRel 3 [0, 1] 2 (Ent.mkBox 3 [iv t]) (Ent.mkBox 3 [iv t]))
   (Tree.need True))))))))))))))))))
   (Tree.some_ { j // delP ws t j } fun s' => Tree.chk (List.length ws - Subtype.val s' < List.length ws - Subtype.val s)
   (Tree.chk (XV.a (AV.c (iv (↑(List.length (keptF ws t (Subtype.val s))) : Int))) = XV.a (AV.c (iv (↑(List.length (keptF ws t (Subtype.val s'))) : Int))))
   (Tree.chk (XV.a (AV.c (iv (IntKind.wrap IntKind.i64 ((↑(Subtype.val s) : Int) + (1 : Int))))) = XV.a (AV.c (iv (↑(Subtype.val s') : Int))))
   (Tree.chk (XV.a (AV.c (iv (IntKind.wrap IntKind.i64 (placeF ws t 0 + (1 : Int))))) = XV.a (AV.c (iv (IntKind.wrap IntKind.i64 (placeF ws t 0 + (1 : Int))))))
   (Tree.chk (XV.a (AV.c (iv (placeF ws t 0))) = XV.a (AV.c (iv (placeF ws t 0))))
   (Tree.chk (XV.a (AV.c (CV.v (Value.bool (placeF ws t 0 == (-1 : Int))))) = XV.a (AV.c (CV.v (Value.bool (placeF ws t 0 == (-1 : Int))))))
   (Tree.chk (XV.a (AV.c (iv (placeF ws t 0))) = XV.a (AV.c (iv (placeF ws t 0))))
   (Tree.chk (XV.a (AV.c (iv (placeF ws t 0))) = XV.a (AV.c (iv (placeF ws t 0))))
   (Tree.chk (XV.a (AV.c (CV.fn fid [{ k := 1, j := 0, i := 0, sz := 1, c := 0, d := 0, dn := 0, cu := 0 }])) = XV.a (AV.c (CV.fn fid [{ k := 1, j := 0, i := 0, sz := 1, c := 0, d := 0, dn := 0, cu := 0 }])))
   (Tree.chk (XV.a (AV.c (CV.sl 0 0 0 2 (List.length ws) cap)) = XV.a (AV.c (CV.sl 0 0 0 2 (List.length ws) cap)))
   (Tree.chk (XV.a (AV.c (CV.v (Value.slice none 0 0))) = XV.a (AV.c (CV.v (Value.slice none 0 0))))
   (Tree.chk (XV.a (AV.c (CV.sl 0 0 0 2 (List.length ws) cap)) = XV.a (AV.c (CV.sl 0 0 0 2 (List.length ws) cap)))
   (Tree.chk (XV.a (AV.c (CV.fn fid [{ k := 1, j := 0, i := 0, sz := 1, c := 0, d := 0, dn := 0, cu := 0 }])) = XV.a (AV.c (CV.fn fid [{ k := 1, j := 0, i := 0, sz := 1, c := 0, d := 0, dn := 0, cu := 0 }])))
   (Tree.chk (EntRel 3 [0, 1] 2 (Ent.ws true cap (midF ws t (Subtype.val s))) (Ent.ws true cap (midF ws t (Subtype.val s'))))
   (Tree.chk (EntRel 3 [0, 1] 2 (Ent.mkBox 3 [iv t]) (Ent.mkBox 3 [iv t]))
   (Tree.need True)))))))))))))))))))
   (Tree.chk ((0 : Int) ≤ (↑(List.length ws) : Int) ∧ (↑(List.length ws) : Int) ≤ (↑cap : Int))
   (Tree.chk ((0 : Int) ≤ (↑(List.length (keptF ws t (Subtype.val s))) : Int) ∧ (↑(List.length (keptF ws t (Subtype.val s))) : Int) ≤ (↑(List.length ws) : Int))
   (Tree.br (decide (cap = Int.toNat (↑(List.length (keptF ws t (Subtype.val s))) : Int)))
   (Tree.chk (0 < 1 ∧ 0 + (Int.toNat (↑(List.length ws) : Int) - Int.toNat (↑(List.length (keptF ws t (Subtype.val s))) : Int)) ≤ List.length (midF ws t (Subtype.val s)))
   (Tree.chk ((0 : Int) ≤ (↑(List.length (keptF ws t (Subtype.val s))) : Int) ∧ (↑(List.length (keptF ws t (Subtype.val s))) : Int) ≤ (↑cap : Int))
   (Tree.done (XV.a (AV.c (CV.sl 0 0 0 2 (Int.toNat (↑(List.length (keptF ws t (Subtype.val s))) : Int)) cap))) [{ own := true, box := false, ty := 37, sz := 2, m := 1, n := fun a => List.length (midF ws t (Subtype.val s)), cap := fun a => cap, f := fun j' i => if j' = 0 ∧ 0 ≤ i ∧ i < 0 + (Int.toNat (↑(List.length ws) : Int) - Int.toNat (↑(List.length (keptF ws t (Subtype.val s))) : Int)) then List.map CV.v [Value.int IntKind.i64 (0 : Int), Value.int IntKind.i64 (0 : Int)] else [iv (Prod.fst (List.getD (midF ws t (Subtype.val s)) i ((0 : Int), (0 : Int)))), iv (Prod.snd (List.getD (midF ws t (Subtype.val s)) i ((0 : Int), (0 : Int))))], ov := [] }, (Ent.mkBox 3 [iv t])])))
   (Tree.chk (0 < 1 ∧ Int.toNat (↑(List.length (keptF ws t (Subtype.val s))) : Int) + (Int.toNat (↑(List.length ws) : Int) - Int.toNat (↑(List.length (keptF ws t (Subtype.val s))) : Int)) ≤ List.length (midF ws t (Subtype.val s)))
   (Tree.chk ((0 : Int) ≤ (↑(List.length (keptF ws t (Subtype.val s))) : Int) ∧ (↑(List.length (keptF ws t (Subtype.val s))) : Int) ≤ (↑cap : Int))
   (Tree.done (XV.a (AV.c (CV.sl 0 0 0 2 (Int.toNat (↑(List.length (keptF ws t (Subtype.val s))) : Int)) cap))) [{ own := true, box := false, ty := 37, sz := 2, m := 1, n := fun a => List.length (midF ws t (Subtype.val s)), cap := fun a => cap, f := fun j' i => if j' = 0 ∧ Int.toNat (↑(List.length (keptF ws t (Subtype.val s))) : Int) ≤ i ∧ i < Int.toNat (↑(List.length (keptF ws t (Subtype.val s))) : Int) + (Int.toNat (↑(List.length ws) : Int) - Int.toNat (↑(List.length (keptF ws t (Subtype.val s))) : Int)) then List.map CV.v [Value.int IntKind.i64 (0 : Int), Value.int IntKind.i64 (0 : Int)] else [iv (Prod.fst (List.getD (midF ws t (Subtype.val s)) i ((0 : Int), (0 : Int)))), iv (Prod.snd (List.getD (midF ws t (Subtype.val s)) i ((0 : Int), (0 : Int))))], ov := [] }, (Ent.mkBox 3 [iv t])]))))))))
theorem tdelete_eq (ws : List Wt) (t : Int) (cap fid : Nat) : xfunc tab (delG ws t) (lpI fun _ tm H => (delInv ws t cap tm H)) Go.Proofs.Try.f40 [.c (.sl 0 0 0 2 ws.length cap), .c (.fn fid [bref 1 1])] [Ent.ws true cap ws, Ent.ibox t] [0, 1] = tdelete ws t cap fid := by kernel_rfl
end Go.Proofs.Ytnenbngjdekegaa.X

