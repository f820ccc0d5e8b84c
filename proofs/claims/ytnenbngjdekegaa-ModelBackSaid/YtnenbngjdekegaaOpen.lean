import Derived.Test.YtnenbngjdekegaaWZeros
import Derived.ProofKit
import Derived.Lib.SmallJoins
import Derived.OpenShut
set_option linter.unusedVariables false
set_option linter.unusedSimpArgs false
/-! How an argument's reading as data opens to a kind's reading. -/
namespace Go.Proofs.Ytnenbngjdekegaa.Open
open Go.RowKit Go.Proofs.YtnenbngjdekegaaW.PrintWords

theorem mapM_get {α β : Type} {f : α → Option β} : ∀ {l : List α} {r : List β}, l.mapM f = some r → r.length = l.length ∧ ∀ (j : Nat) (x : α), l[j]? = some x → ∃ y, f x = some y ∧ r[j]? = some y
  | [], r, h => by
    simp at h
    subst h
    exact ⟨rfl, fun j x hx => by simp at hx⟩
  | a :: l, r, h => by
    simp only [List.mapM_cons, Option.bind_eq_bind, Option.bind_eq_some_iff] at h
    obtain ⟨y, hy, ys, hys, hr⟩ := h
    simp at hr
    subst hr
    obtain ⟨h1, h2⟩ := mapM_get hys
    refine ⟨by simp [h1], fun j x hx => ?_⟩
    cases j with
    | zero => simp at hx; subst hx; exact ⟨y, hy, rfl⟩
    | succ j => simpa using h2 j x (by simpa using hx)

theorem list_of {α : Type} (R : Nat → α → Prop) : ∀ n : Nat, (∀ j, j < n → ∃ x, R j x) → ∃ xs : List α, xs.length = n ∧ ∀ (j : Nat) (x : α), xs[j]? = some x → R j x
  | 0, _ => ⟨[], rfl, fun j x h => by simp at h⟩
  | n + 1, h => by
    obtain ⟨xs, hl, hx⟩ := list_of R n (fun j hj => h j (by omega))
    obtain ⟨x, hr⟩ := h n (by omega)
    refine ⟨xs ++ [x], by simp [hl], fun j y hy => ?_⟩
    rcases Nat.lt_or_ge j xs.length with hj | hj
    · rw [List.getElem?_append_left hj] at hy; exact hx j y hy
    · rw [List.getElem?_append_right hj] at hy
      have hj0 : j - xs.length = 0 := by
        rcases Nat.eq_zero_or_pos (j - xs.length) with h | h
        · exact h
        · rw [List.getElem?_eq_none (by simp; omega)] at hy; cases hy
      rw [hj0] at hy
      simp at hy
      subst hy
      rw [show j = n by omega]
      exact hr

/-- What is read as data of type t reads as kind k. -/
structure Opens {α : Type} (P : Program) (t : TypeId) (k : Kd α) (wf : α → Prop) : Prop where
  out : ∀ {H : Type} (enc : TypeId × Value → H) (w : World) (spare : Nat → Bool) (held : Bool) (fuel : Nat) (cs : List Value) (r : DataW H × List MemPlace),
    DataW.trod enc P w 0 spare held fuel t cs = some r → ∃ x, k.K w x cs ∧ wf x

theorem opens_int {P : Program} {t : TypeId} {k : IntKind} (ht : P.underlying t = some (.int k)) : Opens P t (Kd.int k) (fun x => (Lit.int k x).wf = true) := by
  refine ⟨fun {H} enc w spare held fuel cs r h => ?_⟩
  obtain ⟨n, rfl, _, hw⟩ := DataW.trod_int ht h
  exact ⟨n, rfl, hw⟩

theorem opens_bool {P : Program} {t : TypeId} (ht : P.underlying t = some .bool) : Opens P t Kd.bool (fun _ => True) := by
  refine ⟨fun {H} enc w spare held fuel cs r h => ?_⟩
  obtain ⟨n, rfl, _⟩ := DataW.trod_bool ht h
  exact ⟨n, rfl, trivial⟩

theorem opens_string {P : Program} {t : TypeId} (ht : P.underlying t = some .string) : Opens P t Kd.string (fun s => s.size ≤ maxLen) := by
  refine ⟨fun {H} enc w spare held fuel cs r h => ?_⟩
  obtain ⟨n, rfl, _, hw⟩ := DataW.trod_string ht h
  exact ⟨n, rfl, hw⟩

theorem opens_slice {α : Type} {P : Program} {t e : TypeId} {d : Kd α} {wf : α → Prop} (ht : P.underlying t = some (.slice e)) (hs : P.cellsOf e = d.sz) (hd : Opens P e d wf) :
    Opens P t (Kd.slice e d) (fun xs => xs.length ≤ maxLen ∧ ∀ x ∈ xs, wf x) := by
  refine ⟨fun {H} enc w spare held fuel cs r h => ?_⟩
  rcases DataW.trod_slice ht h with ⟨rfl, _⟩ | ⟨a, len, cap, elems, rest, n, rfl, rfl, _, _, hlc, hcm, hel, hat, _⟩
  · exact ⟨[], ⟨none, 0, rfl, Nat.le_refl _, rfl, by simp, fun h => absurd h (by simp)⟩, by simp, by simp⟩
  · have hx : ∀ j, j < len → ∃ x : α, wf x ∧ ∃ c : List Value, c.length = d.sz ∧ d.K w x c ∧ ∀ i u, c[i]? = some u → w.cell? (a.add (j * d.sz + i)) = some u := by
      intro j hj
      have hy := hat j hj
      rw [List.getElem?_eq_getElem (by omega)] at hy
      simp only [Option.bind_eq_some_iff] at hy
      obtain ⟨c, hcells, htr⟩ := hy
      obtain ⟨x, hk, hw⟩ := hd.out enc w spare held n c _ htr
      refine ⟨x, hw, c, d.K_len hk, hk, fun i u hu => ?_⟩
      unfold World.cells? at hcells
      split at hcells
      · obtain ⟨hl2, hg2⟩ := mapM_get hcells
        rw [List.length_range, hs] at hl2
        have hi : i < d.sz := by
          have := (List.getElem?_eq_some_iff.1 hu).1
          omega
        obtain ⟨v, hv, hcv⟩ := hg2 i i (by rw [hs, List.getElem?_range hi])
        rw [hcv] at hu
        injection hu with hu
        subst hu
        have ha : (a.add (j * P.cellsOf e)).add i = a.add (j * d.sz + i) := by
          rw [hs]
          unfold Addr.add
          by_cases h1 : j * d.sz = 0 <;> by_cases h2 : i = 0 <;> simp [h1, h2, Nat.add_assoc]
        rwa [ha] at hv
      · cases hcells
    obtain ⟨xs, hxl, hxs⟩ := list_of _ len hx
    subst hxl
    refine ⟨xs, ⟨some a, cap, rfl, hlc, rfl, by simp only [maxLen] at hcm; omega, fun _ => ⟨a, rfl, fun j p hj => (hxs j p hj).2⟩⟩, by omega, fun x hx => ?_⟩
    obtain ⟨j, hj⟩ := List.mem_iff_getElem?.1 hx
    exact (hxs j x hj).1

/-- The fields from an offset on, one behind the other. -/
structure OpensF {α : Type} (P : Program) (fs : List Field) (off : Nat) (k : Kd α) (wf : α → Prop) : Prop where
  out : ∀ {H : Type} (enc : TypeId × Value → H) (w : World) (spare : Nat → Bool) (held : Bool) (fuel : Nat) (cs : List Value) (r : List (DataW H × List MemPlace)),
    off + k.sz ≤ cs.length → (fs.mapM fun f => DataW.trod enc P w 0 spare held fuel f.type ((cs.drop f.offset).take (P.cellsOf f.type))) = some r → ∃ x, k.K w x ((cs.drop off).take k.sz) ∧ wf x

theorem opensF_one {α : Type} {P : Program} {f : Field} {off : Nat} {k : Kd α} {wf : α → Prop} (h : Opens P f.type k wf) (ho : f.offset = off) (hs : P.cellsOf f.type = k.sz) : OpensF P [f] off k wf := by
  refine ⟨fun {H} enc w spare held fuel cs r hl hm => ?_⟩
  obtain ⟨_, hg⟩ := mapM_get hm
  obtain ⟨y, hy, _⟩ := hg 0 f rfl
  rw [ho, hs] at hy
  exact h.out enc w spare held fuel _ y hy

theorem opensF_cons {α β : Type} {P : Program} {f : Field} {fs : List Field} {off : Nat} {k : Kd α} {q : Kd β} {wf : α → Prop} {wg : β → Prop} (h : Opens P f.type k wf) (ho : f.offset = off) (hs : P.cellsOf f.type = k.sz)
    (hq : OpensF P fs (off + k.sz) q wg) : OpensF P (f :: fs) off (Kd.pair k q) (fun x => wf x.1 ∧ wg x.2) := by
  refine ⟨fun {H} enc w spare held fuel cs r hl hm => ?_⟩
  have hl' : off + (k.sz + q.sz) ≤ cs.length := hl
  obtain ⟨hlr, hg⟩ := mapM_get hm
  obtain ⟨y, hy, _⟩ := hg 0 f rfl
  rw [ho, hs] at hy
  obtain ⟨x, hx, hw⟩ := h.out enc w spare held fuel _ y hy
  simp only [List.mapM_cons, Option.bind_eq_bind, Option.bind_eq_some_iff] at hm
  obtain ⟨_, _, ys, hys, _⟩ := hm
  obtain ⟨z, hz, hwz⟩ := hq.out enc w spare held fuel cs ys (by omega) hys
  refine ⟨(x, z), ⟨_, _, ?_, hx, hz⟩, hw, hwz⟩
  show (cs.drop off).take (k.sz + q.sz) = _
  rw [List.take_add, List.drop_drop]

theorem opens_struct {α : Type} {P : Program} {t : TypeId} {fs : Array Field} {k : Kd α} {wf : α → Prop} (ht : P.underlying t = some (.struct fs)) (hs : P.cellsOf t = k.sz) (h : OpensF P fs.toList 0 k wf) : Opens P t k wf := by
  refine ⟨fun {H} enc w spare held fuel cs r hr => ?_⟩
  cases fuel with
  | zero => simp [DataW.trod] at hr
  | succ n =>
    rw [DataW.trod.eq_def] at hr
    simp only [ht] at hr
    split at hr
    · rename_i hl
      simp only [Option.map_eq_some_iff] at hr
      obtain ⟨ys, hys, _⟩ := hr
      obtain ⟨x, hx, hw⟩ := h.out enc w spare held n cs ys (by omega) hys
      rw [List.drop_zero, List.take_of_length_le (by omega)] at hx
      exact ⟨x, hx, hw⟩
    · cases hr

theorem opens_array {α : Type} {P : Program} {t e : TypeId} {n : Nat} {k : Kd α} {wf : α → Prop} (ht : P.underlying t = some (.array n e)) (hs : P.cellsOf e = k.sz) (hn : P.cellsOf t = n * k.sz) (hk : 0 < k.sz) (h : Opens P e k wf) :
    Opens P t (Kd.arr n k hk) (fun xs => xs.length = n ∧ ∀ x ∈ xs, wf x) := by
  refine ⟨fun {H} enc w spare held fuel cs r hr => ?_⟩
  cases fuel with
  | zero => simp [DataW.trod] at hr
  | succ m =>
    rw [DataW.trod.eq_def] at hr
    simp only [ht] at hr
    split at hr
    · rename_i hl
      simp only [Option.map_eq_some_iff] at hr
      obtain ⟨ys, hys, _⟩ := hr
      obtain ⟨_, hg⟩ := mapM_get hys
      have hx : ∀ j, j < n → ∃ x : α, wf x ∧ k.K w x ((cs.drop (j * k.sz)).take k.sz) := by
        intro j hj
        obtain ⟨y, hy, _⟩ := hg j j (by rw [List.getElem?_range hj])
        rw [hs] at hy
        obtain ⟨x, hx, hw⟩ := h.out enc w spare held m _ y hy
        exact ⟨x, hw, hx⟩
      obtain ⟨xs, hxl, hxs⟩ := list_of _ n hx
      refine ⟨xs, ⟨hxl, by rw [hl, hn, hxl], fun j p hj => (hxs j p hj).2⟩, hxl, fun x hx => ?_⟩
      obtain ⟨j, hj⟩ := List.mem_iff_getElem?.1 hx
      exact (hxs j x hj).1
    · cases hr

theorem opens_iso {α β : Type} {P : Program} {t : TypeId} {k : Kd α} {wf : α → Prop} (f : β → α) (g : α → β) (hg : ∀ x, f (g x) = x) (h : Opens P t k wf) : Opens P t (Kd.iso k f) (fun y => wf (f y)) := by
  refine ⟨fun {H} enc w spare held fuel cs r hr => ?_⟩
  obtain ⟨x, hx, hw⟩ := h.out enc w spare held fuel cs r hr
  exact ⟨g x, by show k.K w (f (g x)) cs; rw [hg]; exact hx, by show wf (f (g x)); rw [hg]; exact hw⟩

theorem opens_wf {α : Type} {P : Program} {t : TypeId} {k : Kd α} {wf wf' : α → Prop} (h : Opens P t k wf) (hw : ∀ x, wf x → wf' x) : Opens P t k wf' := by
  refine ⟨fun {H} enc w spare held fuel cs r hr => ?_⟩
  obtain ⟨x, hx, hwx⟩ := h.out enc w spare held fuel cs r hr
  exact ⟨x, hx, hw x hwx⟩

/-- A slice argument. -/
theorem open_slice_arg {α : Type} {P : Program} {t e : TypeId} {k : Kd α} {wf : List α → Prop} (h : Opens P t (Kd.slice e k) wf) {H : Type} {enc : TypeId × Value → H} {w : World} {spare : Nat → Bool} {held : Bool} {v : Value} {d : DataW H} {p : List MemPlace}
    (hv : ∃ a n c, v = .slice a n c) (ht : DataW.Trod enc P w 0 spare held t v d p) : ∃ A xs c, v = .slice A xs.length c ∧ xs.length ≤ c ∧ k.C w A xs.length xs ∧ wf xs := by
  obtain ⟨a, n, c, rfl⟩ := hv
  obtain ⟨fuel, hf⟩ := ht
  obtain ⟨xs, ⟨A, c', he, hl, hc⟩, hw⟩ := h.out enc w spare held fuel _ _ hf
  simp [Value.cells] at he
  obtain ⟨rfl, rfl, rfl⟩ := he
  exact ⟨a, xs, c, rfl, hl, hc, hw⟩

/-- A struct (or an array) by value. -/
theorem open_agg_arg {α : Type} {P : Program} {t : TypeId} {k : Kd α} {wf : α → Prop} (h : Opens P t k wf) {H : Type} {enc : TypeId × Value → H} {w : World} {spare : Nat → Bool} {held : Bool} {v : Value} {d : DataW H} {p : List MemPlace}
    (hv : ∃ cs, v = .agg cs) (ht : DataW.Trod enc P w 0 spare held t v d p) : ∃ cs x, v = .agg cs ∧ k.K w x cs.toList ∧ wf x := by
  obtain ⟨cs, rfl⟩ := hv
  obtain ⟨fuel, hf⟩ := ht
  obtain ⟨x, hk, hw⟩ := h.out enc w spare held fuel _ _ hf
  exact ⟨cs, x, rfl, by simpa [Value.cells] using hk, hw⟩
end Go.Proofs.Ytnenbngjdekegaa.Open
