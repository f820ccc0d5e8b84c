import Derived.Test.YthehmmcloimpmaaBase
set_option linter.unusedVariables false
set_option linter.unusedSimpArgs false
namespace Go.Proofs.Ythehmmcloimpmaa.Cell
open Go.RowKit Go.Proofs.YthehmmcloimpmaaW.PrintWords Go.Proofs.Ythehmmcloimpmaa.Base

structure ArenaAt (w : World) (p : Nat) (v : Value) (l : List Int) (most : Int) : Prop where
  blk : w.heap[p]? = some (.cells #[v, .int .i64 most] 81 (0, 0))
  row : w.ownsRow 0 2 1 v l.length (nums .i64 l)
/-- An arena in the blocks F. -/
def ArenaIn (F : Nat → Prop) (w : World) (p : Nat) (l : List Int) (most : Int) : Prop := ∃ v, ArenaAt w p v l most ∧ F p ∧ ∀ k, v.ownBlock = some k → F k


theorem ArenaIn.drewN {F : Nat → Prop} {w : World} {p : Nat} {l : List Int} {most : Int} (h : ArenaIn F w p l most) (n : Nat) : ArenaIn F (w.drewN n) p l most := by
  obtain ⟨v, ⟨a, b⟩, c⟩ := h
  exact ⟨v, ⟨a, b⟩, c⟩

theorem there_calls (w : World) (p : Nat) (F : Nat → Prop) (l : List Int) (most at_ : Int) (b : Bool) (hb : (1 ≤ at_ ∧ at_ < l.length) ↔ b = true) (h : ArenaIn F w p l most) :
    Calls Try.prog 43 #[.pointer (some ⟨p, 0, none⟩), .int .i64 at_] w fun e w' => e = .returned (.bool b) ∧ w = w' := by
  have hb' : (decide (1 ≤ at_) && decide (at_ < l.length)) = b := by cases b <;> simp_all
  subst hb'
  clear hb
  obtain ⟨v, ⟨hb, hr⟩, _⟩ := h
  obtain ⟨A, c, rfl⟩ := own_slice hr
  have h0 := blk_cell hb 0
  simp at h0
  clear hb hr
  go_enter Try.func43, Try.ntmps43
  go_wp2
  all_goals
    go_ret
    exact ⟨by simp [*]; try omega, rfl⟩

theorem len_calls (w : World) (p : Nat) (F : Nat → Prop) (l : List Int) (most : Int) (h : ArenaIn F w p l most) :
    Calls Try.prog 22 #[.pointer (some ⟨p, 0, none⟩)] w fun e w' => e = .returned (.int .i64 (wrap64 (l.length - 1))) ∧ w = w' := by
  obtain ⟨v, ⟨hb, hr⟩, _⟩ := h
  obtain ⟨A, c, rfl⟩ := own_slice hr
  have h0 := blk_cell hb 0
  simp at h0
  clear hb hr
  go_enter Try.func22, Try.ntmps22
  go_wp2
  go_ret
  exact ⟨rfl, rfl⟩

theorem load_in (w : World) (p : Nat) (F : Nat → Prop) (l : List Int) (most at_ : Int) (h : ArenaIn F w p l most) (hin : 1 ≤ at_ ∧ at_ < l.length) :
    Calls Try.prog 27 #[.pointer (some ⟨p, 0, none⟩), .int .i64 at_] w fun e w' => e = .returned (.tuple #[.int .i64 (rd l at_), .nilIface]) ∧ w = w' := by
  have hthere := Aside0.mk (fun w => there_calls w p F l most at_ true (by simpa using hin))
  have H := Aside0.mk h
  obtain ⟨v, ⟨hb, hr⟩, _⟩ := h
  obtain ⟨A, c, rfl⟩ := own_slice hr
  have h0 := blk_cell hb 0
  simp at h0
  obtain ⟨g, c', he, -, hf⟩ := hr.form (by omega)
  cases he
  have hc := own_at hr at_ (by omega) (by omega)
  have hc1 := hc.1
  obtain ⟨i1, i2⟩ := hin
  have i0 : 0 ≤ at_ := by omega
  clear hb hr hc hf
  go_enter Try.func27, Try.ntmps27
  go_wp2_with (go_at_call 43; refine (hthere.out _ H.out).mono ?_; rintro e w' ⟨rfl, rfl⟩)
  go_ret2
  exact ⟨rfl, rfl⟩

theorem load_out (w : World) (p : Nat) (F : Nat → Prop) (l : List Int) (most at_ : Int) (h : ArenaIn F w p l most) (hin : ¬ (1 ≤ at_ ∧ at_ < l.length)) :
    Calls Try.prog 27 #[.pointer (some ⟨p, 0, none⟩), .int .i64 at_] w fun e w' => e = .returned (.tuple #[.int .i64 0, errC 6]) ∧ w = w' := by
  have hthere := Aside0.mk (fun w => there_calls w p F l most at_ false (by simpa using hin))
  have H := Aside0.mk h
  clear h hin
  go_enter Try.func27, Try.ntmps27
  go_wp2_with (go_at_call 43; refine (hthere.out _ H.out).mono ?_; rintro e w' ⟨rfl, rfl⟩)
  go_ret2
  exact ⟨rfl, rfl⟩

/-- A store into an arena's row. -/
theorem ArenaIn.put {F : Nat → Prop} {w : World} {p g c : Nat} {l : List Int} {most : Int} (hb : w.heap[p]? = some (.cells #[.slice (some ⟨g, 0, none⟩) l.length c, .int .i64 most] 81 (0, 0)))
    (hr : w.ownsRow 0 2 1 (.slice (some ⟨g, 0, none⟩) l.length c) l.length (nums .i64 l)) (hF : F p) (hG : F g) (i x : Int) :
    ArenaIn F (w.setCell ⟨g, i.toNat, none⟩ (.int .i64 x)) p (l.set i.toNat x) most ∧ Upd F w (w.setCell ⟨g, i.toNat, none⟩ (.int .i64 x)) := by
  have hne : p ≠ g := by
    have := own_ne hr hb (by decide)
    intro he; exact this (by rw [he]; rfl)
  refine ⟨⟨.slice (some ⟨g, 0, none⟩) l.length c, ⟨by simpa using blk_far hb (p := ⟨g, i.toNat, none⟩) hne _, by simpa using (own_store hr i x).1⟩, hF, fun k hk => ?_⟩, (Upd.refl F w).setCell (.inl hG) _⟩
  simp [Value.ownBlock] at hk
  exact hk ▸ hG

theorem store_in (w : World) (p : Nat) (F : Nat → Prop) (l : List Int) (most at_ x : Int) (h : ArenaIn F w p l most) (hin : 1 ≤ at_ ∧ at_ < l.length) :
    Calls Try.prog 26 #[.pointer (some ⟨p, 0, none⟩), .int .i64 at_, .int .i64 x] w fun e w' => e = .returned .nilIface ∧ ArenaIn F w' p (l.set at_.toNat x) most ∧ Upd F w w' := by
  have hthere := Aside0.mk (fun w => there_calls w p F l most at_ true (by simpa using hin))
  have H := Aside0.mk h
  obtain ⟨v, ⟨hb, hr⟩, hF, hG⟩ := h
  obtain ⟨A, c, rfl⟩ := own_slice hr
  have h0 := blk_cell hb 0
  simp at h0
  obtain ⟨g, c', he, -, hf⟩ := hr.form (by omega)
  cases he
  have hc := own_at hr at_ (by omega) (by omega)
  obtain ⟨hc1, hc2⟩ := hc
  have hput := Aside0.mk (ArenaIn.put hb hr hF (hG g rfl) at_ x)
  obtain ⟨i1, i2⟩ := hin
  have i0 : 0 ≤ at_ := by omega
  clear hb hr hf hF hG
  go_enter Try.func26, Try.ntmps26
  go_wp2_with (go_at_call 43; refine (hthere.out _ H.out).mono ?_; rintro e w' ⟨rfl, rfl⟩)
  go_ret
  exact ⟨rfl, hput.out⟩

theorem store_out (w : World) (p : Nat) (F : Nat → Prop) (l : List Int) (most at_ x : Int) (h : ArenaIn F w p l most) (hin : ¬ (1 ≤ at_ ∧ at_ < l.length)) :
    Calls Try.prog 26 #[.pointer (some ⟨p, 0, none⟩), .int .i64 at_, .int .i64 x] w fun e w' => e = .returned (errC 6) ∧ w = w' := by
  have hthere := Aside0.mk (fun w => there_calls w p F l most at_ false (by simpa using hin))
  have H := Aside0.mk h
  clear h hin
  go_enter Try.func26, Try.ntmps26
  go_wp2_with (go_at_call 43; refine (hthere.out _ H.out).mono ?_; rintro e w' ⟨rfl, rfl⟩)
  go_ret
  exact ⟨rfl, rfl⟩

theorem swap_out (w : World) (p : Nat) (F : Nat → Prop) (l : List Int) (most at_ o x : Int) (h : ArenaIn F w p l most) (hin : ¬ (1 ≤ at_ ∧ at_ < l.length)) :
    Calls Try.prog 36 #[.pointer (some ⟨p, 0, none⟩), .int .i64 at_, .int .i64 o, .int .i64 x] w fun e w' => e = .returned (.tuple #[.bool false, errC 6]) ∧ w = w' := by
  have hthere := Aside0.mk (fun w => there_calls w p F l most at_ false (by simpa using hin))
  have H := Aside0.mk h
  clear h hin
  go_enter Try.func36, Try.ntmps36
  go_wp2_with (go_at_call 43; refine (hthere.out _ H.out).mono ?_; rintro e w' ⟨rfl, rfl⟩)
  go_ret2
  exact ⟨rfl, rfl⟩

theorem swap_in (w : World) (p : Nat) (F : Nat → Prop) (l : List Int) (most at_ o x : Int) (h : ArenaIn F w p l most) (hin : 1 ≤ at_ ∧ at_ < l.length) :
    Calls Try.prog 36 #[.pointer (some ⟨p, 0, none⟩), .int .i64 at_, .int .i64 o, .int .i64 x] w fun e w' => e = .returned (.tuple #[.bool (rd l at_ == o), .nilIface]) ∧
      ArenaIn F w' p (if rd l at_ = o then l.set at_.toNat x else l) most ∧ Upd F w w' := by
  have hthere := Aside0.mk (fun w => there_calls w p F l most at_ true (by simpa using hin))
  have H := Aside0.mk h
  obtain ⟨v, ⟨hb, hr⟩, hF, hG⟩ := h
  obtain ⟨A, c, rfl⟩ := own_slice hr
  have h0 := blk_cell hb 0
  simp at h0
  obtain ⟨g, c', he, -, hf⟩ := hr.form (by omega)
  cases he
  have hc := own_at hr at_ (by omega) (by omega)
  obtain ⟨hc1, hc2⟩ := hc
  have hput := Aside0.mk (ArenaIn.put hb hr hF (hG g rfl) at_ x)
  obtain ⟨i1, i2⟩ := hin
  have i0 : 0 ≤ at_ := by omega
  clear hb hr hf hF hG
  by_cases he : rd l at_ = o
  · have e1 : (rd l at_ == o) = true := beq_iff_eq.2 he
    have e2 : (rd l at_ != o) = false := by rw [bne_eq_false_iff_eq]; exact he
    rw [if_pos he]
    have HE := Aside0.mk he
    clear he
    go_enter Try.func36, Try.ntmps36
    go_wp2_with (go_at_call 43; refine (hthere.out _ H.out).mono ?_; rintro e w' ⟨rfl, rfl⟩)
    go_ret2
    exact ⟨by simp [*], hput.out⟩
  · have e1 : (rd l at_ == o) = false := beq_eq_false_iff_ne.2 he
    have e2 : (rd l at_ != o) = true := by rw [bne_iff_ne]; exact he
    rw [if_neg he]
    have HE := Aside0.mk he
    clear he
    go_enter Try.func36, Try.ntmps36
    go_wp2_with (go_at_call 43; refine (hthere.out _ H.out).mono ?_; rintro e w' ⟨rfl, rfl⟩)
    go_ret2
    exact ⟨by simp [*], H.out, Upd.refl _ _⟩

theorem new_bad (w : World) (most : Int) (hm : most < 1 ∨ 4096 < most) :
    Calls Try.prog 21 #[.int .i64 most] w fun e w' => e = .returned (.tuple #[.pointer none, errC 1]) ∧ w = w' := by
  by_cases h1 : most < 1
  · go_enter Try.func21, Try.ntmps21
    go_wp2
    go_ret2
    exact ⟨rfl, rfl⟩
  · have h2 : 4096 < most := by omega
    go_enter Try.func21, Try.ntmps21
    go_wp2
    go_ret2
    exact ⟨rfl, rfl⟩

theorem new_good (w : World) (most : Int) (h1 : 1 ≤ most) (h2 : most ≤ 4096) :
    Calls Try.prog 21 #[.int .i64 most] w fun e w' => ∃ p, e = .returned (.tuple #[.pointer (some ⟨p, 0, none⟩), .nilIface]) ∧ ArenaIn (fun k => w.heap.size ≤ k) w' p [0] most ∧ Below w.heap.size w w' := by
  go_enter Try.func21, Try.ntmps21
  go_wp2
  go_ret2
  refine ⟨w.heap.size + 1, by simp, ⟨_, ⟨by simpa using blk_new (w.alloc (Obj.cells #[Value.int IntKind.i64 0] 2)) _, own_alloc (own_lit w 0 2 .i64 [0] (Nat.zero_le _) (by simp)) _⟩, by simp, fun k hk => ?_⟩, ((Below.refl _ _).alloc (Nat.le_refl _) _).alloc (by simp) _⟩
  simp [Value.ownBlock] at hk
  omega

theorem clone_row (w : World) (l : List Int) (v : Value) (hr : w.ownsRow 0 2 1 v l.length (nums .i64 l)) (hl : l.length ≤ 100000) (h0 : 0 < l.length) :
    Calls Try.prog 46 #[v] w fun e w' => ∃ g c, e = .returned (.slice (some ⟨g, 0, none⟩) l.length c) ∧ w'.ownsRow 0 2 1 (.slice (some ⟨g, 0, none⟩) l.length c) l.length (nums .i64 l) ∧ w.heap.size ≤ g ∧ Below w.heap.size w w' := by
  obtain ⟨g, c, rfl, -, hf⟩ := hr.form h0
  have HR := Aside0.mk (own_reads' hr)
  have hnil := fun w => Lib.run_eql_slice_nil (P := Try.prog) w 22 2 (some ⟨g, 0, none⟩) l.length c 0 0 Try.underlying22
  clear hr hf
  have HO := Aside0.mk (own_lit w w.heap.size 2 .i64 [] (Nat.le_refl _) (by simp))
  go_enter Try.func46, Try.ntmps46
  go_wp2_with (at_builtin; refine print_append_row (w0 := w) w.heap.size rfl (.tmp 5) (.tmp 6) 22 2 .i64 8 rfl Try.underlying22 info64 (by decide) _ [] l _ _ _ rfl rfl ?ho ?hread ?hb ?hbase ?hlen ?k)
  case ho => exact HO.out
  case hread => exact HR.out.allocS _
  case hb => exact (Below.refl _ _).alloc (Nat.le_refl _) _
  case hbase => simp
  case hlen => simp; omega
  case k =>
    intro v1 w1 ho hb hg hat
    obtain ⟨g1, c1, rfl, hge, -⟩ := ho.form (by simpa using h0)
    go_wp2
    go_ret
    exact ⟨g1, c1, by simp, own_weaken (by simpa using ho) (Nat.zero_le _), hge, hb⟩

theorem clone_calls (w : World) (p : Nat) (F : Nat → Prop) (l : List Int) (most : Int) (hl : l.length ≤ 100000) (h0 : 0 < l.length) (h : ArenaIn F w p l most) :
    Calls Try.prog 35 #[.pointer (some ⟨p, 0, none⟩)] w fun e w' => ∃ q, e = .returned (.pointer (some ⟨q, 0, none⟩)) ∧ ArenaIn (fun k => w.heap.size ≤ k) w' q l most ∧ Below w.heap.size w w' := by
  obtain ⟨v, ⟨hb, hr⟩, _⟩ := h
  obtain ⟨g, c, rfl, -, -⟩ := hr.form h0
  have HR := Aside0.mk hr
  have k0 := blk_cell hb 0
  have k1 := blk_cell hb 1
  simp at k0 k1
  have hclone := Aside0.mk (fun w hr => clone_row w l (.slice (some ⟨g, 0, none⟩) l.length c) hr hl h0)
  clear hb hr
  go_enter Try.func35, Try.ntmps35
  go_wp2_with fail
  go_region_held3 (fun w' => w'.cell? ⟨p, 0, none⟩ = some (.slice (some ⟨g, 0, none⟩) l.length c) ∧ w'.cell? ⟨p, 1, none⟩ = some (.int .i64 most)) (go_keep)
    (first | (go_at_call 46; refine (hclone.out _ ?_).mono ?_; (exact HR.out); rintro e w' ⟨g1, c1, rfl, ho, hk, hb⟩; have q0 := pw_cell_below hb k0; have q1 := pw_cell_below hb k1))
  go_wp2
  go_ret
  refine ⟨w'.heap.size, by simp, ⟨_, ⟨blk_new w' _, own_alloc ho _⟩, hb.size, fun k hk2 => ?_⟩, ((Below.refl _ w).drew.trans (hb.alloc hb.size _))⟩
  simp [Value.ownBlock] at hk2
  have : w.heap.size ≤ g1 := hk
  omega


theorem alloc_bad (w : World) (p : Nat) (F : Nat → Prop) (l : List Int) (most n : Int) (hn : n < 1) (h : ArenaIn F w p l most) :
    Calls Try.prog 25 #[.pointer (some ⟨p, 0, none⟩), .int .i64 n] w fun e w' => e = .returned (.tuple #[.int .i64 0, errC 1]) ∧ w = w' := by
  go_enter Try.func25, Try.ntmps25
  go_wp2
  go_ret2
  exact ⟨rfl, rfl⟩

theorem alloc_full (w : World) (p : Nat) (F : Nat → Prop) (l : List Int) (most n : Int) (hn : 1 ≤ n) (hm0 : 0 ≤ most) (hm : most ≤ 4096) (hl : 1 ≤ l.length) (hl2 : l.length ≤ most + 1) (hfull : most - (l.length - 1) < n) (h : ArenaIn F w p l most) :
    Calls Try.prog 25 #[.pointer (some ⟨p, 0, none⟩), .int .i64 n] w fun e w' => e = .returned (.tuple #[.int .i64 0, errC 3]) ∧ Drawn0 w w' := by
  have hlen := Aside0.mk (fun w h => len_calls w p F l most h)
  have H := Aside0.mk h
  obtain ⟨v, ⟨hb, hr⟩, hF, hG⟩ := h
  obtain ⟨g, c, rfl, -, hf⟩ := hr.form hl
  have k1 := blk_cell hb 1
  simp at k1
  have hw : wrap64 ((l.length : Int) - 1) = l.length - 1 := by unfold wrap64; omega
  have hw2 : wrap64 (most - ((l.length : Int) - 1)) = most - (l.length - 1) := by unfold wrap64; omega
  clear hb hr hf
  go_enter Try.func25, Try.ntmps25
  go_wp2_with fail
  go_quiet ((go_at_call 22; exact Calls.quiet_of_same ((hlen.out _ (H.out.drewN _)).mono fun _ _ h => ⟨h.1, h.2.symm⟩)))
  go_wp2
  go_ret2
  exact ⟨rfl, by repeat (first | exact Drawn0.refl _ | apply Drawn0.step)⟩

theorem alloc_good (w : World) (p : Nat) (F : Nat → Prop) (l : List Int) (most n : Int) (hn : 1 ≤ n) (hm0 : 0 ≤ most) (hm : most ≤ 4096) (hl : 1 ≤ l.length) (hl2 : l.length ≤ most + 1) (hfull : ¬ most - (l.length - 1) < n) (h : ArenaIn F w p l most) :
    Calls Try.prog 25 #[.pointer (some ⟨p, 0, none⟩), .int .i64 n] w fun e w' => e = .returned (.tuple #[.int .i64 l.length, .nilIface]) ∧ ArenaIn (fun k => F k ∨ w.heap.size ≤ k) w' p (l ++ List.replicate n.toNat 0) most ∧ Upd F w w' := by
  have hlen := Aside0.mk (fun w h => len_calls w p F l most h)
  have H := Aside0.mk h
  obtain ⟨v, ⟨hb, hr⟩, hF, hG⟩ := h
  have hne := own_ne hr hb (by decide)
  obtain ⟨g, c, rfl, -, hf⟩ := hr.form hl
  have HR := Aside0.mk hr
  have HB := Aside0.mk hb
  have k0 := blk_cell hb 0
  have k1 := blk_cell hb 1
  simp at k0 k1
  have hw : wrap64 ((l.length : Int) - 1) = l.length - 1 := by unfold wrap64; omega
  have hw2 : wrap64 (most - ((l.length : Int) - 1)) = most - (l.length - 1) := by unfold wrap64; omega
  clear hb hr hf
  go_enter Try.func25, Try.ntmps25
  go_wp2_with fail
  go_quiet ((go_at_call 22; exact Calls.quiet_of_same ((hlen.out _ (H.out.drewN _)).mono fun _ _ h => ⟨h.1, h.2.symm⟩)))
  go_wp2_with (at_builtin; refine wpList_append_zeros 0 rfl (.tmp 31) (.tmp 32) 22 3 2 .i64 8 rfl Try.underlying22 Try.underlying3 info64 (by decide) _ l _ rfl rfl ?h0 ?ho (Nat.zero_le _) ?hlen ?k)
  case h0 => omega
  case ho => exact HR.out
  case hlen => omega
  case k =>
    intro v1 w1 ho hg hat
    obtain ⟨g1, c1, rfl, hge, -⟩ := ho.form (by omega)
    have hb1 : w1.heap[p]? = _ := blk_grown (blk_drewN HB.out _) hg hne
    have HO := Aside0.mk ho
    have hne1 := own_ne ho hb1 (by decide)
    have k0' := blk_cell hb1 0
    have f0' := blk_frozen hb1 0
    simp at k0'
    have HP := Aside0.mk hb1
    clear hb1 ho
    go_wp2
    go_ret2
    refine ⟨rfl, ⟨_, ⟨by simpa using blk_set HP.out 0 _, by simpa using own_setCell HO.out hne1 _⟩, .inl hF, fun k hk => ?_⟩, ?_⟩
    · simp [Value.ownBlock] at hk
      subst hk
      simp [Value.ownBlock] at hat
      rcases hat with rfl | rfl
      · exact .inl (hG _ rfl)
      · exact .inr (Nat.le_refl _)
    · exact Upd.setCell (((Upd.refl F w).drewN _).grown hg (fun k hk => .inl (hG k hk))) (.inl hF) _

theorem ArenaIn.mono {F G : Nat → Prop} {w : World} {p : Nat} {l : List Int} {most : Int} (h : ArenaIn F w p l most) (hG : ∀ k, F k → G k) : ArenaIn G w p l most := by
  obtain ⟨v, a, b, c⟩ := h
  exact ⟨v, a, hG _ b, fun k hk => hG _ (c k hk)⟩
/-- Another thing's doing leaves an arena. -/
theorem ArenaIn.upd {F G : Nat → Prop} {w w' : World} {p : Nat} {l : List Int} {most : Int} (h : ArenaIn F w p l most) (hu : Upd G w w') (hd : ∀ k, F k → ¬ G k) : ArenaIn F w' p l most := by
  obtain ⟨v, ⟨a, b⟩, hp, hv⟩ := h
  exact ⟨v, ⟨hu.blk a (hd _ hp), hu.own b (fun k hk => hd _ (hv k hk))⟩, hp, hv⟩
theorem ArenaIn.lt {F : Nat → Prop} {w : World} {p : Nat} {l : List Int} {most : Int} (h : ArenaIn F w p l most) : ArenaIn (fun k => F k ∧ k < w.heap.size) w p l most := by
  obtain ⟨v, ⟨a, b⟩, hp, hv⟩ := h
  exact ⟨v, ⟨a, b⟩, ⟨hp, blk_lt a⟩, fun k hk => ⟨hv k hk, own_lt b k hk⟩⟩
theorem ArenaIn.below {F : Nat → Prop} {w w' : World} {p : Nat} {l : List Int} {most : Int} (h : ArenaIn F w p l most) (hb : Below w.heap.size w w') : ArenaIn F w' p l most := h.upd (G := fun _ => False) (Upd.of_below hb) (fun _ _ h => h)
/-- What was done since a call began, to its own things alone. -/
theorem Upd.since {F : Nat → Prop} {w0 w w' : World} (hb : Below w0.heap.size w0 w) (hu : Upd F w w') (hF : ∀ k, F k → w0.heap.size ≤ k) : Below w0.heap.size w0 w' :=
  hb.trans (hu.below hb.size hF)
theorem ArenaIn.keepB {B : Nat} {w w' : World} {p : Nat} {l : List Int} {most : Int} (h : ArenaIn (fun k => B ≤ k ∨ w.heap.size ≤ k) w' p l most) (hB : B ≤ w.heap.size) : ArenaIn (fun k => B ≤ k) w' p l most :=
  h.mono (fun k hk => by rcases hk with h | h <;> omega)
theorem ArenaIn.fromB {B C : Nat} {w : World} {p : Nat} {l : List Int} {most : Int} (h : ArenaIn (fun k => C ≤ k) w p l most) (hB : B ≤ C) : ArenaIn (fun k => B ≤ k) w p l most := h.mono (fun k hk => by omega)
end Go.Proofs.Ythehmmcloimpmaa.Cell
