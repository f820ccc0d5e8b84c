import Derived.Test.YthehmmcloimpmaaPermit
set_option linter.unusedVariables false
set_option linter.unusedSimpArgs false
/-! The document's own table (tholeref03), walked. -/
namespace Go.Proofs.Ythehmmcloimpmaa.Permit
open Go.RowKit Go.Proofs.YthehmmcloimpmaaW.PrintWords Go.Proofs.Ythehmmcloimpmaa.Base Go.Proofs.Ythehmmcloimpmaa.Clock

abbrev RT : TypeId := 66
def Park.due (now d : Int) : Bool := decide (0 ≤ d) && decide (d ≤ now)

theorem rdue_calls (w : World) (p : Nat) (F : Nat → Prop) (l : List Park) (now d : Int) (b : Bool) (hb : (0 ≤ d ∧ d ≤ now) ↔ b = true) (h : TableIn RT F w p l now) :
    Calls Try.prog 54 #[.pointer (some ⟨p, 0, none⟩), .int .i64 d] w fun e w' => e = .returned (.bool b) ∧ w = w' := by
  have hb' : (decide (0 ≤ d) && decide (d ≤ now)) = b := by cases b <;> simp_all
  subst hb'
  clear hb
  obtain ⟨v, ⟨hb, hr⟩, _⟩ := h
  have h1 := blk_cell hb 1
  simp at h1
  clear hb hr
  go_enter Try.func54, Try.ntmps54
  go_wp2
  all_goals
    go_ret
    exact ⟨by simp [*]; try omega, rfl⟩

theorem ron_exact (w : World) (p g c : Nat) (l : List Park) (now : Int) (i : Nat) (hi : i < l.length) (hb : w.heap[p]? = some (.cells #[.slice (some ⟨g, 0, none⟩) l.length c, .int .i64 now] RT (0, 0))) (hr : w.ownsRow 0 71 4 (.slice (some ⟨g, 0, none⟩) l.length c) l.length (flat Park.cells l)) (hne : p ≠ g) :
    Calls Try.prog 49 #[.pointer (some ⟨p, 0, none⟩), .int .i64 (i : Int)] w fun e w' => e = .returned (.tuple #[]) ∧ w' = (w.setCell ⟨g, i * 4 + 2, none⟩ (.bool false)).setCell ⟨g, i * 4 + 3, none⟩ (.int .i64 0) := by
  have h0 : w.cell? ⟨p, 0, none⟩ = some (.slice (some ⟨g, 0, none⟩) l.length c) := by simpa using blk_cell hb 0
  obtain ⟨c0, c1, c2, c3, ff, f00⟩ := park_cells hr i hi
  have f2 := ff 2
  have f3 := ff 3
  have hi' : (i : Int) < l.length := by omega
  have hi0 : (0 : Int) ≤ (i : Int) := by omega
  have hne' := Ne.symm hne
  clear hb hr ff
  go_enter Try.func49, Try.ntmps49
  go_wp2
  go_end0
  exact ⟨rfl, rfl⟩
theorem ron_calls (w : World) (p : Nat) (F : Nat → Prop) (l : List Park) (now : Int) (i : Nat) (hi : i < l.length) (h : TableIn RT F w p l now) :
    Calls Try.prog 49 #[.pointer (some ⟨p, 0, none⟩), .int .i64 (i : Int)] w fun e w' => e = .returned (.tuple #[]) ∧ TableIn RT F w' p (l.set i l[i].on) now ∧ Upd F w w' := by
  obtain ⟨g, c, hlc, hF, hG, hne, hb, hr, h0, h1, f0, f1⟩ := h.open_ (by omega) (by decide)
  refine (ron_exact w p g c l now i hi hb hr hne).mono fun e w' ⟨he, hw⟩ => ?_
  subst hw
  exact ⟨he, TableIn.put2 hb hr hne hF hG hi (by omega) (by omega) { l[i] with blocked := false } l[i].on _ _ rfl rfl 0⟩

theorem runpark_blocked (w : World) (p : Nat) (F : Nat → Prop) (l : List Park) (now : Int) (i : Nat) (hi : i < l.length) (h : TableIn RT F w p l now) (hbl : l[i].blocked = true) :
    Calls Try.prog 48 #[.pointer (some ⟨p, 0, none⟩), .int .i64 (i : Int)] w fun e w' => e = .returned (.tuple #[]) ∧ TableIn RT F w' p (l.set i l[i].on) now ∧ Upd F w w' := by
  have HT := Aside0.mk h
  obtain ⟨g, c, hlc, hF, hG, hne, hb, hr, h0, h1, f0, f1⟩ := h.open_ (by omega) (by decide)
  obtain ⟨c0, c1, c2, c3, ff, f00⟩ := park_cells hr i hi
  have ff1 := ff 1
  have f2 := ff 2
  have f3 := ff 3
  have hi' : (i : Int) < l.length := by omega
  have hi0 : (0 : Int) ≤ (i : Int) := by omega
  have hne' := Ne.symm hne
  have HB := Aside0.mk hb
  have HR := Aside0.mk hr
  clear hb hr ff h
  rw [hbl] at c2
  go_enter Try.func48, Try.ntmps48
  go_wp2_with (go_at_call 49; refine (ron_calls _ p F l now i hi HT.out).mono ?_; rintro e w' ⟨rfl, HT1, HU1⟩)
  go_end0
  exact ⟨rfl, HT1, HU1⟩

theorem runpark_free (w : World) (p : Nat) (F : Nat → Prop) (l : List Park) (now : Int) (i : Nat) (hi : i < l.length) (h : TableIn RT F w p l now) (hbl : l[i].blocked = false) :
    Calls Try.prog 48 #[.pointer (some ⟨p, 0, none⟩), .int .i64 (i : Int)] w fun e w' => e = .returned (.tuple #[]) ∧ TableIn RT F w' p (l.set i { l[i] with permit := true }) now ∧ Upd F w w' := by
  have HT := Aside0.mk h
  obtain ⟨g, c, hlc, hF, hG, hne, hb, hr, h0, h1, f0, f1⟩ := h.open_ (by omega) (by decide)
  obtain ⟨c0, c1, c2, c3, ff, f00⟩ := park_cells hr i hi
  have ff1 := ff 1
  have f2 := ff 2
  have f3 := ff 3
  have hi' : (i : Int) < l.length := by omega
  have hi0 : (0 : Int) ≤ (i : Int) := by omega
  have hne' := Ne.symm hne
  have HB := Aside0.mk hb
  have HR := Aside0.mk hr
  clear hb hr ff h
  rw [hbl] at c2
  go_enter Try.func48, Try.ntmps48
  go_wp2
  go_end0
  exact ⟨rfl, TableIn.put1 HB.out HR.out hne hF hG hi (j := 0) (by omega) { l[i] with permit := true } _ rfl 0⟩

theorem rpark_permit (w : World) (p : Nat) (F : Nat → Prop) (l : List Park) (now : Int) (i : Nat) (d : Int) (hi : i < l.length) (h : TableIn RT F w p l now) (hp : l[i].permit = true) :
    Calls Try.prog 53 #[.pointer (some ⟨p, 0, none⟩), .int .i64 (i : Int), .int .i64 d] w fun e w' => e = .returned (.bool false) ∧ TableIn RT F w' p (l.set i { l[i] with permit := false }) now ∧ Upd F w w' := by
  have HT := Aside0.mk h
  obtain ⟨g, c, hlc, hF, hG, hne, hb, hr, h0, h1, f0, f1⟩ := h.open_ (by omega) (by decide)
  obtain ⟨c0, c1, c2, c3, ff, f00⟩ := park_cells hr i hi
  have ff1 := ff 1
  have f2 := ff 2
  have f3 := ff 3
  have hi' : (i : Int) < l.length := by omega
  have hi0 : (0 : Int) ≤ (i : Int) := by omega
  have hne' := Ne.symm hne
  have HB := Aside0.mk hb
  have HR := Aside0.mk hr
  clear hb hr ff h
  rw [hp] at c0
  go_enter Try.func53, Try.ntmps53
  go_wp2
  go_ret
  exact ⟨rfl, TableIn.put1 HB.out HR.out hne hF hG hi (j := 0) (by omega) { l[i] with permit := false } _ rfl 0⟩

theorem rpark_flag (w : World) (p : Nat) (F : Nat → Prop) (l : List Park) (now : Int) (i : Nat) (d : Int) (hi : i < l.length) (h : TableIn RT F w p l now) (hp : l[i].permit = false) (hf : l[i].flag = true) :
    Calls Try.prog 53 #[.pointer (some ⟨p, 0, none⟩), .int .i64 (i : Int), .int .i64 d] w fun e w' => e = .returned (.bool false) ∧ w = w' := by
  have HT := Aside0.mk h
  obtain ⟨g, c, hlc, hF, hG, hne, hb, hr, h0, h1, f0, f1⟩ := h.open_ (by omega) (by decide)
  obtain ⟨c0, c1, c2, c3, ff, f00⟩ := park_cells hr i hi
  have ff1 := ff 1
  have f2 := ff 2
  have f3 := ff 3
  have hi' : (i : Int) < l.length := by omega
  have hi0 : (0 : Int) ≤ (i : Int) := by omega
  have hne' := Ne.symm hne
  have HB := Aside0.mk hb
  have HR := Aside0.mk hr
  clear hb hr ff h
  rw [hp] at c0
  rw [hf] at c1
  have hd : ∃ b, (0 ≤ d ∧ d ≤ now) ↔ b = true := ⟨decide (0 ≤ d ∧ d ≤ now), by simp⟩
  obtain ⟨b, hdue⟩ := hd
  have HD := Aside0.mk hdue
  clear hdue
  go_enter Try.func53, Try.ntmps53
  go_wp2_with (go_at_call 54; refine (rdue_calls _ p F l now d b HD.out HT.out).mono ?_; rintro e w' ⟨rfl, rfl⟩)
  go_ret
  exact ⟨rfl, rfl⟩

theorem rpark_due (w : World) (p : Nat) (F : Nat → Prop) (l : List Park) (now : Int) (i : Nat) (d : Int) (hi : i < l.length) (h : TableIn RT F w p l now) (hp : l[i].permit = false) (hf : l[i].flag = false) (hdue : 0 ≤ d ∧ d ≤ now) :
    Calls Try.prog 53 #[.pointer (some ⟨p, 0, none⟩), .int .i64 (i : Int), .int .i64 d] w fun e w' => e = .returned (.bool false) ∧ w = w' := by
  have HT := Aside0.mk h
  obtain ⟨g, c, hlc, hF, hG, hne, hb, hr, h0, h1, f0, f1⟩ := h.open_ (by omega) (by decide)
  obtain ⟨c0, c1, c2, c3, ff, f00⟩ := park_cells hr i hi
  have ff1 := ff 1
  have f2 := ff 2
  have f3 := ff 3
  have hi' : (i : Int) < l.length := by omega
  have hi0 : (0 : Int) ≤ (i : Int) := by omega
  have hne' := Ne.symm hne
  have HB := Aside0.mk hb
  have HR := Aside0.mk hr
  clear hb hr ff h
  rw [hp] at c0
  rw [hf] at c1
  have HD := Aside0.mk hdue
  clear hdue
  go_enter Try.func53, Try.ntmps53
  go_wp2_with (go_at_call 54; refine (rdue_calls _ p F l now d true (by simpa using HD.out) HT.out).mono ?_; rintro e w' ⟨rfl, rfl⟩)
  go_ret
  exact ⟨rfl, rfl⟩

theorem rpark_blocks (w : World) (p : Nat) (F : Nat → Prop) (l : List Park) (now : Int) (i : Nat) (d : Int) (hi : i < l.length) (h : TableIn RT F w p l now) (hp : l[i].permit = false) (hf : l[i].flag = false) (hdue : ¬ (0 ≤ d ∧ d ≤ now)) :
    Calls Try.prog 53 #[.pointer (some ⟨p, 0, none⟩), .int .i64 (i : Int), .int .i64 d] w fun e w' => e = .returned (.bool true) ∧ TableIn RT F w' p (l.set i { l[i] with blocked := true, deadline := d }) now ∧ Upd F w w' := by
  have HT := Aside0.mk h
  obtain ⟨g, c, hlc, hF, hG, hne, hb, hr, h0, h1, f0, f1⟩ := h.open_ (by omega) (by decide)
  obtain ⟨c0, c1, c2, c3, ff, f00⟩ := park_cells hr i hi
  have ff1 := ff 1
  have f2 := ff 2
  have f3 := ff 3
  have hi' : (i : Int) < l.length := by omega
  have hi0 : (0 : Int) ≤ (i : Int) := by omega
  have hne' := Ne.symm hne
  have HB := Aside0.mk hb
  have HR := Aside0.mk hr
  clear hb hr ff h
  rw [hp] at c0
  rw [hf] at c1
  have HD := Aside0.mk hdue
  clear hdue
  go_enter Try.func53, Try.ntmps53
  go_wp2_with (go_at_call 54; refine (rdue_calls _ p F l now d false (by simpa using HD.out) HT.out).mono ?_; rintro e w' ⟨rfl, rfl⟩)
  go_ret
  exact ⟨rfl, TableIn.put2 HB.out HR.out hne hF hG hi (by omega) (by omega) { l[i] with blocked := true } { l[i] with blocked := true, deadline := d } _ _ rfl rfl 0⟩

structure RTicking (F : Nat → Prop) (w wr : World) (p g c : Nat) (l : List Park) (now : Int) (k : Nat) : Prop where
  blk : wr.heap[p]? = some (.cells #[.slice (some ⟨g, 0, none⟩) (Park.some_ now l k).length c, .int .i64 now] RT (0, 0))
  row : wr.ownsRow 0 71 4 (.slice (some ⟨g, 0, none⟩) (Park.some_ now l k).length c) (Park.some_ now l k).length (flat Park.cells (Park.some_ now l k))
  upd : Upd F w wr
theorem RTicking.next {F : Nat → Prop} {w wr : World} {p g c k : Nat} {l : List Park} {now : Int} (h : RTicking F w wr p g c l now k) (hk : k < l.length) (ht : Park.tick now l[k] = l[k]) : RTicking F w wr p g c l now (k + 1) := by
  have he : Park.some_ now l (k + 1) = Park.some_ now l k := by
    rw [← Park.some_set now l k hk, ht]
    have := Park.some_get now l k hk
    conv => lhs; rw [← this]
    rw [List.set_getElem_self]
  exact ⟨by rw [he]; exact h.blk, by rw [he]; exact h.row, h.upd⟩
theorem RTicking.on {F : Nat → Prop} {w wr : World} {p g c k : Nat} {l : List Park} {now : Int} (h : RTicking F w wr p g c l now k) (hk : k < l.length) (ht : Park.tick now l[k] = l[k].on) (hne : p ≠ g) (hg : F g) :
    RTicking F w ((wr.setCell ⟨g, k * 4 + 2, none⟩ (.bool false)).setCell ⟨g, k * 4 + 3, none⟩ (.int .i64 0)) p g c l now (k + 1) := by
  have hlk : k < (Park.some_ now l k).length := by rw [Park.some_length]; exact hk
  obtain ⟨b1, r1⟩ := TableIn.put h.blk h.row hne hlk (j := 2) (by omega) { l[k] with blocked := false } (.bool false) (by rw [Park.some_get now l k hk]; rfl)
  obtain ⟨b2, r2⟩ := TableIn.put b1 r1 hne (i := k) (by rw [List.length_set]; exact hlk) (j := 3) (by omega) l[k].on (.int .i64 0) (by rw [List.getElem_set_self]; rfl)
  rw [List.set_set, ← ht, Park.some_set now l k hk] at b2 r2
  exact ⟨b2, r2, (h.upd.setCell (.inl hg) _).setCell (.inl hg) _⟩

theorem rtick_good (w : World) (p : Nat) (F : Nat → Prop) (l : List Park) (now t : Int) (h : TableIn RT F w p l now) (hl : 0 < l.length) (hl2 : l.length ≤ 100000) (ht : 0 ≤ t) (ht2 : t ≤ 9223372036854775807) (hn0 : 0 ≤ now) (hn1 : now ≤ 9223372036854775807) :
    Calls Try.prog 51 #[.pointer (some ⟨p, 0, none⟩), .int .i64 t] w fun e w' => e = .returned (.tuple #[]) ∧ TableIn RT F w' p (l.map (Park.tick (later now t))) (later now t) ∧ Upd F w w' := by
  obtain ⟨g, c, hlc, hF, hG, hne, hb, hr, k0, k1, f0, f1⟩ := h.open_ hl (by decide)
  have hN := later_le hn0 ht hn1
  have hne' := Ne.symm hne
  have hL := Aside0.mk (show later now t = if 9223372036854775807 - now < t then 9223372036854775807 else now + t from rfl)
  generalize later now t = N at *
  have H0 : Aside0 (RTicking F w (w.setCell ⟨p, 1, none⟩ (.int .i64 N)) p g c l N 0) := ⟨⟨by rw [Park.some_zero]; simpa using blk_set hb 1 (.int .i64 N), by rw [Park.some_zero]; exact own_setCell hr (by simp [Value.ownBlock]; exact hne) _, (Upd.refl F w).setCell (.inl hF) _⟩⟩
  clear hb hr h
  by_cases hbig : 9223372036854775807 - now < t
  · have q1 : decide (9223372036854775807 - now < t) = true := by simpa using hbig
    obtain rfl : N = 9223372036854775807 := by rw [hL.out, if_pos hbig]
    clear hL hbig
    go_enter Try.func51, Try.ntmps51
    go_wp2_with fail
    clear k0 k1 f0 f1
    go_loopw [4] (fun v4 wr => ∃ k : Nat, k ≤ l.length ∧ v4 = .int .i64 k ∧ Aside0 (RTicking F w wr p g c l 9223372036854775807 k)) (fun v4 _ => l.length - (intOf v4).toNat)
    case atStart => exact ⟨0, by omega, rfl, H0⟩
    case round =>
      clear H0
      obtain ⟨k, hk, rfl, HT⟩ := hrel
      have k0 := blk_cell HT.out.blk 0
      simp [Park.some_length] at k0
      by_cases hlt : k < l.length
      · have hlk : k < (Park.some_ 9223372036854775807 l k).length := by rw [Park.some_length]; exact hlt
        have hlt' : (k : Int) < (l.length : Int) := by omega
        obtain ⟨d0, d1, d2, d3, -, -⟩ := park_cells HT.out.row k hlk
        rw [Park.some_get 9223372036854775807 l k hlt] at d0 d1 d2 d3
        have HTab := Aside0.mk (TableIn.shut (T := RT) HT.out.blk HT.out.row hF hG)
        by_cases hdue : 0 ≤ l[k].deadline ∧ l[k].deadline ≤ 9223372036854775807
        · go_wp2_with fail
          refine (rdue_calls _ p F (Park.some_ 9223372036854775807 l k) 9223372036854775807 l[k].deadline true (by simpa using hdue) HTab.out).mono ?_; rintro e w' ⟨rfl, rfl⟩
          by_cases hbl : l[k].blocked = true
          · have ht : Park.tick 9223372036854775807 l[k] = l[k].on := by unfold Park.tick; rw [if_pos ⟨hbl, hdue⟩]
            rw [hbl] at d2
            go_wp2_with fail
            refine (ron_exact _ p g c (Park.some_ 9223372036854775807 l k) 9223372036854775807 k hlk HT.out.blk HT.out.row hne).mono ?_; rintro e w' ⟨rfl, rfl⟩
            have HT' := Aside0.mk (HT.out.on hlt ht hne hG)
            clear HT HTab d0 d1 d2 d3 ht hdue hbl k0
            go_wp2
            go_roundw
            case rel => exact ⟨k + 1, by omega, by go_num, HT'⟩
            case measure => simp [intOf]; omega
          · have ht : Park.tick 9223372036854775807 l[k] = l[k] := by unfold Park.tick; rw [if_neg (fun h => hbl h.1)]
            have hbl' : l[k].blocked = false := by simpa using hbl
            rw [hbl'] at d2
            have HT' := Aside0.mk (HT.out.next hlt ht)
            clear HT HTab ht hbl hbl'
            go_wp2
            go_roundw
            case rel => exact ⟨k + 1, by omega, by go_num, HT'⟩
            case measure => simp [intOf]; omega
        · have ht : Park.tick 9223372036854775807 l[k] = l[k] := by unfold Park.tick; rw [if_neg (fun h => hdue h.2)]
          go_wp2_with fail
          refine (rdue_calls _ p F (Park.some_ 9223372036854775807 l k) 9223372036854775807 l[k].deadline false (by simpa using hdue) HTab.out).mono ?_; rintro e w' ⟨rfl, rfl⟩
          have HT' := Aside0.mk (HT.out.next hlt ht)
          clear HT HTab ht hdue
          obtain ⟨b, hbl⟩ : ∃ b, l[k].blocked = b := ⟨_, rfl⟩
          rw [hbl] at d2
          clear hbl
          cases b
          all_goals
            go_wp2
            go_roundw
            case rel => exact ⟨k + 1, by omega, by go_num, HT'⟩
            case measure => simp [intOf]; omega
      · obtain rfl : k = l.length := by omega
        have hlt' : ¬ (l.length : Int) < (l.length : Int) := by omega
        obtain ⟨b, r, u⟩ := HT.out
        rw [Park.some_end] at b r
        have HF := Aside0.mk (TableIn.shut (T := RT) b r hF hG)
        have HU := Aside0.mk u
        clear b r u HT
        go_wp2
        go_end0
        exact ⟨rfl, HF.out, HU.out⟩
  · have q1 : decide (9223372036854775807 - now < t) = false := by simpa using hbig
    have q2 : now + t ≤ 9223372036854775807 := by omega
    obtain rfl : N = now + t := by rw [hL.out, if_neg hbig]
    clear hL hbig
    go_enter Try.func51, Try.ntmps51
    go_wp2_with fail
    clear k0 k1 f0 f1
    go_loopw [4] (fun v4 wr => ∃ k : Nat, k ≤ l.length ∧ v4 = .int .i64 k ∧ Aside0 (RTicking F w wr p g c l (now + t) k)) (fun v4 _ => l.length - (intOf v4).toNat)
    case atStart => exact ⟨0, by omega, rfl, H0⟩
    case round =>
      clear H0
      obtain ⟨k, hk, rfl, HT⟩ := hrel
      have k0 := blk_cell HT.out.blk 0
      simp [Park.some_length] at k0
      by_cases hlt : k < l.length
      · have hlk : k < (Park.some_ (now + t) l k).length := by rw [Park.some_length]; exact hlt
        have hlt' : (k : Int) < (l.length : Int) := by omega
        obtain ⟨d0, d1, d2, d3, -, -⟩ := park_cells HT.out.row k hlk
        rw [Park.some_get (now + t) l k hlt] at d0 d1 d2 d3
        have HTab := Aside0.mk (TableIn.shut (T := RT) HT.out.blk HT.out.row hF hG)
        by_cases hdue : 0 ≤ l[k].deadline ∧ l[k].deadline ≤ (now + t)
        · go_wp2_with fail
          refine (rdue_calls _ p F (Park.some_ (now + t) l k) (now + t) l[k].deadline true (by simpa using hdue) HTab.out).mono ?_; rintro e w' ⟨rfl, rfl⟩
          by_cases hbl : l[k].blocked = true
          · have ht : Park.tick (now + t) l[k] = l[k].on := by unfold Park.tick; rw [if_pos ⟨hbl, hdue⟩]
            rw [hbl] at d2
            go_wp2_with fail
            refine (ron_exact _ p g c (Park.some_ (now + t) l k) (now + t) k hlk HT.out.blk HT.out.row hne).mono ?_; rintro e w' ⟨rfl, rfl⟩
            have HT' := Aside0.mk (HT.out.on hlt ht hne hG)
            clear HT HTab d0 d1 d2 d3 ht hdue hbl k0
            go_wp2
            go_roundw
            case rel => exact ⟨k + 1, by omega, by go_num, HT'⟩
            case measure => simp [intOf]; omega
          · have ht : Park.tick (now + t) l[k] = l[k] := by unfold Park.tick; rw [if_neg (fun h => hbl h.1)]
            have hbl' : l[k].blocked = false := by simpa using hbl
            rw [hbl'] at d2
            have HT' := Aside0.mk (HT.out.next hlt ht)
            clear HT HTab ht hbl hbl'
            go_wp2
            go_roundw
            case rel => exact ⟨k + 1, by omega, by go_num, HT'⟩
            case measure => simp [intOf]; omega
        · have ht : Park.tick (now + t) l[k] = l[k] := by unfold Park.tick; rw [if_neg (fun h => hdue h.2)]
          go_wp2_with fail
          refine (rdue_calls _ p F (Park.some_ (now + t) l k) (now + t) l[k].deadline false (by simpa using hdue) HTab.out).mono ?_; rintro e w' ⟨rfl, rfl⟩
          have HT' := Aside0.mk (HT.out.next hlt ht)
          clear HT HTab ht hdue
          obtain ⟨b, hbl⟩ : ∃ b, l[k].blocked = b := ⟨_, rfl⟩
          rw [hbl] at d2
          clear hbl
          cases b
          all_goals
            go_wp2
            go_roundw
            case rel => exact ⟨k + 1, by omega, by go_num, HT'⟩
            case measure => simp [intOf]; omega
      · obtain rfl : k = l.length := by omega
        have hlt' : ¬ (l.length : Int) < (l.length : Int) := by omega
        obtain ⟨b, r, u⟩ := HT.out
        rw [Park.some_end] at b r
        have HF := Aside0.mk (TableIn.shut (T := RT) b r hF hG)
        have HU := Aside0.mk u
        clear b r u HT
        go_wp2
        go_end0
        exact ⟨rfl, HF.out, HU.out⟩
end Go.Proofs.Ythehmmcloimpmaa.Permit
