/- The journal's methods that change it alone: did, Discard, Append. -/
import Derived.Test.YtlhnjdoicolkkaaGreatDoorJrn
set_option maxRecDepth 100000
namespace Go.Proofs.YtlhnjdoicolkkaaGreatDoor
open Go.RowKit Go.Dsk Go.Maps Go.WideMaps
set_option maxHeartbeats 2000000
open Jnl (J)

section
variable {w0 w : World} {bj bd : Nat} {n : ByteArray} {j : J} {R : SP} {S : Nat → Prop}
theorem JSee.drawn {vr vp : Value} (h : JSee w bj bd n j vr vp) (q : Nat) : JSee (w.drewN q) bj bd n j vr vp := ⟨h.fit, h.hd, h.r.below (below_drawn w q), h.p.below (below_drawn w q)⟩
theorem nobox_j {vr vp : Value} (h : w.heap[bj]? = some (.cells (jCells bd n j vr vp) 86 (0, 0))) : ¬ IsBox w bj := by
  rintro ⟨s, hs⟩
  rw [h] at hs
  simp at hs
theorem jrn_blk {j' : J} {w' : World} (h : JrnP bj bd n j S w) (hf : Fit j') (hr : j'.recs = j.recs) (hp : j'.pend = j.pend)
    (hset : ∀ vr vp, w.heap[bj]? = some (.cells (jCells bd n j vr vp) 86 (0, 0)) → w'.heap[bj]? = some (.cells (jCells bd n j' vr vp) 86 (0, 0))) (hfr : Fr (fun i => i = bj) w w') : Does S w (JrnP bj bd n j') w' := by
  obtain ⟨hF, vr, vp, A, B, hu, hdj, h1, h2⟩ := h
  refine ⟨S, fun i hi => .inl hi, ⟨hf, vr, vp, A, B, hu, hdj, ⟨h1.1, hset vr vp h1.2⟩, ?_⟩, hfr.mono fun i hi => (hu i).2 (.inl ((h1.1 i).2 hi))⟩
  rw [hr, hp]
  exact (Nice.star (nice_str vr j.recs) (nice_str vp j.pend)).keep h2 hfr fun i hi e => hdj i ((h1.1 i).2 e) hi
theorem did_walk (h : JrnP bj bd n j S w) (e : Int) : Calls Tryz.prog 100 #[.pointer (some ⟨bj, 0, none⟩), .int .i64 e] w fun r w' => r = .returned (.int .i64 e) ∧ w' = w.setCell ⟨bj, 6, none⟩ (.bool (j.broken || Jnl.bad e)) := by
  obtain ⟨vr, vp, hs⟩ := h.see
  have c6 := hs.c6
  have z6 := hs.free 6
  clear h hs
  unfold Jnl.bad
  cases hb : j.broken with
  | true =>
    rw [hb] at c6
    go_enter Tryz.func100, Tryz.ntmps100
    go_wp2_with fail
    go_ret
    exact ⟨rfl, rfl⟩
  | false =>
    rw [hb] at c6
    by_cases h1 : e = 32
    · subst h1
      go_enter Tryz.func100, Tryz.ntmps100
      go_wp2_with fail
      go_ret
      exact ⟨rfl, rfl⟩
    · have h1' : (e == 32) = false := by simpa using h1
      rw [h1', Bool.false_or, Bool.false_or]
      go_enter Tryz.func100, Tryz.ntmps100
      go_wp2_with fail
      go_ret
      exact ⟨rfl, rfl⟩
theorem did_jr (hR : Nice R) (h : Jr R w0 w bj bd n j) (e : Int) : Calls Tryz.prog 100 #[.pointer (some ⟨bj, 0, none⟩), .int .i64 e] w fun r w' => r = .returned (.int .i64 e) ∧ Jr R w0 w' bj bd n (j.did e) :=
  Has.pair (h.does hR (Q := fun r S w => r = .returned (.int .i64 e) ∧ JrnP bj bd n (j.did e) S w) (fun S hS => by
    refine (did_walk hS e).mono ?_
    rintro r w' ⟨hr, rfl⟩
    obtain ⟨vr, vp, hs⟩ := hS.see
    obtain ⟨S', a, b, c⟩ := jrn_blk (j' := j.did e) (w' := w.setCell ⟨bj, 6, none⟩ (.bool (j.broken || Jnl.bad e))) hS ⟨hs.fit.first, hs.fit.recs, hs.fit.pend, hs.fit.lenR, hs.fit.lenP⟩ rfl rfl (fun vr vp hd => block_set hd 6 _)
      ((Fr.refl (fun i => i = bj) w).setCell (p := ⟨bj, 6, none⟩) (.inl rfl) (nobox_j hs.hd) _)
    exact ⟨S', a, ⟨hr, b⟩, c⟩))
theorem discard_broken (h : JrnP bj bd n j S w) (hb : j.broken = true) : Calls Tryz.prog 30 #[.pointer (some ⟨bj, 0, none⟩)] w fun e w' => e = .returned (.int .i64 18) ∧ w' = w := by
  obtain ⟨vr, vp, hs⟩ := h.see
  have hst := state_broken hs hb
  clear h hs
  go_enter Tryz.func30, Tryz.ntmps30
  go_wp2_with fail
  refine hst.mono ?_
  rintro e w1 ⟨rfl, rfl⟩
  go_wp2_with fail
  go_ret
  exact ⟨rfl, rfl⟩
theorem discard_well (h : JrnP bj bd n j S w) (hb : j.broken = false) : Calls Tryz.prog 30 #[.pointer (some ⟨bj, 0, none⟩)] w fun e w' => e = .returned (.int .i64 0) ∧ w' = w.setCell ⟨bj, 4, none⟩ (.slice none 0 0) := by
  obtain ⟨vr, vp, hs⟩ := h.see
  have hst := state_well hs hb
  have c4 := hs.c4
  have z4 := hs.free 4
  clear h hs
  go_enter Tryz.func30, Tryz.ntmps30
  go_wp2_with fail
  refine hst.mono ?_
  rintro e w1 ⟨rfl, rfl⟩
  go_wp2_with fail
  go_ret
  exact ⟨rfl, rfl⟩
theorem Discard_jr (hR : Nice R) (h : Jr R w0 w bj bd n j) : Calls Tryz.prog 30 #[.pointer (some ⟨bj, 0, none⟩)] w fun r w' => r = .returned (.int .i64 j.discard.1) ∧ Jr R w0 w' bj bd n j.discard.2 :=
  Has.pair (h.does hR (Q := fun r S w => r = .returned (.int .i64 j.discard.1) ∧ JrnP bj bd n j.discard.2 S w) (fun S hS => by
    unfold Jnl.J.discard
    cases hb : j.broken with
    | true =>
      refine (discard_broken hS hb).mono ?_
      rintro r w' ⟨hr, rfl⟩
      exact ⟨S, fun _ => .inl, ⟨hr, hS⟩, Fr.refl _ _⟩
    | false =>
      simp only [Bool.false_eq_true, if_false]
      refine (discard_well hS hb).mono ?_
      rintro r w' ⟨hr, rfl⟩
      obtain ⟨hF, vr, vp, A, B, hu, hdj, h1, C, D, hu2, hdj2, h2, h3⟩ := hS
      have hfr : Fr (fun i => i = bj) w (w.setCell ⟨bj, 4, none⟩ (.slice none 0 0)) := (Fr.refl (fun i => i = bj) w).setCell (p := ⟨bj, 4, none⟩) (.inl rfl) (nobox_j h1.2) _
      have hCA : ∀ i, C i → ¬ i = bj := fun i hi e => hdj i ((h1.1 i).2 e) ((hu2 i).2 (.inl hi))
      refine ⟨fun i => A i ∨ C i, ?_, ⟨hr, ⟨hF.first, hF.recs, Nat.zero_le _, hF.lenR, fun r hr => by cases hr⟩, vr, .slice none 0 0, A, C, fun i => Iff.rfl, fun i ha hc => hdj i ha ((hu2 i).2 (.inl hc)), ⟨h1.1, by have := block_set h1.2 4 (.slice none 0 0); simpa [jCells, hb] using this⟩, C, fun _ => False, fun i => by simp, fun i _ h => h, (nice_str vr j.recs).keep h2 hfr hCA, str_nil _⟩, hfr.mono fun i hi => (hu i).2 (.inl ((h1.1 i).2 hi))⟩
      rintro i (hi | hi)
      · exact .inl ((hu i).2 (.inl hi))
      · exact .inl ((hu i).2 (.inr ((hu2 i).2 (.inl hi))))))
theorem append_early (h : JrnP bj bd n j S w) (r : ByteArray) {e : Int} (he : (j.broken = true ∧ e = 18) ∨ (j.broken = false ∧ 4096 < r.size ∧ e = 5) ∨ (j.broken = false ∧ ¬ 4096 < r.size ∧ 64 ≤ j.pend.length ∧ e = 6)) :
    Calls Tryz.prog 22 #[.pointer (some ⟨bj, 0, none⟩), .string r] w fun x w' => x = .returned (.tuple #[.int .i64 0, .int .i64 e]) ∧ w' = w := by
  obtain ⟨vr, vp, hs⟩ := h.see
  rcases he with ⟨hb, rfl⟩ | ⟨hb, hl, rfl⟩ | ⟨hb, hl, hp, rfl⟩
  · have hst := state_broken hs hb
    clear h hs
    go_enter Tryz.func22, Tryz.ntmps22
    go_wp2_with fail
    refine hst.mono ?_
    rintro e w1 ⟨rfl, rfl⟩
    go_wp2_with fail
    go_ret2
    exact ⟨rfl, rfl⟩
  · have hst := state_well hs hb
    have hl' : ((4096 : Int) < (r.size : Int)) = True := by simp; omega
    clear h hs
    go_enter Tryz.func22, Tryz.ntmps22
    go_wp2_with fail
    refine hst.mono ?_
    rintro e w1 ⟨rfl, rfl⟩
    go_wp2_with fail
    go_ret2
    exact ⟨rfl, rfl⟩
  · have hst := state_well hs hb
    have hl' : ((4096 : Int) < (r.size : Int)) = False := by simp; omega
    have c4 := hs.c4
    obtain ⟨ao, c, rfl, -⟩ := hs.p
    have hp' : ((64 : Int) ≤ (j.pend.length : Int)) = True := by simp; omega
    clear h hs
    go_enter Tryz.func22, Tryz.ntmps22
    go_wp2_with fail
    refine hst.mono ?_
    rintro e w1 ⟨rfl, rfl⟩
    go_wp2_with fail
    go_ret2
    exact ⟨rfl, rfl⟩
theorem append_well (h : JrnP bj bd n j S w) (r : ByteArray) (hb : j.broken = false) (hl : ¬ 4096 < r.size) (hp : ¬ 64 ≤ j.pend.length) :
    Calls Tryz.prog 22 #[.pointer (some ⟨bj, 0, none⟩), .string r] w fun x w' => x = .returned (.tuple #[.int .i64 (j.last + (j.pend.length + 1)), .int .i64 0]) ∧ Does S w (JrnP bj bd n { j with pend := j.pend ++ [r.data.toList] }) w' := by
  have H := Lib.hid h
  obtain ⟨vr0, vp0, hs0⟩ := h.see
  have hst := state_well hs0 hb
  have f1 := hs0.fit.first
  have f2 := hs0.fit.recs
  clear hs0
  obtain ⟨hF, vr, vp, A, B, hu, hdj, h1, C, D, hu2, hdj2, h2, h3⟩ := h
  obtain ⟨ap, cp, hvp, hcp1, hcp2⟩ := h3.shape
  subst hvp
  have c4 : w.cell? ⟨bj, 4, none⟩ = some (.slice ap j.pend.length cp) := by have := block_cell h1.2 4; simpa [jCells] using this
  have hl' : ((4096 : Int) < (r.size : Int)) = False := by simp; omega
  have hp' : ((64 : Int) ≤ (j.pend.length : Int)) = False := by simp; omega
  have hbjl := lt_of_block h1.2
  have hown := h3.2.1
  have hcap := h3.2.2
  have hnb : ∀ k, Value.ownBlock (.slice ap j.pend.length cp) = some k → k ≠ bj := fun k hk e => hdj bj ((h1.1 bj).2 rfl) ((hu2 bj).2 (.inr ((h3.1 bj).2 (e ▸ hk))))
  obtain ⟨i0, hi, hz0, hz1, hz2⟩ := info_parts infoStr
  have HINF := Lib.hid (And.intro hi (And.intro hz0 (And.intro hz1 hz2)))
  have HOWN := Lib.hid hown
  have HCAP := Lib.hid hcap
  have HNB := Lib.hid hnb
  have HHD := Lib.hid h1.2
  have HALL := Lib.hid (And.intro hF (And.intro hu (And.intro hdj (And.intro h1 (And.intro hu2 (And.intro hdj2 (And.intro h2 h3)))))))
  clear hi hz0 hz1 hz2 hown hcap hnb hF hu hdj h1 hu2 hdj2 h2 h3
  go_enter Tryz.func22, Tryz.ntmps22
  go_wp2_with fail
  refine hst.mono ?_
  rintro e w1 ⟨rfl, hw1⟩
  obtain rfl := hw1.symm
  have c4b : (w.alloc (.cells #[.string r] 9)).cell? ⟨bj, 4, none⟩ = some (.slice ap j.pend.length cp) := (cell?_alloc_lt hbjl).trans c4
  go_wp2_with (at_builtin; refine wpList_append_kept _ rfl _ _ 25 rfl 9 i0 _ 1 16 Tryz.underlying25 HINF.out.1 HINF.out.2.1 HINF.out.2.2.1 HINF.out.2.2.2 rfl (by decide) _ _ _ rfl (HOWN.out.alloc _) HCAP.out ⟨w.heap.size, 0, none⟩ 1 1 [.string r] rfl rfl ?c1 ?c2 (by decide) ?c3 ?c4 ?_)
  case c1 => exact World.news_of_block (heap_alloc_new w _)
  case c2 => simp [Value.oneCell']
  case c3 => unfold maxLen; omega
  case c4 => omega
  intro g cap w2 hown2 hfr2 hat2
  have hfr1 : Fr (fun k => Value.ownBlock (.slice ap j.pend.length cp) = some k) w w2 := ((Fr.refl _ w).alloc _).trans hfr2
  have hd2 : w2.heap[bj]? = some (.cells (jCells bd n j vr (.slice ap j.pend.length cp)) 86 (0, 0)) := (hfr1.block bj hbjl (.inl (fun e => HNB.out bj e rfl))).trans HHD.out
  have hgb : g ≠ bj := by
    rcases hat2 with e | e
    · exact HNB.out g e
    · have : (w.alloc (.cells #[.string r] 9)).heap.size = w.heap.size + 1 := by simp
      omega
  have d4 : w2.cell? ⟨bj, 4, none⟩ = some (.slice ap j.pend.length cp) := by have := block_cell hd2 4; simpa [jCells] using this
  have z4 : w2.frozen? ⟨bj, 4, none⟩ = false := block_free hd2 4
  -- the world behind the store
  have hdoes : Does S w (JrnP bj bd n { j with pend := j.pend ++ [r.data.toList] }) (w2.setCell ⟨bj, 4, none⟩ (.slice (some ⟨g, 0, none⟩) (j.pend.length + 1) cap)) := by
    obtain ⟨hF, hu, hdj, h1, hu2, hdj2, h2, h3⟩ := HALL.out
    have hfr3 : Fr (fun k => k = bj ∨ Value.ownBlock (.slice ap j.pend.length cp) = some k) w (w2.setCell ⟨bj, 4, none⟩ (.slice (some ⟨g, 0, none⟩) (j.pend.length + 1) cap)) :=
      (hfr1.mono fun k hk => .inr hk).setCell (p := ⟨bj, 4, none⟩) (.inl (.inl rfl)) (nobox_j hd2) _
    have hsz : (w.alloc (.cells #[.string r] 9)).heap.size = w.heap.size + 1 := by simp
    have hgD : D g ∨ w.heap.size ≤ g := by
      rcases hat2 with e | e
      · exact .inl ((h3.1 g).2 e)
      · exact .inr (by omega)
    have hCl := (nice_str vr j.recs).lt h2
    refine ⟨fun i => A i ∨ (C i ∨ i = g), ?_, ⟨⟨hF.first, hF.recs, by simp; omega, hF.lenR, fun x hx => ?_⟩, vr, .slice (some ⟨g, 0, none⟩) (j.pend.length + 1) cap, A, fun i => C i ∨ i = g, fun i => Iff.rfl, ?_, ⟨h1.1, block_set hd2 4 _⟩, C, fun i => i = g, fun i => Iff.rfl, ?_, ?_, fun i => by simp [Value.ownBlock, eq_comm], ?_, fun a c e => ?_⟩, hfr3.mono ?_⟩
    · rintro i (hi | hi | rfl)
      · exact .inl ((hu i).2 (.inl hi))
      · exact .inl ((hu i).2 (.inr ((hu2 i).2 (.inl hi))))
      · exact hgD.imp (fun h => (hu _).2 (.inr ((hu2 _).2 (.inr h)))) id
    · rcases List.mem_append.1 hx with hx | hx
      · exact hF.lenP x hx
      · simp only [List.mem_singleton] at hx
        subst hx
        have : r.data.toList.length = r.size := rfl
        omega
    · rintro i ha (hc | rfl)
      · exact hdj i ha ((hu2 i).2 (.inl hc))
      · exact hgb ((h1.1 _).1 ha)
    · rintro i hc rfl
      rcases hgD with h | h
      · exact hdj2 _ hc h
      · have := hCl _ hc
        omega
    · refine (nice_str vr j.recs).keep h2 hfr3 ?_
      rintro i hc (rfl | h)
      · exact hdj _ ((h1.1 _).2 rfl) ((hu2 _).2 (.inl hc))
      · exact hdj2 i hc ((h3.1 i).2 h)
    · have := row_same (w' := w2.setCell ⟨bj, 4, none⟩ (.slice (some ⟨g, 0, none⟩) (j.pend.length + 1) cap)) hown2 (fun k hk => block_other (fun e => hgb (by simp [Value.ownBlock] at hk; rw [hk]; exact e)) _)
      rw [List.length_append, List.map_append]
      have e : strV r.data.toList = .string r := congrArg Value.string (ba_self r)
      simpa [e] using this
    · simp at e
    · rintro i (rfl | h)
      · exact (hu _).2 (.inl ((h1.1 _).2 rfl))
      · exact (hu i).2 (.inr ((hu2 i).2 (.inr ((h3.1 i).2 h))))
  have hsee := hdoes
  obtain ⟨S', _, hS', _⟩ := hsee
  obtain ⟨vr3, vp3, hs3⟩ := hS'.see
  have hd3 := block_set hd2 4 (.slice (some ⟨g, 0, none⟩) (j.pend.length + 1) cap)
  have g4 : (w2.setCell ⟨bj, 4, none⟩ (.slice (some ⟨g, 0, none⟩) (j.pend.length + 1) cap)).cell? ⟨bj, 4, none⟩ = some (.slice (some ⟨g, 0, none⟩) (j.pend.length + 1) cap) := by have := block_cell hd3 4; simpa [jCells] using this
  have hlast : Jnl.J.last { j with pend := j.pend ++ [r.data.toList] } = j.last := rfl
  have hlv : j.last = (j.first : Int) + j.recs.length - 1 := by unfold Jnl.J.last; rw [hb]; simp
  have hlc := fun q => Last_any (hs3.drawn q)
  simp only [hlast] at hlc
  have hlb : 0 ≤ j.last + 1 ∧ j.last ≤ 1099511627776 + 1073741824 := by rw [hlv]; omega
  have hw1 : wrap64 (j.last + ((j.pend.length + 1 : Nat) : Int)) = j.last + (j.pend.length + 1) := (IntWalk.wrap64_in _ (by omega)).trans (by omega)
  have hw2 : IntKind.i64.wrap (j.last + ((j.pend.length : Int) + 1)) = j.last + (j.pend.length + 1) := (IntWalk.i64_in _ (by omega)).trans (by omega)
  have hw3 : wrap64 (j.last + ((j.pend.length : Int) + 1)) = j.last + (j.pend.length + 1) := (IntWalk.wrap64_in _ (by omega)).trans (by omega)
  have HD := Lib.hid hdoes
  have HLC := Lib.hid hlc
  clear hdoes hs3 hS' hlc hlast hd3 hown2 hfr2 hat2 hfr1 HALL
  obtain ⟨w3, hw3e⟩ : ∃ w3, w3 = w2.setCell ⟨bj, 4, none⟩ (.slice (some ⟨g, 0, none⟩) (j.pend.length + 1) cap) := ⟨_, rfl⟩
  rw [← hw3e] at HD HLC g4
  have HW3 := Lib.hid hw3e
  go_wp2_with fail
  rw [← hw3e]
  clear hw3e
  go_quiet ((go_at_call 33; exact Calls.quiet_of (HLC.out _)))
  go_wp2_with fail
  go_ret2
  obtain ⟨S', a, b, c⟩ := HD.out
  exact ⟨by rw [hlv]; rfl, S', a, (nice_jrn _ _ _ _).keep b (Fr.below (below_drawn w3 nq)) (fun _ _ h => h), c.drewN nq⟩
/-- A record to be made durable. -/
theorem JAppend_jr (hR : Nice R) (h : Jr R w0 w bj bd n j) (r : ByteArray) : Calls Tryz.prog 22 #[.pointer (some ⟨bj, 0, none⟩), .string r] w fun x w' => x = .returned (.tuple #[.int .i64 (j.append r.data.toList).1, .int .i64 (j.append r.data.toList).2.1]) ∧ Jr R w0 w' bj bd n (j.append r.data.toList).2.2 :=
  Has.pair (h.does hR (Q := fun x S w => x = .returned (.tuple #[.int .i64 (j.append r.data.toList).1, .int .i64 (j.append r.data.toList).2.1]) ∧ JrnP bj bd n (j.append r.data.toList).2.2 S w) (fun S hS => by
    have hrl : r.data.toList.length = r.size := rfl
    have early : ∀ e, (j.broken = true ∧ e = 18) ∨ (j.broken = false ∧ 4096 < r.size ∧ e = 5) ∨ (j.broken = false ∧ ¬ 4096 < r.size ∧ 64 ≤ j.pend.length ∧ e = 6) → j.append r.data.toList = (0, e, j) → Calls Tryz.prog 22 #[.pointer (some ⟨bj, 0, none⟩), .string r] w fun x w' => Does S w ((fun x S w => x = .returned (.tuple #[.int .i64 (j.append r.data.toList).1, .int .i64 (j.append r.data.toList).2.1]) ∧ JrnP bj bd n (j.append r.data.toList).2.2 S w) x) w' := fun e he hv => by
      rw [hv]
      refine (append_early hS r he).mono ?_
      rintro x w' ⟨hx, rfl⟩
      exact ⟨S, fun _ => .inl, ⟨hx, hS⟩, Fr.refl _ _⟩
    cases hb : j.broken with
    | true => exact early 18 (.inl ⟨hb, rfl⟩) (by unfold Jnl.J.append; rw [if_pos hb])
    | false =>
      have hb' : ¬ (j.broken = true) := by rw [hb]; simp
      by_cases hl : 4096 < r.size
      · exact early 5 (.inr (.inl ⟨hb, hl, rfl⟩)) (by unfold Jnl.J.append; rw [if_neg hb', if_pos (by rw [hrl]; exact hl)])
      · by_cases hp : 64 ≤ j.pend.length
        · exact early 6 (.inr (.inr ⟨hb, hl, hp, rfl⟩)) (by unfold Jnl.J.append; rw [if_neg hb', if_neg (by rw [hrl]; exact hl), if_pos hp])
        · have hv : j.append r.data.toList = (j.last + (j.pend.length + 1), 0, { j with pend := j.pend ++ [r.data.toList] }) := by unfold Jnl.J.append; rw [if_neg hb', if_neg (by rw [hrl]; exact hl), if_neg hp]
          rw [hv]
          refine (append_well hS r hb hl hp).mono ?_
          rintro x w' ⟨hx, S', a, b, c⟩
          exact ⟨S', a, ⟨hx, b⟩, c⟩))
end
end Go.Proofs.YtlhnjdoicolkkaaGreatDoor
