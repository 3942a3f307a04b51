/- strings.Builder: a builder of the call's own, beside other things. -/
import Derived.Test.YtlhnjdoicolkkaaGreatDoorApp
import Derived.Test.YtlhnjdoicolkkaaGreatDoorShelfJ
set_option maxRecDepth 100000
namespace Go.Proofs.YtlhnjdoicolkkaaGreatDoor
open Go.RowKit Go.Dsk Go.Maps Go.WideMaps
set_option maxHeartbeats 1000000

theorem rowF_same {w w' : World} {base : Nat} {e : TypeId} {size n : Nat} {v : Value} {xs : List Value} (h : w.ownsRowF base e size v n xs) (hb : ∀ g, v.ownBlock = some g → w'.heap[g]? = w.heap[g]?) : w'.ownsRowF base e size v n xs := by
  obtain ⟨h1, h2 | ⟨g, cap, cur, fz, rfl, h3, h4, h5⟩⟩ := h
  · exact ⟨h1, .inl h2⟩
  · exact ⟨h1, .inr ⟨g, cap, cur, fz, rfl, h3, (hb g rfl).trans h4, h5⟩⟩
theorem rowF_lt {w : World} {base : Nat} {e : TypeId} {size n : Nat} {v : Value} {xs : List Value} (h : w.ownsRowF base e size v n xs) {g : Nat} (hg : v.ownBlock = some g) : ∃ cur fz, w.heap[g]? = some (.cells cur e fz) ∧ g < w.heap.size := by
  obtain ⟨_, ⟨rfl, _⟩ | ⟨g', cap, cur, fz, rfl, _, h4, _⟩⟩ := h
  · simp [Value.ownBlock] at hg
  · simp only [Value.ownBlock, Option.some.injEq] at hg
    subst hg
    exact ⟨cur, fz, h4, lt_of_block h4⟩
/-- A builder that holds the bytes l. -/
def BldP (b : Nat) (l : Bs) : SP := fun S w => ∃ p v, (p = .pointer none ∨ p = .pointer (some ⟨b, 0, none⟩)) ∧ (∀ i, S i ↔ i = b ∨ v.ownBlock = some i) ∧ w.heap[b]? = some (.cells #[p, v] 89 (0, 0)) ∧ w.ownsRowF 0 5 1 v l.length (Lib.byteCells l) ∧ v.ownBlock ≠ some b ∧ (l = [] → v = .slice none 0 0)
theorem nice_bld (b : Nat) (l : Bs) : Nice (BldP b l) where
  lt h i hi := by
    obtain ⟨p, v, _, hs, hb, hv, _⟩ := h
    rcases (hs i).1 hi with rfl | h
    · exact lt_of_block hb
    · obtain ⟨_, _, _, h⟩ := rowF_lt hv h
      exact h
  keep h hf hd := by
    obtain ⟨p, v, hp, hs, hb, hv, hne, hni⟩ := h
    refine ⟨p, v, hp, hs, (hf.block b (lt_of_block hb) (.inl (hd b ((hs b).2 (.inl rfl))))).trans hb, rowF_same hv fun g hg => ?_, hne, hni⟩
    obtain ⟨_, _, _, h⟩ := rowF_lt hv hg
    exact hf.block g h (.inl (hd g ((hs g).2 (.inr hg))))
theorem bld_new (w : World) : BldP w.heap.size [] (fun i => i = w.heap.size) (w.alloc (.cells #[.pointer none, .slice none 0 0] 89)) :=
  ⟨.pointer none, .slice none 0 0, .inl rfl, fun i => by simp [Value.ownBlock], heap_alloc_new w _, ⟨by simp [Lib.byteCells], .inl ⟨rfl, rfl⟩⟩, by simp [Value.ownBlock], fun _ => rfl⟩

theorem sizeBld : (Tryz.prog.info? 89).map (·.size) = some 2 := by kernel_rfl
theorem copyCheck_used {b : Nat} {w : World} (h0 : w.cell? ⟨b, 0, none⟩ = some (.pointer (some ⟨b, 0, none⟩))) :
    Calls Tryz.prog 93 #[.pointer (some ⟨b, 0, none⟩)] w fun e w' => e = .returned (.tuple #[]) ∧ w' = w := by
  obtain ⟨j, hj, _⟩ := Option.map_eq_some_iff.1 sizeBld
  go_enter Tryz.func93, Tryz.ntmps93
  go_wp2_with fail
  rw [Lib.run_neq_ptr_same w _ Tryz.underlying87 hj]
  go_wp2_with fail
  go_end0
  exact ⟨rfl, rfl⟩
theorem copyCheck_fresh {b : Nat} {w : World} (h0 : w.cell? ⟨b, 0, none⟩ = some (.pointer none)) (hsh : w.shape? b = some (89, 2)) (hfz : w.frozen? ⟨b, 0, none⟩ = false) :
    Calls Tryz.prog 93 #[.pointer (some ⟨b, 0, none⟩)] w fun e w' => e = .returned (.tuple #[]) ∧ w' = w.setCell ⟨b, 0, none⟩ (.pointer (some ⟨b, 0, none⟩)) := by
  obtain ⟨j, hj, hjs⟩ := Option.map_eq_some_iff.1 sizeBld
  go_enter Tryz.func93, Tryz.ntmps93
  go_wp2_with fail
  rw [Lib.run_to_unsafe w ⟨b, 0, none⟩ Tryz.underlying87 Tryz.underlying140 hj (by rw [hjs]; decide) hsh (Nat.zero_lt_succ 1)]
  simp only [Result.andThen]
  rw [Oper.upon_value]
  go_wp2_with fail
  rw [run_callFunc_extern Tryz.func122 (by kernel_rfl) (by kernel_rfl) (by kernel_rfl) (e := Extern.AbiNoEscape.same) (by kernel_rfl)]
  rw [Lib.run_noEscape]
  simp only [Result.andThen]
  rw [Oper.upon_value]
  go_wp2_with fail
  rw [Lib.run_from_unsafe w ⟨b, 0, none⟩ Tryz.underlying140 Tryz.underlying87 hj hsh Tryz.Builder_Extra_169.liesBuilder]
  simp only [Result.andThen]
  rw [Oper.upon_value]
  go_wp2_with fail
  go_end0
  exact ⟨rfl, rfl⟩
theorem nobox_bld {w : World} {b : Nat} {cs : Array Value} (h : w.heap[b]? = some (.cells cs 89 (0, 0))) : ¬ IsBox w b := by
  rintro ⟨s, hs⟩
  rw [h] at hs
  simp at hs
theorem nobox_byte {w : World} {b : Nat} {cs : Array Value} {fz : Nat × Nat} (h : w.heap[b]? = some (.cells cs 5 fz)) : ¬ IsBox w b := by
  rintro ⟨s, hs⟩
  rw [h] at hs
  simp at hs
theorem copyCheck_any {b : Nat} {l : Bs} {S : Nat → Prop} {w : World} (h : BldP b l S w) :
    Calls Tryz.prog 93 #[.pointer (some ⟨b, 0, none⟩)] w fun e w' => e = .returned (.tuple #[]) ∧ ∃ v, (∀ i, S i ↔ i = b ∨ v.ownBlock = some i) ∧ w'.heap[b]? = some (.cells #[.pointer (some ⟨b, 0, none⟩), v] 89 (0, 0)) ∧ w'.ownsRowF 0 5 1 v l.length (Lib.byteCells l) ∧ v.ownBlock ≠ some b ∧ (l = [] → v = .slice none 0 0) ∧ Fr (fun i => i = b) w w' := by
  obtain ⟨p, v, hp, hs, hb, hv, hne, hni⟩ := h
  have h0 := block_cell hb 0
  rcases hp with rfl | rfl
  · refine (copyCheck_fresh (by simpa using h0) (by simp [World.shape?, hb]) (block_free hb 0)).mono ?_
    rintro e w' ⟨rfl, rfl⟩
    refine ⟨rfl, v, hs, block_set hb 0 _, rowF_same hv fun g hg => block_other (fun e => hne (by rw [hg, e])) _, hne, hni, (Fr.refl (fun i => i = b) w).setCell (p := ⟨b, 0, none⟩) (.inl rfl) (nobox_bld hb) _⟩
  · refine (copyCheck_used (by simpa using h0)).mono ?_
    rintro e w' ⟨rfl, rfl⟩
    exact ⟨rfl, v, hs, hb, hv, hne, hni, Fr.refl _ _⟩
theorem infoByte : (Tryz.prog.info? 5).map (fun i => (i.zero, i.size, i.bytes)) = some (some (.int .u8 0), 1, 1) := by kernel_rfl
theorem byteCells_append (l : Bs) (s : ByteArray) : Lib.byteCells l ++ Lib.strCells s = Lib.byteCells (l ++ s.data.toList) := by simp [Lib.byteCells, Lib.strCells]
theorem WriteString_any {b : Nat} {l : Bs} {S : Nat → Prop} {w : World} (h : BldP b l S w) (s : ByteArray) (hlen : l.length + s.size ≤ 1099511627776) :
    Calls Tryz.prog 51 #[.pointer (some ⟨b, 0, none⟩), .string s] w fun e w' => e = .returned (.tuple #[.int .i64 s.size, .nilIface]) ∧ Does S w (BldP b (l ++ s.data.toList)) w' := by
  obtain ⟨i0, hi, hz0, hz1, hz2⟩ := info_parts infoByte
  have H := Lib.hid h
  clear h
  go_enter Tryz.func51, Tryz.ntmps51
  go_wp2_with fail
  refine (copyCheck_any H.out).mono ?_
  rintro e w1 ⟨rfl, v, hs, hbk, hown, hne, hni, hf1⟩
  have c0 := block_cell hbk 0
  have c1 := block_cell hbk 1
  simp at c0 c1
  go_wp2_with (at_builtin; refine wpList_append_bytes _ rfl _ _ 30 9 rfl 5 i0 Tryz.underlying30 Tryz.underlying9 hi hz0 hz1 hz2 _ _ _ rfl hown s rfl ?c3 ?c4 ?_)
  case c3 => unfold maxLen; omega
  case c4 => omega
  intro v' w2 hown' hgrow hiff hat
  have hni' : l ++ s.data.toList = [] → v' = .slice none 0 0 := fun e => by
    obtain ⟨e1, e2⟩ := List.append_eq_nil_iff.1 e
    exact hiff.2 ⟨hni e1, by
      obtain ⟨d⟩ := s
      simp only [Array.toList_eq_nil_iff] at e2
      subst e2
      rfl⟩
  have hlt := lt_of_block hbk
  have hb2 : w2.heap[b]? = some (.cells #[.pointer (some ⟨b, 0, none⟩), v] 89 (0, 0)) := (hgrow.block b hlt (fun e => hne e.symm)).trans hbk
  have d0 := block_cell hb2 0
  have d1 := block_cell hb2 1
  have f1 := block_free hb2 1
  simp at d0 d1
  have hbl : b < w.heap.size ∧ S b := by
    obtain ⟨p0, v0, _, hs0, hb0, _⟩ := H.out
    exact ⟨lt_of_block hb0, (hs0 b).2 (.inl rfl)⟩
  have hvb : v'.ownBlock ≠ some b := fun e => by
    obtain ⟨cur, fz, hc, _⟩ := rowF_lt hown' e
    rw [hb2] at hc
    simp at hc
  obtain ⟨ao, n', cap, rfl⟩ : ∃ ao n' cap, v' = .slice ao n' cap := by
    rcases hown'.2 with ⟨hv, _⟩ | ⟨g, cap, cur, fz, hv, _⟩
    · exact ⟨_, _, _, hv⟩
    · exact ⟨_, _, _, hv⟩
  have HX := Lib.hid (And.intro hown' (And.intro hgrow (And.intro hat (And.intro hvb hni'))))
  have HW := Lib.hid (And.intro hs (And.intro hown (And.intro hne hf1)))
  clear hown' hgrow hat hs hown hne hf1 hvb hni hni' hiff
  go_wp2_with fail
  go_ret2
  obtain ⟨hown', hgrow, hat, hvb, hni'⟩ := HX.out
  obtain ⟨hs, hown, hne, hf1⟩ := HW.out
  refine ⟨rfl, fun i => i = b ∨ Value.ownBlock (.slice ao n' cap) = some i, ?_, ⟨_, _, .inr rfl, fun i => Iff.rfl, block_set hb2 1 _, ?_, hvb, hni'⟩, ?_⟩
  · rintro i (rfl | hi)
    · exact .inl hbl.2
    · rcases hat i hi with h | h
      · exact .inl ((hs i).2 (.inr h))
      · exact .inr (Nat.le_trans hf1.size h)
  · have := rowF_same (w' := w2.setCell ⟨b, 1, none⟩ (.slice ao n' cap)) hown' (fun g hg => block_other (fun e => hvb (by rw [hg, e])) _)
    rw [byteCells_append] at this
    simpa using this
  · have hg1 : Fr S w1 w2 := ⟨hgrow.os, hgrow.tape, hgrow.output, hgrow.size, fun k hk hn => hgrow.block k hk (fun e => by
      rcases hn with hn | hn
      · exact hn ((hs k).2 (.inr e.symm))
      · obtain ⟨cur, fz, hc, _⟩ := rowF_lt hown e.symm
        exact nobox_byte hc hn)⟩
    exact ((hf1.mono (fun i hi => (hs i).2 (.inl hi))).trans hg1).setCell (p := ⟨b, 1, none⟩) (.inl hbl.2) (nobox_bld hb2) _
theorem freeze_other {w : World} {a : Addr} {n i : Nat} (h : i ≠ a.block) : (w.freeze a n).heap[i]? = w.heap[i]? := by
  unfold World.freeze
  split
  · rfl
  · rw [Array.getElem?_modify, if_neg (fun e => h e.symm)]
theorem freeze_size (w : World) (a : Addr) (n : Nat) : (w.freeze a n).heap.size = w.heap.size := by
  unfold World.freeze
  split <;> simp
theorem bString_any {b : Nat} {l : Bs} {S : Nat → Prop} {w : World} (h : BldP b l S w) :
    Calls Tryz.prog 55 #[.pointer (some ⟨b, 0, none⟩)] w fun e w' => e = .returned (.string ⟨l.toArray⟩) ∧ BldP b l S w' ∧ Fr S w w' := by
  obtain ⟨p, v, hp, hs, hb, hv, hne, hni⟩ := h
  by_cases h0 : l = []
  · subst h0
    have hv0 := hni rfl
    subst hv0
    have c1 : w.drew.cell? ⟨b, 1, none⟩ = some (.slice none 0 0) := by
      have := block_cell (w := w.drew) hb 1
      simpa using this
    have hSD : (Builtin.unsafeSliceData_ #[30] 125 #[.slice none 0 0]).run Tryz.prog w.drew = .ok (.pointer none) w.drew := rfl
    have hUS : ∀ W, (Builtin.unsafeString_ #[125, 3] 9 #[.pointer none, .int .i64 0]).run Tryz.prog W = .ok (.string .empty) W := fun W => Lib.run_unsafeString_none W _ _ _ none
    have HX := Lib.hid (And.intro hp (And.intro hs (And.intro hb (And.intro hv (And.intro hne hni)))))
    clear hp hs hb hv hne hni
    go_enter Tryz.func55, Tryz.ntmps55
    go_wp2_with fail
    go_region
    all_goals
      go_wp2_with fail
      go_ret
      obtain ⟨hp, hs, hb, hv, hne, hni⟩ := HX.out
      exact ⟨rfl, ⟨p, _, hp, hs, hb, hv, hne, fun _ => rfl⟩, (Fr.refl S w).drew⟩
  · obtain ⟨g, cap, cur, fz, rfl, hbg, hg, hfz, hnc, hcm, hcs, htake⟩ : ∃ g cap cur fz, v = .slice (some ⟨g, 0, none⟩) l.length cap ∧ 0 ≤ g ∧ w.heap[g]? = some (.cells cur 5 fz) ∧ fz.2 ≤ l.length * 1 ∧ l.length ≤ cap ∧ cap ≤ maxLen ∧ cur.size = cap * 1 ∧ cur.toList.take (l.length * 1) = Lib.byteCells l := by
      rcases hv.2 with ⟨_, hz⟩ | ⟨g, cap, cur, fz, hv, r⟩
      · exact absurd (List.eq_nil_of_length_eq_zero hz) h0
      · exact ⟨g, cap, cur, fz, hv, r⟩
    have hl0 : l.length ≠ 0 := by simpa using h0
    have c1 : w.drew.cell? ⟨b, 1, none⟩ = some (.slice (some ⟨g, 0, none⟩) l.length cap) := by
      have := block_cell (w := w.drew) hb 1
      simpa using this
    have hSD : (Builtin.unsafeSliceData_ #[30] 125 #[.slice (some ⟨g, 0, none⟩) l.length cap]).run Tryz.prog w.drew = .ok (.pointer (some ⟨g, 0, none⟩)) w.drew :=
      Lib.run_unsafeSliceData_row _ _ _ _ _ _ (by omega)
    have hUS : (Builtin.unsafeString_ #[125, 3] 9 #[.pointer (some ⟨g, 0, none⟩), .int .i64 l.length]).run Tryz.prog w.drew = .ok (.string ⟨l.toArray⟩) (w.drew.freeze ⟨g, 0, none⟩ l.length) := by
      refine Lib.run_unsafeString_row w.drew 125 3 9 5 Tryz.underlying125 Tryz.Builder_Extra_169.cellsByte g cur.size (by have hg' : w.drew.heap[g]? = some (.cells cur 5 fz) := hg; simp [World.shape?, hg']) l h0 (by omega) (by unfold maxLen at hcm; omega) ?_
      intro j x hx
      exact hv.cells (g := g) rfl j (.int .u8 x.toNat) (by simp [Lib.byteCells, hx])
    have hgb : b ≠ g := fun e => hne (by rw [e]; rfl)
    have hF : Lib.BuilderAtF 89 5 0 b p (Lib.byteCells l) (w.drew.freeze ⟨g, 0, none⟩ l.length) := by
      have hA : Lib.BuilderAtF 89 5 0 b p (Lib.byteCells l) w.drew := ⟨Nat.zero_le _, _, hb, by rw [Lib.byteCells_length]; exact hv, hne⟩
      have hF := hA.froze (g := g) (cap := cap) (by rw [Lib.byteCells_length]; exact c1)
      rw [Lib.byteCells_length] at hF
      exact hF
    have hBP : BldP b l S (w.drew.freeze ⟨g, 0, none⟩ l.length) := by
      obtain ⟨_, v2, hb2, hv2, hne2⟩ := hF
      have e : (w.drew.freeze ⟨g, 0, none⟩ l.length).heap[b]? = some (.cells #[p, .slice (some ⟨g, 0, none⟩) l.length cap] 89 (0, 0)) := (freeze_other (by simpa using hgb)).trans hb
      rw [e] at hb2
      simp only [Option.some.injEq, Obj.cells.injEq, Array.mk.injEq, List.cons.injEq, true_and, and_true] at hb2
      subst hb2
      rw [Lib.byteCells_length] at hv2
      exact ⟨p, _, hp, hs, e, hv2, hne2, fun h => absurd h h0⟩
    have hfr : Fr S w (w.drew.freeze ⟨g, 0, none⟩ l.length) := ⟨by unfold World.freeze; split <;> rfl, by unfold World.freeze; split <;> rfl, by unfold World.freeze; split <;> rfl, by rw [freeze_size]; exact Nat.le_refl _, fun i hi hn => by
      refine (freeze_other (w := w.drew) (a := ⟨g, 0, none⟩) (fun e => ?_)).trans rfl
      have e : i = g := e
      subst e
      rcases hn with hn | hn
      · exact hn ((hs i).2 (.inr rfl))
      · exact nobox_byte hg hn⟩
    have HX := Lib.hid (And.intro hBP hfr)
    clear hp hs hb hv hne hni hg hfz htake hF hBP hfr
    go_enter Tryz.func55, Tryz.ntmps55
    go_wp2_with fail
    go_region
    all_goals
      go_wp2_with fail
      go_ret
      exact ⟨rfl, HX.out.1, HX.out.2⟩
end Go.Proofs.YtlhnjdoicolkkaaGreatDoor
