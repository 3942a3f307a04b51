/- Clone: the copy of one file. -/
import Derived.Test.YtlhnjdoicolkkaaPMap
set_option maxRecDepth 100000
namespace Go.Proofs.Ytlhnjdoicolkkaa
open Go.RowKit Go.Dsk Go.Maps Go.WideMaps
set_option maxHeartbeats 1000000

theorem infoFile : ∃ j, Try.prog.info? 76 = some j ∧ j.size ≠ 0 := by
  have h : (Try.prog.info? 76).map (fun i => i.size) = some 2 := by kernel_rfl
  cases he : Try.prog.info? 76 with
  | none => rw [he] at h; cases h
  | some j =>
    rw [he] at h
    simp at h
    exact ⟨j, rfl, by omega⟩
section
variable {w : World} {bk bc : Nat} {K : List (Nat × Nat)}
def IsRow (w : World) (b : Nat) : Prop := ∃ cb tb, w.heap[b]? = some (.cells cb tb (0, 0))
theorem look_at (h : PAt w bk K) {a : Nat} (ha : IsRow w a) (hk : ∀ p ∈ K, IsRow w p.1) : (Instr.lookup 100 (.map (some bk)) (.pointer (some ⟨a, 0, none⟩)) false).run Try.prog w = .ok (.pointer ((pfind K a).map fun b => ⟨b, 0, none⟩)) w := by
  obtain ⟨j, h1, h2⟩ := infoFile
  obtain ⟨ca, ta, hh⟩ := ha
  exact lookup_ptr w Try.underlying100 Try.underlying73 h1 h2 (zeroPtr w) h hh hk
theorem look_nil (h : PAt w bk K) : (Instr.lookup 100 (.map (some bk)) (.pointer none) false).run Try.prog w = .ok (.pointer none) w :=
  lookup_nilptr w Try.underlying100 Try.underlying73 (zeroPtr w) h
theorem put_at (h : PAt w bk K) {a c : Nat} (ha : IsRow w a) (hk : ∀ p ∈ K, IsRow w p.1) (hn : pfind K a = none) :
    ∃ w', (Instr.mapUpdate 100 (.map (some bk)) (.pointer (some ⟨a, 0, none⟩)) (.pointer (some ⟨c, 0, none⟩))).run Try.prog w = .ok () w' ∧ PAt w' bk (K ++ [(a, c)]) ∧ w.grownBy w' (some bk) ∧ w'.heap.size = w.heap.size := by
  obtain ⟨j, h1, h2⟩ := infoFile
  obtain ⟨ca, ta, hh⟩ := ha
  exact update_ptr w Try.underlying100 Try.underlying73 h1 h2 h hh hk hn
theorem PAt.lt (h : PAt w bk K) : bk < w.heap.size := by
  obtain ⟨es, clock, h1, _⟩ := h
  exact lt_of_block h1
theorem PAt.same {w' : World} (h : PAt w bk K) (hb : w'.heap[bk]? = w.heap[bk]?) : PAt w' bk K := by
  obtain ⟨es, clock, h1, h2⟩ := h
  exact ⟨es, clock, hb.trans h1, h2⟩
theorem PAt.noRow (h : PAt w bk K) {a : Nat} (ha : IsRow w a) : bk ≠ a := by
  obtain ⟨es, clock, h1, _⟩ := h
  obtain ⟨ca, ta, h2⟩ := ha
  rintro rfl
  rw [h1] at h2
  cases h2
theorem PAt.noBox (h : PAt w bk K) : ¬ IsBox w bk := by
  rintro ⟨s, hs⟩
  exact h.noRow ⟨_, _, hs⟩ rfl
theorem IsRow.fr {S : Nat → Prop} {w' : World} {b : Nat} (h : IsRow w b) (hf : Fr S w w') (hs : ¬ S b) : IsRow w' b := by
  obtain ⟨cb, tb, h1⟩ := h
  exact ⟨cb, tb, hf.same hs h1⟩
theorem pfind_snoc (K : List (Nat × Nat)) (a c : Nat) (h : pfind K a = none) : pfind (K ++ [(a, c)]) a = some c := by
  unfold pfind at *
  rw [Option.map_eq_none_iff] at h
  rw [List.find?_append, h]
  simp

theorem copied_nil (h : PAt w bk K) (hc : w.heap[bc]? = some (.cells #[.map (some bk)] 100 (0, 0))) : Calls Try.prog 58 #[.pointer none, .pointer (some ⟨bc, 0, none⟩)] w fun e w' => e = .returned (.pointer none) ∧ w = w' := by
  have c0 := cell_of_one hc
  have hl := look_nil h
  clear h hc
  go_enter Try.func58, Try.ntmps58
  go_wp2_with fail
  go_ret
  exact ⟨rfl, rfl⟩
theorem copied_old (h : PAt w bk K) (hc : w.heap[bc]? = some (.cells #[.map (some bk)] 100 (0, 0))) {a b : Nat} (ha : IsRow w a) (hk : ∀ p ∈ K, IsRow w p.1) (hf : pfind K a = some b) :
    Calls Try.prog 58 #[.pointer (some ⟨a, 0, none⟩), .pointer (some ⟨bc, 0, none⟩)] w fun e w' => e = .returned (.pointer (some ⟨b, 0, none⟩)) ∧ w = w' := by
  have c0 := cell_of_one hc
  have hl := look_at h ha hk
  rw [hf] at hl
  simp at hl c0
  clear h hc ha hk hf
  go_enter Try.func58, Try.ntmps58
  go_wp2_with fail
  go_ret
  exact ⟨rfl, rfl⟩
theorem copied_new (h : PAt w bk K) (hc : w.heap[bc]? = some (.cells #[.map (some bk)] 100 (0, 0))) {a : Nat} {f : Fl} (ha : FileAt w a f) (hk : ∀ p ∈ K, IsRow w p.1) (hf : pfind K a = none) :
    Calls Try.prog 58 #[.pointer (some ⟨a, 0, none⟩), .pointer (some ⟨bc, 0, none⟩)] w fun e w' => e = .returned (.pointer (some ⟨w.heap.size, 0, none⟩)) ∧ PAt w' bk (K ++ [(a, w.heap.size)]) ∧ FileAt w' w.heap.size f ∧ Fr (fun i => i = bk) w w' ∧ w'.heap.size = w.heap.size + 1 := by
  have c0 := cell_of_one hc
  have hrow : IsRow w a := ⟨_, _, ha⟩
  have hl := look_at h hrow hk
  rw [hf] at hl
  have a0 := block_cell ha 0
  have a1 := block_cell ha 1
  simp at hl c0 a0 a1
  have hfa := Fr.alloc (S := fun _ => False) (Fr.refl _ w) (.cells #[.string ⟨f.bytes.toArray⟩, .int .i64 f.dur] 76)
  have hbk := h.lt
  have hP1 : PAt (w.alloc (.cells #[.string ⟨f.bytes.toArray⟩, .int .i64 f.dur] 76)) bk K := h.same (Below.heap_alloc _ _ _ hbk)
  obtain ⟨w2, hu, hP2, hg2, hs2⟩ := put_at hP1 (a := a) (c := w.heap.size) (hrow.fr hfa id) (fun p hp => (hk p hp).fr hfa id) hf
  have hne : bk ≠ w.heap.size := by omega
  have hnew : FileAt w2 w.heap.size f := (hg2.block w.heap.size (by simp) (by simpa using fun e => hne e.symm)).trans (heap_alloc_new w _)
  have hf2 : Fr (fun i => i = bk) w w2 := (hfa.mono (fun _ => False.elim)).grown hg2 (.inl rfl) hP1.noBox
  have c2 : w2.cell? ⟨bc, 0, none⟩ = some (.map (some bk)) := by
    have hbc := lt_of_block hc
    have : bc ≠ bk := fun e => h.noRow ⟨_, _, hc⟩ e.symm
    rw [hf2.cellOther' (a := ⟨bc, 0, none⟩) hbc this]
    exact c0
  have hl2 := look_at hP2 (a := a) (hrow.fr hf2 (fun e => h.noRow hrow e.symm)) (fun p hp => by
    rcases List.mem_append.1 hp with hp | hp
    · exact (hk p hp).fr hf2 (fun e => h.noRow (hk p hp) e.symm)
    · simp at hp; subst hp; exact hrow.fr hf2 (fun e => h.noRow hrow e.symm))
  rw [pfind_snoc _ _ _ hf] at hl2
  simp at hl2
  have hs3 : w2.heap.size = w.heap.size + 1 := by rw [hs2]; simp
  have HP2 := Lib.hid hP2
  have HN := Lib.hid hnew
  have HF2 := Lib.hid hf2
  have HS3 := Lib.hid hs3
  have c1 : (w.alloc (.cells #[.string ⟨f.bytes.toArray⟩, .int .i64 f.dur] 76)).cell? ⟨bc, 0, none⟩ = some (.map (some bk)) := (cell?_alloc_lt (lt_of_block hc)).trans c0
  clear h hc ha hk hf hrow hfa hP1 hP2 hg2 hs2 hnew hf2 hs3 hne hbk
  go_enter Try.func58, Try.ntmps58
  go_wp2_with fail
  go_ret
  exact ⟨rfl, HP2.out, HN.out, HF2.out, HS3.out⟩
end
end Go.Proofs.Ytlhnjdoicolkkaa
