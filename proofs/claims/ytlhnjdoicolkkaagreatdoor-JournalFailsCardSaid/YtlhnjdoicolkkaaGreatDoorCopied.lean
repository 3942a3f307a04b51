/- A map whose keys are pointers: lookup and store, upon its entries as they are. -/
import Derived.Test.YtlhnjdoicolkkaaGreatDoorApi
import Derived.LaidEqlPtr
import Derived.Test.YtlhnjdoicolkkaaGreatDoorPlain
set_option maxRecDepth 100000
namespace Go.Proofs.YtlhnjdoicolkkaaGreatDoor
open Go.RowKit Go.Dsk Go.Maps Go.WideMaps
set_option maxHeartbeats 400000

theorem Fr.cellOther' {S : Nat → Prop} {w w' : World} (h : Fr S w w') {a : Addr} (hl : a.block < w.heap.size) (hs : ¬ S a.block) : w'.cell? a = w.cell? a := World.cell?_of_block (h.block _ hl (.inl hs))
def ptr (b : Nat) : Value := .pointer (some ⟨b, 0, none⟩)
/-- Block b is a map from pointers to pointers: its entries are L, in this order. -/
def PAt (w : World) (b : Nat) (L : List (Nat × Nat)) : Prop :=
  ∃ (es : Array MapEntry) (clock : Nat), w.heap[b]? = some (.map es clock) ∧ es.toList.map (fun e => (e.key, e.val)) = L.map fun p => (ptr p.1, ptr p.2)
def pfind (L : List (Nat × Nat)) (a : Nat) : Option Nat := (L.find? fun p => p.1 == a).map (·.2)

section
variable {P : Program} (w : World) {kt te : TypeId} {j : TypeInfo} {d : TypeDesc}
theorem equal_ptr (hp : P.underlying kt = some (.pointer te)) (hte : P.info? te = some j) (hsz : j.size ≠ 0) {a b : Nat} {ca cb : Array Value} {ta tb : TypeId}
    (ha : w.heap[a]? = some (.cells ca ta (0, 0))) (hb : w.heap[b]? = some (.cells cb tb (0, 0))) : (Op.equal kt (ptr a) (ptr b)).run P w = .ok (a == b) w := by
  by_cases h : a = b
  · subst h
    have h1 : ∀ d : Nat, (Op.equalIn (d + 1) kt (ptr a) (ptr a)).run P w = .ok true w := fun d => by
      simp [ptr, Op.equalIn, run_underlying hp, sizeOf, typeInfo, hte, run_sameAddr_same]
    simp [Op.equal, Op.maxDepth, h1 9999]
  · have h1 : ∀ d : Nat, (Op.equalIn (d + 1) kt (ptr a) (ptr b)).run P w = .ok false w := fun d => by
      have hne : (⟨a, 0, none⟩ : Addr) ≠ ⟨b, 0, none⟩ := fun e => h (congrArg Addr.block e)
      simp [ptr, Op.equalIn, run_underlying hp, sizeOf, typeInfo, hte, hsz, run_sameAddr_other w hne ha hb]
    rw [show (a == b) = false by simpa using h]
    simp [Op.equal, Op.maxDepth, h1 9999]
/-- The key that is nil. -/
theorem equal_nil (hp : P.underlying kt = some (.pointer te)) (b : Nat) : (Op.equal kt (.pointer none) (ptr b)).run P w = .ok false w := by
  have h1 : ∀ d : Nat, (Op.equalIn (d + 1) kt (.pointer none) (ptr b)).run P w = .ok false w := fun d => by
    simp [ptr, Op.equalIn, run_underlying hp]
  simp [Op.equal, Op.maxDepth, h1 9999]
theorem findAsking_ptr (hp : P.underlying kt = some (.pointer te)) (hte : P.info? te = some j) (hsz : j.size ≠ 0) {a : Nat} {ca : Array Value} {ta : TypeId} (ha : w.heap[a]? = some (.cells ca ta (0, 0))) :
    ∀ (es : List MapEntry) (L : List (Nat × Nat)) (i : Nat), es.map (fun e => (e.key, e.val)) = L.map (fun p => (ptr p.1, ptr p.2)) → (∀ p ∈ L, ∃ cb tb, w.heap[p.1]? = some (.cells cb tb (0, 0))) →
      ((Instr.findAsking kt (ptr a) es i).run P w = .ok none w ∧ pfind L a = none) ∨ ∃ k b, (Instr.findAsking kt (ptr a) es i).run P w = .ok (some (k, ptr b)) w ∧ pfind L a = some b
  | [], [], i, _, _ => .inl ⟨rfl, rfl⟩
  | [], _ :: _, _, h, _ => by simp at h
  | _ :: _, [], _, h, _ => by simp at h
  | e :: es, p :: L, i, h, hb => by
    simp only [List.map_cons, List.cons.injEq, Prod.mk.injEq] at h
    obtain ⟨⟨h1, h2⟩, h3⟩ := h
    obtain ⟨cb, tb, hpb⟩ := hb p (by simp)
    have heq := equal_ptr w hp hte hsz ha hpb
    by_cases he : a = p.1
    · right
      have hbt : (a == p.1) = true := by simp [he]
      rw [hbt] at heq
      refine ⟨i, p.2, ?_, by simp [pfind, he]⟩
      unfold Instr.findAsking
      rw [h1]
      simp [heq, h2]
    · have hbt : (a == p.1) = false := by simpa using he
      rw [hbt] at heq
      have ih := findAsking_ptr hp hte hsz ha es L (i + 1) h3 (fun q hq => hb q (by simp [hq]))
      have hpf : pfind (p :: L) a = pfind L a := by
        unfold pfind
        rw [List.find?_cons]
        have : (p.1 == a) = false := by simpa using fun e => he e.symm
        rw [this]
      have hst : (Instr.findAsking kt (ptr a) (e :: es) i).run P w = (Instr.findAsking kt (ptr a) es (i + 1)).run P w := by
        conv => lhs; unfold Instr.findAsking
        rw [h1]
        simp [heq]
      rw [hst, hpf]
      exact ih
theorem findAsking_nil (hp : P.underlying kt = some (.pointer te)) : ∀ (es : List MapEntry) (L : List (Nat × Nat)) (i : Nat), es.map (fun e => (e.key, e.val)) = L.map (fun p => (ptr p.1, ptr p.2)) → (Instr.findAsking kt (.pointer none) es i).run P w = .ok none w
  | [], [], i, _ => rfl
  | [], _ :: _, _, h => by simp at h
  | _ :: _, [], _, h => by simp at h
  | e :: es, p :: L, i, h => by
    simp only [List.map_cons, List.cons.injEq, Prod.mk.injEq] at h
    obtain ⟨⟨h1, h2⟩, h3⟩ := h
    have ih := findAsking_nil hp es L (i + 1) h3
    unfold Instr.findAsking
    rw [h1]
    simp [equal_nil w hp, ih]
theorem findNow_ptr {a : Option Addr} (es : List MapEntry) (L : List (Nat × Nat)) (h : es.map (fun e => (e.key, e.val)) = L.map (fun p => (ptr p.1, ptr p.2))) : Instr.findNow (.pointer te) (.pointer a) es 0 = if L = [] then some none else none := by
  cases L with
  | nil =>
    have : es = [] := by simpa using h
    subst this
    rfl
  | cons p L =>
    cases es with
    | nil => simp at h
    | cons e es =>
      simp only [List.map_cons, List.cons.injEq, Prod.mk.injEq] at h
      simp [Instr.findNow, Instr.sameNow]
theorem findKey_ptr (hp : P.underlying kt = some (.pointer te)) (hte : P.info? te = some j) (hsz : j.size ≠ 0) {a : Nat} {ca : Array Value} {ta : TypeId} (ha : w.heap[a]? = some (.cells ca ta (0, 0)))
    (es : List MapEntry) (L : List (Nat × Nat)) (h : es.map (fun e => (e.key, e.val)) = L.map (fun p => (ptr p.1, ptr p.2))) (hb : ∀ p ∈ L, ∃ cb tb, w.heap[p.1]? = some (.cells cb tb (0, 0))) :
    ((Instr.findKey kt (ptr a) es).run P w = .ok none w ∧ pfind L a = none) ∨ ∃ k b, (Instr.findKey kt (ptr a) es).run P w = .ok (some (k, ptr b)) w ∧ pfind L a = some b := by
  have hn := findNow_ptr (te := te) (a := some ⟨a, 0, none⟩) es L h
  unfold Instr.findKey
  cases L with
  | nil =>
    rw [if_pos rfl] at hn
    left
    exact ⟨by simp [run_underlying hp, ptr, hn], rfl⟩
  | cons p L =>
    rw [if_neg (by simp)] at hn
    rcases findAsking_ptr w hp hte hsz ha es (p :: L) 0 h hb with ⟨h1, h2⟩ | ⟨k, b, h1, h2⟩
    · left
      refine ⟨?_, h2⟩
      unfold ptr at h1 ⊢
      simp [run_underlying hp, hn, h1]
    · right
      refine ⟨k, b, ?_, h2⟩
      unfold ptr at h1 ⊢
      simp [run_underlying hp, hn, h1]
theorem findKey_nil (hp : P.underlying kt = some (.pointer te)) (es : List MapEntry) (L : List (Nat × Nat)) (h : es.map (fun e => (e.key, e.val)) = L.map (fun p => (ptr p.1, ptr p.2))) : (Instr.findKey kt (.pointer none) es).run P w = .ok none w := by
  have hn := findNow_ptr (te := te) (a := none) es L h
  unfold Instr.findKey
  cases L with
  | nil =>
    rw [if_pos rfl] at hn
    simp [run_underlying hp, hn]
  | cons p L =>
    rw [if_neg (by simp)] at hn
    have h1 := findAsking_nil w hp es (p :: L) 0 h
    simp [run_underlying hp, hn, h1]
theorem checkKey_ptr (hp : P.underlying kt = some (.pointer te)) (em : Bool) (a : Option Addr) : (Instr.checkKey em 10000 kt (.pointer a)).run P w = .ok () w := by
  unfold Instr.checkKey
  simp [run_underlying hp]

/-- Lookup. -/
theorem lookup_ptr {t e : TypeId} (ht : P.underlying t = some (.map kt e)) (hp : P.underlying kt = some (.pointer te)) (hte : P.info? te = some j) (hsz : j.size ≠ 0) (hz : (zeroValue e).run P w = .ok (.pointer none) w) {b : Nat} {L : List (Nat × Nat)} (h : PAt w b L)
    {a : Nat} {ca : Array Value} {ta : TypeId} (ha : w.heap[a]? = some (.cells ca ta (0, 0))) (hb : ∀ p ∈ L, ∃ cb tb, w.heap[p.1]? = some (.cells cb tb (0, 0))) :
    (Instr.lookup t (.map (some b)) (ptr a) false).run P w = .ok (.pointer ((pfind L a).map fun b => ⟨b, 0, none⟩)) w := by
  obtain ⟨es, clock, h1, h2⟩ := h
  have hc := checkKey_ptr w hp es.isEmpty (some ⟨a, 0, none⟩)
  rcases findKey_ptr w hp hte hsz ha es.toList L h2 hb with ⟨h3, h4⟩ | ⟨k, b', h3, h4⟩
  · rw [h4]
    unfold ptr at h3 ⊢
    simp [Instr.lookup, run_underlying ht, MapKept.run_getObj_map h1, hc, h3, hz, Result.andThen]
  · rw [h4]
    unfold ptr at h3 ⊢
    simp [Instr.lookup, run_underlying ht, MapKept.run_getObj_map h1, hc, h3, Result.andThen]
theorem lookup_nilptr {t e : TypeId} (ht : P.underlying t = some (.map kt e)) (hp : P.underlying kt = some (.pointer te)) (hz : (zeroValue e).run P w = .ok (.pointer none) w) {b : Nat} {L : List (Nat × Nat)} (h : PAt w b L) :
    (Instr.lookup t (.map (some b)) (.pointer none) false).run P w = .ok (.pointer none) w := by
  obtain ⟨es, clock, h1, h2⟩ := h
  have hc := checkKey_ptr w hp es.isEmpty none
  have h3 := findKey_nil w hp es.toList L h2
  simp [Instr.lookup, run_underlying ht, MapKept.run_getObj_map h1, hc, h3, hz, Result.andThen]
/-- A store of a new key. -/
theorem update_ptr {t e : TypeId} (ht : P.underlying t = some (.map kt e)) (hp : P.underlying kt = some (.pointer te)) (hte : P.info? te = some j) (hsz : j.size ≠ 0) {b : Nat} {L : List (Nat × Nat)} (h : PAt w b L)
    {a c : Nat} {ca : Array Value} {ta : TypeId} (ha : w.heap[a]? = some (.cells ca ta (0, 0))) (hb : ∀ p ∈ L, ∃ cb tb, w.heap[p.1]? = some (.cells cb tb (0, 0))) (hn : pfind L a = none) :
    ∃ w', (Instr.mapUpdate t (.map (some b)) (ptr a) (ptr c)).run P w = .ok () w' ∧ PAt w' b (L ++ [(a, c)]) ∧ w.grownBy w' (some b) ∧ w'.heap.size = w.heap.size := by
  obtain ⟨es, clock, h1, h2⟩ := h
  have hc := checkKey_ptr w hp false (some ⟨a, 0, none⟩)
  rcases findKey_ptr w hp hte hsz ha es.toList L h2 hb with ⟨h3, h4⟩ | ⟨k, b', h3, h4⟩
  · refine ⟨ChangeMaps.setBlock w b (.map (es.push { key := ptr a, val := ptr c, born := clock }) (clock + 1)), ?_, ?_, ?_, ?_⟩
    · unfold ptr at h3 ⊢
      simp [Instr.mapUpdate, run_underlying ht, MapKept.run_getObj_map h1, hc, h3, MapKept.run_setObj_map _ h1, Result.andThen, ChangeMaps.setBlock]
    · exact ⟨_, _, ChangeMaps.heap_setBlock_same h1 _, by simp [h2]⟩
    · exact ⟨rfl, rfl, rfl, by simp [ChangeMaps.setBlock], fun i _ hi => ChangeMaps.heap_setBlock_other h1 _ (fun e => hi (by rw [e]))⟩
    · simp [ChangeMaps.setBlock]
  · rw [h4] at hn; cases hn
end
end Go.Proofs.YtlhnjdoicolkkaaGreatDoor

/- Clone: the copy of one file. -/
set_option maxRecDepth 100000
namespace Go.Proofs.YtlhnjdoicolkkaaGreatDoor
open Go.RowKit Go.Dsk Go.Maps Go.WideMaps
set_option maxHeartbeats 1000000

theorem infoFile : ∃ j, Tryz.prog.info? 114 = some j ∧ j.size ≠ 0 := by
  have h : (Tryz.prog.info? 114).map (fun i => i.size) = some 2 := by kernel_rfl
  cases he : Tryz.prog.info? 114 with
  | none => rw [he] at h; cases h
  | some j =>
    rw [he] at h
    simp at h
    exact ⟨j, rfl, by omega⟩
section
variable {w : World} {bk bc : Nat} {K : List (Nat × Nat)}
def IsRow (w : World) (b : Nat) : Prop := ∃ cb tb, w.heap[b]? = some (.cells cb tb (0, 0))
theorem look_at (h : PAt w bk K) {a : Nat} (ha : IsRow w a) (hk : ∀ p ∈ K, IsRow w p.1) : (Instr.lookup 119 (.map (some bk)) (.pointer (some ⟨a, 0, none⟩)) false).run Tryz.prog w = .ok (.pointer ((pfind K a).map fun b => ⟨b, 0, none⟩)) w := by
  obtain ⟨j, h1, h2⟩ := infoFile
  obtain ⟨ca, ta, hh⟩ := ha
  exact lookup_ptr w Tryz.underlying119 Tryz.underlying105 h1 h2 (zeroPtr w) h hh hk
theorem look_nil (h : PAt w bk K) : (Instr.lookup 119 (.map (some bk)) (.pointer none) false).run Tryz.prog w = .ok (.pointer none) w :=
  lookup_nilptr w Tryz.underlying119 Tryz.underlying105 (zeroPtr w) h
theorem put_at (h : PAt w bk K) {a c : Nat} (ha : IsRow w a) (hk : ∀ p ∈ K, IsRow w p.1) (hn : pfind K a = none) :
    ∃ w', (Instr.mapUpdate 119 (.map (some bk)) (.pointer (some ⟨a, 0, none⟩)) (.pointer (some ⟨c, 0, none⟩))).run Tryz.prog w = .ok () w' ∧ PAt w' bk (K ++ [(a, c)]) ∧ w.grownBy w' (some bk) ∧ w'.heap.size = w.heap.size := by
  obtain ⟨j, h1, h2⟩ := infoFile
  obtain ⟨ca, ta, hh⟩ := ha
  exact update_ptr w Tryz.underlying119 Tryz.underlying105 h1 h2 h hh hk hn
theorem PAt.lt (h : PAt w bk K) : bk < w.heap.size := by
  obtain ⟨es, clock, h1, _⟩ := h
  exact lt_of_block h1
theorem PAt.same {w' : World} (h : PAt w bk K) (hb : w'.heap[bk]? = w.heap[bk]?) : PAt w' bk K := by
  obtain ⟨es, clock, h1, h2⟩ := h
  exact ⟨es, clock, hb.trans h1, h2⟩
theorem PAt.noRow (h : PAt w bk K) {a : Nat} (ha : IsRow w a) : bk ≠ a := by
  obtain ⟨es, clock, h1, _⟩ := h
  obtain ⟨ca, ta, h2⟩ := ha
  rintro rfl
  rw [h1] at h2
  cases h2
theorem PAt.noBox (h : PAt w bk K) : ¬ IsBox w bk := by
  rintro ⟨s, hs⟩
  exact h.noRow ⟨_, _, hs⟩ rfl
theorem IsRow.fr {S : Nat → Prop} {w' : World} {b : Nat} (h : IsRow w b) (hf : Fr S w w') (hs : ¬ S b) : IsRow w' b := by
  obtain ⟨cb, tb, h1⟩ := h
  exact ⟨cb, tb, hf.same hs h1⟩
theorem pfind_snoc (K : List (Nat × Nat)) (a c : Nat) (h : pfind K a = none) : pfind (K ++ [(a, c)]) a = some c := by
  unfold pfind at *
  rw [Option.map_eq_none_iff] at h
  rw [List.find?_append, h]
  simp

theorem copied_nil (h : PAt w bk K) (hc : w.heap[bc]? = some (.cells #[.map (some bk)] 119 (0, 0))) : Calls Tryz.prog 91 #[.pointer none, .pointer (some ⟨bc, 0, none⟩)] w fun e w' => e = .returned (.pointer none) ∧ w = w' := by
  have c0 := cell_of_one hc
  have hl := look_nil h
  clear h hc
  go_enter Tryz.func91, Tryz.ntmps91
  go_wp2_with fail
  go_ret
  exact ⟨rfl, rfl⟩
theorem copied_old (h : PAt w bk K) (hc : w.heap[bc]? = some (.cells #[.map (some bk)] 119 (0, 0))) {a b : Nat} (ha : IsRow w a) (hk : ∀ p ∈ K, IsRow w p.1) (hf : pfind K a = some b) :
    Calls Tryz.prog 91 #[.pointer (some ⟨a, 0, none⟩), .pointer (some ⟨bc, 0, none⟩)] w fun e w' => e = .returned (.pointer (some ⟨b, 0, none⟩)) ∧ w = w' := by
  have c0 := cell_of_one hc
  have hl := look_at h ha hk
  rw [hf] at hl
  simp at hl c0
  clear h hc ha hk hf
  go_enter Tryz.func91, Tryz.ntmps91
  go_wp2_with fail
  go_ret
  exact ⟨rfl, rfl⟩
theorem copied_new (h : PAt w bk K) (hc : w.heap[bc]? = some (.cells #[.map (some bk)] 119 (0, 0))) {a : Nat} {f : Fl} (ha : FileAt w a f) (hk : ∀ p ∈ K, IsRow w p.1) (hf : pfind K a = none) :
    Calls Tryz.prog 91 #[.pointer (some ⟨a, 0, none⟩), .pointer (some ⟨bc, 0, none⟩)] w fun e w' => e = .returned (.pointer (some ⟨w.heap.size, 0, none⟩)) ∧ PAt w' bk (K ++ [(a, w.heap.size)]) ∧ FileAt w' w.heap.size f ∧ Fr (fun i => i = bk) w w' ∧ w'.heap.size = w.heap.size + 1 := by
  have c0 := cell_of_one hc
  have hrow : IsRow w a := ⟨_, _, ha⟩
  have hl := look_at h hrow hk
  rw [hf] at hl
  have a0 := block_cell ha 0
  have a1 := block_cell ha 1
  simp at hl c0 a0 a1
  have hfa := Fr.alloc (S := fun _ => False) (Fr.refl _ w) (.cells #[.string ⟨f.bytes.toArray⟩, .int .i64 f.dur] 114)
  have hbk := h.lt
  have hP1 : PAt (w.alloc (.cells #[.string ⟨f.bytes.toArray⟩, .int .i64 f.dur] 114)) bk K := h.same (Below.heap_alloc _ _ _ hbk)
  obtain ⟨w2, hu, hP2, hg2, hs2⟩ := put_at hP1 (a := a) (c := w.heap.size) (hrow.fr hfa id) (fun p hp => (hk p hp).fr hfa id) hf
  have hne : bk ≠ w.heap.size := by omega
  have hnew : FileAt w2 w.heap.size f := (hg2.block w.heap.size (by simp) (by simpa using fun e => hne e.symm)).trans (heap_alloc_new w _)
  have hf2 : Fr (fun i => i = bk) w w2 := (hfa.mono (fun _ => False.elim)).grown hg2 (.inl rfl) hP1.noBox
  have c2 : w2.cell? ⟨bc, 0, none⟩ = some (.map (some bk)) := by
    have hbc := lt_of_block hc
    have : bc ≠ bk := fun e => h.noRow ⟨_, _, hc⟩ e.symm
    rw [hf2.cellOther' (a := ⟨bc, 0, none⟩) hbc this]
    exact c0
  have hl2 := look_at hP2 (a := a) (hrow.fr hf2 (fun e => h.noRow hrow e.symm)) (fun p hp => by
    rcases List.mem_append.1 hp with hp | hp
    · exact (hk p hp).fr hf2 (fun e => h.noRow (hk p hp) e.symm)
    · simp at hp; subst hp; exact hrow.fr hf2 (fun e => h.noRow hrow e.symm))
  rw [pfind_snoc _ _ _ hf] at hl2
  simp at hl2
  have hs3 : w2.heap.size = w.heap.size + 1 := by rw [hs2]; simp
  have HP2 := Lib.hid hP2
  have HN := Lib.hid hnew
  have HF2 := Lib.hid hf2
  have HS3 := Lib.hid hs3
  have c1 : (w.alloc (.cells #[.string ⟨f.bytes.toArray⟩, .int .i64 f.dur] 114)).cell? ⟨bc, 0, none⟩ = some (.map (some bk)) := (cell?_alloc_lt (lt_of_block hc)).trans c0
  clear h hc ha hk hf hrow hfa hP1 hP2 hg2 hs2 hnew hf2 hs3 hne hbk
  go_enter Tryz.func91, Tryz.ntmps91
  go_wp2_with fail
  go_ret
  exact ⟨rfl, HP2.out, HN.out, HF2.out, HS3.out⟩
end
end Go.Proofs.YtlhnjdoicolkkaaGreatDoor

/- Clone: the copies made so far, and the copy of a directory. -/
set_option maxRecDepth 100000
namespace Go.Proofs.YtlhnjdoicolkkaaGreatDoor
open Go.RowKit Go.Dsk Go.Maps Go.WideMaps
set_option maxHeartbeats 1000000

theorem pfind_some {L : List (Nat × Nat)} {a b : Nat} (h : pfind L a = some b) : (a, b) ∈ L := by
  unfold pfind at h
  cases hf : L.find? (fun p => p.1 == a) with
  | none => rw [hf] at h; cases h
  | some p =>
    rw [hf] at h
    have hm := List.mem_of_find?_eq_some hf
    have hp := List.find?_some hf
    simp only [Option.map_some, Option.some.injEq] at h
    obtain ⟨x, y⟩ := p
    simp at hp h
    rw [← hp, ← h]
    exact hm
theorem pfind_none {L : List (Nat × Nat)} {a : Nat} (h : pfind L a = none) : ∀ p ∈ L, p.1 ≠ a := by
  unfold pfind at h
  simp only [Option.map_eq_none_iff, List.find?_eq_none] at h
  intro p hp
  simpa using h p hp
theorem pfind_loc {loc : Nat → Nat} {n : Nat} (inj : ∀ i j, i < n → j < n → loc i = loc j → i = j) {k : Nat} (hk : k < n) : ∀ (L : List (Nat × Nat)), (∀ p ∈ L, p.1 < n) → pfind (L.map fun p => (loc p.1, p.2)) (loc k) = pfind L k
  | [], _ => rfl
  | p :: L, h => by
    have ih := pfind_loc inj hk L (fun q hq => h q (by simp [hq]))
    unfold pfind at ih ⊢
    rw [List.map_cons, List.find?_cons, List.find?_cons]
    by_cases e : p.1 = k
    · simp [e]
    · have e2 : (loc p.1 == loc k) = false := by simpa using fun he => e (inj _ _ (h p (by simp)) hk he)
      have e3 : (p.1 == k) = false := by simpa using e
      rw [e2, e3]
      exact ih
theorem pfind_pre {L M : List (Nat × Nat)} {a b : Nat} (hp : L <+: M) (h : pfind L a = some b) : pfind M a = some b := by
  obtain ⟨t, rfl⟩ := hp
  unfold pfind at h ⊢
  rw [List.find?_append]
  cases hf : L.find? (fun p => p.1 == a) with
  | none => rw [hf] at h; cases h
  | some p => rw [hf] at h; exact h

/-- The copies that have been made: L says of each file's number which block its copy lies in. -/
structure Cop (loc : Nat → Nat) (fs : List Fl) (B : Nat) (w : World) (bk bc : Nat) (L : List (Nat × Nat)) : Prop where
  map : PAt w bk (L.map fun p => (loc p.1, p.2))
  hc : w.heap[bc]? = some (.cells #[.map (some bk)] 119 (0, 0))
  idx : ∀ p ∈ L, p.1 < fs.length
  nd : (L.map (·.1)).Nodup
  new : ∀ p ∈ L, B ≤ p.2 ∧ FileAt w p.2 (fs.getD p.1 ⟨[], 0⟩)
  nb : (L.map (·.2)).Nodup
  old : ∀ k, k < fs.length → loc k < B ∧ FileAt w (loc k) (fs.getD k ⟨[], 0⟩)
  inj : ∀ i j, i < fs.length → j < fs.length → loc i = loc j → i = j
  kge : B ≤ bk
  cge : B ≤ bc
section
variable {loc : Nat → Nat} {fs : List Fl} {B : Nat} {w : World} {bk bc : Nat} {L : List (Nat × Nat)}
theorem FileAt.isRow {w : World} {b : Nat} {f : Fl} (h : FileAt w b f) : IsRow w b := ⟨_, _, h⟩
theorem Cop.rows (h : Cop loc fs B w bk bc L) : ∀ p ∈ L.map (fun p => (loc p.1, p.2)), IsRow w p.1 := by
  intro p hp
  obtain ⟨x, hx, rfl⟩ := List.mem_map.1 hp
  exact (h.old _ (h.idx x hx)).2.isRow
/-- What lies outside turns. -/
theorem Cop.keep (h : Cop loc fs B w bk bc L) {S : Nat → Prop} {w' : World} (hf : Fr S w w') (hk : ¬ S bk) (hc : ¬ S bc) (hn : ∀ p ∈ L, ¬ S p.2) (ho : ∀ k, k < fs.length → ¬ S (loc k)) : Cop loc fs B w' bk bc L :=
  ⟨h.map.same (hf.block _ h.map.lt (.inl hk)), hf.same hc h.hc, h.idx, h.nd, fun p hp => ⟨(h.new p hp).1, hf.same (hn p hp) (h.new p hp).2⟩, h.nb, fun k hk => ⟨(h.old k hk).1, hf.same (ho k hk) (h.old k hk).2⟩, h.inj, h.kge, h.cge⟩
theorem copied_cop (h : Cop loc fs B w bk bc L) {k : Nat} (hk : k < fs.length) :
    Calls Tryz.prog 91 #[.pointer (some ⟨loc k, 0, none⟩), .pointer (some ⟨bc, 0, none⟩)] w fun e w' => ∃ L' b, e = .returned (.pointer (some ⟨b, 0, none⟩)) ∧ pfind L' k = some b ∧ L <+: L' ∧ Cop loc fs B w' bk bc L' ∧ Fr (fun i => i = bk) w w' := by
  have hpl := pfind_loc h.inj hk L h.idx
  cases hf : pfind L k with
  | some b =>
    rw [hf] at hpl
    refine (copied_old h.map h.hc (h.old k hk).2.isRow h.rows hpl).mono ?_
    rintro e w' ⟨rfl, rfl⟩
    exact ⟨L, b, rfl, hf, List.prefix_refl _, h, Fr.refl _ _⟩
  | none =>
    rw [hf] at hpl
    refine (copied_new h.map h.hc (h.old k hk).2 h.rows hpl).mono ?_
    rintro e w' ⟨rfl, h1, h2, h3, h4⟩
    have hbk := h.map.lt
    have hbc := lt_of_block h.hc
    refine ⟨L ++ [(k, w.heap.size)], w.heap.size, rfl, pfind_snoc _ _ _ hf, List.prefix_append _ _, ?_, h3⟩
    have hne : bc ≠ bk := fun e => h.map.noRow ⟨_, _, h.hc⟩ e.symm
    refine ⟨by simpa using h1, h3.same hne h.hc, ?_, ?_, ?_, ?_, fun j hj => ⟨(h.old j hj).1, h3.same (fun e => h.map.noRow (h.old j hj).2.isRow e.symm) (h.old j hj).2⟩, h.inj, h.kge, h.cge⟩
    · intro p hp
      rcases List.mem_append.1 hp with hp | hp
      · exact h.idx p hp
      · simp at hp; subst hp; exact hk
    · rw [List.map_append, List.nodup_append]
      refine ⟨h.nd, by simp, fun a ha b hb => ?_⟩
      simp at hb
      subst hb
      obtain ⟨x, hx, rfl⟩ := List.mem_map.1 ha
      exact pfind_none hf x hx
    · intro p hp
      rcases List.mem_append.1 hp with hp | hp
      · exact ⟨(h.new p hp).1, h3.same (fun e => h.map.noRow (h.new p hp).2.isRow e.symm) (h.new p hp).2⟩
      · simp at hp
        subst hp
        exact ⟨by have := h.kge; simp only; omega, h2⟩
    · rw [List.map_append, List.nodup_append]
      refine ⟨h.nb, by simp, fun a ha b hb => ?_⟩
      simp at hb
      subst hb
      obtain ⟨x, hx, rfl⟩ := List.mem_map.1 ha
      have := lt_of_block (h.new x hx).2
      omega
end

/-- Where the copies lie. -/
def newloc (L : List (Nat × Nat)) (k : Nat) : Nat := (pfind L k).getD 0
theorem newloc_of {L : List (Nat × Nat)} {k b : Nat} (h : pfind L k = some b) : newloc L k = b := by unfold newloc; rw [h]; rfl
/-- The names that have come. -/
def came (l : Dir) (left : Lit → Bool) : Dir := l.filter fun p => !left (.string p.1)
theorem came_none {l : Dir} {left : Lit → Bool} (h : ∀ p ∈ l, left (.string p.1) = true) : came l left = [] := by
  unfold came; rw [List.filter_eq_nil_iff]; intro p hp; simp [h p hp]
theorem came_all {l : Dir} {left : Lit → Bool} (h : ∀ kl, left kl = false) : came l left = l := by
  unfold came; rw [List.filter_eq_self]; intro p hp; simp [h]
theorem came_step {left : Lit → Bool} {nm : Bs} (hn : left (.string nm) = true) : ∀ {l : Dir} {k : Nat}, Sorted l → find l nm = some k → came l (fun z => left z && !z.sameKey (.string nm)) = withOne (came l left) (nm, k)
  | [], _, _, h => by cases h
  | p :: r, k, hs, h => by
    obtain ⟨h1, h2⟩ := List.pairwise_cons.1 hs
    have hwo : ∀ q ∈ came (p :: r) left, q.1 ≠ nm := by
      intro q hq
      unfold came at hq
      have := (List.mem_filter.1 hq).2
      rintro rfl
      simp [hn] at this
    have hw : withOne (came (p :: r) left) (nm, k) = ins (nm, k) (came (p :: r) left) := by
      unfold withOne
      congr 1
      unfold without
      rw [List.filter_eq_self]
      intro q hq
      simpa using hwo q hq
    rw [hw]
    have step (q : Bs × Nat) (f : Lit → Bool) : came (q :: r) f = (if f (.string q.1) then came r f else q :: came r f) := by
      unfold came
      rw [List.filter_cons]
      cases f (.string q.1) <;> simp
    rw [step, step]
    by_cases hp : p.1 = nm
    · have hk : p.2 = k := by simpa [find, hp] using h
      have hr : came r (fun z => left z && !z.sameKey (.string nm)) = came r left := by
        unfold came
        apply List.filter_congr
        intro q hq
        have : q.1 ≠ nm := by rw [← hp]; exact (bytesBefore_ne (h1 q hq)).symm
        have e : Lit.sameKey (.string q.1) (.string nm) = false := by simpa [Lit.sameKey] using this
        simp [e]
      have e : Lit.sameKey (.string p.1) (.string nm) = true := by simp [Lit.sameKey, hp]
      rw [hr]
      have e1 : (left (.string p.1) && !Lit.sameKey (.string p.1) (.string nm)) = false := by simp [e]
      rw [e1, hp, hn]
      have hpe : p = (nm, k) := by rw [← hp, ← hk]
      rw [hpe]
      simp only [Bool.false_eq_true, if_false, if_true]
      have hall : ∀ q ∈ came r left, bytesBefore nm q.1 = true := fun q hq => by rw [← hp]; exact h1 q (List.mem_filter.1 hq).1
      cases hc : came r left with
      | nil => rfl
      | cons q t => unfold ins; rw [if_pos (hall q (by rw [hc]; simp))]
    · have hf : find r nm = some k := by
        have e : (p.1 == nm) = false := by simpa using hp
        simpa [find, List.find?_cons, e] using h
      have e : Lit.sameKey (.string p.1) (.string nm) = false := by simpa [Lit.sameKey] using hp
      have hbf : bytesBefore p.1 nm = true := h1 (nm, k) (find_mem hf)
      have e1 : (left (.string p.1) && !Lit.sameKey (.string p.1) (.string nm)) = left (.string p.1) := by simp [e]
      rw [e1, came_step hn h2 hf]
      have hwr : withOne (came r left) (nm, k) = ins (nm, k) (came r left) := by
        unfold withOne
        congr 1
        unfold without
        rw [List.filter_eq_self]
        intro q hq
        have := (List.mem_filter.1 hq).2
        have hne : q.1 ≠ nm := by rintro rfl; simp [hn] at this
        simpa using hne
      rw [hwr]
      cases hl : left (.string p.1) with
      | true => rfl
      | false =>
        simp only [Bool.false_eq_true, if_false]
        conv => rhs; unfold ins
        rw [if_neg (by rw [bytesBefore_asymm hbf]; simp)]

section
variable {loc : Nat → Nat} {fs : List Fl} {B : Nat} {w : World} {bk bc bf : Nat} {L : List (Nat × Nat)}
theorem allDir_cop (h : Cop loc fs B w bk bc L) (hbf : w.heap[bf]? = some (.cells #[.func (.func 91) #[] #[.pointer (some ⟨bc, 0, none⟩)]] 120 (0, 0))) {bn : Nat} {l : Dir} (hd : DirAt loc w bn l) (hg : Dsk.Good fs.length l) (hl : l.length ≤ 1073741824) (hbn : bn < B) :
    Calls Tryz.prog 92 #[.map (some bn), .pointer (some ⟨bf, 0, none⟩)] w fun e w' => ∃ L' nb, e = .returned (.map (some nb)) ∧ w.heap.size ≤ nb ∧ DirAt (newloc L') w' nb l ∧ (∀ p ∈ l, ∃ b, pfind L' p.2 = some b) ∧ L <+: L' ∧ Cop loc fs B w' bk bc L' ∧ Fr (fun i => i = bk) w w' := by
  have hmm := @run_makeMap Tryz.prog
  have c0 := cell_of_one hbf
  have hbfl := lt_of_block hbf
  have hbl := h.map.lt
  have hD0 : DirAt (newloc L) (w.alloc (.map #[] 0)) w.heap.size [] := World.ownsMap_made _ _ _ _
  have hd1 : DirAt loc (w.alloc (.map #[] 0)) bn l := hd.same (Below.heap_alloc _ _ _ hd.lt)
  have hf1 : Fr (fun _ => False) w (w.alloc (.map #[] 0)) := (Fr.refl _ w).alloc _
  have hC1 := h.keep hf1 id id (fun _ _ => id) (fun _ _ => id)
  have hB : B ≤ w.heap.size := by have := h.kge; omega
  have HD0 := Lib.hid hD0
  have HC1 := Lib.hid hC1
  have HF1 := Lib.hid hf1
  have HBF := Lib.hid hbf
  have hbl := h.map.lt
  clear h hd hD0 hC1 hf1 hbf c0
  go_enter Tryz.func92, Tryz.ntmps92
  go_wp2_with (first
    | (at_range; refine wpList_dir_range _ rfl _ rfl loc bn _ hd1 rfl ?_; intro w0 hrg0 hg0 hs0)
    | go_in)
  have hne0 : ∀ i, i < (w.alloc (.map #[] 0)).heap.size → w0.heap[i]? = (w.alloc (.map #[] 0)).heap[i]? := fun i hi => hg0.block i hi (by simp)
  have hfr0 : Fr (fun _ => False) (w.alloc (.map #[] 0)) w0 := ⟨hg0.os, hg0.tape, hg0.output, hg0.size, fun i hi _ => hne0 i hi⟩
  have hbe := hrg0
  go_frame
  have hrr : (w.alloc (.map #[] 0)).heap.size = w.heap.size + 1 := by simp
  rw [hrr]
  have HRR := Lib.hid hrr
  clear hrr
  go_loopw [5, 6] (fun _ _ wr => ∃ left cnt L', wr.ranges Tryz.prog 9 ptrR bn (w.heap.size + 1) l.length (dirD loc l) left cnt ∧ DirAt (newloc L') wr w.heap.size (came l left) ∧ (∀ p ∈ came l left, ∃ b, pfind L' p.2 = some b) ∧ L <+: L' ∧ Cop loc fs B wr bk bc L' ∧ Fr (fun i => i = bk) w wr) (fun _ _ wr => wr.rangeLeft bn (w.heap.size + 1))
  case atStart =>
    refine ⟨_, _, L, by rw [← HRR.out]; exact hrg0, ?_, ?_, List.prefix_refl _, HC1.out.keep hfr0 id id (fun _ _ => id) (fun _ _ => id), (HF1.out.trans hfr0).mono (fun _ => False.elim)⟩
    · rw [came_none]
      · exact HD0.out.same (hne0 _ (by simp))
      · intro p hp
        rw [dirD_has]
        cases hf : find l p.1 with
        | none => exact absurd rfl (find_none hf p hp)
        | some _ => rfl
    · intro p hp
      rw [came_none] at hp
      · cases hp
      · intro p hp
        rw [dirD_has]
        cases hf : find l p.1 with
        | none => exact absurd rfl (find_none hf p hp)
        | some _ => rfl
  case round =>
    obtain ⟨left, cnt, L1, hrg, hDL, hpf, hpre, hC, hfr⟩ := hrel
    clear hrg0 hg0 hs0 hbe hd1 hne0 hfr0
    have HDL := Lib.hid hDL
    have HPF := Lib.hid hpf
    have HPR := Lib.hid hpre
    have HC := Lib.hid hC
    have HFR := Lib.hid hfr
    clear hDL hpf hpre hC hfr
    go_wp2_with (first
      | (at_next; refine wpList_dir_next _ rfl _ rfl loc bn (w.heap.size + 1) _ _ left cnt rfl hrg ?_ ?_)
      | go_in)
    · intro hl0
      have e := came_all (l := l) hl0
      have E := Lib.hid e
      clear e hl0 hrg
      go_wp2_with fail
      go_ret
      have h1 := HDL.out
      have h2 := HPF.out
      rw [E.out] at h1 h2
      exact ⟨L1, w.heap.size, rfl, Nat.le_refl _, h1, h2, HPR.out, HC.out, HFR.out⟩
    · intro nm k w1 cnt1 hf hlk hnl hrg1 hlt hg1 hs1 hen
      have hk := (find_good hg hf).2
      obtain ⟨r, hr⟩ : ∃ r, r = w.heap.size + 1 := ⟨_, rfl⟩
      rw [← hr] at hrg hrg1 hg1
      have hrn : r = w.heap.size + 1 := hr
      have hrb : ¬ IsBox wr r := by
        rintro ⟨s, hs⟩
        obtain ⟨es, clock, since, seen, c0, _, _, _, _, hh, _⟩ := hrg
        rw [hh] at hs; cases hs
      have hfr1 : Fr (fun i => i = r) wr w1 := (Fr.refl (fun i => i = r) wr).grown hg1 (.inl rfl) hrb
      have hnr : ∀ b, IsRow wr b → b ≠ r := by
        rintro b ⟨cb, tb, h⟩ rfl
        obtain ⟨es, clock, since, seen, c0, _, _, _, _, hh, _⟩ := hrg
        rw [hh] at h; cases h
      have hC1 := HC.out.keep hfr1 (fun e => by omega) (hnr _ ⟨_, _, HC.out.hc⟩) (fun p hp => hnr _ (HC.out.new p hp).2.isRow) (fun j hj e => by have := (HC.out.old j hj).1; omega)
      have hbfr : IsRow w bf := ⟨_, _, HBF.out⟩
      have hbfk : bf ≠ bk := by
        intro e
        have := HC.out.map
        have h2 := HFR.out.size
        obtain ⟨es, clock, hb1, _⟩ := HC1.out.map
        rw [Below.heap_alloc _ _ _ hbl, ← e, HBF.out] at hb1
        cases hb1
      have hb1 := hfr1.same (i := bf) (by omega) (HFR.out.same hbfk HBF.out)
      have c0 := cell_of_one hb1
      have hD1 : DirAt (newloc L1) w1 w.heap.size (came l left) := HDL.out.same (hg1.block _ (by have := HFR.out.size; have := hrg.lt; omega) (by simp; omega))
      have hfw1 : Fr (fun i => i = bk) w w1 := HFR.out.grown hg1 (.inr (by omega)) hrb
      have hcl : (came l left).length < maxLen := by
        have : (came l left).length ≤ l.length := List.length_filter_le _ _
        unfold maxLen
        omega
      have HK := Lib.hid hk
      have HF := Lib.hid hf
      have HLK := Lib.hid hlk
      have HC2 := Lib.hid hC1
      have HD1 := Lib.hid hD1
      have HFW := Lib.hid hfw1
      have HRG := Lib.hid hrg1
      have HCL := Lib.hid hcl
      have HRN := Lib.hid hrn
      have HR := Lib.hid hr
      have HNL := Lib.hid hnl
      have HLT := Lib.hid hlt
      have HLE := Lib.hid hrg.left_eq
      have hnrg : ∀ i, w1.heap[r]? ≠ some (.map #[] i) := fun i e => by
        obtain ⟨es, clock, since, seen, c0, _, _, _, _, hh, _⟩ := hrg1
        rw [hh] at e; cases e
      clear hk hf hlk hC1 hD1 hfw1 hrg1 hcl hrn hr hg1 hrb hfr1 hnr hbfr hb1 hs1 hrg hlt hnrg hnl
      go_wp2_with (first
        | (go_at_call 91; refine (copied_cop HC2.out HK.out).mono ?_; rintro e w2 ⟨L2, b2, rfl, hp2, hpre2, hC3, hf2⟩; have HP2 := Lib.hid hp2; have HPR2 := Lib.hid hpre2; have HC3 := Lib.hid hC3; have HF2 := Lib.hid hf2; clear hp2 hpre2 hC3 hf2)
        | (at_mapUpdate; refine wpList_dir_set _ rfl _ _ _ rfl (newloc L2) w.heap.size (came l left) ?d1 HCL.out ⟨nm.toArray⟩ (by rw [size_mk]; exact HNL.out) k rfl rfl ?hv ?_))
      case hv => rw [newloc_of HP2.out]; rfl
      case d1 =>
        refine (HD1.out.same (HF2.out.block _ (by have := HRG.out.lt; have := HRN.out; omega) (.inl (by omega)))).congr (fun p hp => ?_)
        obtain ⟨b, hb⟩ := HPF.out p hp
        rw [newloc_of hb, newloc_of (pfind_pre HPR2.out hb)]
      intro w3 hD3 hg3 hs3
      have HD3 := Lib.hid hD3
      have HG3 := Lib.hid hg3
      have HS3 := Lib.hid hs3
      clear hD3 hg3 hs3
      go_wp2_with fail
      have hrl := HRG.out.lt
      have hrn2 := HRN.out
      have hf2b := HF2.out.size
      have hwn : ∀ b, IsRow w2 b → b ≠ w.heap.size := by
        rintro b ⟨cb, tb, hb⟩ rfl
        have hd := (HD1.out.same (HF2.out.block _ (by omega) (.inl (by omega))) : DirAt (newloc L1) w2 w.heap.size (came l left))
        exact hd.noRow hb rfl
      have hwb : ¬ IsBox w2 w.heap.size := by
        rintro ⟨s, hs⟩
        exact hwn _ ⟨_, _, hs⟩ rfl
      have hf3 : Fr (fun i => i = w.heap.size) w2 w3 := (Fr.refl (fun i => i = w.heap.size) w2).grown HG3.out (.inl rfl) hwb
      have hg2 : w1.grownBy w2 (some bk) := ⟨HF2.out.os, HF2.out.tape, HF2.out.output, HF2.out.size, fun j hj hn => HF2.out.block j hj (.inl (fun e => hn (by rw [e])))⟩
      have hkb := HC2.out.kge
      have hbnw : bn < w.heap.size := by omega
      have hrg3 := (HRG.out.kept hg2 (by simp; omega) (by simp; omega)).kept HG3.out (by simp; omega) (by simp; omega)
      go_roundw
      case rel =>
        refine ⟨fun z => left z && !z.sameKey (.string nm), cnt1, L2, ?_, ?_, ?_, HPR.out.trans HPR2.out, ?_, ?_⟩
        · rw [← HR.out]
          exact hrg3
        · rw [came_step HLK.out hg.1 HF.out]
          exact HD3.out
        · intro p hp
          rw [came_step HLK.out hg.1 HF.out] at hp
          rcases mem_ins.1 hp with rfl | hp
          · exact ⟨b2, HP2.out⟩
          · obtain ⟨b, hb⟩ := HPF.out p (mem_without.1 hp).1
            exact ⟨b, pfind_pre HPR2.out hb⟩
        · exact HC3.out.keep hf3 (fun e => by omega) (hwn _ ⟨_, _, HC3.out.hc⟩) (fun p hp => hwn _ (HC3.out.new p hp).2.isRow) (fun j hj e => by have := (HC3.out.old j hj).1; omega)
        · exact (HFW.out.trans HF2.out).grown HG3.out (.inr (Nat.le_refl _)) hwb
      case measure =>
        rw [← HR.out, hrg3.left_eq, HLE.out]
        exact HLT.out
end
end Go.Proofs.YtlhnjdoicolkkaaGreatDoor
