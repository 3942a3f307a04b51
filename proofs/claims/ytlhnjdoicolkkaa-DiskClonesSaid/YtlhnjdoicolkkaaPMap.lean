/- A map whose keys are pointers: lookup and store, upon its entries as they are. -/
import Derived.Test.YtlhnjdoicolkkaaApi
import Derived.LaidEqlPtr
set_option maxRecDepth 100000
namespace Go.Proofs.Ytlhnjdoicolkkaa
open Go.RowKit Go.Dsk Go.Maps Go.WideMaps
set_option maxHeartbeats 400000

theorem Fr.cellOther' {S : Nat → Prop} {w w' : World} (h : Fr S w w') {a : Addr} (hl : a.block < w.heap.size) (hs : ¬ S a.block) : w'.cell? a = w.cell? a := World.cell?_of_block (h.block _ hl (.inl hs))
def ptr (b : Nat) : Value := .pointer (some ⟨b, 0, none⟩)
/-- Block b is a map from pointers to pointers: its entries are L, in this order. -/
def PAt (w : World) (b : Nat) (L : List (Nat × Nat)) : Prop :=
  ∃ (es : Array MapEntry) (clock : Nat), w.heap[b]? = some (.map es clock) ∧ es.toList.map (fun e => (e.key, e.val)) = L.map fun p => (ptr p.1, ptr p.2)
def pfind (L : List (Nat × Nat)) (a : Nat) : Option Nat := (L.find? fun p => p.1 == a).map (·.2)

section
variable {P : Program} (w : World) {kt te : TypeId} {j : TypeInfo} {d : TypeDesc}
theorem equal_ptr (hp : P.underlying kt = some (.pointer te)) (hte : P.info? te = some j) (hsz : j.size ≠ 0) {a b : Nat} {ca cb : Array Value} {ta tb : TypeId}
    (ha : w.heap[a]? = some (.cells ca ta (0, 0))) (hb : w.heap[b]? = some (.cells cb tb (0, 0))) : (Op.equal kt (ptr a) (ptr b)).run P w = .ok (a == b) w := by
  by_cases h : a = b
  · subst h
    have h1 : ∀ d : Nat, (Op.equalIn (d + 1) kt (ptr a) (ptr a)).run P w = .ok true w := fun d => by
      simp [ptr, Op.equalIn, run_underlying hp, sizeOf, typeInfo, hte, run_sameAddr_same]
    simp [Op.equal, Op.maxDepth, h1 9999]
  · have h1 : ∀ d : Nat, (Op.equalIn (d + 1) kt (ptr a) (ptr b)).run P w = .ok false w := fun d => by
      have hne : (⟨a, 0, none⟩ : Addr) ≠ ⟨b, 0, none⟩ := fun e => h (congrArg Addr.block e)
      simp [ptr, Op.equalIn, run_underlying hp, sizeOf, typeInfo, hte, hsz, run_sameAddr_other w hne ha hb]
    rw [show (a == b) = false by simpa using h]
    simp [Op.equal, Op.maxDepth, h1 9999]
/-- The key that is nil. -/
theorem equal_nil (hp : P.underlying kt = some (.pointer te)) (b : Nat) : (Op.equal kt (.pointer none) (ptr b)).run P w = .ok false w := by
  have h1 : ∀ d : Nat, (Op.equalIn (d + 1) kt (.pointer none) (ptr b)).run P w = .ok false w := fun d => by
    simp [ptr, Op.equalIn, run_underlying hp]
  simp [Op.equal, Op.maxDepth, h1 9999]
theorem findAsking_ptr (hp : P.underlying kt = some (.pointer te)) (hte : P.info? te = some j) (hsz : j.size ≠ 0) {a : Nat} {ca : Array Value} {ta : TypeId} (ha : w.heap[a]? = some (.cells ca ta (0, 0))) :
    ∀ (es : List MapEntry) (L : List (Nat × Nat)) (i : Nat), es.map (fun e => (e.key, e.val)) = L.map (fun p => (ptr p.1, ptr p.2)) → (∀ p ∈ L, ∃ cb tb, w.heap[p.1]? = some (.cells cb tb (0, 0))) →
      ((Instr.findAsking kt (ptr a) es i).run P w = .ok none w ∧ pfind L a = none) ∨ ∃ k b, (Instr.findAsking kt (ptr a) es i).run P w = .ok (some (k, ptr b)) w ∧ pfind L a = some b
  | [], [], i, _, _ => .inl ⟨rfl, rfl⟩
  | [], _ :: _, _, h, _ => by simp at h
  | _ :: _, [], _, h, _ => by simp at h
  | e :: es, p :: L, i, h, hb => by
    simp only [List.map_cons, List.cons.injEq, Prod.mk.injEq] at h
    obtain ⟨⟨h1, h2⟩, h3⟩ := h
    obtain ⟨cb, tb, hpb⟩ := hb p (by simp)
    have heq := equal_ptr w hp hte hsz ha hpb
    by_cases he : a = p.1
    · right
      have hbt : (a == p.1) = true := by simp [he]
      rw [hbt] at heq
      refine ⟨i, p.2, ?_, by simp [pfind, he]⟩
      unfold Instr.findAsking
      rw [h1]
      simp [heq, h2]
    · have hbt : (a == p.1) = false := by simpa using he
      rw [hbt] at heq
      have ih := findAsking_ptr hp hte hsz ha es L (i + 1) h3 (fun q hq => hb q (by simp [hq]))
      have hpf : pfind (p :: L) a = pfind L a := by
        unfold pfind
        rw [List.find?_cons]
        have : (p.1 == a) = false := by simpa using fun e => he e.symm
        rw [this]
      have hst : (Instr.findAsking kt (ptr a) (e :: es) i).run P w = (Instr.findAsking kt (ptr a) es (i + 1)).run P w := by
        conv => lhs; unfold Instr.findAsking
        rw [h1]
        simp [heq]
      rw [hst, hpf]
      exact ih
theorem findAsking_nil (hp : P.underlying kt = some (.pointer te)) : ∀ (es : List MapEntry) (L : List (Nat × Nat)) (i : Nat), es.map (fun e => (e.key, e.val)) = L.map (fun p => (ptr p.1, ptr p.2)) → (Instr.findAsking kt (.pointer none) es i).run P w = .ok none w
  | [], [], i, _ => rfl
  | [], _ :: _, _, h => by simp at h
  | _ :: _, [], _, h => by simp at h
  | e :: es, p :: L, i, h => by
    simp only [List.map_cons, List.cons.injEq, Prod.mk.injEq] at h
    obtain ⟨⟨h1, h2⟩, h3⟩ := h
    have ih := findAsking_nil hp es L (i + 1) h3
    unfold Instr.findAsking
    rw [h1]
    simp [equal_nil w hp, ih]
theorem findNow_ptr {a : Option Addr} (es : List MapEntry) (L : List (Nat × Nat)) (h : es.map (fun e => (e.key, e.val)) = L.map (fun p => (ptr p.1, ptr p.2))) : Instr.findNow (.pointer te) (.pointer a) es 0 = if L = [] then some none else none := by
  cases L with
  | nil =>
    have : es = [] := by simpa using h
    subst this
    rfl
  | cons p L =>
    cases es with
    | nil => simp at h
    | cons e es =>
      simp only [List.map_cons, List.cons.injEq, Prod.mk.injEq] at h
      simp [Instr.findNow, Instr.sameNow]
theorem findKey_ptr (hp : P.underlying kt = some (.pointer te)) (hte : P.info? te = some j) (hsz : j.size ≠ 0) {a : Nat} {ca : Array Value} {ta : TypeId} (ha : w.heap[a]? = some (.cells ca ta (0, 0)))
    (es : List MapEntry) (L : List (Nat × Nat)) (h : es.map (fun e => (e.key, e.val)) = L.map (fun p => (ptr p.1, ptr p.2))) (hb : ∀ p ∈ L, ∃ cb tb, w.heap[p.1]? = some (.cells cb tb (0, 0))) :
    ((Instr.findKey kt (ptr a) es).run P w = .ok none w ∧ pfind L a = none) ∨ ∃ k b, (Instr.findKey kt (ptr a) es).run P w = .ok (some (k, ptr b)) w ∧ pfind L a = some b := by
  have hn := findNow_ptr (te := te) (a := some ⟨a, 0, none⟩) es L h
  unfold Instr.findKey
  cases L with
  | nil =>
    rw [if_pos rfl] at hn
    left
    exact ⟨by simp [run_underlying hp, ptr, hn], rfl⟩
  | cons p L =>
    rw [if_neg (by simp)] at hn
    rcases findAsking_ptr w hp hte hsz ha es (p :: L) 0 h hb with ⟨h1, h2⟩ | ⟨k, b, h1, h2⟩
    · left
      refine ⟨?_, h2⟩
      unfold ptr at h1 ⊢
      simp [run_underlying hp, hn, h1]
    · right
      refine ⟨k, b, ?_, h2⟩
      unfold ptr at h1 ⊢
      simp [run_underlying hp, hn, h1]
theorem findKey_nil (hp : P.underlying kt = some (.pointer te)) (es : List MapEntry) (L : List (Nat × Nat)) (h : es.map (fun e => (e.key, e.val)) = L.map (fun p => (ptr p.1, ptr p.2))) : (Instr.findKey kt (.pointer none) es).run P w = .ok none w := by
  have hn := findNow_ptr (te := te) (a := none) es L h
  unfold Instr.findKey
  cases L with
  | nil =>
    rw [if_pos rfl] at hn
    simp [run_underlying hp, hn]
  | cons p L =>
    rw [if_neg (by simp)] at hn
    have h1 := findAsking_nil w hp es (p :: L) 0 h
    simp [run_underlying hp, hn, h1]
theorem checkKey_ptr (hp : P.underlying kt = some (.pointer te)) (em : Bool) (a : Option Addr) : (Instr.checkKey em 10000 kt (.pointer a)).run P w = .ok () w := by
  unfold Instr.checkKey
  simp [run_underlying hp]

/-- Lookup. -/
theorem lookup_ptr {t e : TypeId} (ht : P.underlying t = some (.map kt e)) (hp : P.underlying kt = some (.pointer te)) (hte : P.info? te = some j) (hsz : j.size ≠ 0) (hz : (zeroValue e).run P w = .ok (.pointer none) w) {b : Nat} {L : List (Nat × Nat)} (h : PAt w b L)
    {a : Nat} {ca : Array Value} {ta : TypeId} (ha : w.heap[a]? = some (.cells ca ta (0, 0))) (hb : ∀ p ∈ L, ∃ cb tb, w.heap[p.1]? = some (.cells cb tb (0, 0))) :
    (Instr.lookup t (.map (some b)) (ptr a) false).run P w = .ok (.pointer ((pfind L a).map fun b => ⟨b, 0, none⟩)) w := by
  obtain ⟨es, clock, h1, h2⟩ := h
  have hc := checkKey_ptr w hp es.isEmpty (some ⟨a, 0, none⟩)
  rcases findKey_ptr w hp hte hsz ha es.toList L h2 hb with ⟨h3, h4⟩ | ⟨k, b', h3, h4⟩
  · rw [h4]
    unfold ptr at h3 ⊢
    simp [Instr.lookup, run_underlying ht, MapKept.run_getObj_map h1, hc, h3, hz, Result.andThen]
  · rw [h4]
    unfold ptr at h3 ⊢
    simp [Instr.lookup, run_underlying ht, MapKept.run_getObj_map h1, hc, h3, Result.andThen]
theorem lookup_nilptr {t e : TypeId} (ht : P.underlying t = some (.map kt e)) (hp : P.underlying kt = some (.pointer te)) (hz : (zeroValue e).run P w = .ok (.pointer none) w) {b : Nat} {L : List (Nat × Nat)} (h : PAt w b L) :
    (Instr.lookup t (.map (some b)) (.pointer none) false).run P w = .ok (.pointer none) w := by
  obtain ⟨es, clock, h1, h2⟩ := h
  have hc := checkKey_ptr w hp es.isEmpty none
  have h3 := findKey_nil w hp es.toList L h2
  simp [Instr.lookup, run_underlying ht, MapKept.run_getObj_map h1, hc, h3, hz, Result.andThen]
/-- A store of a new key. -/
theorem update_ptr {t e : TypeId} (ht : P.underlying t = some (.map kt e)) (hp : P.underlying kt = some (.pointer te)) (hte : P.info? te = some j) (hsz : j.size ≠ 0) {b : Nat} {L : List (Nat × Nat)} (h : PAt w b L)
    {a c : Nat} {ca : Array Value} {ta : TypeId} (ha : w.heap[a]? = some (.cells ca ta (0, 0))) (hb : ∀ p ∈ L, ∃ cb tb, w.heap[p.1]? = some (.cells cb tb (0, 0))) (hn : pfind L a = none) :
    ∃ w', (Instr.mapUpdate t (.map (some b)) (ptr a) (ptr c)).run P w = .ok () w' ∧ PAt w' b (L ++ [(a, c)]) ∧ w.grownBy w' (some b) ∧ w'.heap.size = w.heap.size := by
  obtain ⟨es, clock, h1, h2⟩ := h
  have hc := checkKey_ptr w hp false (some ⟨a, 0, none⟩)
  rcases findKey_ptr w hp hte hsz ha es.toList L h2 hb with ⟨h3, h4⟩ | ⟨k, b', h3, h4⟩
  · refine ⟨ChangeMaps.setBlock w b (.map (es.push { key := ptr a, val := ptr c, born := clock }) (clock + 1)), ?_, ?_, ?_, ?_⟩
    · unfold ptr at h3 ⊢
      simp [Instr.mapUpdate, run_underlying ht, MapKept.run_getObj_map h1, hc, h3, MapKept.run_setObj_map _ h1, Result.andThen, ChangeMaps.setBlock]
    · exact ⟨_, _, ChangeMaps.heap_setBlock_same h1 _, by simp [h2]⟩
    · exact ⟨rfl, rfl, rfl, by simp [ChangeMaps.setBlock], fun i _ hi => ChangeMaps.heap_setBlock_other h1 _ (fun e => hi (by rw [e]))⟩
    · simp [ChangeMaps.setBlock]
  · rw [h4] at hn; cases hn
end
end Go.Proofs.Ytlhnjdoicolkkaa
