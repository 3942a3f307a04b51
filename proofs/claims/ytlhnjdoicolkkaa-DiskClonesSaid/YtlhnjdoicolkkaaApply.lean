/- The changes of a directory: what makes one, and what it does when it is carried out. -/
import Derived.Test.YtlhnjdoicolkkaaUsed
import Derived.Laws.EntriesVeiled
import Derived.Deep.AppendLies
import Derived.Deep.RegionLaw
set_option maxRecDepth 100000
namespace Go.Proofs.Ytlhnjdoicolkkaa
open Go.RowKit Go.Dsk Go.Maps Go.WideMaps
set_option maxHeartbeats 400000

theorem toList_mk (l : Bs) : (⟨l.toArray⟩ : ByteArray).data.toList = l := rfl
theorem size_mk (l : Bs) : (⟨l.toArray⟩ : ByteArray).size = l.length := by simp [ByteArray.size]
theorem mk_toList (s : ByteArray) : (⟨s.data.toList.toArray⟩ : ByteArray) = s := by simp

theorem makes (P : Program) (fn : Fn) (first cap : Array Value) (w : World) : (Instr.makeFunc fn first cap).run P w = .ok (.func fn first cap) w := rfl

/-- d[name] = f -/
theorem setF_any (loc : Nat → Nat) (b bn k : Nat) (l : Dir) (s : ByteArray) (hs : s.size ≤ maxLen) (hl : l.length < maxLen) (w : World) (hb : w.cell? ⟨b, 0, none⟩ = some (.string s)) (hd : DirAt loc w bn l) :
    Calls Try.prog 60 #[.map (some bn), .pointer (some ⟨loc k, 0, none⟩), .pointer (some ⟨b, 0, none⟩)] w fun e w' => e = .returned (.tuple #[]) ∧ DirAt loc w' bn (withOne l (s.data.toList, k)) ∧ w.grownBy w' (some bn) ∧ w'.heap.size = w.heap.size := by
  go_enter Try.func60, Try.ntmps60
  go_wp2_with (first
    | (at_mapUpdate; refine wpList_dir_set _ rfl _ _ _ rfl loc bn l hd hl s hs k rfl rfl rfl ?_; intro w1 hd1 hg1 hs1)
    | go_in)
  go_end0
  exact ⟨rfl, hd1, hg1, hs1⟩

/-- delete(d, name) -/
theorem removeF_any (loc : Nat → Nat) (b bn : Nat) (l : Dir) (s : ByteArray) (hs : s.size ≤ maxLen) (w : World) (hb : w.cell? ⟨b, 0, none⟩ = some (.string s)) (hd : DirAt loc w bn l) :
    Calls Try.prog 68 #[.map (some bn), .pointer none, .pointer (some ⟨b, 0, none⟩)] w fun e w' => e = .returned (.tuple #[]) ∧ DirAt loc w' bn (without l s.data.toList) ∧ w.grownBy w' (some bn) ∧ w'.heap.size = w.heap.size := by
  go_enter Try.func68, Try.ntmps68
  go_wp2_with (first
    | (at_delete; refine wpList_dir_del _ rfl _ _ rfl loc bn l hd s hs rfl rfl ?_; intro w1 hd1 hg1 hs1)
    | go_in)
  go_end0
  exact ⟨rfl, hd1, hg1, hs1⟩

/-- f := d[from]; delete(d, from); d[to] = f -/
theorem renameF_any (loc : Nat → Nat) (b c bn k : Nat) (l : Dir) (s t : ByteArray) (hs : s.size ≤ maxLen) (ht : t.size ≤ maxLen) (hl : l.length < maxLen) (hf : find l s.data.toList = some k) (w : World) (hb : w.heap[b]? = some (.cells #[.string s] 9 (0, 0))) (hc : w.heap[c]? = some (.cells #[.string t] 9 (0, 0))) (hd : DirAt loc w bn l) :
    Calls Try.prog 65 #[.map (some bn), .pointer none, .pointer (some ⟨b, 0, none⟩), .pointer (some ⟨c, 0, none⟩)] w fun e w' => e = .returned (.tuple #[]) ∧ DirAt loc w' bn (withOne (without l s.data.toList) (t.data.toList, k)) ∧ w.grownBy w' (some bn) ∧ w'.heap.size = w.heap.size := by
  have hb0 := cell_of_one hb
  have hc0 := cell_of_one hc
  have HC := Lib.hid hc
  have hcn : c ≠ bn := (hd.noRow hc).symm
  clear hb hc
  have hl' : (without l s.data.toList).length < maxLen := Nat.lt_of_le_of_lt (length_without _ _) hl
  go_enter Try.func65, Try.ntmps65
  go_wp2_with (first
    | (at_lookup; refine wpList_dir_at _ rfl _ _ rfl loc bn l hd s hs k hf rfl rfl ?_)
    | (at_delete; refine wpList_dir_del _ rfl _ _ rfl loc bn l hd s hs rfl rfl ?_; intro w1 hd1 hg1 hs1; have hc1 := cell_of_one ((hg1.block c (lt_of_block HC.out) (by simpa using hcn)).trans HC.out))
    | (at_mapUpdate; refine wpList_dir_set _ rfl _ _ _ rfl loc bn _ (by assumption) hl' t ht k rfl rfl rfl ?_; intro w2 hd2 hg2 hs2)
    | go_in)
  go_end0
  exact ⟨rfl, hd2, ⟨hg2.os.trans hg1.os, hg2.tape.trans hg1.tape, hg2.output.trans hg1.output, Nat.le_trans hg1.size hg2.size, fun i hi hn => (hg2.block i (by omega) hn).trans (hg1.block i hi hn)⟩, by omega⟩

theorem set_any (s : ByteArray) (p : Nat) (w : World) : Calls Try.prog 42 #[.string s, .pointer (some ⟨p, 0, none⟩)] w fun e w' =>
    e = .returned (.agg #[.pointer (some ⟨p, 0, none⟩), .func (.func 60) #[] #[.pointer (some ⟨w.heap.size, 0, none⟩)]]) ∧ w'.heap[w.heap.size]? = some (.cells #[.string s] 9 (0, 0)) ∧ Below w.heap.size w w' := by
  have hmf := makes Try.prog
  go_enter Try.func42, Try.ntmps42
  go_wp2
  refine bodyPost_ret (v := .agg #[.pointer (some ⟨p, 0, none⟩), .func (.func 60) #[] #[.pointer (some ⟨w.heap.size, 0, none⟩)]]) (by simp [results, Try.results42, go_sem]) rfl ⟨rfl, ?_, ((Below.refl _ _).alloc (Nat.le_refl _) _).alloc (by simp) _⟩
  rw [Below.heap_alloc _ _ _ (by simp), heap_alloc_new]

theorem remove_any (s : ByteArray) (w : World) : Calls Try.prog 57 #[.string s] w fun e w' =>
    e = .returned (.agg #[.pointer none, .func (.func 68) #[] #[.pointer (some ⟨w.heap.size, 0, none⟩)]]) ∧ w'.heap[w.heap.size]? = some (.cells #[.string s] 9 (0, 0)) ∧ Below w.heap.size w w' := by
  have hmf := makes Try.prog
  go_enter Try.func57, Try.ntmps57
  go_wp2
  refine bodyPost_ret (v := .agg #[.pointer none, .func (.func 68) #[] #[.pointer (some ⟨w.heap.size, 0, none⟩)]]) (by simp [results, Try.results57, go_sem]) rfl ⟨rfl, ?_, ((Below.refl _ _).alloc (Nat.le_refl _) _).alloc (by simp) _⟩
  rw [Below.heap_alloc _ _ _ (by simp), heap_alloc_new]

theorem rename_any (s t : ByteArray) (w : World) : Calls Try.prog 49 #[.string s, .string t] w fun e w' =>
    e = .returned (.agg #[.pointer none, .func (.func 65) #[] #[.pointer (some ⟨w.heap.size, 0, none⟩), .pointer (some ⟨w.heap.size + 1, 0, none⟩)]]) ∧ w'.heap[w.heap.size]? = some (.cells #[.string s] 9 (0, 0)) ∧ w'.heap[w.heap.size + 1]? = some (.cells #[.string t] 9 (0, 0)) ∧ Below w.heap.size w w' := by
  have hmf := makes Try.prog
  go_enter Try.func49, Try.ntmps49
  go_wp2
  refine bodyPost_ret (v := .agg #[.pointer none, .func (.func 65) #[] #[.pointer (some ⟨w.heap.size, 0, none⟩), .pointer (some ⟨w.heap.size + 1, 0, none⟩)]]) (by simp [results, Try.results49, go_sem]) rfl ⟨rfl, ?_, ?_, (((Below.refl _ _).alloc (Nat.le_refl _) _).alloc (by simp) _).alloc (by simp; omega) _⟩
  · rw [Below.heap_alloc _ _ _ (by simp; omega), Below.heap_alloc _ _ _ (by simp), heap_alloc_new]
  · rw [Below.heap_alloc _ _ _ (by simp)]
    have := heap_alloc_new (w.alloc (.cells #[.string s] 9)) (.cells #[.string t] 9)
    simpa using this
end Go.Proofs.Ytlhnjdoicolkkaa
