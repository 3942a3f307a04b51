/- The document's model: lists of entries: find, without. -/
import Derived.Test.YtlhnjdoicolkkaaInAt
import Derived.Test.YtlhnjdoicolkkaaActPure
set_option maxRecDepth 100000
namespace Go.Proofs.Ytlhnjdoicolkkaa
open Go.RowKit Go.Dsk Go.Maps Go.WideMaps
set_option maxHeartbeats 1000000

/-- The slice v can be read: n elements of 'size' cells, which are xs; its row is one of T. -/
def RowAt (T : Nat → Prop) (w : World) (v : Value) (size n : Nat) (xs : List Value) : Prop :=
  xs.length = n * size ∧ ∃ ao cp, v = .slice ao n cp ∧ n ≤ cp ∧ cp ≤ maxLen ∧ (ao = none → cp = 0) ∧ (0 < n → ∃ g, ao = some ⟨g, 0, none⟩ ∧ T g ∧ g < w.heap.size ∧ ∀ j, j < n * size → w.cell? ⟨g, j, none⟩ = some (xs.getD j undef))
theorem RowAt.mono {T T' : Nat → Prop} {w : World} {v : Value} {size n : Nat} {xs : List Value} (h : RowAt T w v size n xs) (ht : ∀ g, T g → T' g) : RowAt T' w v size n xs := by
  obtain ⟨h1, ao, cp, h2, h3, h4, h6, h5⟩ := h
  exact ⟨h1, ao, cp, h2, h3, h4, h6, fun h0 => by obtain ⟨g, e, ht', hr⟩ := h5 h0; exact ⟨g, e, ht g ht', hr⟩⟩
theorem RowAt.same {T : Nat → Prop} {w w' : World} {v : Value} {size n : Nat} {xs : List Value} (h : RowAt T w v size n xs) (hb : ∀ g, T g → g < w.heap.size → w'.heap[g]? = w.heap[g]?) (hs : w.heap.size ≤ w'.heap.size) : RowAt T w' v size n xs := by
  obtain ⟨h1, ao, cp, h2, h3, h4, h6, h5⟩ := h
  refine ⟨h1, ao, cp, h2, h3, h4, h6, fun h0 => ?_⟩
  obtain ⟨g, e, ht, hlt, hc⟩ := h5 h0
  exact ⟨g, e, ht, Nat.lt_of_lt_of_le hlt hs, fun j hj => (World.cell?_of_block (a := ⟨g, j, none⟩) (hb g ht hlt)).trans (hc j hj)⟩
theorem RowAt.below {T : Nat → Prop} {w w' : World} {v : Value} {size n : Nat} {xs : List Value} (h : RowAt T w v size n xs) (hw : Below w.heap.size w w') : RowAt T w' v size n xs :=
  h.same (fun g _ hg => hw.block g hg) hw.size
theorem row_nil (T : Nat → Prop) (w : World) (size : Nat) : RowAt T w (.slice none 0 0) size 0 [] := ⟨by simp, none, 0, rfl, Nat.le_refl _, by unfold maxLen; omega, fun _ => rfl, fun h => absurd h (by omega)⟩
/-- An own row can be read. -/
theorem row_own {w : World} {base : Nat} {e : TypeId} {size n : Nat} {v : Value} {xs : List Value} (h : w.ownsRow base e size v n xs) : RowAt (fun g => base ≤ g) w v size n xs := by
  obtain ⟨h1, h2⟩ := h
  rcases h2 with ⟨rfl, rfl⟩ | ⟨g, cap, cur, rfl, hg, hh, h3, h4, h5, h6⟩
  · exact ⟨h1, none, 0, rfl, by omega, by unfold maxLen; omega, fun _ => rfl, fun h => absurd h (by omega)⟩
  · refine ⟨h1, _, cap, rfl, h3, h4, fun e => by simp at e, fun h0 => ⟨g, rfl, hg, lt_of_block hh, fun j hj => ?_⟩⟩
    have e : cur[j]? = some (xs.getD j undef) := by
      have e1 : (cur.toList.take (n * size))[j]? = xs[j]? := by rw [h6]
      rw [List.getElem?_take_of_lt hj] at e1
      rw [← Array.getElem?_toList, e1, List.getD_eq_getElem?_getD, List.getElem?_eq_getElem (by omega)]
      rfl
    rw [block_cell hh]
    exact e

theorem flat_len {α : Type} (f : α → List Value) (s : Nat) (hf : ∀ x, (f x).length = s) : ∀ l : List α, (l.flatMap f).length = l.length * s
  | [] => by simp
  | x :: r => by
    rw [List.flatMap_cons, List.length_append, hf, flat_len f s hf r, List.length_cons, Nat.succ_mul]
    omega
theorem flat_at {α : Type} (f : α → List Value) (s : Nat) (hf : ∀ x, (f x).length = s) (d : α) : ∀ (l : List α) (k : Nat), k < l.length → ∀ j, j < s → (l.flatMap f).getD (k * s + j) undef = (f (l.getD k d)).getD j undef
  | [], k, hk, _, _ => absurd hk (by simp)
  | x :: r, 0, _, j, hj => by
    simp only [List.flatMap_cons, List.getD_eq_getElem?_getD, Nat.zero_mul, Nat.zero_add]
    rw [List.getElem?_append_left (by rw [hf]; exact hj)]
    rfl
  | x :: r, k + 1, hk, j, hj => by
    have ih := flat_at f s hf d r k (by simpa using hk) j hj
    simp only [List.flatMap_cons, List.getD_eq_getElem?_getD] at ih ⊢
    rw [List.getElem?_append_right (by rw [hf, Nat.succ_mul]; omega), hf]
    rw [show (k + 1) * s + j - s = k * s + j by rw [Nat.succ_mul]; omega, ih]
    rfl

/-! ### entries -/
def entV (p : Bs × Nat) : List Value := [.string ⟨p.1.toArray⟩, .int .i64 p.2]
theorem entV_len (p : Bs × Nat) : (entV p).length = 2 := rfl
def EntsAt (T : Nat → Prop) (w : World) (v : Value) (l : Dir) : Prop := RowAt T w v 2 l.length (l.flatMap entV)
theorem EntsAt.shape {T : Nat → Prop} {w : World} {v : Value} {l : Dir} (h : EntsAt T w v l) : ∃ ao cp, v = .slice ao l.length cp ∧ l.length ≤ cp ∧ cp ≤ maxLen ∧
    (0 < l.length → ∃ g, ao = some ⟨g, 0, none⟩ ∧ g < w.heap.size ∧ ∀ j, j < l.length → w.cell? ⟨g, j * 2, none⟩ = some (.string ⟨(l.getD j ([], 0)).1.toArray⟩) ∧ w.cell? ⟨g, j * 2 + 1, none⟩ = some (.int .i64 (l.getD j ([], 0)).2)) := by
  obtain ⟨h1, ao, cp, h2, h3, h4, _, h5⟩ := h
  refine ⟨ao, cp, h2, h3, h4, fun h0 => ?_⟩
  obtain ⟨g, e, _, hlt, hc⟩ := h5 h0
  refine ⟨g, e, hlt, fun j hj => ⟨?_, ?_⟩⟩
  · have h := hc (j * 2) (by omega)
    have e := flat_at entV 2 entV_len ([], 0) l j hj 0 (by omega)
    rw [Nat.add_zero] at e
    rw [h, e]
    rfl
  · have h := hc (j * 2 + 1) (by omega)
    rw [h, flat_at entV 2 entV_len ([], 0) l j hj 1 (by omega)]
    rfl

theorem find_at {l : Dir} {n : Bs} {k : Nat} (hk : k < l.length) (hs : ∀ j, j < k → (l.getD j ([], 0)).1 ≠ n) (h : (l.getD k ([], 0)).1 = n) : find l n = some (l.getD k ([], 0)).2 := by
  induction l generalizing k with
  | nil => simp at hk
  | cons p r ih =>
    cases k with
    | zero =>
      have h' : p.1 = n := by simpa using h
      simp [find, h']
    | succ k =>
      have h0 : p.1 ≠ n := by simpa using hs 0 (by omega)
      have := ih (k := k) (by simpa using hk) (fun j hj => by simpa using hs (j + 1) (by omega)) (by simpa using h)
      unfold find at this ⊢
      simpa [h0] using this
theorem find_end {l : Dir} {n : Bs} (hs : ∀ j, j < l.length → (l.getD j ([], 0)).1 ≠ n) : find l n = none := by
  induction l with
  | nil => rfl
  | cons p r ih =>
    have h0 : p.1 ≠ n := by simpa using hs 0 (by simp)
    have := ih (fun j hj => by simpa using hs (j + 1) (by simpa using hj))
    unfold find at this ⊢
    simpa [h0] using this
/-- find's answer: the file's index, or -1. -/
def findI (l : Dir) (n : Bs) : Int := match find l n with
  | some k => k
  | none => -1

theorem mfind_any {T : Nat → Prop} {w : World} {v : Value} {l : Dir} (h : EntsAt T w v l) (n : ByteArray) :
    Calls Try.prog 52 #[v, .string n] w fun e w' => e = .returned (.int .i64 (findI l n.data.toList)) ∧ w = w' := by
  obtain ⟨ao, cp, rfl, hcp, hcm, hc⟩ := h.shape
  have HC := Lib.hid hc
  clear h hc
  unfold maxLen at hcm
  go_enter Try.func52, Try.ntmps52
  go_wp2_with fail
  go_loopw [5] (fun i wr => ∃ k : Nat, k ≤ l.length ∧ i = .int .i64 k ∧ (∀ j, j < k → (l.getD j ([], 0)).1 ≠ n.data.toList) ∧ w = wr) (fun i _ => l.length - (intOf i).toNat)
  case atStart => exact ⟨0, Nat.zero_le _, rfl, fun j hj => absurd hj (Nat.not_lt_zero _), rfl⟩
  case round =>
    obtain ⟨k, hk, rfl, hs, rfl⟩ := hrel
    have HS := Lib.hid hs
    clear hs
    by_cases hlt : k < l.length
    · obtain ⟨g, rfl, hg, hcs⟩ := HC.out (by omega)
      obtain ⟨h1, h2⟩ := hcs k hlt
      clear hcs
      have hfa := find_at hlt HS.out
      obtain ⟨p, hp⟩ : ∃ p, p = l.getD k ([], 0) := ⟨_, rfl⟩
      rw [← hp] at h1 h2 hfa
      obtain ⟨nm, f⟩ := p
      simp only at h1 h2 hfa
      obtain ⟨nb, hnb⟩ : ∃ nb : ByteArray, nb = ⟨nm.toArray⟩ := ⟨_, rfl⟩
      rw [← hnb] at h1
      have HNB := Lib.hid hnb
      have HP := Lib.hid hp
      have HFA := Lib.hid hfa
      clear hnb hp hfa
      go_wp2_with fail
      · have hq : (nb.toList == n.toList) = true := by assumption
        rw [ByteArray.toList_eq, ByteArray.toList_eq, HNB.out] at hq
        have hq2 : nm = n.data.toList := by simpa using hq
        go_ret
        have e : findI l n.data.toList = f := by
          unfold findI
          rw [HFA.out (by exact hq2)]
        rw [e]
        exact ⟨rfl, rfl⟩
      · have hq : (nb.toList == n.toList) = false := by assumption
        rw [ByteArray.toList_eq, ByteArray.toList_eq, HNB.out] at hq
        have hq2 : nm ≠ n.data.toList := by simpa using hq
        refine ⟨⟨k + 1, by omega, by simp, ?_, trivial⟩, by simp [intOf]; omega⟩
        intro j hj
        rcases Nat.lt_or_ge j k with h | h
        · exact HS.out j h
        · obtain rfl : j = k := by omega
          rw [← HP.out]
          exact hq2
    · go_wp2_with fail
      go_ret
      have e : findI l n.data.toList = -1 := by
        unfold findI
        rw [find_end (fun j hj => HS.out j (by omega))]
      rw [e]
      exact ⟨rfl, rfl⟩

/-! ### without -/
theorem infoEnt : (Try.prog.info? 94).map (fun i => (i.zero, i.size, i.bytes)) = some (some (.agg #[.string ⟨#[]⟩, .int .i64 0]), 2, 24) := by kernel_rfl
theorem without_snoc (l : Dir) (n : Bs) (k : Nat) (hk : k < l.length) : without (l.take (k + 1)) n = without (l.take k) n ++ (if (l.getD k ([], 0)).1 = n then [] else [l.getD k ([], 0)]) := by
  rw [List.take_succ_eq_append_getElem hk]
  have e : l.getD k ([], 0) = l[k] := by rw [List.getD_eq_getElem?_getD, List.getElem?_eq_getElem hk]; rfl
  rw [e]
  unfold without
  rw [List.filter_append]
  by_cases h : l[k].1 = n
  · simp [h]
  · simp [h]
/-- An own row's block is one of the call's own. -/
theorem own_ge {w : World} {base : Nat} {e : TypeId} {size n : Nat} {v : Value} {xs : List Value} (h : w.ownsRow base e size v n xs) {q : Nat} (hq : v.ownBlock = some q) : base ≤ q := by
  obtain ⟨h1, h2⟩ := h
  rcases h2 with ⟨rfl, rfl⟩ | ⟨g, cap, cur, rfl, hg, hh, h3, h4, h5, h6⟩
  · simp [Value.ownBlock] at hq
  · simp [Value.ownBlock] at hq
    omega
theorem mwithout_any {T : Nat → Prop} {w : World} {v : Value} {l : Dir} (h : EntsAt T w v l) (hl : l.length ≤ 1073741824) (n : ByteArray) :
    Calls Try.prog 72 #[v, .string n] w fun e w' => ∃ v', e = .returned v' ∧ w'.ownsRow w.heap.size 94 2 v' (without l n.data.toList).length ((without l n.data.toList).flatMap entV) ∧ Below w.heap.size w w' := by
  obtain ⟨ao, cp, rfl, hcp, hcm, hc⟩ := h.shape
  have HC := Lib.hid hc
  clear h hc
  unfold maxLen at hcm
  obtain ⟨i0, hi, hz0, hz1, hz2⟩ := info_parts infoEnt
  go_enter Try.func72, Try.ntmps72
  go_wp2_with fail
  go_loopw [5, 6] (fun out i wr => ∃ k : Nat, k ≤ l.length ∧ i = .int .i64 k ∧ wr.ownsRow w.heap.size 94 2 out (without (l.take k) n.data.toList).length ((without (l.take k) n.data.toList).flatMap entV) ∧ Below w.heap.size w wr) (fun _ i _ => l.length - (intOf i).toNat)
  case atStart => exact ⟨0, Nat.zero_le _, rfl, World.ownsRow_nil _ _ _ _, Below.refl _ _⟩
  case round =>
    obtain ⟨k, hk, rfl, hown, hb⟩ := hrel
    have HOWN := Lib.hid hown
    have HB := Lib.hid hb
    clear hown hb
    by_cases hlt : k < l.length
    · obtain ⟨g, rfl, hg, hcs⟩ := HC.out (by omega)
      obtain ⟨h1, h2⟩ := hcs k hlt
      clear hcs
      have hsn := without_snoc l n.data.toList k hlt
      have hwl : (without (l.take k) n.data.toList).length ≤ k := by
        have := length_without (l.take k) n.data.toList
        have h2 : (l.take k).length ≤ k := List.length_take_le _ _
        omega
      obtain ⟨p, hp⟩ : ∃ p, p = l.getD k ([], 0) := ⟨_, rfl⟩
      rw [← hp] at h1 h2 hsn
      obtain ⟨nm, f⟩ := p
      simp only at h1 h2 hsn
      have x1 := (HB.out.cell (p := ⟨g, k * 2, none⟩) hg).trans h1
      have x2 := (HB.out.cell (p := ⟨g, k * 2 + 1, none⟩) hg).trans h2
      obtain ⟨nb, hnb⟩ : ∃ nb : ByteArray, nb = ⟨nm.toArray⟩ := ⟨_, rfl⟩
      rw [← hnb] at x1
      have HNB := Lib.hid hnb
      have HSN := Lib.hid hsn
      have HWL := Lib.hid hwl
      clear hnb hp hsn h1 h2 hwl
      go_wp2_with (at_builtin; refine wpList_append_own _ rfl _ _ 53 rfl w.heap.size 94 i0 _ 2 24 Try.underlying53 hi hz0 hz1 hz2 rfl (by decide) _ _ _ rfl (HOWN.out.alloc _) ⟨wr.heap.size, 0, none⟩ 1 1 [.string nb, .int .i64 f] rfl rfl ?c1 ?c2 ?c3 ?c4 ?c5 ?_)
      case c1 => exact World.news_of_block (heap_alloc_new wr _)
      case c2 => simp [Value.oneCell']
      case c3 => have := HWL.out; unfold maxLen; omega
      case c4 => have := HWL.out; omega
      case c5 => have := HB.out.size; simp; omega
      · intro v' w1 hown' hgrow _
        have hB1 := (HB.out.alloc (by have := HB.out.size; omega) (.cells #[.string nb, .int .i64 f] 94)).grown hgrow (by have := HB.out.size; simp; omega) (fun q e => own_ge HOWN.out e)
        have hq : (!nb.toList == n.toList) = true := by assumption
        have HQ := Lib.hid hq
        have HB1 := Lib.hid hB1
        have HO1 := Lib.hid hown'
        clear hown' hgrow hB1
        go_wp2_with fail
        have hne : nm ≠ n.data.toList := by
          have := HQ.out
          rw [ByteArray.toList_eq, ByteArray.toList_eq, HNB.out] at this
          simpa using this
        have e := HSN.out
        rw [if_neg hne] at e
        have := HO1.out
        rw [HNB.out] at this
        refine ⟨⟨k + 1, by omega, by simp, ?_, HB1.out⟩, by simp [intOf]; omega⟩
        rw [e, List.length_append, List.flatMap_append]
        exact this
      · have hq : (!nb.toList == n.toList) = false := by assumption
        have heq : nm = n.data.toList := by
          rw [ByteArray.toList_eq, ByteArray.toList_eq, HNB.out] at hq
          simpa using hq
        have e := HSN.out
        rw [if_pos heq, List.append_nil] at e
        refine ⟨⟨k + 1, by omega, by simp, ?_, HB.out⟩, by simp [intOf]; omega⟩
        rw [e]
        exact HOWN.out
    · obtain rfl : k = l.length := by omega
      go_wp2_with fail
      go_ret
      rw [List.take_length] at HOWN
      exact ⟨_, rfl, HOWN.out, HB.out⟩
end Go.Proofs.Ytlhnjdoicolkkaa
