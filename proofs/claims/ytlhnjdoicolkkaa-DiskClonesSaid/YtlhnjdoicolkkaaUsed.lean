/- How many bytes a disk has in use: the walk over its names, in whatever order they come. -/
import Derived.Test.YtlhnjdoicolkkaaSmall
import Derived.Sort.KeysCollected
set_option maxRecDepth 100000
namespace Go.Proofs.Ytlhnjdoicolkkaa
open Go.RowKit Go.Dsk Go.Maps Go.WideMaps
set_option maxHeartbeats 400000

section
variable (w : World) {ops : Array Oper} {rest : List Oper} {o : Oper} {a : Act} {Q : Exit → Act → World → Prop}
/-- The step of a range over a directory. -/
theorem wpList_dir_next (hg : o.guard = none) (it : Operand) (hop : o.op = Op.next it false) (loc : Nat → Nat) (b r n : Nat) (l : Dir) (left : Lit → Bool) (cnt : Nat)
    (hit : a.eval it = .pointer (some ⟨r, 0, none⟩)) (h : w.ranges Try.prog 9 ptrR b r n (dirD loc l) left cnt)
    (hDone : (∀ kl, left kl = false) → wpList Try.prog ops Q rest (a.put o.dst (.tuple #[.bool false])) w)
    (hMore : ∀ (nm : Bs) (k : Nat) (w' : World) (cnt' : Nat), find l nm = some k → left (.string nm) = true → nm.length ≤ maxLen → w'.ranges Try.prog 9 ptrR b r n (dirD loc l) (fun z => left z && !z.sameKey (.string nm)) cnt' → cnt' < cnt →
      w.grownBy w' (some r) → w'.heap.size = w.heap.size → (Instr.entry (.pointer (some ⟨r, 0, none⟩))).run Try.prog w' = .ok (.tuple #[.string ⟨nm.toArray⟩, .pointer (some ⟨loc k, 0, none⟩)]) w' →
      wpList Try.prog ops Q rest (a.put o.dst (.tuple #[.bool true, .string ⟨nm.toArray⟩, .pointer (some ⟨loc k, 0, none⟩)])) w') :
    wpList Try.prog ops Q (o :: rest) a w :=
  wpList_next_ranges w hg it hop 9 keyed ptrR (fun l : Bs => .string ⟨l.toArray⟩) (fun x : Option Addr => .pointer x)
    (fun key kl hk => by obtain ⟨x, hx, _⟩ := Maps.keyOf_str Try.underlying9 hk; exact ⟨x, hx⟩) (fun v y hv => by obtain ⟨x, rfl, _⟩ := ptrR_inv hv; exact ⟨x, rfl⟩)
    b r n (dirD loc l) left cnt hit h (fun _ hl => hDone hl) (fun x c kl y w' cnt' hkey hlk hv hat hrg hlt hgr hsz hen => by
      obtain ⟨x', ex, rfl, hx⟩ := Maps.keyOf_str Try.underlying9 hkey
      obtain rfl : x = x' := encStr_inj ex
      simp only [ptrR, Option.some.injEq] at hv
      have h1 := hat (.held (.pointer none))
      have h2 := hat .nil
      rw [dirD_at, ← hv] at h1
      cases hf : find l x with
      | none =>
        exfalso
        have hh := dirD_has loc l x
        rw [hf] at hh
        rw [Maps.atKey_of_not_has hh, ← hv] at h2
        cases h2
      | some k =>
        rw [hf] at h1
        simp only [fptr, DataW.held.injEq, Value.pointer.injEq] at h1
        subst h1
        exact hMore x k w' cnt' hf hlk hx hrg hlt hgr hsz hen)
theorem wpList_dir_range (hg : o.guard = none) (m : Operand) (hop : o.op = Op.range 69 m) (loc : Nat → Nat) (b : Nat) (l : Dir) (hown : DirAt loc w b l) (hm : a.eval m = .map (some b))
    (hK : ∀ w', w'.ranges Try.prog 9 ptrR b w.heap.size l.length (dirD loc l) (Maps.has (dirD loc l)) l.length → w.grownBy w' none → w'.heap.size = w.heap.size + 1 → wpList Try.prog ops Q rest (a.put o.dst (.pointer (some ⟨w.heap.size, 0, none⟩))) w') :
    wpList Try.prog ops Q (o :: rest) a w :=
  wpList_range_own w hg m 69 hop 9 73 keyed dirT ptrR b _ _ hm hown (by rw [dirD_size]; exact hK)
end

/-- The sum over the names that have come. -/
def part (m : M) (l : Dir) (left : Lit → Bool) : Nat := ((l.filter fun p => !left (.string p.1)).map fun p => m.len p.2).sum
theorem part_none (m : M) {l : Dir} {left : Lit → Bool} (h : ∀ p ∈ l, left (.string p.1) = true) : part m l left = 0 := by
  have e : (l.filter fun p => !left (.string p.1)) = [] := by
    rw [List.filter_eq_nil_iff]; intro p hp; simp [h p hp]
  rw [part, e]; rfl
theorem part_all (m : M) {l : Dir} {left : Lit → Bool} (h : ∀ kl, left kl = false) : part m l left = (l.map fun p => m.len p.2).sum := by
  have e : (l.filter fun p => !left (.string p.1)) = l := by
    rw [List.filter_eq_self]; intro p hp; simp [h]
  rw [part, e]
theorem part_step (m : M) {left : Lit → Bool} {nm : Bs} (hn : left (.string nm) = true) : ∀ {l : Dir} {k : Nat}, Sorted l → find l nm = some k → part m l (fun z => left z && !z.sameKey (.string nm)) = part m l left + m.len k
  | [], _, _, h => by cases h
  | p :: r, k, hs, h => by
    obtain ⟨h1, h2⟩ := List.pairwise_cons.1 hs
    have step (q : Bs × Nat) (f : Lit → Bool) : part m (q :: r) f = (if f (.string q.1) then 0 else m.len q.2) + part m r f := by
      unfold part
      rw [List.filter_cons]
      cases f (.string q.1) <;> simp
    rw [step, step]
    by_cases hp : p.1 = nm
    · have hk : p.2 = k := by simpa [find, hp] using h
      have hr : part m r (fun z => left z && !z.sameKey (.string nm)) = part m r left := by
        unfold part
        congr 2
        apply List.filter_congr
        intro q hq
        have : q.1 ≠ nm := by rw [← hp]; exact (bytesBefore_ne (h1 q hq)).symm
        have e : Lit.sameKey (.string q.1) (.string nm) = false := by simpa [Lit.sameKey] using this
        simp [e]
      have e : Lit.sameKey (.string p.1) (.string nm) = true := by simp [Lit.sameKey, hp]
      rw [hr]
      simp only [hp, hn, hk]
      rw [hp] at e
      simp [e]
      omega
    · have hf : find r nm = some k := by
        have e : (p.1 == nm) = false := by simpa using hp
        simpa [find, List.find?_cons, e] using h
      have e : Lit.sameKey (.string p.1) (.string nm) = false := by simpa [Lit.sameKey] using hp
      rw [part_step m hn h2 hf]
      simp [e]
      omega
theorem part_le (m : M) (l : Dir) (left : Lit → Bool) : part m l left ≤ (l.map fun p => m.len p.2).sum := by
  unfold part
  induction l with
  | nil => simp
  | cons p r ih =>
    rw [List.filter_cons]
    split
    · simp; exact ih
    · simp at ih ⊢; omega

section
variable {loc : Nat → Nat} {S : Nat → Prop} {w : World} {bd bn bm : Nat} {sl : Value} {bs : List (Nat × Nat)} {lft : Int} {m : M}
theorem used_bd (h : m.Ok) (hw : m.wt ≤ 1073741824) : (m.used : Int) ≤ 18014398509481984 := by
  have h1 := used_le h
  have h2 := names_length h
  have h3 := h.cap1
  have h0 := h.cap0
  have : (m.names.length : Int) * m.cap ≤ 1073741824 * 16777216 := Int.mul_le_mul (by omega) h3 h0 (by omega)
  omega

theorem used_any (h : Rep loc S w bd bn bm sl bs lft m) (hw : m.wt ≤ 1073741824) : Calls Try.prog 39 #[.pointer (some ⟨bd, 0, none⟩)] w fun e w' => e = .returned (.int .i64 m.used) ∧ Fr (fun _ => False) w w' := by
  have h1 := h.c1
  have hub := used_bd h.ok hw
  have hdir := h.hn
  have H := Lib.hid h
  have hbd := lt_of_block h.hd
  clear h hw
  go_enter Try.func39, Try.ntmps39
  go_wp2_with (first
    | (at_range; refine wpList_dir_range _ rfl _ rfl loc bn _ hdir rfl ?_; intro w0 hrg0 hg0 hs0)
    | go_in)
  go_frame
  go_loopw [3] (fun t wr => ∃ left cnt, wr.ranges Try.prog 9 ptrR bn w.heap.size m.names.length (dirD loc m.names) left cnt ∧ t = .int .i64 (part m m.names left) ∧ Fr (fun _ => False) w wr) (fun _ wr => wr.rangeLeft bn w.heap.size)
  case atStart =>
    refine ⟨_, _, hrg0, ?_, ⟨hg0.os, hg0.tape, hg0.output, hg0.size, fun i hi _ => hg0.block i hi (by simp)⟩⟩
    rw [part_none]
    · rfl
    · intro p hp
      rw [dirD_has]
      cases hf : find m.names p.1 with
      | none => exact absurd rfl (find_none hf p hp)
      | some _ => rfl
  case round =>
    obtain ⟨left, cnt, hrg, rfl, hfr⟩ := hrel
    have hpl := part_le m m.names left
    go_wp2_with (first
      | (at_next; refine wpList_dir_next _ rfl _ rfl loc bn w.heap.size _ _ left cnt rfl hrg ?_ ?_)
      | go_in)
    · intro hl0
      have e := part_all m (l := m.names) hl0
      have E := Lib.hid e
      clear e
      go_wp2
      go_ret
      exact ⟨retI (by rw [E.out]; rfl), hfr⟩
    · intro nm k w1 cnt1 hf hlk hnl hrg1 hlt hg1 hs1 hen
      have hstep := part_step m hlk H.out.ok.names.1 hf
      have hle := part_le m m.names (fun z => left z && !z.sameKey (.string nm))
      have hk := (find_good H.out.ok.names hf).2
      have hfr1 : Fr (fun _ => False) w w1 := hfr.grown hg1 (.inr (Nat.le_refl _)) (by
        rintro ⟨s, hs⟩
        obtain ⟨es, clock, since, seen, c0, _, _, _, _, hh, _⟩ := hrg
        rw [hh] at hs; cases hs)
      have hc := (H.out.keep hfr1 (fun _ _ => id)).file hk
      have hlen : m.len k = (m.files.getD k ⟨[], 0⟩).bytes.length := rfl
      generalize (m.files.getD k ⟨[], 0⟩).bytes = by_ at hc hlen
      have HS := Lib.hid hstep
      have HL := Lib.hid hlen
      have hub2 : (part m m.names left : Int) + by_.length ≤ 18014398509481984 := by
        have : ((m.names.map fun p => m.len p.2).sum : Int) ≤ 18014398509481984 := hub
        omega
      clear hstep hlen hle hub hpl
      go_wp2
      go_roundw
      case rel => exact ⟨_, cnt1, hrg1, by rw [HS.out, HL.out]; go_num, hfr1⟩
      case measure => rw [hrg1.left_eq, hrg.left_eq]; exact hlt
end
end Go.Proofs.Ytlhnjdoicolkkaa
