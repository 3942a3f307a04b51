/- The document's model: how it lies in memory; its small methods. -/
import Derived.Test.YtlhnjdoicolkkaaChanged
import Derived.Deep.RegionHeld3
import Derived.Deep.AppendLies
import Derived.Deep.DrawnRows
import Derived.Deep.DeepCutAuto
set_option maxRecDepth 100000
namespace Go.Proofs.Ytlhnjdoicolkkaa
open Go.RowKit Go.Dsk Go.Maps Go.WideMaps
set_option maxHeartbeats 4000000
attribute [local go_sem ↓] Go.wp_at_zero Go.wp_at_succ

def filV (f : Fl) : List Value := [.string ⟨f.bytes.toArray⟩, .int .i64 f.dur]
theorem filV_len (f : Fl) : (filV f).length = 2 := rfl
def chgV (c : Ch) : List Value := [.string ⟨c.src.toArray⟩, .string ⟨c.dst.toArray⟩, .int .i64 c.file]
theorem chgV_len (c : Ch) : (chgV c).length = 3 := rfl
theorem filV_one (l : List Fl) : ∀ u ∈ l.flatMap filV, u.oneCell' = true := by
  intro u hu
  obtain ⟨p, _, hp⟩ := List.mem_flatMap.1 hu
  simp [filV] at hp
  rcases hp with rfl | rfl <;> simp [Value.oneCell']
theorem chgV_one (l : List Ch) : ∀ u ∈ l.flatMap chgV, u.oneCell' = true := by
  intro u hu
  obtain ⟨p, _, hp⟩ := List.mem_flatMap.1 hu
  simp [chgV] at hp
  rcases hp with rfl | rfl | rfl <;> simp [Value.oneCell']

/-- A whole readable slice can be appended. -/
theorem row_lies {T : Nat → Prop} {w : World} {v : Value} {size n : Nat} {xs : List Value} (h : RowAt T w v size n xs) (h1 : ∀ u ∈ xs, u.oneCell' = true) (_hs : 0 < size) : Lies w v size n xs := by
  obtain ⟨hl, ao, cp, rfl, h3, h4, h6, h5⟩ := h
  refine ⟨hl, h1, ?_⟩
  cases ao with
  | none =>
    have hc := h6 rfl
    have : n = 0 := by omega
    subst this
    exact .inl ⟨by rw [hc], rfl⟩
  | some a =>
    refine .inr ⟨a, cp, rfl, fun j u hu => ?_⟩
    have hj : j < xs.length := (List.getElem?_eq_some_iff.1 hu).1
    have hn : 0 < n := by
      rcases Nat.eq_zero_or_pos n with h | h
      · subst h; simp at hl; subst hl; simp at hj
      · exact h
    obtain ⟨g, e, _, hg, hc⟩ := h5 hn
    cases e
    rw [add_plain, Nat.zero_add, hc j (by omega), List.getD_eq_getElem?_getD, hu]
    rfl
theorem RowAt.fr {T S : Nat → Prop} {w w' : World} {v : Value} {size n : Nat} {xs : List Value} (h : RowAt T w v size n xs) (hf : Fr S w w') (hT : ∀ g, T g → ¬ S g) : RowAt T w' v size n xs :=
  h.same (fun g ht hg => hf.block g hg (.inl (hT g ht))) hf.size
/-- The cells of element k of a readable slice. -/
theorem RowAt.elem {T : Nat → Prop} {w : World} {v : Value} {size n : Nat} {α : Type} {f : α → List Value} {l : List α} (h : RowAt T w v size n (l.flatMap f)) (hf : ∀ x, (f x).length = size) (d : α) {k : Nat} (hk : k < l.length) (hn : n = l.length) :
    ∃ g cp, v = .slice (some ⟨g, 0, none⟩) n cp ∧ T g ∧ g < w.heap.size ∧ n ≤ cp ∧ cp ≤ maxLen ∧ ∀ j, j < size → w.cell? ⟨g, k * size + j, none⟩ = some ((f (l.getD k d)).getD j undef) := by
  obtain ⟨h1, ao, cp, rfl, h3, h4, _, h5⟩ := h
  obtain ⟨g, rfl, ht, hg, hc⟩ := h5 (by omega)
  refine ⟨g, cp, rfl, ht, hg, h3, h4, fun j hj => ?_⟩
  rw [hc _ (by subst hn; calc k * size + j < k * size + size := by omega
    _ = (k + 1) * size := by rw [Nat.succ_mul]
    _ ≤ l.length * size := Nat.mul_le_mul_right _ hk), flat_at f size hf d l k hk j hj]
theorem RowAt.shape {T : Nat → Prop} {w : World} {v : Value} {size n : Nat} {xs : List Value} (h : RowAt T w v size n xs) : ∃ ao cp, v = .slice ao n cp ∧ n ≤ cp ∧ cp ≤ maxLen := by
  obtain ⟨_, ao, cp, rfl, h3, h4, _, _⟩ := h
  exact ⟨ao, cp, rfl, h3, h4⟩

def mCells (m : M) (vf vn vd vp : Value) : Array Value := #[.int .i64 m.cap, .int .i64 m.limit, .bool m.down, vf, vn, vd, vp]
/-- The model at p is m; its rows lie in T. -/
structure MRep (T : Nat → Prop) (w : World) (p : Nat) (vf vn vd vp : Value) (m : M) : Prop where
  lt : ∀ g, T g → g < w.heap.size
  np : ¬ T p
  hd : w.heap[p]? = some (.cells (mCells m vf vn vd vp) 56 (0, 0))
  hf : RowAt T w vf 2 m.files.length (m.files.flatMap filV)
  hn : EntsAt T w vn m.names
  hu : EntsAt T w vd m.durable
  hp : RowAt T w vp 3 m.pending.length (m.pending.flatMap chgV)
def MAt (T : Nat → Prop) (w : World) (p : Nat) (m : M) : Prop := ∃ vf vn vd vp, MRep T w p vf vn vd vp m
/-- Behind a call: the model is m', in what it had and new blocks; nothing else has turned. -/
def MAfter (T : Nat → Prop) (w : World) (p : Nat) (m' : M) (w' : World) : Prop := ∃ T', (∀ i, T' i → T i ∨ w.heap.size ≤ i) ∧ MAt T' w' p m' ∧ Fr (fun i => i = p) w w'

theorem Fr.cellOther {S : Nat → Prop} {w w' : World} (h : Fr S w w') {a : Addr} (hl : a.block < w.heap.size) (hs : ¬ S a.block) : w'.cell? a = w.cell? a := World.cell?_of_block (h.block _ hl (.inl hs))
section
variable {T : Nat → Prop} {w : World} {p : Nat} {vf vn vd vp : Value} {m : M}
theorem MRep.plt (h : MRep T w p vf vn vd vp m) : p < w.heap.size := lt_of_block h.hd
theorem MRep.noBox (h : MRep T w p vf vn vd vp m) : ¬ IsBox w p := by
  rintro ⟨s, hs⟩; rw [h.hd] at hs; simp at hs
theorem MRep.c0 (h : MRep T w p vf vn vd vp m) : w.cell? ⟨p, 0, none⟩ = some (.int .i64 m.cap) := block_cell h.hd 0
theorem MRep.c1 (h : MRep T w p vf vn vd vp m) : w.cell? ⟨p, 1, none⟩ = some (.int .i64 m.limit) := block_cell h.hd 1
theorem MRep.c2 (h : MRep T w p vf vn vd vp m) : w.cell? ⟨p, 2, none⟩ = some (.bool m.down) := block_cell h.hd 2
theorem MRep.c3 (h : MRep T w p vf vn vd vp m) : w.cell? ⟨p, 3, none⟩ = some vf := block_cell h.hd 3
theorem MRep.c4 (h : MRep T w p vf vn vd vp m) : w.cell? ⟨p, 4, none⟩ = some vn := block_cell h.hd 4
theorem MRep.c5 (h : MRep T w p vf vn vd vp m) : w.cell? ⟨p, 5, none⟩ = some vd := block_cell h.hd 5
theorem MRep.c6 (h : MRep T w p vf vn vd vp m) : w.cell? ⟨p, 6, none⟩ = some vp := block_cell h.hd 6
theorem MRep.fr (h : MRep T w p vf vn vd vp m) (i : Nat) : w.frozen? ⟨p, i, none⟩ = false := block_free h.hd i
theorem MRep.at (h : MRep T w p vf vn vd vp m) : MAt T w p m := ⟨_, _, _, _, h⟩
theorem MRep.after (h : MRep T w p vf vn vd vp m) : MAfter T w p m w := ⟨T, fun _ => .inl, h.at, Fr.refl _ _⟩

/-- The model stays while what lies outside it turns. -/
theorem MRep.keep (h : MRep T w p vf vn vd vp m) {S : Nat → Prop} {w' : World} (hf : Fr S w w') (hS : ∀ i, T i → ¬ S i) (hp : ¬ S p) : MRep T w' p vf vn vd vp m :=
  ⟨fun g hg => Nat.lt_of_lt_of_le (h.lt g hg) hf.size, h.np, (hf.block p h.plt (.inl hp)).trans h.hd, h.hf.fr hf hS, RowAt.fr h.hn hf hS, RowAt.fr h.hu hf hS, h.hp.fr hf hS⟩
theorem MRep.below (h : MRep T w p vf vn vd vp m) {w' : World} (hb : Below w.heap.size w w') : MRep T w' p vf vn vd vp m :=
  h.keep (S := fun _ => False) (Fr.below hb) (fun _ _ => id) id
theorem MRep.wider (h : MRep T w p vf vn vd vp m) {T' : Nat → Prop} (ht : ∀ g, T g → T' g) (hl : ∀ g, T' g → g < w.heap.size) (hn : ¬ T' p) : MRep T' w p vf vn vd vp m :=
  ⟨hl, hn, h.hd, h.hf.mono ht, RowAt.mono h.hn ht, RowAt.mono h.hu ht, h.hp.mono ht⟩
theorem MAfter.back {w2 w3 : World} {m' : M} (k : MAfter T w2 p m' w3) (f : Fr (fun i => i = p) w w2) : MAfter T w p m' w3 := by
  obtain ⟨T', h1, h2, h3⟩ := k
  exact ⟨T', fun i hi => (h1 i hi).imp id (fun h => Nat.le_trans f.size h), h2, f.trans h3⟩
theorem MAt.below {w' : World} (h : MAt T w p m) (hb : Below w.heap.size w w') : MAt T w' p m := by
  obtain ⟨_, _, _, _, h⟩ := h
  exact ⟨_, _, _, _, h.below hb⟩

/-- One field is written; the rows stay. -/
theorem MRep.put (h : MRep T w p vf vn vd vp m) (i : Nat) (v : Value) {m' : M} {vf' vn' vd' vp' : Value} (hc : (mCells m vf vn vd vp).setIfInBounds i v = mCells m' vf' vn' vd' vp')
    (h3 : RowAt T w vf' 2 m'.files.length (m'.files.flatMap filV)) (h4 : EntsAt T w vn' m'.names) (h5 : EntsAt T w vd' m'.durable) (h6 : RowAt T w vp' 3 m'.pending.length (m'.pending.flatMap chgV)) :
    MRep T (w.setCell ⟨p, i, none⟩ v) p vf' vn' vd' vp' m' ∧ Fr (fun i => i = p) w (w.setCell ⟨p, i, none⟩ v) := by
  have hf : Fr (fun i => i = p) w (w.setCell ⟨p, i, none⟩ v) := (Fr.refl (fun i => i = p) w).setCell (p := ⟨p, i, none⟩) (.inl rfl) h.noBox v
  have hS : ∀ i, T i → ¬ i = p := fun i hi e => h.np (e ▸ hi)
  exact ⟨⟨fun g hg => Nat.lt_of_lt_of_le (h.lt g hg) hf.size, h.np, by rw [block_set h.hd, hc], h3.fr hf hS, RowAt.fr h4 hf hS, RowAt.fr h5 hf hS, h6.fr hf hS⟩, hf⟩
/-- A field that is no row is written. -/
theorem MRep.scalar (h : MRep T w p vf vn vd vp m) (i : Nat) (v : Value) {m' : M} (hc : (mCells m vf vn vd vp).setIfInBounds i v = mCells m' vf vn vd vp)
    (e1 : m'.files = m.files) (e2 : m'.names = m.names) (e3 : m'.durable = m.durable) (e4 : m'.pending = m.pending) :
    MRep T (w.setCell ⟨p, i, none⟩ v) p vf vn vd vp m' ∧ Fr (fun i => i = p) w (w.setCell ⟨p, i, none⟩ v) :=
  h.put i v hc (by rw [e1]; exact h.hf) (by rw [e2]; exact h.hn) (by rw [e3]; exact h.hu) (by rw [e4]; exact h.hp)

/-! ### fails -/
theorem mfails_any (h : MRep T w p vf vn vd vp m) (hl0 : -1 ≤ m.limit) (hl1 : m.limit ≤ 9223372036854775807) : Calls Try.prog 54 #[.pointer (some ⟨p, 0, none⟩)] w fun e w' => e = .returned (.bool m.failing) ∧ MRep T w' p vf vn vd vp m.counted ∧ Fr (fun i => i = p) w w' := by
  have H := Lib.hid h
  have h1 := h.c1
  have h2 := h.c2
  have z1 := h.fr 1
  have z2 := h.fr 2
  clear h
  by_cases h0 : m.limit = 0
  · have e1 : m.failing = true := by simp [M.failing, h0]
    have e2 : m.counted = { m with down := true } := by simp [M.counted, h0]
    rw [e1, e2]
    rw [h0] at h1
    clear h0 e1 e2 hl0 hl1
    go_enter Try.func54, Try.ntmps54
    go_wp2_with fail
    go_ret
    exact ⟨rfl, H.out.scalar 2 (.bool true) rfl rfl rfl rfl rfl⟩
  · have e1 : m.failing = false := by simp [M.failing, h0]
    by_cases hp : 0 < m.limit
    · have e2 : m.counted = { m with limit := m.limit - 1 } := by simp [M.counted, h0, hp]
      rw [e1]
      have t1 : (m.limit == 0) = false := by simpa using h0
      have E2 := Lib.hid e2
      clear h0 e1 e2
      go_enter Try.func54, Try.ntmps54
      go_wp2_with fail
      go_ret
      rw [E2.out]
      exact ⟨rfl, H.out.scalar 1 (.int .i64 (m.limit - 1)) rfl rfl rfl rfl rfl⟩
    · have e2 : m.counted = m := by simp [M.counted, h0, hp]
      rw [e1, e2]
      have t1 : (m.limit == 0) = false := by simpa using h0
      clear h0 e1 e2
      go_enter Try.func54, Try.ntmps54
      go_wp2_with fail
      go_ret
      exact ⟨rfl, H.out, Fr.refl _ _⟩

theorem moutcome_any (b : Bool) (w : World) : Calls Try.prog 56 #[.bool b] w fun e w' => e = .returned (.int .i64 (outcome b)) ∧ w = w' := by
  cases b
  all_goals
    go_enter Try.func56, Try.ntmps56
    go_wp2
    go_ret
    exact ⟨rfl, rfl⟩

/-! ### apply -/
theorem step_append_row {P : Program} {w : World} {ops : Array Oper} {o : Oper} {a : Act} {K : Act → World → Prop} {Q : Exit → Act → World → Prop} {E : Prop} (hgd : o.guard = none) (s x : Operand) (t : TypeId)
    (ho : o.op = .call { callee := .builtin .append, args := #[s, x], argTypes := #[t, t] })
    (base : Nat) (e : TypeId) (i : TypeInfo) (z : Value) (size bytes : Nat) (ht : P.underlying t = some (.slice e)) (hi : P.info? e = some i) (hz : i.zero = some z)
    (hsize : i.size = size) (hby : i.bytes = bytes) (hzs : z.cells.size = size) (hsz : 0 < size)
    (v : Value) (n : Nat) (xs : List Value) (hs : a.eval s = v) (hown : w.ownsRow base e size v n xs)
    (xv : Value) (m : Nat) (news : List Value) (hx : a.eval x = xv) (hl : Lies w xv size m news)
    (h63 : n + m ≤ maxLen) (hbytes : (n + m) * bytes ≤ 140737488355328) (hbase : base ≤ w.heap.size)
    (h : ∀ v' w', w'.ownsRow base e size v' (n + m) (xs ++ news) → w.grownBy w' v.ownBlock → K (a.put o.dst v') w') :
    if Region.wanted o (yielded ops a.tmps) = true then Oper.wp P o a w K Q else E := by
  have hw : Region.wanted o (yielded ops a.tmps) = true := by simp [Region.wanted, hgd]
  rw [if_pos hw]
  obtain ⟨h1, h2, ⟨rfl, rfl⟩ | ⟨ad, c, rfl, hc⟩⟩ := hl
  · have hr := run_append_owned_none (P := P) (w := w) base t o.type e i size ht hi v n xs hown
    unfold Oper.wp execOp
    simp only [ho, resolve, invoke, builtin, Sem.run_bind, Sem.run_pure, Result.andThen_ok, List.map_toArray, List.map_cons, List.map_nil, hs, hx, hr]
    have e0 : news = [] := List.eq_nil_of_length_eq_zero (by simpa using h1)
    subst e0
    exact h v w (by simpa using hown) ⟨rfl, rfl, rfl, Nat.le_refl _, fun _ _ _ => rfl⟩
  · obtain ⟨v', w', hr, h2, h3, _⟩ := run_append_own (P := P) w base t o.type e i z size bytes ht hi hz hsize hby hzs hsz v n xs hown ad m c news h1 hc h2 h63 hbytes hbase
    unfold Oper.wp execOp
    simp only [ho, resolve, invoke, builtin, Sem.run_bind, Sem.run_pure, Result.andThen_ok, List.map_toArray, List.map_cons, List.map_nil, hs, hx, hr]
    exact h v' w' h2 h3
theorem own_e0 (w : World) (e : TypeId) (size : Nat) : (w.alloc (.cells #[] e)).drew.ownsRow w.heap.size e size (.slice (some ⟨w.heap.size, 0, none⟩) 0 0) 0 [] :=
  World.ownsRow_made w #[] 0 (Nat.le_refl _) (Nat.zero_le _) (by simp)
theorem own_e1 (w : World) (e : TypeId) (size : Nat) (o : Obj) : ((w.alloc (.cells #[] e)).alloc o).drew.ownsRow w.heap.size e size (.slice (some ⟨w.heap.size, 0, none⟩) 0 0) 0 [] :=
  World.ownsRow.alloc (World.ownsRow_made w #[] 0 (Nat.le_refl _) (Nat.zero_le _) (by simp)) o
theorem own_e2 (w : World) (e : TypeId) (size : Nat) (o : Obj) : ((w.alloc o).alloc (.cells #[] e)).drew.ownsRow w.heap.size e size (.slice (some ⟨w.heap.size + 1, 0, none⟩) 0 0) 0 [] := by
  have := World.ownsRow_made (base := w.heap.size) (e := e) (size := size) (w.alloc o) #[] 0 (by simp) (Nat.zero_le _) (by simp)
  rw [show (w.alloc o).heap.size = w.heap.size + 1 by simp] at this
  exact this
theorem new_1 (w : World) (o o2 : Obj) : ((w.alloc o).alloc o2).drew.heap[w.heap.size + 1]? = some o2 := by
  have := heap_alloc_new (w.alloc o) o2
  rw [show (w.alloc o).heap.size = w.heap.size + 1 by simp] at this
  exact this
theorem new_0 (w : World) (o o2 : Obj) : ((w.alloc o).alloc o2).drew.heap[w.heap.size]? = some o :=
  (Below.heap_alloc _ _ _ (by simp)).trans (heap_alloc_new w o)
theorem own_shape {w : World} {base : Nat} {e : TypeId} {size n : Nat} {v : Value} {xs : List Value} (h : w.ownsRow base e size v n xs) : ∃ ao cp, v = .slice ao n cp := by
  obtain ⟨h1, ⟨rfl, rfl⟩ | ⟨g, cap, cur, rfl, _⟩⟩ := h
  · exact ⟨_, _, rfl⟩
  · exact ⟨_, _, rfl⟩
theorem infoChg : (Try.prog.info? 98).map (fun i => (i.zero, i.size, i.bytes)) = some (some (.agg #[.string ⟨#[]⟩, .string ⟨#[]⟩, .int .i64 0]), 3, 40) := by kernel_rfl
theorem RowAt.cut {T : Nat → Prop} {w : World} {v : Value} {size n : Nat} {xs : List Value} (h : RowAt T w v size n xs) : RowAt (fun g => T g ∧ g < w.heap.size) w v size n xs := by
  obtain ⟨h1, ao, cp, h2, h3, h4, h6, h5⟩ := h
  exact ⟨h1, ao, cp, h2, h3, h4, h6, fun h0 => by obtain ⟨g, e, ht', hl, hr⟩ := h5 h0; exact ⟨g, e, ⟨ht', hl⟩, hl, hr⟩⟩
/-- Between the two statements of apply. -/
def MidApply (T : Nat → Prop) (w : World) (p : Nat) (vf vd vp : Value) (m : M) (a b : ByteArray) (f : Nat) (wx : World) : Prop :=
  ∃ v, EntsAt (fun g => T g ∨ w.heap.size ≤ g) wx v (changed m.names ⟨a.data.toList, b.data.toList, f⟩) ∧ wx.heap[p]? = some (.cells #[.int .i64 m.cap, .int .i64 m.limit, .bool m.down, vf, v, vd, vp] 56 (0, 0)) ∧ Fr (fun i => i = p) w wx ∧
    wx.heap[w.heap.size]? = some (.cells #[.string a, .string b, .int .i64 f] 98 (0, 0))
theorem mid_end {T : Nat → Prop} {w wx w6 : World} {p : Nat} {vf vn vd vp v v6 : Value} {m : M} {a b : ByteArray} {f : Nat} (h : MRep T w p vf vn vd vp m) (hR : EntsAt (fun g => T g ∨ w.heap.size ≤ g) wx v (changed m.names ⟨a.data.toList, b.data.toList, f⟩))
    (hB : wx.heap[p]? = some (.cells #[.int .i64 m.cap, .int .i64 m.limit, .bool m.down, vf, v, vd, vp] 56 (0, 0))) (hF : Fr (fun i => i = p) w wx) (h6 : Below wx.heap.size wx w6)
    (hO : w6.ownsRow wx.heap.size 98 3 v6 (m.pending.length + 1) (m.pending.flatMap chgV ++ [.string a, .string b, .int .i64 f])) :
    MAfter T w p (m.apply ⟨a.data.toList, b.data.toList, f⟩) (w6.setCell ⟨p, 6, none⟩ v6) := by
  have hp := h.plt
  have hpx := lt_of_block hB
  have hB6 := (h6.block p hpx).trans hB
  have hfr := (Fr.refl (fun i => i = p) w6).setCell (p := ⟨p, 6, none⟩) (.inl rfl) (by rintro ⟨s, hs⟩; rw [hB6] at hs; simp at hs) v6
  have hall : Fr (fun i => i = p) w (w6.setCell ⟨p, 6, none⟩ v6) := (hF.trans ((Fr.below h6).mono (fun _ => False.elim))).trans hfr
  have hT : ∀ g, (T g ∨ w.heap.size ≤ g) → ¬ g = p := fun g hg e => by
    rcases hg with hg | hg
    · exact h.np (e ▸ hg)
    · omega
  have hTT : ∀ g, T g → ¬ g = p := fun g hg => hT g (.inl hg)
  refine ⟨fun g => (T g ∨ w.heap.size ≤ g) ∧ g < (w6.setCell ⟨p, 6, none⟩ v6).heap.size, fun i hi => hi.1, ⟨vf, v, vd, v6, fun g hg => hg.2, fun hg => hT p hg.1 rfl, block_set hB6 6 v6, ?_, ?_, ?_, ?_⟩, hall⟩
  · exact ((h.hf.fr hall hTT).mono (fun g => Or.inl)).cut
  · exact ((RowAt.below hR h6).fr hfr hT).cut
  · exact ((RowAt.fr h.hu hall hTT).mono (fun g => Or.inl)).cut
  · have e : (m.apply ⟨a.data.toList, b.data.toList, f⟩).pending = m.pending ++ [⟨a.data.toList, b.data.toList, f⟩] := rfl
    rw [e, List.length_append, List.flatMap_append]
    have := (((row_own hO).mono (T' := fun g => T g ∨ w.heap.size ≤ g) (fun g hg => Or.inr (Nat.le_trans hF.size hg))).fr hfr hT).cut
    simpa [chgV] using this
theorem mapply_any (h : MRep T w p vf vn vd vp m) (hok : m.Ok) (a b : ByteArray) (f : Nat) (hwt : m.wt < 1073741822) :
    Calls Try.prog 55 #[.pointer (some ⟨p, 0, none⟩), .agg #[.string a, .string b, .int .i64 f]] w fun e w' => e = .returned (.tuple #[]) ∧ MAfter T w p (m.apply ⟨a.data.toList, b.data.toList, f⟩) w' := by
  have H := Lib.hid h
  have h4 := h.c4
  have hpl := h.plt
  have hnl := names_length hok
  have hpw : m.pending.length ≤ m.wt := by unfold M.wt; omega
  obtain ⟨i0, hi, hz0, hz1, hz2⟩ := info_parts infoChg
  clear h hok
  go_enter Try.func55, Try.ntmps55
  go_upto_region 1 with fail
  go_cut [] (fun wx => MidApply T w p vf vd vp m a b f wx)
  case first =>
    have hbx := (Below.refl w.heap.size w).alloc (Nat.le_refl _) (.cells #[.string a, .string b, .int .i64 f] 98)
    have hnew := heap_alloc_new w (.cells #[.string a, .string b, .int .i64 f] 98)
    have b0 : (w.alloc (.cells #[.string a, .string b, .int .i64 f] 98)).cell? ⟨w.heap.size, 0, none⟩ = some (.string a) := by simp only [World.cell?, heap_alloc_new]; rfl
    have b1 : (w.alloc (.cells #[.string a, .string b, .int .i64 f] 98)).cell? ⟨w.heap.size, 1, none⟩ = some (.string b) := by simp only [World.cell?, heap_alloc_new]; rfl
    have b2 : (w.alloc (.cells #[.string a, .string b, .int .i64 f] 98)).cell? ⟨w.heap.size, 2, none⟩ = some (.int .i64 f) := by simp only [World.cell?, heap_alloc_new]; rfl
    have H0 := Lib.hid (H.out.below hbx)
    have a4 := H0.out.c4
    have hq : w.heap.size < (w.alloc (.cells #[.string a, .string b, .int .i64 f] 98)).heap.size := by simp
    have HBX := Lib.hid hbx
    have HNEW := Lib.hid hnew
    generalize w.alloc (.cells #[.string a, .string b, .int .i64 f] 98) = wa at *
    clear h4 hbx hnew
    have H1 := Lib.hid (H0.out.below (Below.refl _ _).drew)
    have hp1 := H0.out.plt
    have z4 := H0.out.fr 4
    go_region_with (go_at_call 67; refine (mchanged_any H1.out.hn (by omega) a b f).mono ?_; rintro e w1 ⟨v1, rfl, hr1, hb1⟩; obtain ⟨ao1, cp1, rfl, hs1, hs2, hs3⟩ := hr1.shape; clear hs3; have e4 := (hb1.cell (p := ⟨p, 4, none⟩) hp1).trans a4; have f4 := (hb1.frozen (p := ⟨p, 4, none⟩) hp1).trans z4; have HR1 := Lib.hid hr1; have HB1 := Lib.hid hb1; clear hr1 hb1)
    all_goals
      have H2 := H1.out.below HB1.out
      have hb2 : Below w.heap.size w w1 := HBX.out.drew.trans (HB1.out.mono (Nat.le_of_lt hq))
      have hq1 : w.heap.size < w1.heap.size := by have := HB1.out.size; simp at this; omega
      have hfr := (Fr.refl (fun i => i = p) w1).setCell (p := ⟨p, 4, none⟩) (.inl rfl) H2.noBox (.slice ao1 (changed m.names ⟨a.data.toList, b.data.toList, f⟩).length cp1)
      go_wp2_with fail
      go_meet
      refine ⟨_, RowAt.fr (RowAt.mono HR1.out (fun g hg => hg.imp id (fun h => by simp at h; omega))) hfr ?_, block_set H2.hd 4 _, (Fr.below hb2).mono (fun _ => False.elim) |>.trans hfr, ?_⟩
      · intro g hg e
        rcases hg with hg | hg
        · exact H.out.np (e ▸ hg)
        · omega
      · exact (hfr.block _ hq1 (.inl (by omega))).trans ((HB1.out.block _ hq).trans HNEW.out)
  case rest =>
    obtain ⟨v, hR, hB, hF, hX⟩ := hcut
    have HR := Lib.hid hR
    have HFR := Lib.hid hF
    have g0 := block_cell hX 0
    have g1 := block_cell hX 1
    have g2 := block_cell hX 2
    have x6 := block_cell hB 6
    have z6 := block_free hB 6
    simp at g0 g1 g2 x6
    have hq3 := lt_of_block hX
    have hpw3 := lt_of_block hB
    have HP3 := Lib.hid (H.out.hp.fr hF (fun i hi e => H.out.np (e ▸ hi)))
    have hne : w.heap.size ≠ p := by omega
    have HBL := Lib.hid hB
    clear hR hB hF hX h4
    go_wp2_with fail
    go_region_law
      (first
        | (refine step_append_row (by rfl) (.tmp 14) (.tmp 18) 54 (by rfl) wc.heap.size 98 i0 _ 3 40 Try.underlying54 hi hz0 hz1 hz2 rfl (by decide) (.slice (some ⟨_, 0, none⟩) 0 0) 0 [] (by rfl) ?_ vp m.pending.length (m.pending.flatMap chgV) (by rfl) ?_ ?_ ?_ ?_ ?_
           · first | exact own_e0 _ _ _ | exact own_e1 _ _ _ _ | exact own_e2 _ _ _ _
           · refine row_lies (HP3.out.below ?_) (chgV_one _) (by decide)
             (repeat (first | exact Below.refl _ _ | refine Below.drew ?_ | refine Below.alloc ?_ (by simp <;> omega) _))
           · unfold maxLen; omega
           · omega
           · simp <;> omega
           intro v5 w5 hown5 hg5
           have hb5 : Below wc.heap.size wc w5 := Below.grown (by (repeat (first | exact Below.refl _ _ | refine Below.drew ?_ | refine Below.alloc ?_ (by simp <;> omega) _))) hg5 (by simp <;> omega) (fun q e => by simp [Value.ownBlock] at e; omega)
           have s0 := (hb5.cell (p := ⟨w.heap.size, 0, none⟩) hq3).trans g0
           have s1 := (hb5.cell (p := ⟨w.heap.size, 1, none⟩) hq3).trans g1
           have s2 := (hb5.cell (p := ⟨w.heap.size, 2, none⟩) hq3).trans g2
           simp only [Nat.zero_add, List.nil_append] at hown5
           have HO5 := Lib.hid hown5
           have HB5 := Lib.hid hb5
           have HG5 := Lib.hid hg5
           clear hown5 hb5 hg5)
        | (refine step_append_row (by rfl) (.tmp 19) (.tmp 21) 54 (by rfl) wc.heap.size 98 i0 _ 3 40 Try.underlying54 hi hz0 hz1 hz2 rfl (by decide) v5 m.pending.length (m.pending.flatMap chgV) (by rfl) ?_ _ 1 [.string a, .string b, .int .i64 f] (by rfl) ?_ ?_ ?_ ?_ ?_
           · first | exact HO5.out | exact HO5.out.alloc _
           · refine ⟨rfl, by simp [Value.oneCell'], .inr ⟨_, 1, rfl, ?_⟩⟩
             first
               | exact World.news_of_block (heap_alloc_new w5 _)
               | exact World.news_of_block ((HG5.out.block (wc.heap.size + 1) (by simp <;> omega) (by simp [Value.ownBlock])).trans (by first | exact new_1 _ _ _ | exact new_0 _ _ _))
               | exact World.news_of_block ((HG5.out.block wc.heap.size (by simp <;> omega) (by simp [Value.ownBlock])).trans (by first | exact new_1 _ _ _ | exact new_0 _ _ _))
           · unfold maxLen; omega
           · omega
           · have := HB5.out.size; simp; omega
           intro v6 w6 hown6 hg6
           have hb6 : Below wc.heap.size wc w6 := by
             first
               | exact HB5.out.grown hg6 (HB5.out.size) (fun q e => own_ge HO5.out e)
               | exact (HB5.out.alloc (HB5.out.size) _).grown hg6 (by have := HB5.out.size; simp; omega) (fun q e => own_ge HO5.out e)
           obtain ⟨ao6, cp6, rfl⟩ := own_shape hown6
           have r6 := (hb6.cell (p := ⟨p, 6, none⟩) hpw3).trans x6
           have q6 := (hb6.frozen (p := ⟨p, 6, none⟩) hpw3).trans z6
           have HO6 := Lib.hid hown6
           have HB6 := Lib.hid hb6
           clear hown6 hb6 hg6))
    all_goals
      go_end0
      refine ⟨rfl, mid_end H.out HR.out HBL.out HFR.out HB6.out HO6.out⟩
end
end Go.Proofs.Ytlhnjdoicolkkaa
