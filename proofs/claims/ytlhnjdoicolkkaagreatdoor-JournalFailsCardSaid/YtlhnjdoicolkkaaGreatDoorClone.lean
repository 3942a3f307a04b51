/- Clone: the walk. -/
import Derived.Test.YtlhnjdoicolkkaaGreatDoorCopied
import Derived.Test.YtlhnjdoicolkkaaGreatDoorOwn
import Derived.Test.YtlhnjdoicolkkaaGreatDoorPlain
import Derived.Laws.EntriesVeiled
import Derived.Deep.RegionHeld3
import Derived.Deep.AppendLies
import Derived.Deep.DrawnRows
import Derived.Deep.DeepCutAuto
set_option maxRecDepth 100000
namespace Go.Proofs.YtlhnjdoicolkkaaGreatDoor
open Go.RowKit Go.Dsk Go.Maps Go.WideMaps
set_option maxHeartbeats 4000000
attribute [local go_sem ↓] Go.wp_at_zero Go.wp_at_succ

theorem own_shape_c {w : World} {base : Nat} {e : TypeId} {size n : Nat} {v : Value} {xs : List Value} (h : w.ownsRow base e size v n xs) : ∃ ao cp, v = .slice ao n cp := by
  obtain ⟨h1, ⟨rfl, rfl⟩ | ⟨g, cap, cur, rfl, _⟩⟩ := h
  · exact ⟨_, _, rfl⟩
  · exact ⟨_, _, rfl⟩
theorem four_new (w : World) (o1 o2 o3 o4 : Obj) : ((((w.alloc o1).alloc o2).alloc o3).alloc o4).heap[w.heap.size]? = some o1 ∧ ((((w.alloc o1).alloc o2).alloc o3).alloc o4).heap[w.heap.size + 1]? = some o2 ∧
    ((((w.alloc o1).alloc o2).alloc o3).alloc o4).heap[w.heap.size + 1 + 1]? = some o3 ∧ ((((w.alloc o1).alloc o2).alloc o3).alloc o4).heap[w.heap.size + 1 + 1 + 1]? = some o4 ∧ Below w.heap.size w ((((w.alloc o1).alloc o2).alloc o3).alloc o4) ∧
    ((((w.alloc o1).alloc o2).alloc o3).alloc o4).heap.size = w.heap.size + 1 + 1 + 1 + 1 := by
  have s1 : (w.alloc o1).heap.size = w.heap.size + 1 := by simp
  have s2 : ((w.alloc o1).alloc o2).heap.size = w.heap.size + 1 + 1 := by simp
  have s3 : (((w.alloc o1).alloc o2).alloc o3).heap.size = w.heap.size + 1 + 1 + 1 := by simp
  have a1 := heap_alloc_new w o1
  have a2 := heap_alloc_new (w.alloc o1) o2
  have a3 := heap_alloc_new ((w.alloc o1).alloc o2) o3
  have a4 := heap_alloc_new (((w.alloc o1).alloc o2).alloc o3) o4
  rw [s1] at a2
  rw [s2] at a3
  rw [s3] at a4
  refine ⟨?_, ?_, ?_, a4, ?_, by simp⟩
  · rw [Below.heap_alloc _ _ _ (by simp; omega), Below.heap_alloc _ _ _ (by simp; omega), Below.heap_alloc _ _ _ (by simp)]
    exact a1
  · rw [Below.heap_alloc _ _ _ (by simp), Below.heap_alloc _ _ _ (by simp)]
    exact a2
  · rw [Below.heap_alloc _ _ _ (by simp)]
    exact a3
  · exact ((((Below.refl _ _).alloc (Nat.le_refl _) _).alloc (by simp) _).alloc (by simp; omega) _).alloc (by simp; omega) _
/-- Behind the copies of the two directories. -/
def Mid7 (loc : Nat → Nat) (m : M) (lft : Int) (w : World) (bo bk bc bf : Nat) (wx : World) : Prop := ∃ L n1 n2,
  wx.heap[bo]? = some (.cells #[.int .i64 m.cap, .map (some n1), .map (some n2), .slice none 0 0, .bool (decide (0 ≤ m.limit)), .int .i64 lft, .bool m.down] 99 (0, 0)) ∧
  wx.heap[bf]? = some (.cells #[.func (.func 91) #[] #[.pointer (some ⟨bc, 0, none⟩)]] 120 (0, 0)) ∧
  Cop loc m.files w.heap.size wx bk bc L ∧ DirAt (newloc L) wx n1 m.names ∧ DirAt (newloc L) wx n2 m.durable ∧ n1 ≠ n2 ∧ bf < n1 ∧ bf < n2 ∧
  (∀ p ∈ m.names, ∃ b, pfind L p.2 = some b) ∧ (∀ p ∈ m.durable, ∃ b, pfind L p.2 = some b) ∧ Below w.heap.size w wx
theorem chV_len (loc : Nat → Nat) (c : Ch) (b : Nat × Nat) : (chV loc c b).length = 2 := by
  unfold chV
  split
  · rfl
  · split <;> rfl
/-- A pending change in memory: its file's address, and a function. -/
theorem chV_form (c : Ch) (b : Nat × Nat) : ∃ fn caps, ∀ loc, chV loc c b = [if c.src = [] then .pointer (some ⟨loc c.file, 0, none⟩) else .pointer none, .func (.func fn) #[] caps] := by
  by_cases h1 : c.src = []
  · exact ⟨_, _, fun loc => by unfold chV; rw [if_pos h1, if_pos h1]⟩
  · by_cases h2 : c.dst = []
    · exact ⟨_, _, fun loc => by unfold chV; rw [if_neg h1, if_neg h1, if_pos h2]⟩
    · exact ⟨_, _, fun loc => by unfold chV; rw [if_neg h1, if_neg h1, if_neg h2]⟩
/-- Behind k pending changes. -/
structure CLoop (loc : Nat → Nat) (m : M) (lft : Int) (w : World) (bo bk bc bf n1 n2 : Nat) (bs : List (Nat × Nat)) (k : Nat) (L : List (Nat × Nat)) (v : Value) (wr : World) : Prop where
  head : wr.heap[bo]? = some (.cells #[.int .i64 m.cap, .map (some n1), .map (some n2), v, .bool (decide (0 ≤ m.limit)), .int .i64 lft, .bool m.down] 99 (0, 0))
  fn : wr.heap[bf]? = some (.cells #[.func (.func 91) #[] #[.pointer (some ⟨bc, 0, none⟩)]] 120 (0, 0))
  cop : Cop loc m.files w.heap.size wr bk bc L
  d1 : DirAt (newloc L) wr n1 m.names
  d2 : DirAt (newloc L) wr n2 m.durable
  p1 : ∀ p ∈ m.names, ∃ b, pfind L p.2 = some b
  p2 : ∀ p ∈ m.durable, ∃ b, pfind L p.2 = some b
  p3 : ∀ c ∈ m.pending.take k, c.src = [] → ∃ b, pfind L c.file = some b
  own : wr.ownsRow w.heap.size 108 2 v k (((m.pending.zip bs).take k).flatMap fun p => chV (newloc L) p.1 p.2)
  below : Below w.heap.size w wr
theorem pfind_idx : ∀ {L : List (Nat × Nat)} {k : Nat}, k ∈ L.map (·.1) → pfind L k = some (L.getD (idx L k) (0, 0)).2
  | p :: L, k, h => by
    by_cases e : p.1 = k
    · simp [pfind, idx, List.findIdx_cons, e]
    · have e2 : (p.1 == k) = false := by simpa using e
      have ih := pfind_idx (L := L) (k := k) (by
        rcases List.mem_cons.1 h with h | h
        · exact absurd h.symm e
        · exact h)
      unfold pfind idx at ih ⊢
      rw [List.find?_cons, List.findIdx_cons, e2]
      simpa using ih
theorem pfind_in {L : List (Nat × Nat)} {k b : Nat} (h : pfind L k = some b) : k ∈ L.map (·.1) := List.mem_map_of_mem (f := Prod.fst) (pfind_some h)
/-- Where the copy with a number lies. -/
def newat (L : List (Nat × Nat)) (i : Nat) : Nat := (L.getD i (0, 0)).2
theorem newat_idx {L : List (Nat × Nat)} {k : Nat} (h : k ∈ L.map (·.1)) : newat L (idx L k) = newloc L k := by
  rw [newloc_of (pfind_idx h)]; rfl
theorem DirAt.renum {L : List (Nat × Nat)} {w : World} {b : Nat} {l : Dir} (h : DirAt (newloc L) w b l) (hl : ∀ p ∈ l, p.2 ∈ L.map (·.1)) : DirAt (newat L) w b (mapDir (idx L) l) := by
  have e : dirD (newat L) (mapDir (idx L) l) = dirD (newloc L) l := by
    unfold dirD mapDir
    rw [List.map_map]
    congr 1
    exact List.map_congr_left fun p hp => by simp only [Function.comp]; rw [newat_idx (hl p hp)]
  unfold DirAt at *
  rw [e, mapDir_length]
  exact h
theorem chV_renum {L : List (Nat × Nat)} {c : Ch} {b : Nat × Nat} (hd : c.src = [] → c.dst ≠ []) (h : c.src = [] → c.file ∈ L.map (·.1)) : chV (newat L) (ren (idx L) c) b = chV (newloc L) c b := by
  unfold chV
  rw [ren_src, ren_dst]
  by_cases hs : c.src = []
  · rw [if_pos hs, if_pos hs, ren_file _ _ (hd hs), newat_idx (h hs)]
  · rw [if_neg hs, if_neg hs]
theorem chBoxes_renum {r : Nat → Nat} {w : World} {c : Ch} {b : Nat × Nat} (h : chBoxes w c b) : chBoxes w (ren r c) b := by
  unfold chBoxes at *
  rw [ren_src, ren_dst]
  exact h
theorem chain_srcs {n : Nat} : ∀ {l : Dir} {cs : List Ch}, Dsk.Chain n l cs → ∀ c ∈ cs, c.src = [] → c.dst ≠ []
  | _, _ :: _, h, c, hc => by
    rcases List.mem_cons.1 hc with rfl | hc
    · exact h.1.2.2.1
    · exact chain_srcs h.2 c hc
theorem bb' (w : World) (o : Obj) : Below w.heap.size w (w.alloc o) := (Below.refl _ _).alloc (Nat.le_refl _) _
section
variable {loc : Nat → Nat} {m : M} {lft : Int} {w : World} {bo bk bc bf n1 n2 : Nat} {bs : List (Nat × Nat)} {k : Nat} {L : List (Nat × Nat)} {v : Value} {wr : World}
theorem CLoop.keep (h : CLoop loc m lft w bo bk bc bf n1 n2 bs k L v wr) {w' : World} (hb : Below wr.heap.size wr w') : CLoop loc m lft w bo bk bc bf n1 n2 bs k L v w' := by
  have hf : Fr (fun _ => False) wr w' := Fr.below hb
  exact ⟨hf.same id h.head, hf.same id h.fn, h.cop.keep hf id id (fun _ _ => id) (fun _ _ => id), h.d1.same (hb.block _ h.d1.lt), h.d2.same (hb.block _ h.d2.lt), h.p1, h.p2, h.p3, row_same h.own (fun j hj => hb.block j (h.own.lt j hj).2), h.below.trans (hb.mono h.below.size)⟩
theorem CLoop.rowNe (h : CLoop loc m lft w bo bk bc bf n1 n2 bs k L v wr) {j : Nat} (hj : v.ownBlock = some j) : j ≠ bk ∧ j ≠ bo ∧ j ≠ bf ∧ j ≠ bc ∧ j ≠ n1 ∧ j ≠ n2 ∧ w.heap.size ≤ j ∧ (∀ p ∈ L, j ≠ p.2) := by
  obtain ⟨cur, hc⟩ := row_block h.own hj
  have hr : IsRow wr j := ⟨_, _, hc⟩
  refine ⟨fun e => h.cop.map.noRow hr e.symm, ?_, ?_, ?_, fun e => h.d1.noRow hc e.symm, fun e => h.d2.noRow hc e.symm, (h.own.lt j hj).1, fun p hp e => ?_⟩
  · rintro rfl; rw [h.head] at hc; simp at hc
  · rintro rfl; rw [h.fn] at hc; simp at hc
  · rintro rfl; rw [h.cop.hc] at hc; simp at hc
  · have := (h.cop.new p hp).2
    rw [FileAt, ← e, hc] at this
    simp at this
theorem CLoop.next (h : CLoop loc m lft w bo bk bc bf n1 n2 bs k L v wr) (hk : k < m.pending.length) (hbs : bs.length = m.pending.length) {c : Ch} {b : Nat × Nat} (hcb : (c, b) = (m.pending.zip bs).getD k (⟨[], [], 0⟩, (0, 0)))
    (hbo : bo = w.heap.size) (hbk : bo < bk) (hn1 : bk < n1) (hn2 : bk < n2) (hn3 : bk < bf) (hn4 : bk < bc)
    {L2 : List (Nat × Nat)} {w2 w3 : World} {o : Obj} {g cp : Nat} (hpre : L <+: L2) (hc2 : Cop loc m.files w.heap.size w2 bk bc L2) (hf2 : Fr (fun i => i = bk) wr w2) (hp : c.src = [] → ∃ x, pfind L2 c.file = some x)
    (hown : w3.ownsRow w.heap.size 108 2 (.slice (some ⟨g, 0, none⟩) (k + 1) cp) (k + 1) ((((m.pending.zip bs).take k).flatMap fun p => chV (newloc L) p.1 p.2) ++ chV (newloc L2) c b)) (hg3 : (w2.alloc o).grownBy w3 v.ownBlock) (hat : v.ownBlock = some g ∨ g = w2.heap.size + 1) :
    CLoop loc m lft w bo bk bc bf n1 n2 bs (k + 1) L2 (.slice (some ⟨g, 0, none⟩) (k + 1) cp) (w3.setCell ⟨bo, 3, none⟩ (.slice (some ⟨g, 0, none⟩) (k + 1) cp)) := by
  have hbol := lt_of_block h.head
  have hs2 := hf2.size
  have ha : Below w2.heap.size w2 (w2.alloc o) := (Below.refl _ _).alloc (Nat.le_refl _) _
  have hsa : (w2.alloc o).heap.size = w2.heap.size + 1 := by simp
  have hgb : g ≠ bo := by
    rcases hat with hj | hj
    · exact (h.rowNe hj).2.1
    · omega
  -- what is not the map of the copies, nor the row, nor the disk stays
  have stay : ∀ i, i < wr.heap.size → i ≠ bk → i ≠ bo → v.ownBlock ≠ some i → (w3.setCell ⟨bo, 3, none⟩ (.slice (some ⟨g, 0, none⟩) (k + 1) cp)).heap[i]? = wr.heap[i]? := fun i hi h1 h2 h3 =>
    (block_other h2 _).trans ((hg3.block i (by omega) (fun e => h3 e.symm)).trans ((ha.block i (by omega)).trans (hf2.block i hi (.inl h1))))
  have stay2 : ∀ i, i < w2.heap.size → i ≠ bo → v.ownBlock ≠ some i → (w3.setCell ⟨bo, 3, none⟩ (.slice (some ⟨g, 0, none⟩) (k + 1) cp)).heap[i]? = w2.heap[i]? := fun i hi h2 h3 =>
    (block_other h2 _).trans ((hg3.block i (by omega) (fun e => h3 e.symm)).trans (ha.block i hi))
  have hb3 : w3.heap[bo]? = some (.cells #[.int .i64 m.cap, .map (some n1), .map (some n2), v, .bool (decide (0 ≤ m.limit)), .int .i64 lft, .bool m.down] 99 (0, 0)) :=
    (hg3.block bo (by omega) (fun e => (h.rowNe e.symm).2.1 rfl)).trans ((ha.block bo (by omega)).trans (hf2.same (by omega) h.head))
  have hsz3 : (w3.setCell ⟨bo, 3, none⟩ (.slice (some ⟨g, 0, none⟩) (k + 1) cp)).heap.size = w3.heap.size := by simp [World.setCell]
  have hg3s := hg3.size
  have hcz : ∀ p ∈ L2, v.ownBlock ≠ some p.2 := by
    intro p hpm e
    have h1 := (hc2.new p hpm).2
    obtain ⟨cur, hc⟩ := row_block h.own e
    have := hf2.same (h.rowNe e).1 hc
    rw [FileAt, this] at h1
    simp at h1
  have hbx : ∀ p ∈ L2, p.2 ≠ bo := by
    intro p hpm e
    have h1 := (hc2.new p hpm).2
    have := hf2.same (i := bo) (by omega) h.head
    rw [FileAt, e, this] at h1
    simp at h1
  have hold : ∀ i, i < m.files.length → v.ownBlock ≠ some (loc i) := fun i hi e => by
    have := (h.rowNe e).2.2.2.2.2.2.1
    have := (hc2.old i hi).1
    omega
  refine ⟨block_set hb3 3 _, (stay bf (lt_of_block h.fn) (by omega) (by omega) (fun e => (h.rowNe e).2.2.1 rfl)).trans h.fn, ?_, ?_, ?_, ?_, ?_, ?_, ?_, ?_⟩
  · refine ⟨hc2.map.same (stay2 bk hc2.map.lt (by omega) (fun e => (h.rowNe e).1 rfl)), (stay2 bc (lt_of_block hc2.hc) (by omega) (fun e => (h.rowNe e).2.2.2.1 rfl)).trans hc2.hc, hc2.idx, hc2.nd, fun p hpm => ⟨(hc2.new p hpm).1, (stay2 p.2 (lt_of_block (hc2.new p hpm).2) (hbx p hpm) (hcz p hpm)).trans (hc2.new p hpm).2⟩, hc2.nb, fun i hi => ⟨(hc2.old i hi).1, (stay2 _ (lt_of_block (hc2.old i hi).2) (by have := (hc2.old i hi).1; omega) (hold i hi)).trans (hc2.old i hi).2⟩, hc2.inj, hc2.kge, hc2.cge⟩
  · refine (h.d1.same (stay n1 h.d1.lt (by omega) (by omega) (fun e => (h.rowNe e).2.2.2.2.1 rfl))).congr (fun p hpm => ?_)
    obtain ⟨x, hx⟩ := h.p1 p hpm
    rw [newloc_of hx, newloc_of (pfind_pre hpre hx)]
  · refine (h.d2.same (stay n2 h.d2.lt (by omega) (by omega) (fun e => (h.rowNe e).2.2.2.2.2.1 rfl))).congr (fun p hpm => ?_)
    obtain ⟨x, hx⟩ := h.p2 p hpm
    rw [newloc_of hx, newloc_of (pfind_pre hpre hx)]
  · intro p hpm
    obtain ⟨x, hx⟩ := h.p1 p hpm
    exact ⟨x, pfind_pre hpre hx⟩
  · intro p hpm
    obtain ⟨x, hx⟩ := h.p2 p hpm
    exact ⟨x, pfind_pre hpre hx⟩
  · intro d hd hs
    rw [List.take_succ_eq_append_getElem hk] at hd
    rcases List.mem_append.1 hd with hd | hd
    · obtain ⟨x, hx⟩ := h.p3 d hd hs
      exact ⟨x, pfind_pre hpre hx⟩
    · simp only [List.mem_singleton] at hd
      have hce : c = m.pending[k] := by
        have := congrArg Prod.fst hcb
        rw [List.getD_eq_getElem?_getD, List.getElem?_eq_getElem (by rw [List.length_zip, hbs]; omega)] at this
        simpa using this
      subst hd
      rw [← hce] at hs ⊢
      exact hp hs
  · have hrow := row_same (w' := w3.setCell ⟨bo, 3, none⟩ (.slice (some ⟨g, 0, none⟩) (k + 1) cp)) hown (fun j hj => block_other (by simp [Value.ownBlock] at hj; omega) _)
    have hzl : k < (m.pending.zip bs).length := by rw [List.length_zip, hbs]; omega
    rw [List.take_succ_eq_append_getElem hzl, List.flatMap_append]
    have hz : (m.pending.zip bs)[k] = (c, b) := by rw [hcb, List.getD_eq_getElem?_getD, List.getElem?_eq_getElem hzl]; rfl
    rw [hz]
    have hcg : (((m.pending.zip bs).take k).flatMap fun p => chV (newloc L2) p.1 p.2) = ((m.pending.zip bs).take k).flatMap fun p => chV (newloc L) p.1 p.2 := by
      rw [List.flatMap_def, List.flatMap_def]
      congr 1
      refine List.map_congr_left fun p hpm => chV_congr (fun hs => ?_)
      have hpt : p.1 ∈ m.pending.take k := by
        have h1 := List.mem_map_of_mem (f := Prod.fst) hpm
        rw [List.map_take, List.map_fst_zip (by omega)] at h1
        exact h1
      obtain ⟨x, hx⟩ := h.p3 _ hpt hs
      rw [newloc_of hx, newloc_of (pfind_pre hpre hx)]
    rw [hcg]
    simpa using hrow
  · refine ⟨?_, ?_, ?_, ?_, ?_⟩
    · exact (hg3.os.trans (hf2.os)).trans h.below.os
    · exact (hg3.tape.trans (hf2.tape)).trans h.below.tape
    · exact (hg3.output.trans (hf2.output)).trans h.below.output
    · have := h.below.size; omega
    · intro i hi
      have := h.below.size
      exact (stay i (by omega) (by have := h.cop.kge; omega) (by omega) (fun e => by have := (h.rowNe e).2.2.2.2.2.2.1; omega)).trans (h.below.block i hi)
theorem CLoop.done {S : Nat → Prop} {bd bn bm : Nat} {sl : Value} (H : Rep loc S w bd bn bm sl bs lft m) (h : CLoop loc m lft w bo bk bc bf n1 n2 bs m.pending.length L v wr) (hbo : bo = w.heap.size) (hbk : bo < bk) (hn1 : bk < n1) (hn2 : bk < n2) (hn12 : n1 ≠ n2) :
    ∃ m0 S', SimE m0 m ∧ m0.wt = m.wt ∧ (∀ i, S' i → w.heap.size ≤ i) ∧ DiskAt S' wr bo m0 ∧ Below w.heap.size w wr := by
  have h1 : ∀ p ∈ m.names, p.2 ∈ L.map (·.1) := fun p hp => by obtain ⟨b, hb⟩ := h.p1 p hp; exact pfind_in hb
  have h2 : ∀ p ∈ m.durable, p.2 ∈ L.map (·.1) := fun p hp => by obtain ⟨b, hb⟩ := h.p2 p hp; exact pfind_in hb
  have h3 : ∀ c ∈ m.pending, c.src = [] → c.file ∈ L.map (·.1) := fun c hc hs => by obtain ⟨b, hb⟩ := h.p3 c (by simpa using hc) hs; exact pfind_in hb
  have hz : (m.pending.zip bs).length = m.pending.length := by rw [List.length_zip, H.hp.len]; omega
  refine ⟨m.renum L, fun i => w.heap.size ≤ i ∧ i < wr.heap.size, renum_sim H.ok h1 h2 h3 h.cop.idx h.cop.nd, renum_wt, fun i hi => hi.1, ⟨newat L, n1, n2, v, bs, lft, ?_⟩, h.below⟩
  have hgk : ∀ k, k < L.length → L.getD k (0, 0) ∈ L := fun k hk => by rw [List.getD_eq_getElem?_getD, List.getElem?_eq_getElem hk]; exact List.getElem_mem hk
  refine ⟨fun i hi => hi.2, ⟨by omega, lt_of_block h.head⟩, ⟨by omega, h.d1.lt⟩, ⟨by omega, h.d2.lt⟩, hn12, h.head, H.hl, h.d1.renum h1, h.d2.renum h2, ⟨?_, ?_, ?_⟩, fun j hj => ⟨(h.own.lt j hj).1, (h.own.lt j hj).2⟩, ?_, ?_, renum_ok H.ok h1 h2 h3 h.cop.idx⟩
  · show bs.length = (m.pending.map _).length
    rw [List.length_map]; exact H.hp.len
  · have hown := own_weaken h.own (Nat.zero_le _)
    have e : (((m.pending.map (ren (idx L))).zip bs).flatMap fun p => chV (newat L) p.1 p.2) = ((m.pending.zip bs).take m.pending.length).flatMap fun p => chV (newloc L) p.1 p.2 := by
      rw [List.take_of_length_le (by omega), List.zip_map_left, List.flatMap_map, List.flatMap_def, List.flatMap_def]
      congr 1
      exact List.map_congr_left fun p hp => chV_renum (chain_srcs H.ok.chain _ (List.of_mem_zip hp).1) (h3 _ (List.of_mem_zip hp).1)
    show wr.ownsRow 0 108 2 v (m.pending.map _).length (((m.pending.map (ren (idx L))).zip bs).flatMap fun p => chV (newat L) p.1 p.2)
    rw [List.length_map, e]
    exact hown
  · intro p hp
    have hp' : p ∈ (m.pending.map (ren (idx L))).zip bs := hp
    rw [List.zip_map_left] at hp'
    obtain ⟨q, hq, rfl⟩ := List.mem_map.1 hp'
    exact chBoxes_renum (chBoxes_same (Fr.below (S := fun _ => False) h.below) (H.hp.box q hq))
  · intro k hk
    have hk' : k < L.length := by simpa [M.renum] using hk
    obtain ⟨a1, a2⟩ := h.cop.new _ (hgk k hk')
    refine ⟨⟨a1, lt_of_block a2⟩, ?_⟩
    have e : (m.renum L).files.getD k ⟨[], 0⟩ = m.files.getD (L.getD k (0, 0)).1 ⟨[], 0⟩ := by
      unfold M.renum
      simp only [List.getD_eq_getElem?_getD, List.getElem?_map, List.getElem?_eq_getElem hk', Option.map_some, Option.getD_some]
    rw [e]; exact a2
  · intro i j hi hj he
    have hi' : i < L.length := by simpa [M.renum] using hi
    have hj' : j < L.length := by simpa [M.renum] using hj
    unfold newat at he
    simp only [List.getD_eq_getElem?_getD, List.getElem?_eq_getElem hi', List.getElem?_eq_getElem hj', Option.getD_some] at he
    exact (List.getElem_inj (h₀ := by simpa using hi') (h₁ := by simpa using hj') h.cop.nb).1 (by simpa using he)
end
section
variable {loc : Nat → Nat} {S : Nat → Prop} {w : World} {bd bn bm : Nat} {sl : Value} {bs : List (Nat × Nat)} {lft : Int} {m : M}
theorem Clone_rep (h : Rep loc S w bd bn bm sl bs lft m) (hwt : m.wt < 1073741823) :
    Calls Tryz.prog 49 #[.pointer (some ⟨bd, 0, none⟩)] w fun e w' => ∃ bo m0 S', e = .returned (.pointer (some ⟨bo, 0, none⟩)) ∧ SimE m0 m ∧ m0.wt = m.wt ∧ (∀ i, S' i → w.heap.size ≤ i) ∧ DiskAt S' w' bo m0 ∧ Below w.heap.size w w' := by
  have H := Lib.hid h
  have c0 := h.c0
  have c1 := h.c1
  have c2 := h.c2
  have c3 := h.c3
  have c4 := h.c4
  have c5 := h.c5
  have c6 := h.c6
  have hbd := lt_of_block h.hd
  have hbn := h.hn.lt
  have hbm := h.hm.lt
  have hnl := names_length h.ok
  have hdl : m.durable.length ≤ m.wt := by unfold M.wt; omega
  have hpl : m.pending.length ≤ m.wt := by unfold M.wt; omega
  obtain ⟨ap, cpp, hslv⟩ : ∃ ap cp, sl = .slice ap m.pending.length cp := own_shape_c h.hp.row
  subst hslv
  have hmm := @run_makeMap Tryz.prog
  have hmf := makes Tryz.prog
  have HOK := Lib.hid h.ok
  obtain ⟨i0, hi, hz0, hz1, hz2⟩ := info_parts infoCh
  clear h
  go_enter Tryz.func49, Tryz.ntmps49
  go_upto_region 7 with fail
  obtain ⟨b1, b2, b3, b4, hb4, hs4⟩ := four_new w (.cells #[.int .i64 m.cap, .map (some bn), .map (some bm), .slice ap m.pending.length cpp, .bool (decide (0 ≤ m.limit)), .int .i64 lft, .bool m.down] 99) (.map #[] 0) (.cells #[.map (some (w.heap.size + 1))] 119) (.cells #[.func (.func 91) #[] #[.pointer (some ⟨w.heap.size + 1 + 1, 0, none⟩)]] 120)
  generalize (((w.alloc (.cells #[.int .i64 m.cap, .map (some bn), .map (some bm), .slice ap m.pending.length cpp, .bool (decide (0 ≤ m.limit)), .int .i64 lft, .bool m.down] 99)).alloc (.map #[] 0)).alloc (.cells #[.map (some (w.heap.size + 1))] 119)).alloc (.cells #[.func (.func 91) #[] #[.pointer (some ⟨w.heap.size + 1 + 1, 0, none⟩)]] 120) = w4 at b1 b2 b3 b4 hb4 hs4
  obtain ⟨bf, hbf⟩ : ∃ bf, bf = w.heap.size + 1 + 1 + 1 := ⟨_, rfl⟩
  rw [← hbf] at b4 hs4
  rw [← hbf]
  obtain ⟨bc, hbc⟩ : ∃ bc, bc = w.heap.size + 1 + 1 := ⟨_, rfl⟩
  rw [← hbc] at b3 b4
  rw [← hbc]
  obtain ⟨bk, hbk⟩ : ∃ bk, bk = w.heap.size + 1 := ⟨_, rfl⟩
  rw [← hbk] at b2 b3
  obtain ⟨bo, hbo⟩ : ∃ bo, bo = w.heap.size := ⟨_, rfl⟩
  rw [← hbo] at b1
  rw [← hbo]
  have hC4 : Cop loc m.files w.heap.size w4 bk bc [] := ⟨⟨#[], 0, b2, rfl⟩, b3, by simp, by simp, by simp, by simp, fun k hk => ⟨H.out.lt _ (H.out.hf k hk).1, (hb4.block _ (H.out.lt _ (H.out.hf k hk).1)).trans (H.out.hf k hk).2⟩, H.out.inj, by omega, by omega⟩
  have hr4 := H.out.below hb4
  have k1 := hr4.c1
  have k2 := hr4.c2
  have HR4 := Lib.hid hr4
  have HC4 := Lib.hid hC4
  have HB1 := Lib.hid b1
  have HBF := Lib.hid b4
  have HB4 := Lib.hid hb4
  have HSZ := Lib.hid (And.intro hbo (And.intro hbk (And.intro hbc (And.intro hbf hs4))))
  clear c0 c1 c2 c3 c4 c5 c6 b1 b2 b3 b4 hb4 hr4 hC4 hbo hbk hbc hbf hs4 hmm
  go_cut [] (fun wx => Mid7 loc m lft w bo bk bc bf wx)
  case first =>
    obtain ⟨e1, e2, e3, e4, e5⟩ := HSZ.out
    have hne : bo ≠ bd := by omega
    have hne2 : bd ≠ bo := by omega
    have hbdk : bd ≠ bk := by omega
    have hbok : bo ≠ bk := by omega
    have hbfk : bf ≠ bk := by omega
    have hbnk : bn ≠ bk := by omega
    have hbmk : bm ≠ bk := by omega
    have hbfl : bf < w4.heap.size := by omega
    have hbol : bo < w4.heap.size := by omega
    have hbdl : bd < w4.heap.size := by omega
    have hwl : w.heap.size ≤ w4.heap.size := by omega
    have hbn5 : bn < w.heap.size := hbn
    have HE := Lib.hid (And.intro e1 (And.intro e2 (And.intro e3 (And.intro e4 e5))))
    clear e1 e2 e3 e4 e5
    have HC5 := Lib.hid (HC4.out.keep (S := fun _ => False) (w' := w4.drew) ((Fr.refl _ _).drew) id id (fun _ _ => id) (fun _ _ => id))
    have HR5 := Lib.hid (HR4.out.below (w2 := w4.drew) (Below.refl _ _).drew)
    have hbf5 : w4.drew.heap[bf]? = some (.cells #[.func (.func 91) #[] #[.pointer (some ⟨bc, 0, none⟩)]] 120 (0, 0)) := HBF.out
    have HBF5 := Lib.hid hbf5
    clear hbf5
    go_region_held3 (fun w' => w'.cell? ⟨bd, 1, none⟩ = some (.map (some bn)) ∧ w'.cell? ⟨bd, 2, none⟩ = some (.map (some bm))) (go_keep)
      (first
        | (go_at_call 92
           with_reducible refine (allDir_cop (l := m.names) HC5.out HBF5.out HR5.out.hn HOK.out.names (by omega) hbn).mono ?_
           rintro e w5 ⟨L1, n1, rfl, hn1, hd1, hp1, hpre1, hc1, hf1⟩
           have q1 := (hf1.cellOther' (a := ⟨bd, 1, none⟩) hbdl hbdk).trans k1
           have q2 := (hf1.cellOther' (a := ⟨bd, 2, none⟩) hbdl hbdk).trans k2
           have HN1 := Lib.hid hn1
           have HD1 := Lib.hid hd1
           have HP1 := Lib.hid hp1
           have HC1 := Lib.hid hc1
           have HF1 := Lib.hid hf1
           clear hn1 hd1 hp1 hpre1 hc1 hf1)
        | (go_at_call 92
           with_reducible refine (allDir_cop (l := m.durable) HC1.out (HF1.out.same hbfk HBF5.out) (HR5.out.hm.same (HF1.out.block bm (HR5.out.hm.lt) (.inl hbmk))) HOK.out.durable (by omega) hbm).mono ?_
           rintro e w6 ⟨L2, n2, rfl, hn2, hd2, hp2, hpre2, hc2, hf2⟩
           have hf12 := HF1.out.trans hf2
           have g1 := (hf12.cellOther' (a := ⟨bd, 1, none⟩) hbdl hbdk).trans k1
           have g2 := (hf12.cellOther' (a := ⟨bd, 2, none⟩) hbdl hbdk).trans k2
           have hb6 := hf12.same hbok HB1.out
           have y1 := block_cell hb6 1
           have y2 := block_cell hb6 2
           have y3 := block_cell hb6 3
           have z1 := block_free hb6 1
           have z2 := block_free hb6 2
           have z3 := block_free hb6 3
           simp at y1 y2 y3
           have HB6 := Lib.hid hb6
           have HN2 := Lib.hid hn2
           have HD2 := Lib.hid hd2
           have HP2 := Lib.hid hp2
           have HPR2 := Lib.hid hpre2
           have HC2 := Lib.hid hc2
           have HF2 := Lib.hid hf2
           have HF12 := Lib.hid hf12
           clear hn2 hd2 hp2 hpre2 hc2 hf2 hb6 hf12))
    all_goals
      go_wp2_with fail
      go_meet
      obtain ⟨e1, e2, e3, e4, e5⟩ := HE.out
      have hbx : ∀ {W : World} {cs : Array Value}, W.heap[bo]? = some (.cells cs 99 (0, 0)) → ¬ IsBox W bo := by
        rintro W cs h ⟨s, hs⟩
        rw [h] at hs
        simp at hs
      have s1 := block_set HB6.out 1 (.map (some n1))
      have s2 := block_set s1 2 (.map (some n2))
      have s3 := block_set s2 3 (.slice none 0 0)
      have hfs : Fr (fun i => i = bo) w6 (((w6.setCell ⟨bo, 1, none⟩ (.map (some n1))).setCell ⟨bo, 2, none⟩ (.map (some n2))).setCell ⟨bo, 3, none⟩ (.slice none 0 0)) :=
        (((Fr.refl (fun i => i = bo) w6).setCell (p := ⟨bo, 1, none⟩) (.inl rfl) (hbx HB6.out) _).setCell (p := ⟨bo, 2, none⟩) (.inl rfl) (hbx s1) _).setCell (p := ⟨bo, 3, none⟩) (.inl rfl) (hbx s2) _
      have hn1 := HN1.out
      have hn2 := HN2.out
      have hd1 := HD1.out.lt
      have hz4 : w4.drew.heap.size = w4.heap.size := rfl
      rw [hz4] at hn1
      have hnewl : ∀ p ∈ m.names, newloc L1 p.2 = newloc L2 p.2 := fun p hp => by
        obtain ⟨b, hb⟩ := HP1.out p hp
        rw [newloc_of hb, newloc_of (pfind_pre HPR2.out hb)]
      refine ⟨L2, n1, n2, s3, hfs.same (by omega) (HF12.out.same hbfk HBF5.out), ?_, ?_, ?_, by omega, by omega, by have := HF1.out.size; omega, ?_, HP2.out, ?_⟩
      · refine HC2.out.keep hfs (by omega) (by omega) (fun p hp e => ?_) (fun k hk e => by have := (HC2.out.old k hk).1; omega)
        have := (HC2.out.new p hp).2
        rw [FileAt, e, HB6.out] at this
        simp at this
      · exact ((HD1.out.same (HF2.out.block n1 hd1 (.inl (by omega)))).same (hfs.block n1 (by have := HF2.out.size; omega) (.inl (by omega)))).congr hnewl
      · exact HD2.out.same (hfs.block n2 HD2.out.lt (.inl (by omega)))
      · exact fun p hp => by
          obtain ⟨b, hb⟩ := HP1.out p hp
          exact ⟨b, pfind_pre HPR2.out hb⟩
      · exact (HB4.out.drew.trans (HF12.out.toBelow (by rw [hz4]; omega) (fun i hi => by omega))).trans (hfs.toBelow (by have := HF12.out.size; omega) (fun i hi => by omega))
  case rest =>
    obtain ⟨L0, n1, n2, hbo, hbf, hC, hd1, hd2, hn12, hn1, hn2, hp1, hp2, hbel⟩ := hcut
    obtain ⟨e1, e2, e3, e4, e5⟩ := HSZ.out
    have hL0 : CLoop loc m lft w bo bk bc bf n1 n2 bs 0 L0 (.slice none 0 0) wc := ⟨hbo, hbf, hC, hd1, hd2, hp1, hp2, by simp, by simpa using World.ownsRow_nil _ _ _ _, hbel⟩
    have HL0 := Lib.hid hL0
    have k3 := (H.out.below hbel).c3
    have HSZ2 := Lib.hid (And.intro e1 (And.intro e2 (And.intro e3 (And.intro e4 e5))))
    clear hL0 hbo hbf hC hd1 hd2 hp1 hp2 hbel e1 e2 e3 e4 e5 k1 k2
    go_wp2_with fail
    go_loopw [37] (fun i wr => ∃ k : Nat, k ≤ m.pending.length ∧ i = .int .i64 k ∧ ∃ L v, CLoop loc m lft w bo bk bc bf n1 n2 bs k L v wr) (fun i _ => m.pending.length - (intOf i).toNat)
    case atStart => exact ⟨0, Nat.zero_le _, rfl, L0, _, HL0.out⟩
    case round =>
      obtain ⟨k, hk, rfl, L, v, hL⟩ := hrel
      have HL := Lib.hid hL
      clear hL
      by_cases hlt : k < m.pending.length
      · have hzl : (m.pending.zip bs).length = m.pending.length := by rw [List.length_zip, H.out.hp.len]; omega
        obtain ⟨gp, cpx, hve, _, hgp, hcx1, hcx2, hcc⟩ := RowAt.elem (α := Ch × (Nat × Nat)) (f := fun p => chV loc p.1 p.2) (l := m.pending.zip bs) (row_own H.out.hp.row) (fun p => chV_len loc p.1 p.2) (⟨[], [], 0⟩, (0, 0)) (k := k) (by omega) hzl.symm
        simp only [Value.slice.injEq] at hve
        obtain ⟨rfl, -, rfl⟩ := hve
        have hce : ((m.pending.zip bs).getD k (⟨[], [], 0⟩, (0, 0))).1 = m.pending[k] := by
          rw [List.getD_eq_getElem?_getD, List.getElem?_eq_getElem (by omega)]
          simp
        obtain ⟨cb, hcb⟩ : ∃ cb, cb = (m.pending.zip bs).getD k (⟨[], [], 0⟩, (0, 0)) := ⟨_, rfl⟩
        rw [← hcb] at hce hcc
        have HCB := Lib.hid hcb
        obtain ⟨c, b⟩ := cb
        simp only at hce hcc
        obtain ⟨fn, caps, hform⟩ := chV_form c b
        have hchk := chain_at k hlt HOK.out.chain
        rw [← hce] at hchk
        have y0 := hcc 0 (by omega)
        have y1 := hcc 1 (by omega)
        rw [hform loc] at y0 y1
        obtain ⟨xo, hxo⟩ : ∃ xo : Option Addr, xo = if c.src = [] then some ⟨loc c.file, 0, none⟩ else none := ⟨_, rfl⟩
        have hxv : (if c.src = [] then Value.pointer (some ⟨loc c.file, 0, none⟩) else .pointer none) = .pointer xo := by rw [hxo]; split <;> rfl
        rw [hxv] at y0 y1
        simp only [List.getD_cons_zero, List.getD_cons_succ, Nat.add_zero] at y0 y1
        have y0 := (HL.out.below.cell (p := ⟨gp, k * 2, none⟩) hgp).trans y0
        have y1 := (HL.out.below.cell (p := ⟨gp, k * 2 + 1, none⟩) hgp).trans y1
        have HFORM := Lib.hid hform
        have HCE := Lib.hid hce
        have hk0 : (0 : Int) ≤ (k : Int) := by omega
        have hk1 : (k : Int) < (m.pending.length : Int) := by omega
        have HXO := Lib.hid hxo
        unfold maxLen at hcx2
        clear hcb hcc hform hce hzl hxo hxv
        go_upto_region 11 with fail
        have HL2 := Lib.hid (HL.out.keep (bb' wr (.cells #[.pointer xo, .func (.func fn) #[] caps] 108)))
        have hnew := heap_alloc_new wr (.cells #[.pointer xo, .func (.func fn) #[] caps] 108)
        have hqlt : wr.heap.size < (wr.alloc (.cells #[.pointer xo, .func (.func fn) #[] caps] 108)).heap.size := by simp
        obtain ⟨e1, e2, e3, e4, e5⟩ := HSZ2.out
        have hbow := lt_of_block HL.out.head
        have hbkw := HL.out.cop.map.lt
        have hqk : wr.heap.size ≠ bk := by omega
        generalize wr.alloc (.cells #[.pointer xo, .func (.func fn) #[] caps] 108) = wa at HL2 hnew hqlt ⊢
        obtain ⟨q, hq⟩ : ∃ q, q = wr.heap.size := ⟨_, rfl⟩
        rw [← hq] at hnew hqlt hqk ⊢
        have x3 := block_cell HL2.out.head 3
        have z3 := block_free HL2.out.head 3
        have f0 := cell_of_one HL2.out.fn
        have u0 := block_cell hnew 0
        have u1 := block_cell hnew 1
        simp at x3 u0 u1
        have hboa := lt_of_block HL2.out.head
        have hok1 : bo ≠ bk := by omega
        have hkb : k + 1 ≤ 1073741823 := by omega
        -- what the call gives
        have hcall : Calls Tryz.prog 91 #[.pointer xo, .pointer (some ⟨bc, 0, none⟩)] wa.drew fun e w2 => ∃ yo, e = .returned (.pointer yo) ∧ w2.cell? ⟨bo, 3, none⟩ = some v ∧ w2.cell? ⟨q, 0, none⟩ = some (.pointer xo) ∧ w2.cell? ⟨q, 1, none⟩ = some (.func (.func fn) #[] caps) ∧ (∀ o, (w2.alloc o).cell? ⟨bo, 3, none⟩ = some v) ∧ (∀ o, (w2.alloc o).frozen? ⟨bo, 3, none⟩ = false) ∧
            w2.ownsRow w.heap.size 108 2 v k (((m.pending.zip bs).take k).flatMap fun p => chV (newloc L) p.1 p.2) ∧ w.heap.size ≤ w2.heap.size ∧ bo < w2.heap.size ∧
            (∀ g cpg w3, w3.ownsRow w.heap.size 108 2 (.slice (some ⟨g, 0, none⟩) (k + 1) cpg) (k + 1) ((((m.pending.zip bs).take k).flatMap fun p => chV (newloc L) p.1 p.2) ++ [.pointer yo, .func (.func fn) #[] caps]) →
              (w2.alloc (.cells #[.pointer yo, .func (.func fn) #[] caps] 108)).grownBy w3 v.ownBlock → (v.ownBlock = some g ∨ g = w2.heap.size + 1) →
              ∃ L2 v2, CLoop loc m lft w bo bk bc bf n1 n2 bs (k + 1) L2 v2 (w3.setCell ⟨bo, 3, none⟩ (.slice (some ⟨g, 0, none⟩) (k + 1) cpg))) := by
          have hgo : ∀ (w2 : World) (L2 : List (Nat × Nat)) (yo : Option Addr), L <+: L2 → Cop loc m.files w.heap.size w2 bk bc L2 → Fr (fun i => i = bk) wa.drew w2 → (c.src = [] → ∃ x, pfind L2 c.file = some x) → chV (newloc L2) c b = [.pointer yo, .func (.func fn) #[] caps] →
              ∃ yo', Ending.returned (.pointer yo) = .returned (.pointer yo') ∧ w2.cell? ⟨bo, 3, none⟩ = some v ∧ w2.cell? ⟨q, 0, none⟩ = some (.pointer xo) ∧ w2.cell? ⟨q, 1, none⟩ = some (.func (.func fn) #[] caps) ∧ (∀ o, (w2.alloc o).cell? ⟨bo, 3, none⟩ = some v) ∧ (∀ o, (w2.alloc o).frozen? ⟨bo, 3, none⟩ = false) ∧
              w2.ownsRow w.heap.size 108 2 v k (((m.pending.zip bs).take k).flatMap fun p => chV (newloc L) p.1 p.2) ∧ w.heap.size ≤ w2.heap.size ∧ bo < w2.heap.size ∧
              (∀ g cpg w3, w3.ownsRow w.heap.size 108 2 (.slice (some ⟨g, 0, none⟩) (k + 1) cpg) (k + 1) ((((m.pending.zip bs).take k).flatMap fun p => chV (newloc L) p.1 p.2) ++ [.pointer yo', .func (.func fn) #[] caps]) →
                (w2.alloc (.cells #[.pointer yo', .func (.func fn) #[] caps] 108)).grownBy w3 v.ownBlock → (v.ownBlock = some g ∨ g = w2.heap.size + 1) →
                ∃ L2 v2, CLoop loc m lft w bo bk bc bf n1 n2 bs (k + 1) L2 v2 (w3.setCell ⟨bo, 3, none⟩ (.slice (some ⟨g, 0, none⟩) (k + 1) cpg))) := by
            intro w2 L2 yo hpre hc2 hf2 hp2 hch
            have hf2' : Fr (fun i => i = bk) wa w2 := ((Fr.refl _ wa).drew).trans hf2
            have v3 := (hf2'.cellOther' (a := ⟨bo, 3, none⟩) hboa hok1).trans x3
            have v4 := (World.frozen?_of_block (a := ⟨bo, 3, none⟩) (hf2'.block bo hboa (.inl hok1))).trans z3
            have hlt2 : bo < w2.heap.size := Nat.lt_of_lt_of_le hboa hf2'.size
            refine ⟨yo, rfl, v3, (hf2'.cellOther' (a := ⟨q, 0, none⟩) hqlt hqk).trans u0, (hf2'.cellOther' (a := ⟨q, 1, none⟩) hqlt hqk).trans u1, fun o => (cell?_alloc_lt hlt2).trans v3, fun o => (frozen?_alloc_lt hlt2).trans v4,
              row_same (w' := w2) HL2.out.own (fun j hj => hf2'.block j (HL2.out.own.lt j hj).2 (.inl (HL2.out.rowNe hj).1)), by omega, hlt2, ?_⟩
            intro g cpg w3 hown3 hg3 hat3
            exact ⟨L2, _, CLoop.next (wr := wa) HL2.out hlt H.out.hp.len HCB.out e1 (by omega) (by omega) (by omega) (by omega) (by omega) hpre hc2 hf2' hp2 (by rw [hch]; exact hown3) hg3 hat3⟩
          have HL3 := HL2.out.keep (w' := wa.drew) (Below.refl _ _).drew
          by_cases hsrc : c.src = []
          · have hcf : c.file < m.files.length := hchk.2.2.2.1 (hchk.2.2.1 hsrc)
            have hx := HXO.out
            rw [if_pos hsrc] at hx
            rw [hx]
            refine (copied_cop HL3.cop hcf).mono ?_
            rintro e w2 ⟨L2, b2, rfl, hp2, hpre, hc2, hf2⟩
            rw [hx] at hgo
            exact hgo w2 L2 _ hpre hc2 hf2 (fun _ => ⟨b2, hp2⟩) (by rw [HFORM.out, if_pos hsrc, newloc_of hp2])
          · have hx := HXO.out
            rw [if_neg hsrc] at hx
            rw [hx]
            refine (copied_nil HL3.cop.map HL3.cop.hc).mono ?_
            rintro e w2 ⟨rfl, rfl⟩
            rw [hx] at hgo
            exact hgo wa.drew L _ (List.prefix_refl _) HL3.cop (Fr.refl _ _) (fun h => absurd h hsrc) (by rw [HFORM.out, if_neg hsrc])
        have HCALL := Lib.hid hcall
        have hnb : ¬ some bo = v.ownBlock := fun e => (HL2.out.rowNe e.symm).2.1 rfl
        have HNB := Lib.hid hnb
        have HINF := Lib.hid (And.intro hi (And.intro hz0 (And.intro hz1 hz2)))
        clear hcall hnb hchk hnew hqlt hqk e1 e2 e3 e4 e5 hbow hbkw hboa hok1 y0 y1 hgp hcx1 hcx2 HL2 HXO HFORM HCE HCB hq
        clear k3 hk0 hk1 hk hwt hbd hbn hbm hnl hdl hpl HL HL0 hn12 hn1 hn2 HSZ2 HSZ HR4 HC4 HB1 HBF HB4 hi hz0 hz1 hz2 hmf H HOK
        go_region_law
          (first
            | (go_simp
               go_at_call 91
               refine HCALL.out.mono ?_
               rintro e w2 ⟨yo, rfl, v3, v0, v1, w3a, w3b, ho2, hws, hbs2, hend⟩
               dsimp only
               have HO2 := Lib.hid ho2
               have HWB := Lib.hid w3b
               have HEND := Lib.hid hend
               clear ho2 hend w3b)
            | (refine step_append_lies _ rfl (.tmp 42) (.tmp 50) 97 rfl w.heap.size 108 i0 _ 2 16 Tryz.underlying97 HINF.out.1 HINF.out.2.1 HINF.out.2.2.1 HINF.out.2.2.2 rfl (by decide) v k _ (by simp [Act.eval]) (HO2.out.alloc (.cells #[.pointer yo, .func (.func fn) #[] caps] 108)) ⟨w2.heap.size, 0, none⟩ 1 1 [.pointer yo, .func (.func fn) #[] caps] (by simp [Act.eval]) rfl (World.news_of_block (heap_alloc_new w2 _)) (by simp [Value.oneCell']) (by decide) (by unfold maxLen; omega) (by omega) (by simp; omega) (w2.heap.size + 1) (by simp) ?_
               intro g cpg w3 hown3 hg3 hat3 hlt3
               have a3 := (hg3.cell_far ⟨bo, 3, none⟩ (by simp; omega) HNB.out).trans (w3a _)
               have b3 := (hg3.frozen_far ⟨bo, 3, none⟩ (by simp; omega) HNB.out).trans (HWB.out _)
               have HX := Lib.hid (HEND.out g cpg w3 hown3 hg3 hat3)
               clear hown3 hg3 hat3 hlt3))
        all_goals
          go_wp2_with fail
          go_roundw
          case rel =>
            obtain ⟨L2, v2, hn⟩ := HX.out
            exact ⟨k + 1, by omega, by go_num, L2, v2, hn⟩
          case measure => simp [intOf]; omega
      · obtain rfl : k = m.pending.length := by omega
        go_wp2_with fail
        go_ret
        obtain ⟨e1, e2, e3, e4, e5⟩ := HSZ2.out
        obtain ⟨m0, S', g1, g2, g3, g4, g5⟩ := CLoop.done H.out HL.out e1 (by omega) (by omega) (by omega) hn12
        exact ⟨bo, m0, S', rfl, g1, g2, g3, g4, g5⟩
end
end Go.Proofs.YtlhnjdoicolkkaaGreatDoor
