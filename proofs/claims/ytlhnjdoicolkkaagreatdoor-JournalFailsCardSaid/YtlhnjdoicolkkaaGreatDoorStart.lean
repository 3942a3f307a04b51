/- Start: the walk. -/
import Derived.Test.YtlhnjdoicolkkaaGreatDoorChoice
import Derived.Deep.DeepCutAuto
set_option maxRecDepth 100000
namespace Go.Proofs.YtlhnjdoicolkkaaGreatDoor
open Go.RowKit Go.Dsk Go.Maps Go.WideMaps
set_option maxHeartbeats 400000

/-- A slice of ints that holds sc. -/
def IntsAt (w : World) (v : Value) (sc : List Int) : Prop :=
  sc.length * 8 ≤ 140737488355328 ∧ ((v = .slice none 0 0 ∧ sc = []) ∨ (∃ a c, v = .slice (some a) 0 c ∧ sc = []) ∨
    ∃ b off c, v = .slice (some ⟨b, off, none⟩) sc.length c ∧ ∀ j, j < sc.length → w.cell? ⟨b, off + j, none⟩ = some (.int .i64 (sc.getD j 0)))

theorem clone_ints {w : World} {v : Value} {sc : List Int} (h : IntsAt w v sc) :
    Calls Tryz.prog 76 #[v] w fun e w' => ∃ v', e = .returned v' ∧ w'.ownsRow w.heap.size 3 1 v' sc.length (sc.map (Value.int .i64)) ∧ Below w.heap.size w w' := by
  obtain ⟨hb, h⟩ := h
  rcases h with ⟨rfl, rfl⟩ | ⟨a, c, rfl, rfl⟩ | ⟨b, off, c, rfl, hc⟩
  · refine (Tryz.slices_Clone_int_nil 0 0 w).mono ?_
    rintro e w' ⟨rfl, rfl⟩
    exact ⟨_, rfl, World.ownsRow_nil _ _ _ _, Below.refl _ _⟩
  · refine (Tryz.slices_Clone_int_zero a c w).mono ?_
    rintro e w' ⟨v', rfl, h1, _, h2⟩
    exact ⟨_, rfl, h1, h2⟩
  · refine (Tryz.slices_Clone_int b off sc.length c sc w (Nat.le_refl _) hb hc).mono ?_
    rintro e w' ⟨v', rfl, h1, _, h2⟩
    rw [List.take_length] at h1
    exact ⟨_, rfl, h1, h2⟩

/-- What a slice looks like that owns numbers. -/
theorem own_slice {w : World} {base : Nat} {v : Value} {sc : List Int} (h : w.ownsRow base 3 1 v sc.length (sc.map (Value.int .i64))) : ∃ ao cp, v = .slice ao sc.length cp ∧ sc.length ≤ cp ∧ cp ≤ maxLen ∧
    (0 < sc.length → ∃ g, ao = some ⟨g, 0, none⟩ ∧ base ≤ g ∧ g < w.heap.size ∧ ∀ j, j < sc.length → w.cell? ⟨g, 0 + j, none⟩ = some (.int .i64 (sc.getD j 0))) := by
  obtain ⟨h1, h2⟩ := h
  rcases h2 with ⟨rfl, h0⟩ | ⟨g, cap, cur, rfl, hg, hh, h3, h4, h5, h6⟩
  · exact ⟨none, 0, by rw [h0], by omega, by unfold maxLen; omega, fun h => absurd h (by omega)⟩
  · refine ⟨_, cap, rfl, h3, h4, fun h0 => ⟨g, rfl, hg, lt_of_block hh, fun j hj => ?_⟩⟩
    have e : cur[j]? = some (.int .i64 (sc.getD j 0)) := by
      have e1 : (cur.toList.take (sc.length * 1))[j]? = (sc.map (Value.int .i64))[j]? := by rw [h6]
      rw [List.getElem?_take_of_lt (by omega)] at e1
      rw [← Array.getElem?_toList, e1]
      simp [List.getD_eq_getElem?_getD, List.getElem?_eq_getElem hj]
    have e2 : (0 + j) = j := by omega
    rw [e2, block_cell hh]
    exact e

/-- What a slice looks like that owns strings. -/
theorem own_strings {w : World} {base : Nat} {v : Value} {ss : List Bs} {n : Nat} (h : w.ownsRow base 9 1 v n (ss.map fun x => .string ⟨x.toArray⟩)) : ∃ ao cp, v = .slice ao n cp ∧ n ≤ cp ∧
    (0 < n → ∃ g, ao = some ⟨g, 0, none⟩ ∧ base ≤ g ∧ g < w.heap.size ∧ ∀ j, j < n → w.cell? ⟨g, j, none⟩ = some (.string ⟨(ss.getD j []).toArray⟩)) := by
  obtain ⟨h1, h2⟩ := h
  rcases h2 with ⟨rfl, rfl⟩ | ⟨g, cap, cur, rfl, hg, hh, h3, h4, h5, h6⟩
  · exact ⟨none, 0, rfl, by omega, fun h => absurd h (by omega)⟩
  · refine ⟨_, cap, rfl, h3, fun h0 => ⟨g, rfl, hg, lt_of_block hh, fun j hj => ?_⟩⟩
    have hl : ss.length = n := by simpa using h1
    have e : cur[j]? = some (.string ⟨(ss.getD j []).toArray⟩) := by
      have e1 : (cur.toList.take (n * 1))[j]? = (ss.map fun x => Value.string ⟨x.toArray⟩)[j]? := by rw [h6]
      rw [List.getElem?_take_of_lt (by omega)] at e1
      rw [← Array.getElem?_toList, e1]
      simp [List.getD_eq_getElem?_getD, List.getElem?_eq_getElem (show j < ss.length by omega)]
    rw [block_cell hh]
    exact e

section
variable {loc : Nat → Nat} {S : Nat → Prop} {w : World} {bd bn bm : Nat} {sl : Value} {bs : List (Nat × Nat)} {lft : Int} {m : M}

theorem Start_up (h : Rep loc S w bd bn bm sl bs lft m) (hd : m.down = false) (ao : Option Addr) (n c : Nat) : Calls Tryz.prog 39 #[.pointer (some ⟨bd, 0, none⟩), .slice ao n c] w fun e w' => e = .returned (.tuple #[]) ∧ Below w.heap.size w w' := by
  have h6 := h.c6
  rw [hd] at h6
  have hbl := lt_of_block h.hd
  clear h hd
  go_enter Tryz.func39, Tryz.ntmps39
  go_wp2
  refine bodyPost_ret (v := .tuple #[]) (by simp [results, Tryz.results39, go_sem]) rfl ⟨rfl, (Below.refl _ _).alloc (Nat.le_refl _) _⟩

/-- What the slice of the pending changes looks like. -/
theorem pend_shape {w : World} {sl : Value} {n : Nat} {xs : List Value} (h : w.ownsRow 0 108 2 sl n xs) : ∃ ap cp, sl = .slice ap n cp ∧ n ≤ cp ∧ cp ≤ maxLen ∧
    (0 < n → ∃ g, ap = some ⟨g, 0, none⟩ ∧ sl.ownBlock = some g ∧ ∀ j, j < n * 2 → w.cell? ⟨g, j, none⟩ = some (xs.getD j undef)) := by
  obtain ⟨h1, h2⟩ := h
  rcases h2 with ⟨rfl, rfl⟩ | ⟨g, cap, cur, rfl, hg, hh, h3, h4, h5, h6⟩
  · exact ⟨none, 0, rfl, by omega, by unfold maxLen; omega, fun h => absurd h (by omega)⟩
  · refine ⟨_, cap, rfl, h3, h4, fun h0 => ⟨g, rfl, rfl, fun j hj => ?_⟩⟩
    have e : cur[j]? = some (xs.getD j undef) := by
      have e1 : (cur.toList.take (n * 2))[j]? = xs[j]? := by rw [h6]
      rw [List.getElem?_take_of_lt hj] at e1
      rw [← Array.getElem?_toList, e1, List.getD_eq_getElem?_getD, List.getElem?_eq_getElem (by omega)]
      rfl
    rw [block_cell hh]
    exact e

theorem script_lies {w1 : World} {q : Nat} {v : Value} {ao : Option Addr} {cp : Nat} {sc : List Int} (hq : w1.heap[q]? = some (.cells #[v] 66 (0, 0))) (hcp : sc.length ≤ cp) (hcm : cp ≤ maxLen)
    (h : 0 < sc.length → ∃ g, ao = some ⟨g, 0, none⟩ ∧ q < g ∧ ∀ j, j < sc.length → w1.cell? ⟨g, 0 + j, none⟩ = some (.int .i64 (sc.getD j 0))) :
    ∃ g, q ≠ g ∧ q ≤ g ∧ ScriptAt (w1.setCell ⟨q, 0, none⟩ (.slice ao sc.length cp)) q g sc := by
  have e1 := one_setCell (u := .slice ao sc.length cp) hq
  by_cases h0 : 0 < sc.length
  · obtain ⟨g, e, hg, hcs⟩ := h h0
    refine ⟨g, by omega, by omega, ao, cp, e1, hcp, hcm, fun _ => ⟨0, e, fun j hj => ?_⟩⟩
    exact (World.cell?_of_block (w := w1) (a := ⟨g, 0 + j, none⟩) (block_other (show g ≠ q by omega) _)).trans (hcs j hj)
  · exact ⟨q + 1, by omega, by omega, ao, cp, e1, hcp, hcm, fun h => absurd h h0⟩

theorem chV_length (loc : Nat → Nat) (c : Ch) (b : Nat × Nat) : (chV loc c b).length = 2 := by unfold chV; split; rfl; split <;> rfl
theorem flat_get {α : Type} (f : α → List Value) (hf : ∀ x, (f x).length = 2) : ∀ (l : List α) (k : Nat) (hk : k < l.length) (j : Nat), j < 2 → (l.flatMap f).getD (k * 2 + j) undef = (f l[k]).getD j undef
  | x :: r, 0, _, j, hj => by
    simp only [List.flatMap_cons, List.getD_eq_getElem?_getD]
    rw [List.getElem?_append_left (by rw [hf]; omega)]
    simp
  | x :: r, k + 1, hk, j, hj => by
    have := flat_get f hf r k (by simpa using hk) j hj
    simp only [List.flatMap_cons, List.getD_eq_getElem?_getD] at this ⊢
    rw [List.getElem?_append_right (by rw [hf]; omega), hf, show (k + 1) * 2 + j - 2 = k * 2 + j by omega, this]
    simp

/-- The pending change with an index, where it lies. -/
theorem Rep.pendingAt (h : Rep loc S w bd bn bm sl bs lft m) {k : Nat} (hk : k < m.pending.length) : ∃ (g : Nat) (b : Nat × Nat), sl.ownBlock = some g ∧ w.cell? ⟨g, k * 2, none⟩ = some ((chV loc m.pending[k] b).getD 0 undef) ∧ w.cell? ⟨g, k * 2 + 1, none⟩ = some ((chV loc m.pending[k] b).getD 1 undef) ∧ chBoxes w m.pending[k] b := by
  obtain ⟨ap, cp, _, _, _, hc⟩ := pend_shape h.hp.row
  obtain ⟨g, _, hg, hcs⟩ := hc (by omega)
  have hz : k < (m.pending.zip bs).length := by rw [List.length_zip, h.hp.len]; omega
  have hb : k < bs.length := by rw [h.hp.len]; exact hk
  refine ⟨g, bs[k], hg, ?_, ?_, ?_⟩
  · have e := flat_get (fun p : Ch × (Nat × Nat) => chV loc p.1 p.2) (fun p => chV_length loc p.1 p.2) (m.pending.zip bs) k hz 0 (by omega)
    rw [hcs (k * 2) (by omega)]
    simp only [Nat.add_zero] at e
    rw [e]; simp
  · have e := flat_get (fun p : Ch × (Nat × Nat) => chV loc p.1 p.2) (fun p => chV_length loc p.1 p.2) (m.pending.zip bs) k hz 1 (by omega)
    rw [hcs (k * 2 + 1) (by omega), e]; simp
  · have := h.hp.box (m.pending.zip bs)[k] (List.getElem_mem hz)
    simpa using this

/-- k changes have been applied to the durable names; nothing else has turned. -/
structure Applying (loc : Nat → Nat) (wb wr : World) (bm : Nat) (m : M) (k : Nat) : Prop where
  dir : DirAt loc wr bm (all m.durable (m.pending.take k))
  grown : wb.grownBy wr (some bm)

theorem Applying.step {wc wr wa w1 : World} {o : Obj} {k : Nat} {c : Ch} (h : Applying loc wc wr bm m k) (hk : k < m.pending.length) (hc : m.pending[k] = c) (ha : wa = (wr.alloc o).drew) (hd : DirAt loc w1 bm (changed (all m.durable (m.pending.take k)) c)) (hg : wa.grownBy w1 (some bm)) : Applying loc wc w1 bm m (k + 1) := by
  subst ha
  refine ⟨?_, ⟨hg.os.trans h.grown.os, hg.tape.trans h.grown.tape, hg.output.trans h.grown.output, ?_, ?_⟩⟩
  · rw [List.take_succ_eq_append_getElem hk, hc, all_snoc]; exact hd
  · have h1 := hg.size
    have h2 := h.grown.size
    have e : (wr.alloc o).drew.heap.size = wr.heap.size + 1 := by simp
    omega
  · intro i hi hn
    have h2 := h.grown.size
    rw [hg.block i (by have e : (wr.alloc o).drew.heap.size = wr.heap.size + 1 := by simp
                       omega) hn]
    exact (Below.heap_alloc wr o i (by omega)).trans (h.grown.block i hi hn)

/-- The names are the durable ones now; nothing is pending. -/
structure Named (loc : Nat → Nat) (w4 : World) (bd bm q g : Nat) (m : M) (lft : Int) (D : Dir) (sc : List Int) : Prop where
  hd : w4.heap[bd]? = some (.cells #[.int .i64 m.cap, .map (some bm), .map (some bm), .slice none 0 0, .bool false, .int .i64 lft, .bool false] 99 (0, 0))
  dir : DirAt loc w4 bm D
  script : ScriptAt w4 q g sc
  files : ∀ j, j < m.files.length → FileAt w4 (loc j) (m.files.getD j ⟨[], 0⟩)

theorem Named.below {w4 w5 : World} {q g : Nat} {D : Dir} {sc : List Int} (h : Named loc w4 bd bm q g m lft D sc) (hq : g < w4.heap.size ∨ sc = []) (hb : Below w4.heap.size w4 w5) : Named loc w5 bd bm q g m lft D sc := by
  refine ⟨(hb.block _ (lt_of_block h.hd)).trans h.hd, h.dir.same (hb.block _ h.dir.lt), ?_, fun j hj => (hb.block _ (lt_of_block (h.files j hj))).trans (h.files j hj)⟩
  obtain ⟨ao, cap, h1, h2, h3, h4⟩ := h.script
  refine ⟨ao, cap, (hb.block _ (lt_of_block h1)).trans h1, h2, h3, fun h0 => ?_⟩
  rcases hq with hq | rfl
  · obtain ⟨off, e, hc⟩ := h4 h0
    exact ⟨off, e, fun j hj => (World.cell?_of_block (w := w4) (a := ⟨g, off + j, none⟩) (hb.block g hq)).trans (hc j hj)⟩
  · simp at h0
theorem script_lt {w : World} {q g : Nat} {sc : List Int} (h : ScriptAt w q g sc) : g < w.heap.size ∨ sc = [] := by
  obtain ⟨ao, cap, h1, h2, h3, h4⟩ := h
  cases sc with
  | nil => exact .inr rfl
  | cons n r =>
    obtain ⟨off, e, hc⟩ := h4 (by simp)
    have := hc 0 (by simp)
    rcases Nat.lt_or_ge g w.heap.size with hg | hg
    · exact .inl hg
    · simp [World.cell?, Array.getElem?_eq_none hg] at this

theorem Rep.named (h : Rep loc S w bd bn bm sl bs lft m) {wr : World} {p q g : Nat} {sc : List Int} (hap : Applying loc w wr bm m p) (hs : ScriptAt w q g sc) (hqS : ¬ S q) (hgS : ¬ S g) (hg : g < w.heap.size ∨ sc = []) (hlim : m.down = true) :
    Named loc ((((wr.setCell ⟨bd, 1, none⟩ (.map (some bm))).setCell ⟨bd, 3, none⟩ (.slice none 0 0)).setCell ⟨bd, 4, none⟩ (.bool false)).setCell ⟨bd, 6, none⟩ (.bool false)) bd bm q g m lft (all m.durable (m.pending.take p)) sc ∧
      Fr S w ((((wr.setCell ⟨bd, 1, none⟩ (.map (some bm))).setCell ⟨bd, 3, none⟩ (.slice none 0 0)).setCell ⟨bd, 4, none⟩ (.bool false)).setCell ⟨bd, 6, none⟩ (.bool false)) := by
  have hk : ∀ i, i < w.heap.size → i ≠ bm → wr.heap[i]? = w.heap[i]? := fun i hi hn => hap.grown.block i hi (by simpa using hn)
  have hdb := (hk bd (lt_of_block h.hd) h.bdm.symm).trans h.hd
  have e1 := block_set hdb 1 (.map (some bm))
  have e2 := block_set e1 3 (.slice none 0 0)
  have e3 := block_set e2 4 (.bool false)
  have e4 := block_set e3 6 (.bool false)
  have hbx : ∀ {W : World} {cs : Array Value}, W.heap[bd]? = some (.cells cs 99 (0, 0)) → ¬ IsBox W bd := by
    rintro W cs hW ⟨s, hs⟩; rw [hW] at hs; simp at hs
  have f0 : Fr S w wr := (Fr.refl S w).grown hap.grown (.inl h.sm) h.hm.noBox
  have f4 := (((f0.setCell (p := ⟨bd, 1, none⟩) (.inl h.sd) (hbx hdb) (.map (some bm))).setCell (p := ⟨bd, 3, none⟩) (.inl h.sd) (hbx e1) (.slice none 0 0)).setCell (p := ⟨bd, 4, none⟩) (.inl h.sd) (hbx e2) (.bool false)).setCell (p := ⟨bd, 6, none⟩) (.inl h.sd) (hbx e3) (.bool false)
  have ho : ∀ i, i ≠ bd → ((((wr.setCell ⟨bd, 1, none⟩ (.map (some bm))).setCell ⟨bd, 3, none⟩ (.slice none 0 0)).setCell ⟨bd, 4, none⟩ (.bool false)).setCell ⟨bd, 6, none⟩ (.bool false)).heap[i]? = wr.heap[i]? :=
    fun i hi => (block_other hi _).trans ((block_other hi _).trans ((block_other hi _).trans (block_other hi _)))
  refine ⟨⟨by rw [e4]; simp [diskCells, hlim], hap.dir.same (ho _ h.bdm), ?_, fun j hj => ?_⟩, f4⟩
  · obtain ⟨ao, cap, h1, h2, h3, h4⟩ := hs
    have hqb : q ≠ bd := fun e => hqS (e ▸ h.sd)
    have hqm : q ≠ bm := fun e => hqS (e ▸ h.sm)
    refine ⟨ao, cap, (ho q hqb).trans ((hk q (lt_of_block h1) hqm).trans h1), h2, h3, fun h0 => ?_⟩
    rcases hg with hg | rfl
    · obtain ⟨off, e, hc⟩ := h4 h0
      have hgb : g ≠ bd := fun e => hgS (e ▸ h.sd)
      have hgm : g ≠ bm := fun e => hgS (e ▸ h.sm)
      exact ⟨off, e, fun j hj => (World.cell?_of_block (w := w) (a := ⟨g, off + j, none⟩) ((ho g hgb).trans (hk g hg hgm))).trans (hc j hj)⟩
    · simp at h0
  · have hne : loc j ≠ bm := (h.hm.noRow (h.hf j hj).2).symm
    exact (ho _ (h.bdf hj)).trans ((hk _ (h.lt _ (h.hf j hj).1) hne).trans (h.hf j hj).2)

/-- Some names have been met; their files are what a start makes of them. -/
structure Starting (loc : Nat → Nat) (wb wr : World) (q g nf : Nat) (cap : Int) (a : List Fl × List Int) : Prop where
  script : ScriptAt wr q g a.2
  files : ∀ j, j < nf → FileAt wr (loc j) (a.1.getD j ⟨[], 0⟩)
  len : a.1.length = nf
  sizes : ∀ f ∈ a.1, (f.bytes.length : Int) ≤ cap ∧ f.dur ≤ f.bytes.length
  fr : Fr (fun i => i = q ∨ ∃ j, j < nf ∧ i = loc j) wb wr

theorem Starting.same {wb wr : World} {q g nf : Nat} {cap : Int} {a : List Fl × List Int} (h : Starting loc wb wr q g nf cap a) {i : Nat} (hq : i ≠ q) (hl : ∀ j, j < nf → i ≠ loc j) {o : Obj} (ho : wb.heap[i]? = some o) : wr.heap[i]? = some o :=
  h.fr.same (by rintro (e | ⟨j, hj, e⟩); exact hq e; exact hl j hj e) ho

theorem Starting.drewN {wb wr : World} {q g nf : Nat} {cap : Int} {a : List Fl × List Int} (h : Starting loc wb wr q g nf cap a) (n : Nat) : Starting loc wb (wr.drewN n) q g nf cap a :=
  ⟨h.script, h.files, h.len, h.sizes, h.fr.drewN n⟩
theorem Starting.chosen {wb wr wk : World} {q g nf : Nat} {cap : Int} {a : List Fl × List Int} {sc2 : List Int} (h : Starting loc wb wr q g nf cap a) (hs : ScriptAt wk q g sc2) (hf : Fr (fun i => i = q) wr wk) (hl : ∀ j, j < nf → loc j ≠ q) : Starting loc wb wk q g nf cap (a.1, sc2) :=
  ⟨hs, fun j hj => hf.same (hl j hj) (h.files j hj), h.len, h.sizes, h.fr.trans (hf.mono (fun _ e => .inl e))⟩
theorem Starting.drew {wb wr : World} {q g nf : Nat} {cap : Int} {a : List Fl × List Int} (h : Starting loc wb wr q g nf cap a) : Starting loc wb wr.drew q g nf cap a := ⟨h.script, h.files, h.len, h.sizes, h.fr.drew⟩
theorem Starting.alloc {wb wr : World} {q g nf : Nat} {cap : Int} {a : List Fl × List Int} (h : Starting loc wb wr q g nf cap a) (o : Obj) : Starting loc wb (wr.alloc o) q g nf cap a := by
  refine ⟨?_, fun j hj => (Below.heap_alloc _ _ _ (lt_of_block (h.files j hj))).trans (h.files j hj), h.len, h.sizes, h.fr.alloc o⟩
  obtain ⟨ao, cp, h1, h2, h3, h4⟩ := h.script
  refine ⟨ao, cp, (Below.heap_alloc _ _ _ (lt_of_block h1)).trans h1, h2, h3, fun h0 => ?_⟩
  obtain ⟨off, e, hc⟩ := h4 h0
  refine ⟨off, e, fun j hj => ?_⟩
  have := hc j hj
  have hg : g < wr.heap.size := by
    rcases Nat.lt_or_ge g wr.heap.size with hg | hg
    · exact hg
    · simp [World.cell?, Array.getElem?_eq_none hg] at this
  exact (cell?_alloc_lt hg).trans this
theorem Starting.file {wb wr : World} {q g nf : Nat} {cap : Int} {a : List Fl × List Int} (h : Starting loc wb wr q g nf cap a) {f : Nat} (hf : f < nf) (inj : ∀ i j, i < nf → j < nf → loc i = loc j → i = j) (hq : q ≠ loc f) (hg : g ≠ loc f) {s : ByteArray} {n : Int} {t : Bs} (hs : s = ⟨t.toArray⟩) (hn : n = t.length) (ht : (t.length : Int) ≤ cap) :
    Starting loc wb ((wr.setCell ⟨loc f, 0, none⟩ (.string s)).setCell ⟨loc f, 1, none⟩ (.int .i64 n)) q g nf cap (a.1.set f ⟨t, t.length⟩, a.2) := by
  subst hs hn
  have hfa := h.files f hf
  have e1 := block_set hfa 0 (.string ⟨t.toArray⟩)
  have e2 := block_set e1 1 (.int .i64 t.length)
  have ho : ∀ i, i ≠ loc f → ((wr.setCell ⟨loc f, 0, none⟩ (.string ⟨t.toArray⟩)).setCell ⟨loc f, 1, none⟩ (.int .i64 t.length)).heap[i]? = wr.heap[i]? := fun i hi => (block_other hi _).trans (block_other hi _)
  have hgd : ∀ j, (a.1.set f ⟨t, t.length⟩).getD j ⟨[], 0⟩ = if j = f then ⟨t, t.length⟩ else a.1.getD j ⟨[], 0⟩ := by
    intro j
    simp only [List.getD_eq_getElem?_getD, List.getElem?_set]
    by_cases e : f = j
    · subst e; simp [h.len, hf]
    · rw [if_neg e, if_neg (fun e' => e e'.symm)]
  refine ⟨h.script.same (ho q hq) (ho g hg), fun j hj => ?_, by simpa using h.len, ?_, ?_⟩
  · rw [hgd]
    split
    · rename_i e; subst e; rw [FileAt, e2]; rfl
    · rename_i e; exact (ho _ (fun e' => e (inj j f hj hf e'))).trans (h.files j hj)
  · intro x hx
    rcases List.mem_or_eq_of_mem_set hx with hx | rfl
    · exact h.sizes x hx
    · exact ⟨ht, Nat.le_refl _⟩
  · exact (h.fr.setCell (p := ⟨loc f, 0, none⟩) (.inl (.inr ⟨f, hf, rfl⟩)) hfa.noBox _).setCell (p := ⟨loc f, 1, none⟩) (.inl (.inr ⟨f, hf, rfl⟩)) (by rintro ⟨s, hs⟩; rw [e1] at hs; simp at hs) _

theorem extract_take (l : Bs) (k : Nat) : (⟨l.toArray⟩ : ByteArray).extract 0 k = ⟨(l.take k).toArray⟩ := by
  apply ByteArray.ext
  rw [ByteArray.data_extract]
  simp
theorem startFile_zero {f : Fl} {sc sc2 : List Int} (h : pick sc (f.bytes.length - f.dur) = (0, sc2)) : startFile f sc = (⟨f.bytes.take (f.dur + 0), (f.bytes.take (f.dur + 0)).length⟩, sc2) := by
  simp [startFile, h]
theorem startFile_plain {f : Fl} {sc sc2 sc3 : List Int} {kp c : Nat} (h : pick sc (f.bytes.length - f.dur) = (kp, sc2)) (hk : 0 < kp) (h2 : pick sc2 1 = (c, sc3)) (hc : c ≠ 1) : startFile f sc = (⟨f.bytes.take (f.dur + kp), (f.bytes.take (f.dur + kp)).length⟩, sc3) := by
  simp [startFile, h, hk, h2, hc]
theorem startFile_bad {f : Fl} {sc sc2 sc3 : List Int} {kp : Nat} (h : pick sc (f.bytes.length - f.dur) = (kp, sc2)) (hk : 0 < kp) (h2 : pick sc2 1 = (1, sc3)) : startFile f sc = (⟨damaged (f.bytes.take (f.dur + kp)), (f.bytes.take (f.dur + kp)).length⟩, sc3) := by
  simp [startFile, h, hk, h2]
theorem damaged_length {t : Bs} (h : 0 < t.length) : (damaged t).length = t.length := by
  simp [damaged]; omega

/-- string([]byte{n}) -/
theorem convert_one (W : World) (b : Nat) (n : Int) (h : W.heap[b]? = some (.cells #[.int .u8 n] 5 (0, 0))) : (convert 30 9 (.slice (some ⟨b, 0, none⟩) 1 1)).run Tryz.prog W = .ok (.string ⟨#[UInt8.ofNat n.toNat]⟩) W := by
  rw [run_convert_bytes_string W 30 9 5 _ _ _ Tryz.underlying30 Tryz.underlying5 Tryz.underlying9]
  have hc := cell_of_one h
  rw [run_bytesToString W ⟨b, 0, none⟩ 1 1 [n] (by simp [loadCells, hc, go_sem])]
  rfl
theorem flip_byte (x : UInt8) : UInt8.ofNat (bits .xor .u8 255 (x.toNat : Int)).toNat = ~~~x := by
  have h := x.toNat_lt
  rw [u8_xor 255 x.toNat (by omega) (by omega) (by omega) (by omega)]
  have key : ∀ n : Fin 256, UInt8.ofNat (255 ^^^ n.val) = ~~~(UInt8.ofNat n.val) := by decide
  have := key ⟨x.toNat, h⟩
  simpa using this

theorem damaged_mk {dt : ByteArray} {t : Bs} {la : Nat} (hd : dt = ⟨t.toArray⟩) (hl : dt.size = la + 1) (hla : la < dt.size) : dt.extract 0 la ++ ⟨#[UInt8.ofNat (bits BinOp.xor IntKind.u8 IntKind.u8.max (dt[la].toNat : Int)).toNat]⟩ = ⟨(damaged t).toArray⟩ := by
  have hm : IntKind.u8.max = 255 := rfl
  have hx := flip_byte dt[la]
  rw [hm, hx]
  subst hd
  have hl' : t.length = la + 1 := by rw [← hl, size_mk]
  rw [extract_take, mk_append]
  congr 2
  have e1 : t.take la = t.dropLast := by rw [List.dropLast_eq_take, hl']; rfl
  have e2 : t.getLastD 0 = t[la]'(by omega) := by
    have e0 : t.length - 1 = la := by omega
    rw [List.getLastD_eq_getLast?, List.getLast?_eq_getElem?, e0, List.getElem?_eq_getElem (by omega)]
    rfl
  unfold damaged
  rw [e1, e2]
  rfl

theorem script_box_lt {w : World} {q g : Nat} {sc : List Int} (h : ScriptAt w q g sc) : q < w.heap.size := by
  obtain ⟨ao, cap, h1, _⟩ := h
  exact lt_of_block h1
theorem startAll_snoc (fs : List Fl) (sc : List Int) (l : Dir) (p : Bs × Nat) : startAll fs sc (l ++ [p]) = startOne (startAll fs sc l) p := by simp [startAll]

theorem sorted_find : ∀ {l : Dir}, Sorted l → ∀ (k : Nat) (hk : k < l.length), find l l[k].1 = some l[k].2
  | p :: r, _, 0, _ => by simp [find]
  | p :: r, h, k + 1, hk => by
    obtain ⟨h1, h2⟩ := List.pairwise_cons.1 h
    have hk' : k < r.length := by simpa using hk
    have := sorted_find h2 k hk'
    have hne : p.1 ≠ r[k].1 := bytesBefore_ne (h1 _ (List.getElem_mem hk'))
    have e : (p.1 == r[k].1) = false := by simpa using hne
    simpa [find, List.find?_cons, e] using this

/-- Behind the first choice. -/
structure Chosen (loc : Nat → Nat) (S : Nat → Prop) (w2 wx : World) (bd bn bm : Nat) (sl : Value) (bs : List (Nat × Nat)) (lft : Int) (m : M) (q g : Nat) (sc : List Int) : Prop where
  script : ScriptAt wx q g sc
  rep : Rep loc S wx bd bn bm sl bs lft m
  fr : Fr (fun i => i = q) w2 wx

theorem started_ok {m : M} (h : m.Ok) {D : Dir} {fs : List Fl} (hD : Dsk.Good m.files.length D) (hl : fs.length = m.files.length) (hs : ∀ f ∈ fs, (f.bytes.length : Int) ≤ m.cap ∧ f.dur ≤ f.bytes.length) :
    ({ m with down := false, limit := -1, names := D, durable := D, pending := [], files := fs } : M).Ok :=
  ⟨by simp only [hl]; exact hD, by simp only [hl]; exact hD, trivial, rfl, hs, h.cap0, h.cap1, by simp, by simp⟩

/-- Behind the last step of a start. -/
theorem Rep.started (h : Rep loc S w bd bn bm sl bs lft m) {w4 w5 wr w6 : World} {q g : Nat} {D : Dir} {sc1 : List Int} {a : List Fl × List Int} (hD : Dsk.Good m.files.length D) (hf4 : Fr S w w4) (hn5 : Named loc w5 bd bm q g m lft D sc1) (hb5 : Below w4.heap.size w4 w5)
    (hq : ¬ S q) (hqw : w.heap.size ≤ q) (hst : Starting loc w5 wr q g m.files.length m.cap a) (hd6 : DirAt loc w6 wr.heap.size D) (hb6 : Below wr.heap.size wr w6) :
    After S w bd { m with down := false, limit := -1, names := D, durable := D, pending := [], files := a.1 } (w6.setCell ⟨bd, 2, none⟩ (.map (some wr.heap.size))) := by
  have hbq : bd ≠ q := fun e => hq (e ▸ h.sd)
  have hmq : bm ≠ q := fun e => hq (e ▸ h.sm)
  have hbl : ∀ j, j < m.files.length → bd ≠ loc j := fun j hj => (h.bdf hj).symm
  have hml : ∀ j, j < m.files.length → bm ≠ loc j := fun j hj => h.hm.noRow (h.hf j hj).2
  have hd5 := hst.same hbq hbl hn5.hd
  have hd6' := (hb6.block bd (lt_of_block hd5)).trans hd5
  have hbx : ¬ IsBox w6 bd := by rintro ⟨s, hs⟩; rw [hd6'] at hs; simp at hs
  have e1 := block_set hd6' 2 (.map (some wr.heap.size))
  have f5 : Fr S w w5 := hf4.trans (Fr.below hb5)
  have f6 : Fr S w wr := f5.trans' hst.fr (by
    rintro i (rfl | ⟨j, hj, rfl⟩)
    · exact .inr hqw
    · exact .inl (h.hf j hj).1)
  have f7 : Fr S w w6 := f6.trans (Fr.below hb6)
  have f8 := f7.setCell (p := ⟨bd, 2, none⟩) (.inl h.sd) hbx (.map (some wr.heap.size))
  have ho : ∀ i, i ≠ bd → (w6.setCell ⟨bd, 2, none⟩ (.map (some wr.heap.size))).heap[i]? = w6.heap[i]? := fun i hi => block_other hi _
  have hmd : bm ≠ bd := h.bdm
  have hdm : DirAt loc w6 bm D := by
    have d1 : DirAt loc wr bm D := hn5.dir.same (hst.fr.block bm hn5.dir.lt (.inl (by
      rintro (e | ⟨j, hj, e⟩)
      · exact hmq e
      · exact hml j hj e)))
    exact d1.same (hb6.block bm d1.lt)
  have hnb := hd6.lt
  have hnd : wr.heap.size ≠ bd := by have := lt_of_block hd5; omega
  refine ⟨fun i => S i ∨ i = wr.heap.size, fun i hi => hi.imp id (fun e => by have := f6.size; omega), ⟨loc, bm, wr.heap.size, .slice none 0 0, [], lft, ?_⟩, f8⟩
  refine ⟨?_, .inl h.sd, .inl h.sm, .inr rfl, fun e => by have := h.hm.lt; have := f6.size; omega, ?_, fun hl => by simp at hl, hdm.same (ho _ hmd), hd6.same (ho _ hnd), ⟨rfl, World.ownsRow_nil _ _ _ _, by simp⟩, by simp [Value.ownBlock], ?_, ?_, started_ok h.ok hD hst.len hst.sizes⟩
  · rintro i (hi | rfl)
    · exact Nat.lt_of_lt_of_le (h.lt i hi) f8.size
    · simpa [World.setCell] using hnb
  · rw [e1]; simp [diskCells]
  · intro j hj
    simp only [hst.len] at hj
    refine ⟨.inl (h.hf j hj).1, ?_⟩
    have := hst.files j hj
    exact (ho _ (h.bdf hj)).trans ((hb6.block _ (lt_of_block this)).trans this)
  · intro i j hi hj
    simp only [hst.len] at hi hj
    exact h.inj i j hi hj

set_option maxHeartbeats 8000000 in
theorem Start_down (h : Rep loc S w bd bn bm sl bs lft m) (hwt : m.wt < 1073741824) (hd : m.down = true) (ao : Option Addr) (n c : Nat) (sc : List Int) (hv : IntsAt w (.slice ao n c) sc) :
    Calls Tryz.prog 39 #[.pointer (some ⟨bd, 0, none⟩), .slice ao n c] w fun e w' => e = .returned (.tuple #[]) ∧ After S w bd (m.start sc) w' := by
  obtain ⟨ap, cpp, rfl, hpc, hpm, hpcs⟩ := pend_shape h.hp.row
  have H := Lib.hid h
  have HPC := Lib.hid hpcs
  have h6 := h.c6
  rw [hd] at h6
  have hbl := lt_of_block h.hd
  have hpl : m.pending.length < 1073741824 := by unfold M.wt at hwt; omega
  -- the script is copied into a box of the call's own
  have hv1 : IntsAt (w.alloc (.cells #[.slice ao n c] 66)) (.slice ao n c) sc := by
    obtain ⟨hb, h⟩ := hv
    refine ⟨hb, ?_⟩
    rcases h with h | h | ⟨b, off, c, e, hc⟩
    · exact .inl h
    · exact .inr (.inl h)
    · refine .inr (.inr ⟨b, off, c, e, fun j hj => ?_⟩)
      have := hc j hj
      have hb : b < w.heap.size := by
        rcases Nat.lt_or_ge b w.heap.size with h | h
        · exact h
        · simp [World.cell?, Array.getElem?_eq_none h] at this
      rw [cell?_alloc_lt hb]; exact this
  have HV := Lib.hid hv1
  have HD := Lib.hid hd
  have HW := Lib.hid hwt
  have HS := Lib.hid h.lt
  clear h hd hv hv1 hwt hpcs
  go_enter Tryz.func39, Tryz.ntmps39
  go_upto_region 4 with (go_at_call 76; refine (clone_ints HV.out).mono ?_; rintro e w1 ⟨v', rfl, hrow, hb1⟩; obtain ⟨ao', cp', hv', hcp, hcm, hsa⟩ := own_slice hrow; subst hv'; (have hq1 := (hb1.block w.heap.size (by simp)).trans (heap_alloc_new w (.cells #[.slice ao n c] 66))); have kq := cell_of_one hq1; have fq := free_of_one hq1; have HQ1 := Lib.hid hq1; have HSA := Lib.hid hsa; have HB1 := Lib.hid hb1; clear hq1 hsa hrow hb1)
  -- the script lies in its box
  obtain ⟨q, hq⟩ : ∃ q, q = w.heap.size := ⟨_, rfl⟩
  obtain ⟨w2, hw2⟩ : ∃ w2, w2 = w1.setCell ⟨w.heap.size, 0, none⟩ (.slice ao' sc.length cp') := ⟨_, rfl⟩
  have hfr2 : Fr (fun _ => False) w w2 := by
    rw [hw2]
    have f1 := ((Fr.refl (fun _ => False) w).alloc (.cells #[.slice ao n c] 66)).trans (Fr.below HB1.out)
    exact f1.setCell (p := ⟨w.heap.size, 0, none⟩) (.inr (Nat.le_refl _)) (by rintro ⟨s, hs⟩; have := HQ1.out; rw [this] at hs; simp at hs) _
  have hqs : ∀ i, S i → i ≠ q := fun i hi => by have := HS.out i hi; omega
  have hscr : ∃ g, q ≠ g ∧ w.heap.size ≤ g ∧ ScriptAt w2 q g sc := by
    have h := script_lies HQ1.out hcp hcm (fun h0 => by
      obtain ⟨g, e, hg, _, hcs⟩ := HSA.out h0
      exact ⟨g, e, by have : w.heap.size + 1 ≤ g := by simpa using hg
                      omega, hcs⟩)
    rw [← hw2, ← hq] at h
    exact hq ▸ h
  obtain ⟨g, hqg, hgs, hscr⟩ := hscr
  have HSC := Lib.hid hscr
  have HF2 := Lib.hid hfr2
  have HR2 := Lib.hid (H.out.keep hfr2 (fun _ _ => id))
  have k3 := HR2.out.c3
  rw [← hw2, ← hq]
  have HQS := Lib.hid hqs
  have HQ := Lib.hid hq
  have HW2 := Lib.hid hw2
  clear hscr hfr2 kq fq h6 hbl hqs hq hw2 hcp hcm
  have hpk := pick_le sc m.pending.length
  have hpl2 : m.pending.length ≤ 4611686018427387904 := by omega
  have hscd : ScriptAt w2.drew q g sc := HSC.out
  have HSCD := Lib.hid hscd
  clear hscd
  go_cut [37, 38, 39] (fun s37 s38 s39 wx => s37 = .slice ap (pick sc m.pending.length).1 cpp ∧ s38 = .int .i64 (pick sc m.pending.length).1 ∧ s39 = .int .i64 0 ∧ Chosen loc S w2 wx bd bn bm (.slice ap m.pending.length cpp) bs lft m q g (pick sc m.pending.length).2)
  case first =>
    go_region_with (go_at_call 77; refine (choice_any q g hqg m.pending.length hpl2 sc _ HSCD.out).mono ?_; rintro e w3 ⟨rfl, hs3, hf3⟩; have HS3 := Lib.hid hs3; have HR3 := Lib.hid ((HR2.out.dr).keep hf3 HQS.out); have HF3 := Lib.hid hf3; have j3 := HR3.out.c3; clear hs3 hf3)
    all_goals
      go_wp2_with fail
      go_meet
      exact ⟨rfl, rfl, rfl, HS3.out, HR3.out, ((Fr.refl _ w2).drew).trans HF3.out⟩
  case rest =>
    obtain ⟨rfl, rfl, rfl, hch⟩ := hcut
    generalize hpe : (pick sc m.pending.length).1 = p at hpk
    have HPE := Lib.hid hpe
    generalize hse : (pick sc m.pending.length).2 = sc1 at hch
    have HSE := Lib.hid hse
    have HCH := Lib.hid hch
    have HPK := Lib.hid hpk
    have hpz : p < 1073741824 := by omega
    clear hpe hse hch k3 HSCD HSC HR2
    go_wp2_with fail
    go_loopw [39] (fun i wr => ∃ k : Nat, k ≤ p ∧ i = .int .i64 k ∧ Applying loc wc wr bm m k) (fun i _ => p - (intOf i).toNat)
    case atStart => exact ⟨0, Nat.zero_le _, rfl, HCH.out.rep.hm, ⟨rfl, rfl, rfl, Nat.le_refl _, fun _ _ _ => rfl⟩⟩
    case round =>
      obtain ⟨k, hk, rfl, hap⟩ := hrel
      have HAP := Lib.hid hap
      clear hap
      by_cases hlt : k < p
      · have hkl : k < m.pending.length := by have := HPK.out; omega
        obtain ⟨g0, b, hg0, hv0, hv1, hbx⟩ := HCH.out.rep.pendingAt hkl
        have hch := chain_at k hkl HCH.out.rep.ok.chain
        have hgb : g0 ≠ bm := by
          obtain ⟨cu, hcu⟩ := row_block HCH.out.rep.hp.row hg0
          exact (HCH.out.rep.hm.noRow hcu).symm
        obtain rfl : ap = some ⟨g0, 0, none⟩ := by
          obtain ⟨g1, e1, e2, _⟩ := HPC.out (by omega)
          rw [hg0] at e2
          cases e2
          exact e1
        have hw0 : g0 < wc.heap.size := by obtain ⟨cu, hcu⟩ := row_block HCH.out.rep.hp.row hg0; exact lt_of_block hcu
        rw [← World.cell?_of_block (a := ⟨g0, k * 2, none⟩) (HAP.out.grown.block g0 hw0 (by simpa using hgb))] at hv0
        rw [← World.cell?_of_block (a := ⟨g0, k * 2 + 1, none⟩) (HAP.out.grown.block g0 hw0 (by simpa using hgb))] at hv1
        clear hg0
        generalize hce : m.pending[k] = c at hv0 hv1 hbx hch
        have HCE := Lib.hid hce
        clear hce
        by_cases hs : c.src = []
        · have hd : c.dst ≠ [] := hch.2.2.1 hs
          have e0 : (chV loc c b).getD 0 undef = .pointer (some ⟨loc c.file, 0, none⟩) := by simp [chV, hs]
          have e1 : (chV loc c b).getD 1 undef = .func (.func 123) #[] #[.pointer (some ⟨b.1, 0, none⟩)] := by simp [chV, hs]
          rw [e0] at hv0
          rw [e1] at hv1
          clear e0 e1
          have hlen : (all m.durable (m.pending.take k)).length < maxLen := by
            have h1 := length_all (m.pending.take k) m.durable
            have h2 : (m.pending.take k).length ≤ k := List.length_take_le _ _
            have h3 := HW.out
            unfold M.wt at h3
            unfold maxLen
            omega
          have hnl : c.dst.length ≤ maxLen := by
            have h1 := isName_len (hch.2.1.resolve_left hd)
            unfold maxLen; omega
          have hb1 : box wc b.1 c.dst := by simpa [chBoxes, hs] using hbx
          have HB1' := Lib.hid hb1
          have HE := Lib.hid (And.intro hs hd)
          clear hb1 hs hd
          have HBX := Lib.hid hbx
          have HCHK := Lib.hid hch
          clear hbx hch
          go_wp2_with fail
          generalize hqc : wr.heap.size = qc
          have hnw := heap_alloc_new wr (.cells #[.pointer (some ⟨loc c.file, 0, none⟩), .func (.func 123) #[] #[.pointer (some ⟨b.1, 0, none⟩)]] 108)
          rw [hqc] at hnw
          have hbd1 : bd < wr.heap.size := Nat.lt_of_lt_of_le (lt_of_block HCH.out.rep.hd) HAP.out.grown.size
          have g2 : (wr.alloc (.cells #[.pointer (some ⟨loc c.file, 0, none⟩), .func (.func 123) #[] #[.pointer (some ⟨b.1, 0, none⟩)]] 108)).cell? ⟨bd, 2, none⟩ = some (.map (some bm)) := (cell?_alloc_lt hbd1).trans ((World.cell?_of_block (a := ⟨bd, 2, none⟩) (HAP.out.grown.block bd (lt_of_block HCH.out.rep.hd) (by simpa using HCH.out.rep.bdm.symm))).trans HCH.out.rep.c2)
          have hdr : DirAt loc (wr.alloc (.cells #[.pointer (some ⟨loc c.file, 0, none⟩), .func (.func 123) #[] #[.pointer (some ⟨b.1, 0, none⟩)]] 108)).drew bm (all m.durable (m.pending.take k)) := HAP.out.dir.same (Below.heap_alloc _ _ _ HAP.out.dir.lt)
          have hbs : ∀ i s, box wc i s → box (wr.alloc (.cells #[.pointer (some ⟨loc c.file, 0, none⟩), .func (.func 123) #[] #[.pointer (some ⟨b.1, 0, none⟩)]] 108)).drew i s := fun i s hb => (Below.heap_alloc wr _ i (Nat.lt_of_lt_of_le (lt_of_block hb) HAP.out.grown.size)).trans ((HAP.out.grown.block i (lt_of_block hb) (fun e => HCH.out.rep.hm.noRow hb (by simpa using e.symm))).trans hb)
          have HBS := Lib.hid hbs
          obtain ⟨w0, hw0'⟩ : ∃ w0, w0 = wr.alloc (.cells #[.pointer (some ⟨loc c.file, 0, none⟩), .func (.func 123) #[] #[.pointer (some ⟨b.1, 0, none⟩)]] 108) := ⟨_, rfl⟩
          rw [← hw0'] at hnw g2 hdr
          rw [← hw0']
          have HW0 := Lib.hid hw0'
          have q0 := block_cell hnw 0
          have q1 := block_cell hnw 1
          simp at q0 q1
          clear hbs hw0' hnw hv0 hv1 hw0 hqc
          go_still_tail 8, (by kernel_rfl)
          change wpList _ _ _ _ _ w0.drew
          obtain ⟨wa, hwa⟩ : ∃ wa, wa = w0.drew := ⟨_, rfl⟩
          rw [← hwa] at hdr
          rw [← hwa]
          have HWA := Lib.hid hwa
          clear hwa q0 q1 g2
          have hbw : ∀ i s, box wc i s → box wa i s := fun i s hb => by
            have := HBS.out i s hb
            rw [← HW0.out, ← HWA.out] at this
            exact this
          have HBW := Lib.hid hbw
          have HDR := Lib.hid hdr
          clear hbw hdr
          go_wp2_with (go_at_call 123; refine (setF_any loc b.1 bm c.file _ ⟨c.dst.toArray⟩ (by rw [size_mk]; exact hnl) hlen wa (cell_of_one (HBW.out _ _ HB1'.out)) HDR.out).mono ?_; rintro e w1 ⟨rfl, hd1, hg1, hs1⟩)
          go_roundw
          case rel =>
            exact ⟨k + 1, by omega, by go_num, HAP.out.step (o := .cells #[.pointer (some ⟨loc c.file, 0, none⟩), .func (.func 123) #[] #[.pointer (some ⟨b.1, 0, none⟩)]] 108) hkl HCE.out (by rw [HWA.out, HW0.out]) (by rw [show changed (all m.durable (m.pending.take k)) c = withOne (all m.durable (m.pending.take k)) (c.dst, c.file) by simp [changed, HE.out.1, HE.out.2]]; exact hd1) hg1⟩
          case measure => simp [intOf]; omega
        · by_cases hd : c.dst = []
          · have e0 : (chV loc c b).getD 0 undef = .pointer none := by simp [chV, hs, hd]
            have e1 : (chV loc c b).getD 1 undef = .func (.func 125) #[] #[.pointer (some ⟨b.1, 0, none⟩)] := by simp [chV, hs, hd]
            rw [e0] at hv0
            rw [e1] at hv1
            clear e0 e1
            have hlen : (all m.durable (m.pending.take k)).length < maxLen := by
              have h1 := length_all (m.pending.take k) m.durable
              have h2 : (m.pending.take k).length ≤ k := List.length_take_le _ _
              have h3 := HW.out
              unfold M.wt at h3
              unfold maxLen
              omega
            have hnl : c.src.length ≤ maxLen := by
              have h1 := isName_len (hch.1.resolve_left hs)
              unfold maxLen; omega
            have hb1 : box wc b.1 c.src := by simpa [chBoxes, hs, hd] using hbx
            have HB1' := Lib.hid hb1
            have HE := Lib.hid (And.intro hs hd)
            clear hb1 hs hd
            have HBX := Lib.hid hbx
            have HCHK := Lib.hid hch
            clear hbx hch
            go_wp2_with fail
            generalize hqc : wr.heap.size = qc
            have hnw := heap_alloc_new wr (.cells #[.pointer none, .func (.func 125) #[] #[.pointer (some ⟨b.1, 0, none⟩)]] 108)
            rw [hqc] at hnw
            have hbd1 : bd < wr.heap.size := Nat.lt_of_lt_of_le (lt_of_block HCH.out.rep.hd) HAP.out.grown.size
            have g2 : (wr.alloc (.cells #[.pointer none, .func (.func 125) #[] #[.pointer (some ⟨b.1, 0, none⟩)]] 108)).cell? ⟨bd, 2, none⟩ = some (.map (some bm)) := (cell?_alloc_lt hbd1).trans ((World.cell?_of_block (a := ⟨bd, 2, none⟩) (HAP.out.grown.block bd (lt_of_block HCH.out.rep.hd) (by simpa using HCH.out.rep.bdm.symm))).trans HCH.out.rep.c2)
            have hdr : DirAt loc (wr.alloc (.cells #[.pointer none, .func (.func 125) #[] #[.pointer (some ⟨b.1, 0, none⟩)]] 108)).drew bm (all m.durable (m.pending.take k)) := HAP.out.dir.same (Below.heap_alloc _ _ _ HAP.out.dir.lt)
            have hbs : ∀ i s, box wc i s → box (wr.alloc (.cells #[.pointer none, .func (.func 125) #[] #[.pointer (some ⟨b.1, 0, none⟩)]] 108)).drew i s := fun i s hb => (Below.heap_alloc wr _ i (Nat.lt_of_lt_of_le (lt_of_block hb) HAP.out.grown.size)).trans ((HAP.out.grown.block i (lt_of_block hb) (fun e => HCH.out.rep.hm.noRow hb (by simpa using e.symm))).trans hb)
            have HBS := Lib.hid hbs
            obtain ⟨w0, hw0'⟩ : ∃ w0, w0 = wr.alloc (.cells #[.pointer none, .func (.func 125) #[] #[.pointer (some ⟨b.1, 0, none⟩)]] 108) := ⟨_, rfl⟩
            rw [← hw0'] at hnw g2 hdr
            rw [← hw0']
            have HW0 := Lib.hid hw0'
            have q0 := block_cell hnw 0
            have q1 := block_cell hnw 1
            simp at q0 q1
            clear hbs hw0' hnw hv0 hv1 hw0 hqc
            go_still_tail 8, (by kernel_rfl)
            change wpList _ _ _ _ _ w0.drew
            obtain ⟨wa, hwa⟩ : ∃ wa, wa = w0.drew := ⟨_, rfl⟩
            rw [← hwa] at hdr
            rw [← hwa]
            have HWA := Lib.hid hwa
            clear hwa q0 q1 g2
            have hbw : ∀ i s, box wc i s → box wa i s := fun i s hb => by
              have := HBS.out i s hb
              rw [← HW0.out, ← HWA.out] at this
              exact this
            have HBW := Lib.hid hbw
            have HDR := Lib.hid hdr
            clear hbw hdr
            go_wp2_with (go_at_call 125; refine (removeF_any loc b.1 bm _ ⟨c.src.toArray⟩ (by rw [size_mk]; exact hnl) wa (cell_of_one (HBW.out _ _ HB1'.out)) HDR.out).mono ?_; rintro e w1 ⟨rfl, hd1, hg1, hs1⟩)
            go_roundw
            case rel =>
              exact ⟨k + 1, by omega, by go_num, HAP.out.step (o := .cells #[.pointer none, .func (.func 125) #[] #[.pointer (some ⟨b.1, 0, none⟩)]] 108) hkl HCE.out (by rw [HWA.out, HW0.out]) (by rw [show changed (all m.durable (m.pending.take k)) c = without (all m.durable (m.pending.take k)) c.src by simp [changed, HE.out.1, HE.out.2]]; exact hd1) hg1⟩
            case measure => simp [intOf]; omega
          · have e0 : (chV loc c b).getD 0 undef = .pointer none := by simp [chV, hs, hd]
            have e1 : (chV loc c b).getD 1 undef = .func (.func 137) #[] #[.pointer (some ⟨b.1, 0, none⟩), .pointer (some ⟨b.2, 0, none⟩)] := by simp [chV, hs, hd]
            rw [e0] at hv0
            rw [e1] at hv1
            clear e0 e1
            have hlen : (all m.durable (m.pending.take k)).length < maxLen := by
              have h1 := length_all (m.pending.take k) m.durable
              have h2 : (m.pending.take k).length ≤ k := List.length_take_le _ _
              have h3 := HW.out
              unfold M.wt at h3
              unfold maxLen
              omega
            have hnl : c.src.length ≤ maxLen := by
              have h1 := isName_len (hch.1.resolve_left hs)
              unfold maxLen; omega
            have htl : c.dst.length ≤ maxLen := by
              have h1 := isName_len (hch.2.1.resolve_left hd)
              unfold maxLen; omega
            have hb1 : box wc b.1 c.src ∧ box wc b.2 c.dst := by simpa [chBoxes, hs, hd] using hbx
            have hff := hch.2.2.2.2 hs hd
            have HB1' := Lib.hid hb1
            have HFF := Lib.hid hff
            have HE := Lib.hid (And.intro hs hd)
            clear hb1 hs hd hff
            have HBX := Lib.hid hbx
            have HCHK := Lib.hid hch
            clear hbx hch
            go_wp2_with fail
            generalize hqc : wr.heap.size = qc
            have hnw := heap_alloc_new wr (.cells #[.pointer none, .func (.func 137) #[] #[.pointer (some ⟨b.1, 0, none⟩), .pointer (some ⟨b.2, 0, none⟩)]] 108)
            rw [hqc] at hnw
            have hbd1 : bd < wr.heap.size := Nat.lt_of_lt_of_le (lt_of_block HCH.out.rep.hd) HAP.out.grown.size
            have g2 : (wr.alloc (.cells #[.pointer none, .func (.func 137) #[] #[.pointer (some ⟨b.1, 0, none⟩), .pointer (some ⟨b.2, 0, none⟩)]] 108)).cell? ⟨bd, 2, none⟩ = some (.map (some bm)) := (cell?_alloc_lt hbd1).trans ((World.cell?_of_block (a := ⟨bd, 2, none⟩) (HAP.out.grown.block bd (lt_of_block HCH.out.rep.hd) (by simpa using HCH.out.rep.bdm.symm))).trans HCH.out.rep.c2)
            have hdr : DirAt loc (wr.alloc (.cells #[.pointer none, .func (.func 137) #[] #[.pointer (some ⟨b.1, 0, none⟩), .pointer (some ⟨b.2, 0, none⟩)]] 108)).drew bm (all m.durable (m.pending.take k)) := HAP.out.dir.same (Below.heap_alloc _ _ _ HAP.out.dir.lt)
            have hbs : ∀ i s, box wc i s → box (wr.alloc (.cells #[.pointer none, .func (.func 137) #[] #[.pointer (some ⟨b.1, 0, none⟩), .pointer (some ⟨b.2, 0, none⟩)]] 108)).drew i s := fun i s hb => (Below.heap_alloc wr _ i (Nat.lt_of_lt_of_le (lt_of_block hb) HAP.out.grown.size)).trans ((HAP.out.grown.block i (lt_of_block hb) (fun e => HCH.out.rep.hm.noRow hb (by simpa using e.symm))).trans hb)
            have HBS := Lib.hid hbs
            obtain ⟨w0, hw0'⟩ : ∃ w0, w0 = wr.alloc (.cells #[.pointer none, .func (.func 137) #[] #[.pointer (some ⟨b.1, 0, none⟩), .pointer (some ⟨b.2, 0, none⟩)]] 108) := ⟨_, rfl⟩
            rw [← hw0'] at hnw g2 hdr
            rw [← hw0']
            have HW0 := Lib.hid hw0'
            have q0 := block_cell hnw 0
            have q1 := block_cell hnw 1
            simp at q0 q1
            clear hbs hw0' hnw hv0 hv1 hw0 hqc
            go_still_tail 8, (by kernel_rfl)
            change wpList _ _ _ _ _ w0.drew
            obtain ⟨wa, hwa⟩ : ∃ wa, wa = w0.drew := ⟨_, rfl⟩
            rw [← hwa] at hdr
            rw [← hwa]
            have HWA := Lib.hid hwa
            clear hwa q0 q1 g2
            have hbw : ∀ i s, box wc i s → box wa i s := fun i s hb => by
              have := HBS.out i s hb
              rw [← HW0.out, ← HWA.out] at this
              exact this
            have HBW := Lib.hid hbw
            have HDR := Lib.hid hdr
            clear hbw hdr
            go_wp2_with (go_at_call 137; refine (renameF_any loc b.1 b.2 bm c.file _ ⟨c.src.toArray⟩ ⟨c.dst.toArray⟩ (by rw [size_mk]; exact hnl) (by rw [size_mk]; exact htl) hlen HFF.out wa (HBW.out _ _ HB1'.out.1) (HBW.out _ _ HB1'.out.2) HDR.out).mono ?_; rintro e w1 ⟨rfl, hd1, hg1, hs1⟩)
            go_roundw
            case rel =>
              exact ⟨k + 1, by omega, by go_num, HAP.out.step (o := .cells #[.pointer none, .func (.func 137) #[] #[.pointer (some ⟨b.1, 0, none⟩), .pointer (some ⟨b.2, 0, none⟩)]] 108) hkl HCE.out (by rw [HWA.out, HW0.out]) (by rw [show changed (all m.durable (m.pending.take k)) c = withOne (without (all m.durable (m.pending.take k)) c.src) (c.dst, c.file) by simp [changed, HE.out.1, HE.out.2]]; exact hd1) hg1⟩
            case measure => simp [intOf]; omega
      · obtain rfl : k = p := by omega
        have hDs : Dsk.Good m.files.length (all m.durable (m.pending.take k)) := good_all HCH.out.rep.ok.durable (chain_take k HCH.out.rep.ok.chain)
        have hDl : (all m.durable (m.pending.take k)).length ≤ 1073741824 := by
          have h1 := length_all (m.pending.take k) m.durable
          have h2 : (m.pending.take k).length ≤ k := List.length_take_le _ _
          have h3 := HW.out
          have h4 := HPK.out
          unfold M.wt at h3
          omega
        have hdb : wr.heap[bd]? = some (.cells (diskCells m bn bm (.slice ap m.pending.length cpp) lft) 99 (0, 0)) := (HAP.out.grown.block bd (lt_of_block HCH.out.rep.hd) (by simpa using HCH.out.rep.bdm.symm)).trans HCH.out.rep.hd
        have hnm := HCH.out.rep.named HAP.out HCH.out.script (fun h => HQS.out q h rfl) (fun h => by have := HS.out g h; omega) (script_lt HCH.out.script) HD.out
        generalize hDe : all m.durable (m.pending.take k) = D at hDs hDl hnm
        have HDE := Lib.hid hDe
        have r1 : wr.cell? ⟨bd, 1, none⟩ = some (.map (some bn)) := block_cell hdb 1
        have r2 : wr.cell? ⟨bd, 2, none⟩ = some (.map (some bm)) := block_cell hdb 2
        have r3 : wr.cell? ⟨bd, 3, none⟩ = some (.slice ap m.pending.length cpp) := block_cell hdb 3
        have r4 : wr.cell? ⟨bd, 4, none⟩ = some (.bool (decide (0 ≤ m.limit))) := block_cell hdb 4
        have r6 : wr.cell? ⟨bd, 6, none⟩ = some (.bool m.down) := block_cell hdb 6
        have z1 := block_free hdb 1
        have z3 := block_free hdb 3
        have z4 := block_free hdb 4
        have z6 := block_free hdb 6
        have HNM := Lib.hid hnm
        have HDS := Lib.hid hDs
        clear hdb hDs hnm hDe
        go_upto_region 10 with fail
        obtain ⟨w4, hw4⟩ : ∃ w4, w4 = ((((wr.setCell ⟨bd, 1, none⟩ (.map (some bm))).setCell ⟨bd, 3, none⟩ (.slice none 0 0)).setCell ⟨bd, 4, none⟩ (.bool false)).setCell ⟨bd, 6, none⟩ (.bool false)) := ⟨_, rfl⟩
        have HN4 : Hid (Named loc w4 bd bm q g m lft D sc1 ∧ Fr S wc w4) := by rw [hw4]; exact HNM.out
        rw [← hw4]
        have c1 := block_cell HN4.out.1.hd 1
        simp at c1
        clear hw4 HNM r1 r2 r3 r4 r6 z1 z3 z4 z6
        go_wp2_with (first
          | (go_at_call 79; refine (Keys_any _ _).mono ?_; rintro e w' ⟨rfl, rfl⟩)
          | (go_at_call 78; refine (Sorted_any bm D HDS.out.1 hDl w4 HN4.out.1.dir).mono ?_; rintro e w5 ⟨v, rfl, hrow, hb5⟩; obtain ⟨av, cv, hv', hcv, hcs⟩ := own_strings hrow; subst hv'; have HN5 := Lib.hid (HN4.out.1.below (script_lt HN4.out.1.script) hb5); have HB5 := Lib.hid hb5; have HCS := Lib.hid hcs; have HROW := Lib.hid hrow; clear hb5 hcs hrow))
        have hq5 : q < w.heap.size ∨ w.heap.size ≤ q := by omega
        go_loopw [76] (fun i wr2 => ∃ k2 : Nat, k2 ≤ D.length ∧ i = .int .i64 k2 ∧ Starting loc w5 wr2 q g m.files.length m.cap (startAll m.files sc1 (D.take k2))) (fun i _ => D.length - (intOf i).toNat)
        case atStart => exact ⟨0, Nat.zero_le _, rfl, HN5.out.script, HN5.out.files, rfl, HCH.out.rep.ok.sizes, Fr.refl _ _⟩
        case round =>
          obtain ⟨k2, hk2, rfl, hst⟩ := hrel
          have HST := Lib.hid hst
          clear hst
          by_cases hlt2 : k2 < D.length
          · obtain ⟨gv, rfl, hgb, hgl, hgc⟩ := HCS.out (by omega)
            have hbq : bd ≠ q := fun e => HQS.out bd HCH.out.rep.sd e
            have hmq : bm ≠ q := fun e => HQS.out bm HCH.out.rep.sm e
            have b5 := HST.out.same hbq (fun j hj => (HCH.out.rep.bdf hj).symm) HN5.out.hd
            have c1 := block_cell b5 1
            have hdir : DirAt loc wr bm D := by
              refine HN5.out.dir.same ?_
              exact HST.out.fr.block bm HN5.out.dir.lt (.inl (by
                rintro (e | ⟨j, hj, e⟩)
                · exact hmq e
                · exact HCH.out.rep.hm.noRow (HCH.out.rep.hf j hj).2 e))
            have hnf := HDS.out.2 D[k2] (List.getElem_mem hlt2)
            have hfd := sorted_find HDS.out.1 k2 hlt2
            have hn2 := hgc k2 hlt2
            have hgd : (D.map (·.1)).getD k2 [] = D[k2].1 := by simp [List.getD_eq_getElem?_getD, List.getElem?_eq_getElem hlt2]
            rw [hgd] at hn2
            rw [← World.cell?_of_block (a := ⟨gv, k2, none⟩) (HST.out.fr.block gv hgl (.inl (by
              rintro (e | ⟨j, hj, e⟩)
              · have := script_box_lt HN4.out.1.script
                omega
              · have := lt_of_block (HN4.out.1.files j hj)
                omega)))] at hn2
            obtain ⟨nm, hnm⟩ : ∃ nm, nm = D[k2].1 := ⟨_, rfl⟩
            obtain ⟨f, hf⟩ : ∃ f, f = D[k2].2 := ⟨_, rfl⟩
            rw [← hnm] at hn2 hfd
            rw [← hf] at hfd
            rw [← hnm, ← hf] at hnf
            have hfa := HST.out.files f hnf.2
            have hsz := HST.out.sizes ((startAll m.files sc1 (D.take k2)).1.getD f ⟨[], 0⟩) (by
              rw [List.getD_eq_getElem?_getD, List.getElem?_eq_getElem (by rw [HST.out.len]; exact hnf.2)]
              exact List.getElem_mem _)
            generalize hfl : (startAll m.files sc1 (D.take k2)).1.getD f ⟨[], 0⟩ = fl at hfa hsz
            generalize hae : startAll m.files sc1 (D.take k2) = a at HST hfl
            have HAE := Lib.hid hae
            have HFL := Lib.hid hfl
            have HNF := Lib.hid hnf
            have HFD := Lib.hid hfd
            have HDIR := Lib.hid hdir
            have x0 := block_cell hfa 0
            have x1 := block_cell hfa 1
            have hqf : loc f ≠ q := fun e => HQS.out (loc f) (HCH.out.rep.hf f hnf.2).1 e
            have hgf : g ≠ loc f := by have := HS.out (loc f) (HCH.out.rep.hf f hnf.2).1; omega
            have HQF := Lib.hid (And.intro hqf hgf)
            simp at x0 x1 c1
            have hb1 : (fl.bytes.length : Int) ≤ 16777216 := by have := HCH.out.rep.ok.cap1; omega
            have hb2 : fl.dur ≤ fl.bytes.length := hsz.2
            have hbc : (fl.bytes.length : Int) ≤ m.cap := hsz.1
            have HBC := Lib.hid hbc
            have hnl : nm.length ≤ 40 := isName_len hnf.1
            have HNM2 := Lib.hid (And.intro hnm hf)
            clear hfa hsz hnf hfd hdir b5 hgd hgc hnm hf hae hfl hqf hgf hbc hbq hmq
            obtain ⟨fb, hfb⟩ : ∃ fb : ByteArray, fb = ⟨fl.bytes.toArray⟩ := ⟨_, rfl⟩
            have hfz : fl.bytes.length = fb.size := by rw [hfb, size_mk]
            rw [← hfb] at x0
            rw [hfz] at hb1 hb2
            obtain ⟨mo, hmo⟩ : ∃ mo, mo = fb.size - fl.dur := ⟨_, rfl⟩
            have hmi : (fb.size : Int) - (fl.dur : Int) = (mo : Int) := by omega
            have hml : mo ≤ 16777216 := by omega
            have hch2 := fun (W : World) (h : ScriptAt W q g a.2) => choice_any q g hqg mo (by omega) a.2 W h
            have hpk2 := pick_le a.2 mo
            generalize hpe2 : pick a.2 mo = pr at hch2 hpk2
            obtain ⟨kp, sc2⟩ := pr
            simp only at hch2 hpk2
            have HPE2 := Lib.hid hpe2
            have HCH2 := Lib.hid hch2
            have HFB := Lib.hid hfb
            have HFZ := Lib.hid hfz
            have HMO := Lib.hid hmo
            have HMI := Lib.hid hmi
            have hkd : fl.dur + kp ≤ fb.size := by omega
            clear hpe2 hch2 hfb hfz hmo hmi
            go_upto_region 14 with (at_lookup; refine wpList_dir_at _ rfl _ _ rfl loc bm D HDIR.out ⟨nm.toArray⟩ (by rw [size_mk]; unfold maxLen; omega) f HFD.out rfl rfl ?_)
            have hwl : IntKind.i64.wrap ((fb.size : Int) - (fl.dur : Int)) = (mo : Int) := by rw [HMI.out]; exact IntWalk.i64_in _ (by omega)
            go_quiet (fail)
            clear hwl
            have HSQ := Lib.hid (HST.out.drewN nq)
            have y0 : (wr.drewN nq).cell? ⟨loc f, 0, none⟩ = some (.string fb) := x0
            have y1 : (wr.drewN nq).cell? ⟨loc f, 1, none⟩ = some (.int .i64 fl.dur) := x1
            generalize wr.drewN nq = wq at HSQ y0 y1
            clear x0 x1 c1
            go_upto_region 16 with (go_at_call 77; refine (HCH2.out wq HSQ.out.script).mono ?_; rintro e wk ⟨rfl, hsk, hfk⟩; have HSK := Lib.hid (HSQ.out.chosen hsk hfk (fun j hj => fun e => HQS.out _ (HCH.out.rep.hf j hj).1 e)); have v0 := (World.cell?_of_block (a := ⟨loc f, 0, none⟩) (hfk.block (loc f) (lt_of_block (HSQ.out.files f HNF.out.2)) (.inl HQF.out.1))).trans y0; have v1 := (World.cell?_of_block (a := ⟨loc f, 1, none⟩) (hfk.block (loc f) (lt_of_block (HSQ.out.files f HNF.out.2)) (.inl HQF.out.1))).trans y1; clear hsk hfk y0 y1)
            have hwl : IntKind.i64.wrap ((fl.dur : Int) + (kp : Int)) = (fl.dur : Int) + (kp : Int) := IntWalk.i64_in _ (by omega)
            have hw0 : (0 : Int) ≤ (fl.dur : Int) + (kp : Int) := by omega
            have hw1 : (fl.dur : Int) + (kp : Int) ≤ (fb.size : Int) := by omega
            have hw2 : ((fl.dur : Int) + (kp : Int)).toNat = fl.dur + kp := by omega
            go_quiet (fail)
            clear hwl hw0 hw1 hw2
            have HSZ2 := Lib.hid (HSK.out.drewN nq)
            have y0 : (wk.drewN nq).cell? ⟨loc f, 0, none⟩ = some (.string fb) := v0
            have y1 : (wk.drewN nq).cell? ⟨loc f, 1, none⟩ = some (.int .i64 fl.dur) := v1
            generalize wk.drewN nq = wz at HSZ2 y0 y1
            clear v0 v1 HSK
            obtain ⟨dt, hdt⟩ : ∃ dt, dt = fb.extract 0 (fl.dur + kp) := ⟨_, rfl⟩
            have hdz : dt.size = fl.dur + kp := by rw [hdt, ByteArray.size_extract]; omega
            have hdi : dt.size ≤ 16777216 := by omega
            have hdk : kp ≤ dt.size := by omega
            rw [← hdt]
            have HDT := Lib.hid hdt
            have HDZ := Lib.hid hdz
            clear hdt hdz
            have hfa := HSZ2.out.files f HNF.out.2
            have f0 := block_free hfa 0
            have f1 := block_free hfa 1
            clear hfa
            have hnext : ∀ (W : World) (r : Fl × List Int), startFile fl a.2 = r → Starting loc w5 W q g m.files.length m.cap (a.1.set f r.1, r.2) → Starting loc w5 W q g m.files.length m.cap (startAll m.files sc1 (D.take (k2 + 1))) := by
              intro W r hr h
              rw [List.take_succ_eq_append_getElem hlt2, startAll_snoc, HAE.out]
              unfold startOne
              rw [← HNM2.out.2, HFL.out, hr]
              exact h
            have HNX := Lib.hid hnext
            clear hnext
            by_cases hk0 : kp = 0
            · subst hk0
              go_wp2_with fail
              go_roundw
              case rel =>
                refine ⟨k2 + 1, by omega, by go_num, HNX.out _ _ (startFile_zero (by rw [HFZ.out, ← HMO.out]; exact HPE2.out)) ?_⟩
                have e1 : dt = ⟨(fl.bytes.take (fl.dur + 0)).toArray⟩ := by rw [HDT.out, HFB.out, extract_take]
                exact HSZ2.out.file HNF.out.2 HCH.out.rep.inj HQF.out.1.symm HQF.out.2 e1 (by rw [e1, size_mk]) (by have := HBC.out; simp; omega)
              case measure => simp [intOf]; omega
            · have hkp : 0 < kp := by omega
              have hch3 := fun (W : World) (h : ScriptAt W q g sc2) => choice_any q g hqg 1 (by omega) sc2 W h
              have hpk3 := pick_le sc2 1
              generalize hpe3 : pick sc2 1 = pr at hch3 hpk3
              obtain ⟨c2, sc3⟩ := pr
              simp only at hch3 hpk3
              have HPE3 := Lib.hid hpe3
              have hch3' : ∀ (W : World), ScriptAt W q g sc2 → Calls Tryz.prog 77 #[.int .i64 1, .pointer (some ⟨q, 0, none⟩)] W fun e w' => e = .returned (.int .i64 c2) ∧ ScriptAt w' q g sc3 ∧ Fr (fun i => i = q) W w' := hch3
              have HCH3 := Lib.hid hch3'
              clear hch3 hch3' hpe3
              have hd1 : 1 ≤ dt.size := by omega
              by_cases hc1 : c2 = 1
              · subst hc1
                go_upto_region 18 with (go_at_call 77; refine (HCH3.out wz HSZ2.out.script).mono ?_; rintro e wk ⟨rfl, hsk, hfk⟩; have HSK := Lib.hid (HSZ2.out.chosen hsk hfk (fun j hj => fun e => HQS.out _ (HCH.out.rep.hf j hj).1 e)); have v0 := (World.cell?_of_block (a := ⟨loc f, 0, none⟩) (hfk.block (loc f) (lt_of_block (HSZ2.out.files f HNF.out.2)) (.inl HQF.out.1))).trans y0; have v1 := (World.cell?_of_block (a := ⟨loc f, 1, none⟩) (hfk.block (loc f) (lt_of_block (HSZ2.out.files f HNF.out.2)) (.inl HQF.out.1))).trans y1; clear hsk hfk y0 y1 f0 f1)
                obtain ⟨la, hla⟩ : ∃ la, dt.size = la + 1 := ⟨dt.size - 1, by omega⟩
                have hlb : la ≤ 16777216 := by omega
                have hl1 : (la : Int) ≤ (la : Int) + 1 := by omega
                have hl2 : (0 : Int) ≤ (la : Int) := by omega
                have hl3 : (la : Int) < (dt.size : Int) := by omega
                have hl4 : la < dt.size := by omega
                have hl5 : (la : Int) < (la : Int) + 1 := by omega
                go_wp2_with fail
                have hcv : ∀ n : Int, (convert 30 9 (.slice (some ⟨wk.heap.size, 0, none⟩) 1 1)).run Tryz.prog (wk.alloc (.cells #[.int .u8 n] 5)).drew = .ok (.string ⟨#[UInt8.ofNat n.toNat]⟩) (wk.alloc (.cells #[.int .u8 n] 5)).drew := fun n => convert_one _ _ n (heap_alloc_new wk _)
                have hes : (dt.extract 0 la).size ≤ 16777216 := by rw [ByteArray.size_extract]; omega
                go_cut [12] (fun s12 wx => s12 = .string (dt.extract 0 la ++ ⟨#[UInt8.ofNat (bits BinOp.xor IntKind.u8 IntKind.u8.max ((dt[la]'(by omega)).toNat : Int)).toNat]⟩) ∧ Starting loc w5 wx q g m.files.length m.cap (a.1, sc3))
                case first =>
                  go_region
                  all_goals
                    go_wp2_with fail
                    go_meet
                    exact ⟨rfl, (HSK.out.alloc _).drew⟩
                case rest =>
                  obtain ⟨rfl, hst3⟩ := hcut
                  have hdm : dt.extract 0 la ++ ⟨#[UInt8.ofNat (bits BinOp.xor IntKind.u8 IntKind.u8.max ((dt[la]'(by omega)).toNat : Int)).toNat]⟩ = ⟨(damaged (fl.bytes.take (fl.dur + kp))).toArray⟩ := damaged_mk (by rw [HDT.out, HFB.out, extract_take]) hla _
                  generalize dt.extract 0 la ++ ⟨#[UInt8.ofNat (bits BinOp.xor IntKind.u8 IntKind.u8.max ((dt[la]'(by omega)).toNat : Int)).toNat]⟩ = dm at hdm
                  have hdl : (damaged (fl.bytes.take (fl.dur + kp))).length = (fl.bytes.take (fl.dur + kp)).length := damaged_length (by have := HFZ.out; simp; omega)
                  have HDM := Lib.hid hdm
                  have HDL2 := Lib.hid hdl
                  have HS3 := Lib.hid hst3
                  have hfl3 := hst3.files f HNF.out.2
                  have v0 := block_cell hfl3 0
                  have v1 := block_cell hfl3 1
                  have g0 := block_free hfl3 0
                  have g1 := block_free hfl3 1
                  simp at v0 v1
                  clear hdm hdl hst3 hfl3 hcv hes hla hl1 hl2 hl3 hl4 hl5
                  go_wp2_with fail
                  go_roundw
                  case rel =>
                    refine ⟨k2 + 1, by omega, by go_num, HNX.out _ _ (startFile_bad (by rw [HFZ.out, ← HMO.out]; exact HPE2.out) hkp HPE3.out) ?_⟩
                    rw [← HDL2.out]
                    exact HS3.out.file HNF.out.2 HCH.out.rep.inj HQF.out.1.symm HQF.out.2 HDM.out (by rw [HDM.out, size_mk]) (by have := HBC.out; rw [HDL2.out]; simp; omega)
                  case measure => simp [intOf]; omega
              · have hbe : ((c2 : Int) == 1) = false := by simp; omega
                go_wp2_with (go_at_call 77; refine (HCH3.out wz HSZ2.out.script).mono ?_; rintro e wk ⟨rfl, hsk, hfk⟩; have HSK := Lib.hid (HSZ2.out.chosen hsk hfk (fun j hj => fun e => HQS.out _ (HCH.out.rep.hf j hj).1 e)); have hfl2 := HSK.out.files f HNF.out.2; have v0 := (World.cell?_of_block (a := ⟨loc f, 0, none⟩) (hfk.block (loc f) (lt_of_block (HSZ2.out.files f HNF.out.2)) (.inl HQF.out.1))).trans y0; have v1 := (World.cell?_of_block (a := ⟨loc f, 1, none⟩) (hfk.block (loc f) (lt_of_block (HSZ2.out.files f HNF.out.2)) (.inl HQF.out.1))).trans y1; have g0 := block_free hfl2 0; have g1 := block_free hfl2 1; clear hsk hfk y0 y1 f0 f1 hfl2)
                go_roundw
                case rel =>
                  refine ⟨k2 + 1, by omega, by go_num, HNX.out _ _ (startFile_plain (by rw [HFZ.out, ← HMO.out]; exact HPE2.out) hkp HPE3.out hc1) ?_⟩
                  have e1 : dt = ⟨(fl.bytes.take (fl.dur + kp)).toArray⟩ := by rw [HDT.out, HFB.out, extract_take]
                  exact HSK.out.file HNF.out.2 HCH.out.rep.inj HQF.out.1.symm HQF.out.2 e1 (by rw [e1, size_mk]) (by have := HBC.out; simp; omega)
                case measure => simp [intOf]; omega
          · obtain rfl : k2 = D.length := by omega
            have hbq : bd ≠ q := fun e => HQS.out bd HCH.out.rep.sd e
            have hmq : bm ≠ q := fun e => HQS.out bm HCH.out.rep.sm e
            have b5 := HST.out.same hbq (fun j hj => (HCH.out.rep.bdf hj).symm) HN5.out.hd
            have c1 := block_cell b5 1
            have hdir : DirAt loc wr bm D := by
              refine HN5.out.dir.same ?_
              exact HST.out.fr.block bm HN5.out.dir.lt (.inl (by
                rintro (e | ⟨j, hj, e⟩)
                · exact hmq e
                · exact HCH.out.rep.hm.noRow (HCH.out.rep.hf j hj).2 e))
            have B5 := Lib.hid b5
            have HDIR := Lib.hid hdir
            simp at c1
            clear b5 hdir hbq hmq
            go_wp2_with (go_at_call 80; refine (clone_dir HDIR.out).mono ?_; rintro e w6 ⟨rfl, hd6, hb6⟩; have z5 := (hb6.block bd (lt_of_block B5.out)).trans B5.out; have k2 := block_cell z5 2; have f2 := block_free z5 2; have HD6 := Lib.hid hd6; have HB6 := Lib.hid hb6; clear z5 hd6 hb6)
            go_end0
            have hqw : w.heap.size ≤ q := Nat.le_of_eq HQ.out.symm
            have f4 : Fr S w w4 := ((HF2.out.mono (fun _ => False.elim)).trans' HCH.out.fr (fun i e => .inr (by rw [e]; exact hqw))).trans HN4.out.2
            have R := H.out.started (w6 := w6) HDS.out f4 HN5.out HB5.out (fun h => HQS.out q h rfl) hqw HST.out HD6.out HB6.out
            rw [List.take_length] at R
            have E : m.start sc = { m with down := false, limit := -1, names := D, durable := D, pending := [], files := (startAll m.files sc1 D).1 } := by
              unfold M.start
              rw [HD.out]
              simp only [Bool.not_true, Bool.false_eq_true, if_false]
              rw [HPE.out, HSE.out, HDE.out]
            rw [E]
            exact ⟨rfl, R⟩
end
end Go.Proofs.YtlhnjdoicolkkaaGreatDoor
