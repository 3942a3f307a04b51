/- Two plain disks that differ only in how their files are numbered behave alike. -/
import Derived.Test.YtlhnjdoicolkkaaActPure
namespace Go.Dsk

def mapDir (r : Nat → Nat) (l : Dir) : Dir := l.map fun p => (p.1, r p.2)
def ren (r : Nat → Nat) (c : Ch) : Ch := if c.dst = [] then c else { c with file := r c.file }
structure Sim (r : Nat → Nat) (a b : M) : Prop where
  cap : b.cap = a.cap
  limit : b.limit = a.limit
  down : b.down = a.down
  names : b.names = mapDir r a.names
  durable : b.durable = mapDir r a.durable
  pend : b.pending = a.pending.map (ren r)
  files : ∀ k, k < a.files.length → r k < b.files.length ∧ b.files.getD (r k) ⟨[], 0⟩ = a.files.getD k ⟨[], 0⟩
  inj : ∀ i j, i < a.files.length → j < a.files.length → r i = r j → i = j
def SimE (a b : M) : Prop := ∃ r, Sim r a b

theorem ren_src (r : Nat → Nat) (c : Ch) : (ren r c).src = c.src := by unfold ren; split <;> rfl
theorem ren_dst (r : Nat → Nat) (c : Ch) : (ren r c).dst = c.dst := by unfold ren; split <;> rfl
theorem ren_file (r : Nat → Nat) (c : Ch) (h : c.dst ≠ []) : (ren r c).file = r c.file := by unfold ren; rw [if_neg h]
theorem find_map (r : Nat → Nat) (n : Bs) (l : Dir) : find (mapDir r l) n = (find l n).map r := by
  unfold find mapDir
  rw [List.find?_map, Option.map_map, Option.map_map]
  rfl
theorem without_map (r : Nat → Nat) (n : Bs) (l : Dir) : without (mapDir r l) n = mapDir r (without l n) := by
  unfold without mapDir
  rw [List.filter_map]
  rfl
theorem ins_map (r : Nat → Nat) (x : Bs × Nat) : ∀ l : Dir, ins (x.1, r x.2) (mapDir r l) = mapDir r (ins x l)
  | [] => rfl
  | y :: t => by
    have ih := ins_map r x t
    unfold mapDir at ih ⊢
    unfold ins
    simp only [List.map_cons]
    split
    · rfl
    · rw [ih]; rfl
theorem withOne_map (r : Nat → Nat) (n : Bs) (k : Nat) (l : Dir) : withOne (mapDir r l) (n, r k) = mapDir r (withOne l (n, k)) := by
  unfold withOne
  rw [without_map]
  exact ins_map r (n, k) _
theorem changed_map (r : Nat → Nat) (c : Ch) (l : Dir) : changed (mapDir r l) (ren r c) = mapDir r (changed l c) := by
  unfold changed
  simp only [ren_src, ren_dst]
  by_cases hd : c.dst = []
  · simp only [hd, if_true]
    split
    · rfl
    · exact without_map _ _ _
  · simp only [hd, if_false, ren_file r c hd]
    split
    · exact withOne_map _ _ _ _
    · rw [without_map]; exact withOne_map _ _ _ _
theorem all_map (r : Nat → Nat) : ∀ (cs : List Ch) (l : Dir), all (mapDir r l) (cs.map (ren r)) = mapDir r (all l cs)
  | [], _ => rfl
  | c :: t, l => by
    have := all_map r t (changed l c)
    unfold all at this ⊢
    simp only [List.map_cons, List.foldl_cons, changed_map, this]
theorem mapDir_congr {r r' : Nat → Nat} {l : Dir} (h : ∀ p ∈ l, r p.2 = r' p.2) : mapDir r l = mapDir r' l := List.map_congr_left fun p hp => by rw [h p hp]
theorem mapDir_length (r : Nat → Nat) (l : Dir) : (mapDir r l).length = l.length := by simp [mapDir]
theorem mapDir_names (r : Nat → Nat) (l : Dir) : (mapDir r l).map (·.1) = l.map (·.1) := by simp [mapDir]
theorem good_names {n : Nat} {l : Dir} (h : Good n l) : ∀ p ∈ l, p.2 < n := fun p hp => (h.2 p hp).2

section
variable {r : Nat → Nat} {a b : M}
theorem Sim.find (h : Sim r a b) (n : Bs) : find b.names n = (find a.names n).map r := by rw [h.names, find_map]
theorem Sim.len (h : Sim r a b) {k : Nat} (hk : k < a.files.length) : b.len (r k) = a.len k := by unfold M.len; rw [(h.files k hk).2]
theorem Sim.used (h : Sim r a b) (ha : a.Ok) : b.used = a.used := by
  unfold M.used
  rw [h.names]
  unfold mapDir
  rw [List.map_map]
  congr 1
  exact List.map_congr_left fun p hp => h.len (good_names ha.names p hp)
theorem Sim.counted (h : Sim r a b) : Sim r a.counted b.counted := by
  have hl := h.limit
  unfold M.counted
  by_cases h0 : a.limit = 0
  · rw [if_pos h0, if_pos (hl.trans h0)]
    exact ⟨h.cap, hl, rfl, h.names, h.durable, h.pend, h.files, h.inj⟩
  · rw [if_neg h0, if_neg (show ¬ b.limit = 0 from fun e => h0 (hl.symm.trans e))]
    by_cases h1 : 0 < a.limit
    · rw [if_pos h1, if_pos (show 0 < b.limit by omega)]
      exact ⟨h.cap, by simp [hl], h.down, h.names, h.durable, h.pend, h.files, h.inj⟩
    · rw [if_neg h1, if_neg (show ¬ 0 < b.limit by omega)]
      exact h
theorem Sim.failing (h : Sim r a b) : b.failing = a.failing := by unfold M.failing; rw [h.limit]
theorem Sim.apply (h : Sim r a b) (c : Ch) : Sim r (a.apply c) (b.apply (ren r c)) :=
  ⟨h.cap, h.limit, h.down, by show changed b.names _ = _; rw [h.names, changed_map]; rfl, h.durable, by show b.pending ++ _ = _; rw [h.pend]; simp [M.apply], h.files, h.inj⟩
theorem getD_set (l : List Fl) (k j : Nat) (f : Fl) (hk : k < l.length) : (l.set k f).getD j ⟨[], 0⟩ = if j = k then f else l.getD j ⟨[], 0⟩ := by
  simp only [List.getD_eq_getElem?_getD, List.getElem?_set]
  by_cases h : k = j
  · subst h; simp [hk]
  · rw [if_neg h, if_neg (fun e => h e.symm)]
theorem Sim.set (h : Sim r a b) {k : Nat} (hk : k < a.files.length) (f : Fl) : Sim r { a with files := a.files.set k f } { b with files := b.files.set (r k) f } := by
  refine ⟨h.cap, h.limit, h.down, h.names, h.durable, h.pend, ?_, ?_⟩
  · intro j hj
    simp only [List.length_set] at hj ⊢
    refine ⟨(h.files j hj).1, ?_⟩
    rw [getD_set _ _ _ _ hk, getD_set _ _ _ _ (h.files k hk).1]
    by_cases e : j = k
    · subst e; simp
    · rw [if_neg e, if_neg (fun e2 => e (h.inj j k hj hk e2))]
      exact (h.files j hj).2
  · intro i j hi hj
    simp only [List.length_set] at hi hj
    exact h.inj i j hi hj
theorem Sim.setFile (h : Sim r a b) {k : Nat} (hk : k < a.files.length) (f : Fl → Fl) : Sim r { a with files := setFile a.files k f } { b with files := setFile b.files (r k) f } := by
  unfold Dsk.setFile
  rw [(h.files k hk).2]
  exact h.set hk _
theorem ren_congr {r r' : Nat → Nat} {c : Ch} (h : c.dst ≠ [] → r c.file = r' c.file) : ren r c = ren r' c := by
  unfold ren
  split
  · rfl
  · rw [h ‹_›]
theorem chain_files {n : Nat} : ∀ {l : Dir} {cs : List Ch}, Chain n l cs → ∀ c ∈ cs, c.dst ≠ [] → c.file < n
  | _, _ :: _, h, c, hc, hd => by
    rcases List.mem_cons.1 hc with rfl | hc
    · exact h.1.2.2.2.1 hd
    · exact chain_files h.2 c hc hd
/-- A new file. -/
theorem Sim.grow (h : Sim r a b) (ha : a.Ok) : Sim (fun k => if k = a.files.length then b.files.length else r k) { a with files := a.files ++ [⟨[], 0⟩] } { b with files := b.files ++ [⟨[], 0⟩] } := by
  have hne : ∀ k, k < a.files.length → (if k = a.files.length then b.files.length else r k) = r k := fun k hk => if_neg (by omega)
  refine ⟨h.cap, h.limit, h.down, ?_, ?_, ?_, ?_, ?_⟩
  · show b.names = mapDir _ a.names
    rw [h.names]
    exact mapDir_congr fun p hp => (hne _ (good_names ha.names p hp)).symm
  · show b.durable = mapDir _ a.durable
    rw [h.durable]
    exact mapDir_congr fun p hp => (hne _ (good_names ha.durable p hp)).symm
  · show b.pending = a.pending.map _
    rw [h.pend]
    exact List.map_congr_left fun c hc => ren_congr fun hd => (hne _ (chain_files ha.chain c hc hd)).symm
  · intro k hk
    simp only [List.length_append, List.length_singleton] at hk ⊢
    by_cases e : k = a.files.length
    · rw [if_pos e]
      refine ⟨by omega, ?_⟩
      subst e
      simp [List.getD_eq_getElem?_getD]
    · have hk' : k < a.files.length := by omega
      rw [if_neg e]
      obtain ⟨h1, h2⟩ := h.files k hk'
      refine ⟨by omega, ?_⟩
      simp only [List.getD_eq_getElem?_getD] at h2 ⊢
      rw [List.getElem?_append_left h1, List.getElem?_append_left hk', h2]
  · intro i j hi hj he
    simp only [List.length_append, List.length_singleton] at hi hj
    by_cases e1 : i = a.files.length
    · by_cases e2 : j = a.files.length
      · omega
      · rw [if_pos e1, if_neg e2] at he
        have := (h.files j (by omega)).1
        omega
    · by_cases e2 : j = a.files.length
      · rw [if_neg e1, if_pos e2] at he
        have := (h.files i (by omega)).1
        omega
      · rw [if_neg e1, if_neg e2] at he
        exact h.inj i j (by omega) (by omega) he
end

section
variable {a b : M}
theorem sim_append (h : SimE a b) (ha : a.Ok) (n d : Bs) : (b.append n d).1 = (a.append n d).1 ∧ SimE (a.append n d).2 (b.append n d).2 := by
  obtain ⟨r, h⟩ := h
  have hu := h.used ha
  have hf := h.find n
  have hl : b.names.length = a.names.length := by rw [h.names, mapDir_length]
  have hN : (find b.names n).isNone = (find a.names n).isNone := by rw [hf]; simp
  have hB : (b.cap < (b.used : Int) + d.length) = (a.cap < (a.used : Int) + d.length) := by rw [hu, h.cap]
  unfold M.append
  rw [h.down, hN, hl]
  simp only [hB]
  split
  · exact ⟨rfl, r, h⟩
  split
  · exact ⟨rfl, r, h⟩
  rename_i _ hnm
  split
  · exact ⟨rfl, r, h⟩
  split
  · exact ⟨rfl, r, h⟩
  rw [hf]
  cases hk : find a.names n with
  | some k =>
    have hlt := (find_good ha.names hk).2
    simp only [Option.map_some]
    refine ⟨by rw [h.failing], r, ?_⟩
    exact h.counted.setFile (by rw [counted_files]; exact hlt) _
  | none =>
    simp only [Option.map_none]
    refine ⟨by rw [h.failing], ?_⟩
    have hg := h.counted.grow (counted_ok ha)
    have hap := hg.apply ⟨[], n, a.counted.files.length⟩
    refine ⟨fun k => if k = a.counted.files.length then b.counted.files.length else r k, ?_⟩
    have hren : ren (fun k => if k = a.counted.files.length then b.counted.files.length else r k) ⟨[], n, a.counted.files.length⟩ = ⟨[], n, b.counted.files.length⟩ := by
      unfold ren
      have hn : n ≠ [] := isName_ne (by simpa using hnm)
      simp [hn]
    rw [hren] at hap
    have := hap.setFile (k := a.counted.files.length) (by simp [M.apply]) (addTo d)
    simp only [if_true] at this
    have e1 : a.counted.files.length = a.files.length := by rw [counted_files]
    have e2 : b.counted.files.length = b.files.length := by rw [counted_files]
    unfold M.fresh M.added
    rw [← e1, ← e2]
    exact this
theorem sim_sync (h : SimE a b) (ha : a.Ok) (n : Bs) : (b.sync n).1 = (a.sync n).1 ∧ SimE (a.sync n).2 (b.sync n).2 := by
  obtain ⟨r, h⟩ := h
  have hf := h.find n
  unfold M.sync
  rw [h.down, hf]
  split
  · exact ⟨rfl, r, h⟩
  cases hk : find a.names n with
  | none => exact ⟨rfl, r, h⟩
  | some k =>
    have hlt := (find_good ha.names hk).2
    simp only [Option.map_some]
    rw [h.failing]
    split
    · exact ⟨rfl, r, h.counted⟩
    · have := h.counted.setFile (k := k) (by rw [counted_files]; exact hlt) synced
      simp only [counted_files] at this
      exact ⟨rfl, r, this⟩
theorem sim_rename (h : SimE a b) (_ha : a.Ok) (n t : Bs) : (b.rename n t).1 = (a.rename n t).1 ∧ SimE (a.rename n t).2 (b.rename n t).2 := by
  obtain ⟨r, h⟩ := h
  have hf := h.find n
  unfold M.rename
  rw [h.down, hf]
  split
  · exact ⟨rfl, r, h⟩
  cases hk : find a.names n with
  | none => exact ⟨rfl, r, h⟩
  | some k =>
    simp only [Option.map_some]
    split
    · exact ⟨rfl, r, h⟩
    · rename_i hnm
      have hn : t ≠ [] := isName_ne (by simpa using hnm)
      have := h.counted.apply ⟨n, t, k⟩
      rw [show ren r ⟨n, t, k⟩ = ⟨n, t, r k⟩ by simp [ren, hn]] at this
      exact ⟨by rw [h.failing], r, this⟩
theorem sim_remove (h : SimE a b) (n : Bs) : (b.remove n).1 = (a.remove n).1 ∧ SimE (a.remove n).2 (b.remove n).2 := by
  obtain ⟨r, h⟩ := h
  have hf := h.find n
  unfold M.remove
  rw [h.down, hf]
  split
  · exact ⟨rfl, r, h⟩
  cases hk : find a.names n with
  | none => exact ⟨rfl, r, h⟩
  | some k =>
    simp only [Option.map_some]
    exact ⟨by rw [h.failing], r, h.counted.apply ⟨n, [], 0⟩⟩
theorem sim_publish (h : SimE a b) : b.publish.1 = a.publish.1 ∧ SimE a.publish.2 b.publish.2 := by
  obtain ⟨r, h⟩ := h
  unfold M.publish
  rw [h.down, h.failing]
  split
  · exact ⟨rfl, r, h⟩
  split
  · exact ⟨rfl, r, h.counted⟩
  · have c := h.counted
    exact ⟨rfl, r, ⟨c.cap, c.limit, c.down, c.names, h.names, rfl, c.files, c.inj⟩⟩
theorem sim_limit (h : SimE a b) (n : Int) : (b.setLimit n).1 = (a.setLimit n).1 ∧ SimE (a.setLimit n).2 (b.setLimit n).2 := by
  obtain ⟨r, h⟩ := h
  unfold M.setLimit
  rw [h.down]
  split
  · exact ⟨rfl, r, h⟩
  · exact ⟨rfl, r, ⟨h.cap, rfl, rfl, h.names, h.durable, h.pend, h.files, h.inj⟩⟩
theorem sim_crash (h : SimE a b) : SimE a.crash b.crash := by
  obtain ⟨r, h⟩ := h
  exact ⟨r, ⟨h.cap, h.limit, rfl, h.names, h.durable, h.pend, h.files, h.inj⟩⟩
/-- Starting files: the same bytes, whatever their numbers. -/
theorem sim_startAll {r : Nat → Nat} : ∀ (l : Dir) (fs gs : List Fl) (sc : List Int), (∀ p ∈ l, p.2 < fs.length) → (∀ k, k < fs.length → r k < gs.length ∧ gs.getD (r k) ⟨[], 0⟩ = fs.getD k ⟨[], 0⟩) → (∀ i j, i < fs.length → j < fs.length → r i = r j → i = j) →
    (startAll fs sc l).1.length = fs.length ∧ ∀ k, k < fs.length → r k < (startAll gs sc (mapDir r l)).1.length ∧ (startAll gs sc (mapDir r l)).1.getD (r k) ⟨[], 0⟩ = (startAll fs sc l).1.getD k ⟨[], 0⟩
  | [], fs, gs, sc, _, h2, _ => ⟨rfl, h2⟩
  | p :: t, fs, gs, sc, h1, h2, h3 => by
    have hp := h1 p (by simp)
    obtain ⟨g1, g2⟩ := h2 p.2 hp
    have e1 : startAll gs sc (mapDir r (p :: t)) = startAll (gs.set (r p.2) (startFile (fs.getD p.2 ⟨[], 0⟩) sc).1) (startFile (fs.getD p.2 ⟨[], 0⟩) sc).2 (mapDir r t) := by
      rw [← g2]; rfl
    have e2 : startAll fs sc (p :: t) = startAll (fs.set p.2 (startFile (fs.getD p.2 ⟨[], 0⟩) sc).1) (startFile (fs.getD p.2 ⟨[], 0⟩) sc).2 t := rfl
    rw [e1, e2]
    generalize startFile (fs.getD p.2 ⟨[], 0⟩) sc = q
    have := sim_startAll (r := r) t (fs.set p.2 q.1) (gs.set (r p.2) q.1) q.2 (fun x hx => by simpa using h1 x (by simp [hx])) (fun k hk => by
      simp only [List.length_set] at hk ⊢
      refine ⟨(h2 k hk).1, ?_⟩
      rw [getD_set _ _ _ _ hp, getD_set _ _ _ _ g1]
      by_cases e : k = p.2
      · subst e; simp
      · rw [if_neg e, if_neg (fun e2 => e (h3 k p.2 hk hp e2))]
        exact (h2 k hk).2) (fun i j hi hj => h3 i j (by simpa using hi) (by simpa using hj))
    simpa only [List.length_set] using this
theorem sim_start (h : SimE a b) (ha : a.Ok) (sc : List Int) : SimE (a.start sc) (b.start sc) := by
  obtain ⟨r, h⟩ := h
  unfold M.start
  rw [h.down]
  split
  · exact ⟨r, h⟩
  have hl : b.pending.length = a.pending.length := by rw [h.pend]; simp
  have hd : all b.durable (b.pending.take (pick sc a.pending.length).1) = mapDir r (all a.durable (a.pending.take (pick sc a.pending.length).1)) := by
    rw [h.durable, h.pend, ← List.map_take, all_map]
  have hg : Good a.files.length (all a.durable (a.pending.take (pick sc a.pending.length).1)) := good_all ha.durable (chain_take _ ha.chain)
  simp only [hl, hd]
  generalize all a.durable (a.pending.take (pick sc a.pending.length).1) = d at hg
  generalize (pick sc a.pending.length).2 = s2
  obtain ⟨k1, k2⟩ := sim_startAll (r := r) d a.files b.files s2 (good_names hg) h.files h.inj
  exact ⟨r, ⟨h.cap, rfl, rfl, rfl, rfl, rfl, fun k hk => k2 k (by rw [← k1]; exact hk), fun i j hi hj => h.inj i j (by rw [← k1]; exact hi) (by rw [← k1]; exact hj)⟩⟩
theorem sim_actOn (h : SimE a b) (ha : a.Ok) (kind : Int) (x y : Bs) (n : Int) (sc : List Int) : (b.actOn kind x y n sc).1 = (a.actOn kind x y n sc).1 ∧ SimE (a.actOn kind x y n sc).2 (b.actOn kind x y n sc).2 := by
  unfold M.actOn
  split
  · exact sim_sync h ha _
  split
  · exact sim_rename h ha _ _
  split
  · exact sim_remove h _
  split
  · exact sim_publish h
  split
  · exact sim_limit h _
  split
  · exact ⟨rfl, sim_crash h⟩
  split
  · exact ⟨rfl, sim_start h ha _⟩
  · exact sim_append h ha _ _
theorem sim_read (h : SimE a b) (ha : a.Ok) (n : Bs) : b.read n = a.read n := by
  obtain ⟨r, h⟩ := h
  unfold M.read
  rw [h.down, h.find n]
  split
  · rfl
  cases hk : find a.names n with
  | none => rfl
  | some k =>
    simp only [Option.map_some]
    rw [(h.files k (find_good ha.names hk).2).2]
theorem sim_list (h : SimE a b) : b.list = a.list := by
  obtain ⟨r, h⟩ := h
  unfold M.list
  rw [h.down, h.names, mapDir_names]
theorem sim_free (h : SimE a b) (ha : a.Ok) : b.free = a.free := by
  obtain ⟨r, h⟩ := h
  unfold M.free
  rw [h.down, h.used ha, h.cap]
theorem sim_down (h : SimE a b) : b.down = a.down := by
  obtain ⟨r, h⟩ := h
  exact h.down
end
end Go.Dsk
