/- A plain disk whose files are numbered anew, in the order in which they were copied. -/
import Derived.Test.YtlhnjdoicolkkaaSim
namespace Go.Dsk

def idx (L : List (Nat × Nat)) (k : Nat) : Nat := L.findIdx (fun p => p.1 == k)
def unidx (L : List (Nat × Nat)) (i : Nat) : Nat := (L.getD i (0, 0)).1
def M.renum (m : M) (L : List (Nat × Nat)) : M :=
  { m with files := L.map (fun p => m.files.getD p.1 ⟨[], 0⟩), names := mapDir (idx L) m.names, durable := mapDir (idx L) m.durable, pending := m.pending.map (ren (idx L)) }

theorem idx_lt {L : List (Nat × Nat)} {k : Nat} (h : k ∈ L.map (·.1)) : idx L k < L.length := by
  obtain ⟨p, hp, rfl⟩ := List.mem_map.1 h
  exact List.findIdx_lt_length_of_exists ⟨p, hp, by simp⟩
theorem idx_at {L : List (Nat × Nat)} {k : Nat} (h : k ∈ L.map (·.1)) : (L.getD (idx L k) (0, 0)).1 = k := by
  have hl := idx_lt h
  have := @List.findIdx_getElem (Nat × Nat) (fun p => p.1 == k) L hl
  rw [List.getD_eq_getElem?_getD, List.getElem?_eq_getElem hl]
  exact beq_iff_eq.1 this
theorem unidx_idx {L : List (Nat × Nat)} {k : Nat} (h : k ∈ L.map (·.1)) : unidx L (idx L k) = k := idx_at h
theorem mapDir_mapDir (r s : Nat → Nat) (l : Dir) : mapDir r (mapDir s l) = mapDir (fun k => r (s k)) l := by simp [mapDir]
theorem mapDir_id {r : Nat → Nat} {l : Dir} (h : ∀ p ∈ l, r p.2 = p.2) : mapDir r l = l := by
  unfold mapDir
  conv => rhs; rw [← List.map_id l]
  exact List.map_congr_left fun p hp => by rw [h p hp]; rfl
theorem ren_ren {r s : Nat → Nat} {c : Ch} (h : c.dst ≠ [] → r (s c.file) = c.file) : ren r (ren s c) = c := by
  by_cases hd : c.dst = []
  · have e : ren s c = c := if_pos hd
    rw [e]
    exact if_pos hd
  · have e : ren s c = { c with file := s c.file } := if_neg hd
    rw [e]
    have e2 : ren r { c with file := s c.file } = { c with file := r (s c.file) } := if_neg hd
    rw [e2, h hd]
/-- Files that a directory names, and that pending changes set, are all that pending changes name. -/
theorem chain_in {n : Nat} (K : Nat → Prop) : ∀ {l : Dir} {cs : List Ch}, Chain n l cs → (∀ p ∈ l, K p.2) → (∀ c ∈ cs, c.src = [] → K c.file) → ∀ c ∈ cs, c.dst ≠ [] → K c.file
  | _, [], _, _, _ => fun _ hc => by cases hc
  | l, c :: t, h, hl, hs => by
    have hc : c.dst ≠ [] → K c.file := fun hd => by
      by_cases hsrc : c.src = []
      · exact hs c (by simp) hsrc
      · exact hl (c.src, c.file) (find_mem (h.1.2.2.2.2 hsrc hd))
    intro d hd
    rcases List.mem_cons.1 hd with rfl | hd
    · exact hc
    · refine chain_in K h.2 (fun p hp => ?_) (fun x hx => hs x (by simp [hx])) d hd
      unfold changed at hp
      have hw : ∀ q ∈ (if c.src = [] then l else without l c.src), K q.2 := fun q hq => by
        split at hq
        · exact hl q hq
        · exact hl q (mem_without.1 hq).1
      simp only at hp
      split at hp
      · exact hw p hp
      · rename_i hdst
        unfold withOne at hp
        rcases mem_ins.1 hp with rfl | hp
        · exact hc hdst
        · exact hw p (mem_without.1 hp).1
theorem chain_map {n n' : Nat} (r : Nat → Nat) : ∀ {l : Dir} {cs : List Ch}, Chain n l cs → (∀ c ∈ cs, c.dst ≠ [] → r c.file < n') → Chain n' (mapDir r l) (cs.map (ren r))
  | _, [], _, _ => trivial
  | l, c :: t, h, hf => by
    refine ⟨?_, ?_⟩
    · obtain ⟨h1, h2, h3, h4, h5⟩ := h.1
      refine ⟨by rw [ren_src]; exact h1, by rw [ren_dst]; exact h2, by rw [ren_src, ren_dst]; exact h3, ?_, ?_⟩
      · rw [ren_dst]; intro hd; rw [ren_file _ _ hd]; exact hf c (by simp) hd
      · rw [ren_src, ren_dst]; intro hs hd; rw [find_map, h5 hs hd, ren_file _ _ hd]; rfl
    · rw [changed_map]
      exact chain_map r h.2 (fun x hx => hf x (by simp [hx]))
theorem sorted_map (r : Nat → Nat) {l : Dir} (h : Sorted l) : Sorted (mapDir r l) := by
  unfold Sorted mapDir at *
  rw [List.pairwise_map]
  exact h
theorem good_map {n n' : Nat} (r : Nat → Nat) {l : Dir} (h : Good n l) (hr : ∀ p ∈ l, r p.2 < n') : Good n' (mapDir r l) := by
  refine ⟨sorted_map r h.1, fun p hp => ?_⟩
  obtain ⟨q, hq, rfl⟩ := List.mem_map.1 hp
  exact ⟨(h.2 q hq).1, hr q hq⟩
section
variable {m : M} {L : List (Nat × Nat)}
theorem renum_ok (h : m.Ok) (h1 : ∀ p ∈ m.names, p.2 ∈ L.map (·.1)) (h2 : ∀ p ∈ m.durable, p.2 ∈ L.map (·.1)) (h3 : ∀ c ∈ m.pending, c.src = [] → c.file ∈ L.map (·.1)) (hi : ∀ p ∈ L, p.1 < m.files.length) : (m.renum L).Ok := by
  have h4 := chain_in (fun k => k ∈ L.map (·.1)) h.chain h2 h3
  refine ⟨?_, ?_, ?_, ?_, ?_, h.cap0, h.cap1, h.lim0, h.lim1⟩
  · exact good_map _ h.names (fun p hp => by simpa [M.renum] using idx_lt (h1 p hp))
  · exact good_map _ h.durable (fun p hp => by simpa [M.renum] using idx_lt (h2 p hp))
  · exact chain_map _ h.chain (fun c hc hd => by simpa [M.renum] using idx_lt (h4 c hc hd))
  · show mapDir _ _ = all (mapDir _ _) (m.pending.map _)
    rw [all_map, h.now]
  · intro f hf
    obtain ⟨p, hp, rfl⟩ := List.mem_map.1 hf
    have := hi p hp
    exact h.sizes _ (by rw [List.getD_eq_getElem?_getD, List.getElem?_eq_getElem this]; exact List.getElem_mem this)
theorem renum_sim (h : m.Ok) (h1 : ∀ p ∈ m.names, p.2 ∈ L.map (·.1)) (h2 : ∀ p ∈ m.durable, p.2 ∈ L.map (·.1)) (h3 : ∀ c ∈ m.pending, c.src = [] → c.file ∈ L.map (·.1)) (hi : ∀ p ∈ L, p.1 < m.files.length) (hn : (L.map (·.1)).Nodup) : SimE (m.renum L) m := by
  have h4 := chain_in (fun k => k ∈ L.map (·.1)) h.chain h2 h3
  refine ⟨unidx L, rfl, rfl, rfl, ?_, ?_, ?_, ?_, ?_⟩
  · show m.names = mapDir _ (mapDir _ m.names)
    rw [mapDir_mapDir, mapDir_id (fun p hp => unidx_idx (h1 p hp))]
  · show m.durable = mapDir _ (mapDir _ m.durable)
    rw [mapDir_mapDir, mapDir_id (fun p hp => unidx_idx (h2 p hp))]
  · show m.pending = (m.pending.map _).map _
    rw [List.map_map]
    conv => lhs; rw [← List.map_id m.pending]
    exact List.map_congr_left fun c hc => (ren_ren fun hd => unidx_idx (h4 c hc hd)).symm
  · intro k hk
    have hk' : k < L.length := by simpa [M.renum] using hk
    refine ⟨?_, ?_⟩
    · unfold unidx
      rw [List.getD_eq_getElem?_getD, List.getElem?_eq_getElem hk']
      exact hi _ (List.getElem_mem hk')
    · unfold unidx M.renum
      simp only [List.getD_eq_getElem?_getD, List.getElem?_map, List.getElem?_eq_getElem hk', Option.map_some, Option.getD_some]
  · intro i j hi' hj' he
    have hi1 : i < L.length := by simpa [M.renum] using hi'
    have hj1 : j < L.length := by simpa [M.renum] using hj'
    unfold unidx at he
    simp only [List.getD_eq_getElem?_getD, List.getElem?_eq_getElem hi1, List.getElem?_eq_getElem hj1, Option.getD_some] at he
    have := (List.getElem_inj (h₀ := by simpa using hi1) (h₁ := by simpa using hj1) hn).1 (by simpa using he)
    exact this
theorem renum_wt : (m.renum L).wt = m.wt := by simp [M.wt, M.renum, mapDir]
end
end Go.Dsk
