/- Append: bytes behind those of a file, or a new file. -/
import Derived.Test.YtlhnjdoicolkkaaOps2
set_option maxRecDepth 100000
namespace Go.Proofs.Ytlhnjdoicolkkaa
open Go.RowKit Go.Dsk Go.Maps Go.WideMaps
set_option maxHeartbeats 400000

theorem mk_append (a : Bs) (d : ByteArray) : (⟨a.toArray⟩ ++ d : ByteArray) = ⟨(a ++ d.data.toList).toArray⟩ := by
  apply ByteArray.ext
  rw [ByteArray.data_append]
  simp

/-- 'len(m)' of a directory, behind a guard that says yes. -/
theorem wpList_dir_len_want (w : World) {ops : Array Oper} {rest : List Oper} {o : Oper} {a : Act} {Q : Exit → Act → World → Prop} (hg : Region.wanted o (yielded ops a.tmps) = true) (m : Operand) (hop : o.op = Op.call { callee := Callee.builtin Builtin.len, args := #[m], argTypes := #[69] }) (loc : Nat → Nat) (b : Nat) (l : Dir) (h : DirAt loc w b l)
    (hm : a.eval m = .map (some b)) (hK : wpList Try.prog ops Q rest (a.put o.dst (.int .i64 l.length)) w) : wpList Try.prog ops Q (o :: rest) a w := by
  refine BigFrame.wpList_want hg fun K' hK' => ?_
  have hl := World.ownsMap.len h dirT o.type
  rw [dirD_size] at hl
  unfold Oper.wp
  simp [execOp, hop, resolve, invoke, builtin, hm, hl, Result.andThen]
  exact hK' _ _ hK

section
variable {loc : Nat → Nat} {S : Nat → Prop} {w : World} {bd bn bm : Nat} {sl : Value} {bs : List (Nat × Nat)} {lft : Int} {m : M}

theorem Rep.dr (h : Rep loc S w bd bn bm sl bs lft m) : Rep loc S w.drew bd bn bm sl bs lft m := h.keep (T := fun _ => False) (Fr.refl _ w).drew (fun _ _ => id)

/-- Bytes come behind those of a file. -/
theorem Rep.addedTo (h : Rep loc S w bd bn bm sl bs lft m) {k : Nat} (hk : k < m.files.length) {fl : Fl} (e : m.files.getD k ⟨[], 0⟩ = fl) (d : ByteArray) (hsz : (fl.bytes.length : Int) + d.size ≤ m.cap) :
    Rep loc S (w.setCell ⟨loc k, 0, none⟩ (.string (⟨fl.bytes.toArray⟩ ++ d))) bd bn bm sl bs lft (m.added k d.data.toList) ∧ Fr S w (w.setCell ⟨loc k, 0, none⟩ (.string (⟨fl.bytes.toArray⟩ ++ d))) := by
  have hfa := (h.hf k hk).2
  have e1 := block_set hfa 0 (.string (⟨fl.bytes.toArray⟩ ++ d))
  have hfr : Fr S w (w.setCell ⟨loc k, 0, none⟩ (.string (⟨fl.bytes.toArray⟩ ++ d))) := (Fr.refl S w).setCell (.inl (h.hf k hk).1) hfa.noBox _
  have hd : d.data.toList.length = d.size := by simp
  have h2 := (getD_size h.ok k).2
  rw [e] at h2
  have hok := setFile_ok h.ok k (addTo d.data.toList) (by rw [e]; simp only [addTo, List.length_append, hd]; omega)
  exact ⟨h.filed hk (addTo d.data.toList) (by unfold FileAt; rw [e1, e, mk_append]; simp [addTo]) (fun i hi => block_other hi _) hfr hok, hfr⟩

theorem append_down {m : M} (n d : Bs) (hd : m.down = true) : m.append n d = (18, m) := by simp [M.append, hd]
theorem append_bad {m : M} (n d : Bs) (hd : m.down = false) (hn : isName n = false) : m.append n d = (11, m) := by simp [M.append, hd, hn]
theorem append_limit {m : M} (n d : Bs) (hd : m.down = false) (hn : isName n = true) (hf : find m.names n = none) (hl : 64 ≤ m.names.length) : m.append n d = (6, m) := by simp [M.append, hd, hn, hf, hl]
theorem append_full {m : M} (n d : Bs) (hd : m.down = false) (hn : isName n = true) (hl : find m.names n = none → m.names.length < 64) (hc : m.cap < (m.used : Int) + d.length) : m.append n d = (33, m) := by
  unfold M.append
  rw [hd, hn]
  have : ((find m.names n).isNone && decide (64 ≤ m.names.length)) = false := by
    cases hf : find m.names n with
    | none => have := hl hf; simp; omega
    | some _ => rfl
  rw [this]
  simp [hc]
theorem append_some {m : M} (n d : Bs) (hd : m.down = false) (hn : isName n = true) {k : Nat} (hf : find m.names n = some k) (hc : ¬ m.cap < (m.used : Int) + d.length) : m.append n d = (outcome m.failing, m.counted.added k d) := by
  simp [M.append, hd, hn, hf, hc]
theorem append_none {m : M} (n d : Bs) (hd : m.down = false) (hn : isName n = true) (hf : find m.names n = none) (hl : m.names.length < 64) (hc : ¬ m.cap < (m.used : Int) + d.length) : m.append n d = (outcome m.failing, (m.counted.fresh n).added m.files.length d) := by
  simp [M.append, hd, hn, hf, hc]
  omega

theorem Append_down (h : Rep loc S w bd bn bm sl bs lft m) (hd : m.down = true) (n d : ByteArray) :
    Calls Try.prog 13 #[.pointer (some ⟨bd, 0, none⟩), .string n, .string d] w fun e w' => e = .returned (.int .i64 18) ∧ w = w' := by
  have H := Lib.hid h
  have HD := Lib.hid hd
  clear h hd
  go_enter Try.func13, Try.ntmps13
  go_wp2_with (go_at_call 37; refine (ready_down H.out HD.out).mono ?_; rintro e w' ⟨rfl, rfl⟩)
  go_ret
  exact ⟨rfl, rfl⟩

theorem Append_bad (h : Rep loc S w bd bn bm sl bs lft m) (hd : m.down = false) (n d : ByteArray) (hs : n.size ≤ maxLen) (hn : isName n.data.toList = false) :
    Calls Try.prog 13 #[.pointer (some ⟨bd, 0, none⟩), .string n, .string d] w fun e w' => e = .returned (.int .i64 11) ∧ w = w' := by
  have H := Lib.hid h
  have HD := Lib.hid hd
  have HN := Lib.hid hn
  have h1 := h.c1
  cases hf : find m.names n.data.toList with
  | none =>
    have HF := Lib.hid hf
    clear h hd hn hf
    go_enter Try.func13, Try.ntmps13
    go_wp2_with (first
      | (go_at_call 37; refine (ready_up H.out HD.out).mono ?_; rintro e w' ⟨rfl, rfl⟩)
      | (at_lookup; refine wpList_dir_ok_none _ rfl _ _ rfl loc bn m.names H.out.hn n hs HF.out rfl rfl ?_)
      | (go_at_call 38; refine (isName_is n _ hs HN.out).mono ?_; rintro e w' ⟨rfl, rfl⟩))
    go_ret
    exact ⟨rfl, rfl⟩
  | some k =>
    have HF := Lib.hid hf
    clear h hd hn hf
    go_enter Try.func13, Try.ntmps13
    go_wp2_with (first
      | (go_at_call 37; refine (ready_up H.out HD.out).mono ?_; rintro e w' ⟨rfl, rfl⟩)
      | (at_lookup; refine wpList_dir_ok_some _ rfl _ _ rfl loc bn m.names H.out.hn n hs k HF.out rfl rfl ?_)
      | (go_at_call 38; refine (isName_is n _ hs HN.out).mono ?_; rintro e w' ⟨rfl, rfl⟩))
    go_ret
    exact ⟨rfl, rfl⟩

theorem Append_limit (h : Rep loc S w bd bn bm sl bs lft m) (hd : m.down = false) (n d : ByteArray) (hs : n.size ≤ maxLen) (hn : isName n.data.toList = true) (hf : find m.names n.data.toList = none) (hl : 64 ≤ m.names.length) :
    Calls Try.prog 13 #[.pointer (some ⟨bd, 0, none⟩), .string n, .string d] w fun e w' => e = .returned (.int .i64 6) ∧ w = w' := by
  have H := Lib.hid h
  have HD := Lib.hid hd
  have HN := Lib.hid hn
  have HF := Lib.hid hf
  have h1 := h.c1
  clear h hd hn hf
  go_enter Try.func13, Try.ntmps13
  go_wp2_with (first
    | (go_at_call 37; refine (ready_up H.out HD.out).mono ?_; rintro e w' ⟨rfl, rfl⟩)
    | (at_lookup; refine wpList_dir_ok_none _ rfl _ _ rfl loc bn m.names H.out.hn n hs HF.out rfl rfl ?_)
    | (go_at_call 38; refine (isName_is n _ hs HN.out).mono ?_; rintro e w' ⟨rfl, rfl⟩)
    | (at_len; refine wpList_dir_len_want _ (by rfl) _ rfl loc bn m.names H.out.hn rfl ?_))
  go_ret
  exact ⟨rfl, rfl⟩

/-- A new file. -/
theorem Rep.newFile (h : Rep loc S w bd bn bm sl bs lft m) : ∃ loc' S', loc' m.files.length = w.heap.size ∧ (∀ i, S' i → S i ∨ w.heap.size ≤ i) ∧
    Rep loc' S' (w.alloc (.cells #[.string ⟨#[]⟩, .int .i64 0] 76)) bd bn bm sl bs lft { m with files := m.files ++ [⟨[], 0⟩] } ∧ Fr S w (w.alloc (.cells #[.string ⟨#[]⟩, .int .i64 0] 76)) := by
  have hfr : Fr S w (w.alloc (.cells #[.string ⟨#[]⟩, .int .i64 0] 76)) := (Fr.refl _ w).alloc _
  have hold : ∀ j, j < m.files.length → (if j = m.files.length then w.heap.size else loc j) = loc j := fun j hj => if_neg (by omega)
  have hlen : (m.files ++ [(⟨[], 0⟩ : Fl)]).length = m.files.length + 1 := by simp
  have hs : ∀ i, i < w.heap.size → (w.alloc (.cells #[.string ⟨#[]⟩, .int .i64 0] 76)).heap[i]? = w.heap[i]? := fun i hi => Below.heap_alloc _ _ _ hi
  refine ⟨fun j => if j = m.files.length then w.heap.size else loc j, fun i => S i ∨ i = w.heap.size, if_pos rfl, fun i hi => hi.imp id (fun e => by omega), ?_, hfr⟩
  refine ⟨?_, .inl h.sd, .inl h.sn, .inl h.sm, h.ne, (hs _ (lt_of_block h.hd)).trans h.hd, h.hl, ?_, ?_, ?_, fun j hj => .inl (h.sp j hj), ?_, ?_, grow_ok h.ok⟩
  · rintro i (hi | rfl)
    · exact Nat.lt_of_lt_of_le (h.lt i hi) hfr.size
    · simp
  · exact (h.hn.same (hs _ h.hn.lt)).congr (fun p hp => (hold _ (h.ok.names.2 p hp).2).symm)
  · exact (h.hm.same (hs _ h.hm.lt)).congr (fun p hp => (hold _ (h.ok.durable.2 p hp).2).symm)
  · refine (h.hp.same hfr (fun j hj => hs j (h.lt j (h.sp j hj)))).congr (fun c hc he => (hold _ ?_).symm)
    obtain ⟨i, hi, rfl⟩ := List.mem_iff_getElem.1 hc
    have := chain_at i hi h.ok.chain
    exact this.2.2.2.1 (this.2.2.1 he)
  · intro j hj
    simp only [hlen] at hj
    by_cases e : j = m.files.length
    · subst e
      refine ⟨.inr (if_pos rfl), ?_⟩
      simp only
      have e2 : (m.files ++ [(⟨[], 0⟩ : Fl)]).getD m.files.length ⟨[], 0⟩ = ⟨[], 0⟩ := by simp [List.getD_eq_getElem?_getD]
      unfold FileAt
      rw [e2]
      exact heap_alloc_new w _
    · have hj' : j < m.files.length := by omega
      have e2 : (m.files ++ [(⟨[], 0⟩ : Fl)]).getD j ⟨[], 0⟩ = m.files.getD j ⟨[], 0⟩ := by
        simp only [List.getD_eq_getElem?_getD]; rw [List.getElem?_append_left hj']
      simp only [if_neg e]
      exact ⟨.inl (h.hf j hj').1, by unfold FileAt; rw [e2]; exact (hs _ (h.lt _ (h.hf j hj').1)).trans (h.hf j hj').2⟩
  · intro i j hi hj he
    simp only [hlen] at hi hj
    by_cases e1 : i = m.files.length
    · by_cases e2 : j = m.files.length
      · omega
      · simp only [if_pos e1, if_neg e2] at he
        have := h.lt _ (h.hf j (by omega)).1
        omega
    · by_cases e2 : j = m.files.length
      · simp only [if_neg e1, if_pos e2] at he
        have := h.lt _ (h.hf i (by omega)).1
        omega
      · simp only [if_neg e1, if_neg e2] at he
        exact h.inj i j (by omega) (by omega) he

end
end Go.Proofs.Ytlhnjdoicolkkaa
