/- Append: bytes behind those of a file, or a new file. -/
import Derived.Test.YtlhnjdoicolkkaaGreatDoorOps2
set_option maxRecDepth 100000
namespace Go.Proofs.YtlhnjdoicolkkaaGreatDoor
open Go.RowKit Go.Dsk Go.Maps Go.WideMaps
set_option maxHeartbeats 400000

theorem mk_append (a : Bs) (d : ByteArray) : (⟨a.toArray⟩ ++ d : ByteArray) = ⟨(a ++ d.data.toList).toArray⟩ := by
  apply ByteArray.ext
  rw [ByteArray.data_append]
  simp

/-- 'len(m)' of a directory, behind a guard that says yes. -/
theorem wpList_dir_len_want (w : World) {ops : Array Oper} {rest : List Oper} {o : Oper} {a : Act} {Q : Exit → Act → World → Prop} (hg : Region.wanted o (yielded ops a.tmps) = true) (m : Operand) (hop : o.op = Op.call { callee := Callee.builtin Builtin.len, args := #[m], argTypes := #[96] }) (loc : Nat → Nat) (b : Nat) (l : Dir) (h : DirAt loc w b l)
    (hm : a.eval m = .map (some b)) (hK : wpList Tryz.prog ops Q rest (a.put o.dst (.int .i64 l.length)) w) : wpList Tryz.prog ops Q (o :: rest) a w := by
  refine BigFrame.wpList_want hg fun K' hK' => ?_
  have hl := World.ownsMap.len h dirT o.type
  rw [dirD_size] at hl
  unfold Oper.wp
  simp [execOp, hop, resolve, invoke, builtin, hm, hl, Result.andThen]
  exact hK' _ _ hK

section
variable {loc : Nat → Nat} {S : Nat → Prop} {w : World} {bd bn bm : Nat} {sl : Value} {bs : List (Nat × Nat)} {lft : Int} {m : M}

theorem Rep.dr (h : Rep loc S w bd bn bm sl bs lft m) : Rep loc S w.drew bd bn bm sl bs lft m := h.keep (T := fun _ => False) (Fr.refl _ w).drew (fun _ _ => id)

/-- Bytes come behind those of a file. -/
theorem Rep.addedTo (h : Rep loc S w bd bn bm sl bs lft m) {k : Nat} (hk : k < m.files.length) {fl : Fl} (e : m.files.getD k ⟨[], 0⟩ = fl) (d : ByteArray) (hsz : (fl.bytes.length : Int) + d.size ≤ m.cap) :
    Rep loc S (w.setCell ⟨loc k, 0, none⟩ (.string (⟨fl.bytes.toArray⟩ ++ d))) bd bn bm sl bs lft (m.added k d.data.toList) ∧ Fr S w (w.setCell ⟨loc k, 0, none⟩ (.string (⟨fl.bytes.toArray⟩ ++ d))) := by
  have hfa := (h.hf k hk).2
  have e1 := block_set hfa 0 (.string (⟨fl.bytes.toArray⟩ ++ d))
  have hfr : Fr S w (w.setCell ⟨loc k, 0, none⟩ (.string (⟨fl.bytes.toArray⟩ ++ d))) := (Fr.refl S w).setCell (.inl (h.hf k hk).1) hfa.noBox _
  have hd : d.data.toList.length = d.size := by simp
  have h2 := (getD_size h.ok k).2
  rw [e] at h2
  have hok := setFile_ok h.ok k (addTo d.data.toList) (by rw [e]; simp only [addTo, List.length_append, hd]; omega)
  exact ⟨h.filed hk (addTo d.data.toList) (by unfold FileAt; rw [e1, e, mk_append]; simp [addTo]) (fun i hi => block_other hi _) hfr hok, hfr⟩

theorem append_down {m : M} (n d : Bs) (hd : m.down = true) : m.append n d = (18, m) := by simp [M.append, hd]
theorem append_bad {m : M} (n d : Bs) (hd : m.down = false) (hn : isName n = false) : m.append n d = (11, m) := by simp [M.append, hd, hn]
theorem append_limit {m : M} (n d : Bs) (hd : m.down = false) (hn : isName n = true) (hf : find m.names n = none) (hl : 64 ≤ m.names.length) : m.append n d = (6, m) := by simp [M.append, hd, hn, hf, hl]
theorem append_full {m : M} (n d : Bs) (hd : m.down = false) (hn : isName n = true) (hl : find m.names n = none → m.names.length < 64) (hc : m.cap < (m.used : Int) + d.length) : m.append n d = (33, m) := by
  unfold M.append
  rw [hd, hn]
  have : ((find m.names n).isNone && decide (64 ≤ m.names.length)) = false := by
    cases hf : find m.names n with
    | none => have := hl hf; simp; omega
    | some _ => rfl
  rw [this]
  simp [hc]
theorem append_some {m : M} (n d : Bs) (hd : m.down = false) (hn : isName n = true) {k : Nat} (hf : find m.names n = some k) (hc : ¬ m.cap < (m.used : Int) + d.length) : m.append n d = (outcome m.failing, m.counted.added k d) := by
  simp [M.append, hd, hn, hf, hc]
theorem append_none {m : M} (n d : Bs) (hd : m.down = false) (hn : isName n = true) (hf : find m.names n = none) (hl : m.names.length < 64) (hc : ¬ m.cap < (m.used : Int) + d.length) : m.append n d = (outcome m.failing, (m.counted.fresh n).added m.files.length d) := by
  simp [M.append, hd, hn, hf, hc]
  omega

theorem Append_down (h : Rep loc S w bd bn bm sl bs lft m) (hd : m.down = true) (n d : ByteArray) :
    Calls Tryz.prog 53 #[.pointer (some ⟨bd, 0, none⟩), .string n, .string d] w fun e w' => e = .returned (.int .i64 18) ∧ w = w' := by
  have H := Lib.hid h
  have HD := Lib.hid hd
  clear h hd
  go_enter Tryz.func53, Tryz.ntmps53
  go_wp2_with (go_at_call 75; refine (ready_down H.out HD.out).mono ?_; rintro e w' ⟨rfl, rfl⟩)
  go_ret
  exact ⟨rfl, rfl⟩

theorem Append_bad (h : Rep loc S w bd bn bm sl bs lft m) (hd : m.down = false) (n d : ByteArray) (hs : n.size ≤ maxLen) (hn : isName n.data.toList = false) :
    Calls Tryz.prog 53 #[.pointer (some ⟨bd, 0, none⟩), .string n, .string d] w fun e w' => e = .returned (.int .i64 11) ∧ w = w' := by
  have H := Lib.hid h
  have HD := Lib.hid hd
  have HN := Lib.hid hn
  have h1 := h.c1
  cases hf : find m.names n.data.toList with
  | none =>
    have HF := Lib.hid hf
    clear h hd hn hf
    go_enter Tryz.func53, Tryz.ntmps53
    go_wp2_with (first
      | (go_at_call 75; refine (ready_up H.out HD.out).mono ?_; rintro e w' ⟨rfl, rfl⟩)
      | (at_lookup; refine wpList_dir_ok_none _ rfl _ _ rfl loc bn m.names H.out.hn n hs HF.out rfl rfl ?_)
      | (go_at_call 94; refine (isName_is n _ hs HN.out).mono ?_; rintro e w' ⟨rfl, rfl⟩))
    go_ret
    exact ⟨rfl, rfl⟩
  | some k =>
    have HF := Lib.hid hf
    clear h hd hn hf
    go_enter Tryz.func53, Tryz.ntmps53
    go_wp2_with (first
      | (go_at_call 75; refine (ready_up H.out HD.out).mono ?_; rintro e w' ⟨rfl, rfl⟩)
      | (at_lookup; refine wpList_dir_ok_some _ rfl _ _ rfl loc bn m.names H.out.hn n hs k HF.out rfl rfl ?_)
      | (go_at_call 94; refine (isName_is n _ hs HN.out).mono ?_; rintro e w' ⟨rfl, rfl⟩))
    go_ret
    exact ⟨rfl, rfl⟩

theorem Append_limit (h : Rep loc S w bd bn bm sl bs lft m) (hd : m.down = false) (n d : ByteArray) (hs : n.size ≤ maxLen) (hn : isName n.data.toList = true) (hf : find m.names n.data.toList = none) (hl : 64 ≤ m.names.length) :
    Calls Tryz.prog 53 #[.pointer (some ⟨bd, 0, none⟩), .string n, .string d] w fun e w' => e = .returned (.int .i64 6) ∧ w = w' := by
  have H := Lib.hid h
  have HD := Lib.hid hd
  have HN := Lib.hid hn
  have HF := Lib.hid hf
  have h1 := h.c1
  clear h hd hn hf
  go_enter Tryz.func53, Tryz.ntmps53
  go_wp2_with (first
    | (go_at_call 75; refine (ready_up H.out HD.out).mono ?_; rintro e w' ⟨rfl, rfl⟩)
    | (at_lookup; refine wpList_dir_ok_none _ rfl _ _ rfl loc bn m.names H.out.hn n hs HF.out rfl rfl ?_)
    | (go_at_call 94; refine (isName_is n _ hs HN.out).mono ?_; rintro e w' ⟨rfl, rfl⟩)
    | (at_len; refine wpList_dir_len_want _ (by rfl) _ rfl loc bn m.names H.out.hn rfl ?_))
  go_ret
  exact ⟨rfl, rfl⟩

/-- A new file. -/
theorem Rep.newFile (h : Rep loc S w bd bn bm sl bs lft m) : ∃ loc' S', loc' m.files.length = w.heap.size ∧ (∀ i, S' i → S i ∨ w.heap.size ≤ i) ∧
    Rep loc' S' (w.alloc (.cells #[.string ⟨#[]⟩, .int .i64 0] 114)) bd bn bm sl bs lft { m with files := m.files ++ [⟨[], 0⟩] } ∧ Fr S w (w.alloc (.cells #[.string ⟨#[]⟩, .int .i64 0] 114)) := by
  have hfr : Fr S w (w.alloc (.cells #[.string ⟨#[]⟩, .int .i64 0] 114)) := (Fr.refl _ w).alloc _
  have hold : ∀ j, j < m.files.length → (if j = m.files.length then w.heap.size else loc j) = loc j := fun j hj => if_neg (by omega)
  have hlen : (m.files ++ [(⟨[], 0⟩ : Fl)]).length = m.files.length + 1 := by simp
  have hs : ∀ i, i < w.heap.size → (w.alloc (.cells #[.string ⟨#[]⟩, .int .i64 0] 114)).heap[i]? = w.heap[i]? := fun i hi => Below.heap_alloc _ _ _ hi
  refine ⟨fun j => if j = m.files.length then w.heap.size else loc j, fun i => S i ∨ i = w.heap.size, if_pos rfl, fun i hi => hi.imp id (fun e => by omega), ?_, hfr⟩
  refine ⟨?_, .inl h.sd, .inl h.sn, .inl h.sm, h.ne, (hs _ (lt_of_block h.hd)).trans h.hd, h.hl, ?_, ?_, ?_, fun j hj => .inl (h.sp j hj), ?_, ?_, grow_ok h.ok⟩
  · rintro i (hi | rfl)
    · exact Nat.lt_of_lt_of_le (h.lt i hi) hfr.size
    · simp
  · exact (h.hn.same (hs _ h.hn.lt)).congr (fun p hp => (hold _ (h.ok.names.2 p hp).2).symm)
  · exact (h.hm.same (hs _ h.hm.lt)).congr (fun p hp => (hold _ (h.ok.durable.2 p hp).2).symm)
  · refine (h.hp.same hfr (fun j hj => hs j (h.lt j (h.sp j hj)))).congr (fun c hc he => (hold _ ?_).symm)
    obtain ⟨i, hi, rfl⟩ := List.mem_iff_getElem.1 hc
    have := chain_at i hi h.ok.chain
    exact this.2.2.2.1 (this.2.2.1 he)
  · intro j hj
    simp only [hlen] at hj
    by_cases e : j = m.files.length
    · subst e
      refine ⟨.inr (if_pos rfl), ?_⟩
      simp only
      have e2 : (m.files ++ [(⟨[], 0⟩ : Fl)]).getD m.files.length ⟨[], 0⟩ = ⟨[], 0⟩ := by simp [List.getD_eq_getElem?_getD]
      unfold FileAt
      rw [e2]
      exact heap_alloc_new w _
    · have hj' : j < m.files.length := by omega
      have e2 : (m.files ++ [(⟨[], 0⟩ : Fl)]).getD j ⟨[], 0⟩ = m.files.getD j ⟨[], 0⟩ := by
        simp only [List.getD_eq_getElem?_getD]; rw [List.getElem?_append_left hj']
      simp only [if_neg e]
      exact ⟨.inl (h.hf j hj').1, by unfold FileAt; rw [e2]; exact (hs _ (h.lt _ (h.hf j hj').1)).trans (h.hf j hj').2⟩
  · intro i j hi hj he
    simp only [hlen] at hi hj
    by_cases e1 : i = m.files.length
    · by_cases e2 : j = m.files.length
      · omega
      · simp only [if_pos e1, if_neg e2] at he
        have := h.lt _ (h.hf j (by omega)).1
        omega
    · by_cases e2 : j = m.files.length
      · simp only [if_neg e1, if_pos e2] at he
        have := h.lt _ (h.hf i (by omega)).1
        omega
      · simp only [if_neg e1, if_neg e2] at he
        exact h.inj i j (by omega) (by omega) he

end
end Go.Proofs.YtlhnjdoicolkkaaGreatDoor

/- Append to a file that is there. -/
set_option maxRecDepth 100000
namespace Go.Proofs.YtlhnjdoicolkkaaGreatDoor
open Go.RowKit Go.Dsk Go.Maps Go.WideMaps
set_option maxHeartbeats 400000

section
variable {loc : Nat → Nat} {S : Nat → Prop} {w : World} {bd bn bm : Nat} {sl : Value} {bs : List (Nat × Nat)} {lft : Int} {m : M}
theorem Append_some (h : Rep loc S w bd bn bm sl bs lft m) (hwt : m.wt < 1073741824) (hd : m.down = false) (n d : ByteArray) (hs : n.size ≤ maxLen) (hds : d.size ≤ 4611686018427387904) (hn : isName n.data.toList = true) (k : Nat) (hf : find m.names n.data.toList = some k) (hc : ¬ m.cap < (m.used : Int) + d.size) :
    Calls Tryz.prog 53 #[.pointer (some ⟨bd, 0, none⟩), .string n, .string d] w fun e w' => e = .returned (.int .i64 (outcome m.failing)) ∧ After S w bd (m.counted.added k d.data.toList) w' := by
  have H := Lib.hid h
  have HD := Lib.hid hd
  have HN := Lib.hid hn
  have HF := Lib.hid hf
  have h1 := h.c1
  have h0 := h.c0
  have hub := used_bd h.ok (by omega)
  have hwt' : m.wt ≤ 1073741824 := by omega
  have hk := (find_good h.ok.names hf).2
  have hsz := (getD_size h.ok k)
  have hcap := h.ok.cap1
  have hlu := len_le_used hf
  unfold M.len at hlu
  generalize hfl : m.files.getD k ⟨[], 0⟩ = fl at hsz hlu
  have hfl' : m.counted.files.getD k ⟨[], 0⟩ = fl := by rw [counted_files]; exact hfl
  have HFL := Lib.hid hfl'
  have hkc : k < m.counted.files.length := by rw [counted_files]; exact hk
  have HK := Lib.hid hkc
  have hbl : (fl.bytes.length : Int) ≤ 16777216 := by omega
  have HLU := Lib.hid hlu
  have HSZ := Lib.hid hsz
  clear h hd hn hf hfl hfl' hkc hk hsz hlu
  go_enter Tryz.func53, Tryz.ntmps53
  go_wp2_with (first
    | (go_at_call 75; refine (ready_up H.out HD.out).mono ?_; rintro e w' ⟨rfl, rfl⟩)
    | (at_lookup; refine wpList_dir_ok_some _ rfl _ _ rfl loc bn m.names H.out.hn n hs k HF.out rfl rfl ?_)
    | (go_at_call 94; refine (isName_is n _ hs HN.out).mono ?_; rintro e w' ⟨rfl, rfl⟩)
    | (at_len; refine wpList_dir_len_want _ (by rfl) _ rfl loc bn m.names H.out.hn rfl ?_))
  have hwr : IntKind.i64.wrap ((m.used : Int) + d.size) = (m.used : Int) + d.size := IntWalk.i64_in _ (by omega)
  go_region_with (go_at_call 95; refine (used_any H.out.dr hwt').mono ?_; rintro e w1 ⟨rfl, hf1⟩; have HR := Lib.hid (H.out.dr.keep hf1 (fun _ _ => id)); have k0 := HR.out.c0)
  all_goals clear hwr
  all_goals go_wp2_with (first
    | (go_at_call 96; refine (fails_any HR.out).mono ?_; rintro e w2 ⟨rfl, ⟨lft1, hr1⟩, hfr1⟩; have H1 := Lib.hid hr1; have q0 := hr1.file HK.out; have z0 := hr1.ffr HK.out 0; rw [HFL.out] at q0; clear hr1)
    | (go_at_call 99; refine (outcome_any _ _).mono ?_; rintro e w' ⟨rfl, rfl⟩))
  all_goals
    go_ret
    refine ⟨rfl, ?_⟩
    have R := H1.out.addedTo HK.out HFL.out d (by rw [counted_cap]; have := HLU.out; omega)
    exact R.1.afterOf ((((Fr.refl _ w).drew).trans (hf1.mono (fun _ => False.elim))).trans (hfr1.trans R.2))

end
end Go.Proofs.YtlhnjdoicolkkaaGreatDoor

/- Append to a full disk. -/
set_option maxRecDepth 100000
namespace Go.Proofs.YtlhnjdoicolkkaaGreatDoor
open Go.RowKit Go.Dsk Go.Maps Go.WideMaps
set_option maxHeartbeats 400000

section
variable {loc : Nat → Nat} {S : Nat → Prop} {w : World} {bd bn bm : Nat} {sl : Value} {bs : List (Nat × Nat)} {lft : Int} {m : M}
theorem Append_full (h : Rep loc S w bd bn bm sl bs lft m) (hwt : m.wt < 1073741824) (hd : m.down = false) (n d : ByteArray) (hs : n.size ≤ maxLen) (hds : d.size ≤ 4611686018427387904) (hn : isName n.data.toList = true) (hl : find m.names n.data.toList = none → m.names.length < 64) (hc : m.cap < (m.used : Int) + d.size) :
    Calls Tryz.prog 53 #[.pointer (some ⟨bd, 0, none⟩), .string n, .string d] w fun e w' => e = .returned (.int .i64 33) ∧ After S w bd m w' := by
  have H := Lib.hid h
  have HD := Lib.hid hd
  have HN := Lib.hid hn
  have h1 := h.c1
  have h0 := h.c0
  have hub := used_bd h.ok (by omega)
  have hwt' : m.wt ≤ 1073741824 := by omega
  cases hf : find m.names n.data.toList with
  | some k =>
    have HF := Lib.hid hf
    clear h hd hn hf hl
    go_enter Tryz.func53, Tryz.ntmps53
    go_wp2_with (first
      | (go_at_call 75; refine (ready_up H.out HD.out).mono ?_; rintro e w' ⟨rfl, rfl⟩)
      | (at_lookup; refine wpList_dir_ok_some _ rfl _ _ rfl loc bn m.names H.out.hn n hs k HF.out rfl rfl ?_)
      | (go_at_call 94; refine (isName_is n _ hs HN.out).mono ?_; rintro e w' ⟨rfl, rfl⟩))
    have hwr : IntKind.i64.wrap ((m.used : Int) + d.size) = (m.used : Int) + d.size := IntWalk.i64_in _ (by omega)
    go_region_with (go_at_call 95; refine (used_any H.out.dr hwt').mono ?_; rintro e w1 ⟨rfl, hf1⟩; have HR := Lib.hid (H.out.dr.keep hf1 (fun _ _ => id)); have k0 := HR.out.c0)
    all_goals clear hwr
    all_goals go_wp2_with fail
    all_goals
      go_ret
      exact ⟨rfl, HR.out.afterOf (((Fr.refl _ w).drew).trans (hf1.mono (fun _ => False.elim)))⟩
  | none =>
    have hl' := hl hf
    have HF := Lib.hid hf
    clear h hd hn hf hl
    go_enter Tryz.func53, Tryz.ntmps53
    go_wp2_with (first
      | (go_at_call 75; refine (ready_up H.out HD.out).mono ?_; rintro e w' ⟨rfl, rfl⟩)
      | (at_lookup; refine wpList_dir_ok_none _ rfl _ _ rfl loc bn m.names H.out.hn n hs HF.out rfl rfl ?_)
      | (go_at_call 94; refine (isName_is n _ hs HN.out).mono ?_; rintro e w' ⟨rfl, rfl⟩)
      | (at_len; refine wpList_dir_len_want _ (by rfl) _ rfl loc bn m.names H.out.hn rfl ?_))
    have hwr : IntKind.i64.wrap ((m.used : Int) + d.size) = (m.used : Int) + d.size := IntWalk.i64_in _ (by omega)
    go_region_with (go_at_call 95; refine (used_any H.out.dr hwt').mono ?_; rintro e w1 ⟨rfl, hf1⟩; have HR := Lib.hid (H.out.dr.keep hf1 (fun _ _ => id)); have k0 := HR.out.c0)
    all_goals clear hwr
    all_goals go_wp2_with fail
    all_goals
      go_ret
      exact ⟨rfl, HR.out.afterOf (((Fr.refl _ w).drew).trans (hf1.mono (fun _ => False.elim)))⟩

end
end Go.Proofs.YtlhnjdoicolkkaaGreatDoor

/- Append makes a new file. -/
set_option maxRecDepth 100000
namespace Go.Proofs.YtlhnjdoicolkkaaGreatDoor
open Go.RowKit Go.Dsk Go.Maps Go.WideMaps
set_option maxHeartbeats 400000

section
variable {loc : Nat → Nat} {S : Nat → Prop} {w : World} {bd bn bm : Nat} {sl : Value} {bs : List (Nat × Nat)} {lft : Int} {m : M}
theorem After.chain {S' S5 : Nat → Prop} {w2 w3 w4 w5 w6 : World} {m' : M} (f1 : Fr S w w2) (f2 : Fr S w2 w3) (f3 : Fr (fun _ => False) w3 w4) (hS' : ∀ i, S' i → S i ∨ w2.heap.size ≤ i) (hS5 : ∀ i, S5 i → S' i ∨ w4.heap.size ≤ i) (f4 : Fr S' w4 w5) (k : After S5 w5 bd m' w6) : After S w bd m' w6 := by
  obtain ⟨T, h1, h2, h3⟩ := k
  have g4 : Fr S w w4 := (f1.trans f2).trans (f3.mono (fun _ => False.elim))
  have s' : ∀ i, S' i → S i ∨ w.heap.size ≤ i := fun i hi => (hS' i hi).imp id (fun h => Nat.le_trans f1.size h)
  have s5 : ∀ i, S5 i → S i ∨ w.heap.size ≤ i := fun i hi => (hS5 i hi).elim (s' i) (fun h => .inr (Nat.le_trans g4.size h))
  have g5 : Fr S w w5 := g4.trans' f4 s'
  exact ⟨T, fun i hi => (h1 i hi).elim (s5 i) (fun h => .inr (Nat.le_trans g5.size h)), h2, g5.trans' h3 s5⟩

theorem Append_none (h : Rep loc S w bd bn bm sl bs lft m) (hwt : m.wt < 1073741824) (hd : m.down = false) (n d : ByteArray) (hs : n.size ≤ maxLen) (hds : d.size ≤ 4611686018427387904) (hn : isName n.data.toList = true) (hf : find m.names n.data.toList = none) (hl : m.names.length < 64) (hc : ¬ m.cap < (m.used : Int) + d.size) :
    Calls Tryz.prog 53 #[.pointer (some ⟨bd, 0, none⟩), .string n, .string d] w fun e w' => e = .returned (.int .i64 (outcome m.failing)) ∧ After S w bd ((m.counted.fresh n.data.toList).added m.files.length d.data.toList) w' := by
  have H := Lib.hid h
  have HD := Lib.hid hd
  have HN := Lib.hid hn
  have HF := Lib.hid hf
  have h1 := h.c1
  have h0 := h.c0
  have hub := used_bd h.ok (by omega)
  have hwt' : m.wt ≤ 1073741824 := by omega
  have hcw : ({ m.counted with files := m.counted.files ++ [⟨[], 0⟩] } : M).wt < 1073741824 := by
    have : m.counted.wt < 1073741824 := by rw [counted_wt]; exact hwt
    exact this
  have hch : ChOk ({ m.counted with files := m.counted.files ++ [⟨[], 0⟩] } : M).files.length ({ m.counted with files := m.counted.files ++ [⟨[], 0⟩] } : M).names ⟨[], n.data.toList, m.counted.files.length⟩ :=
    ⟨.inl rfl, .inr hn, fun _ => isName_ne hn, fun _ => by simp, fun e => absurd rfl e⟩
  have HCW := Lib.hid hcw
  have HCH := Lib.hid hch
  have hfl : (m.counted.fresh n.data.toList).files.getD m.counted.files.length ⟨[], 0⟩ = ⟨[], 0⟩ := by
    simp only [M.fresh, M.apply]
    simp [List.getD_eq_getElem?_getD]
  have HFL := Lib.hid hfl
  have hkl : m.counted.files.length < (m.counted.fresh n.data.toList).files.length := by simp [M.fresh, M.apply]
  have HK := Lib.hid hkl
  have hcp : (m.counted.fresh n.data.toList).cap = m.cap := by simp only [M.fresh, M.apply]; exact counted_cap m
  have HCP := Lib.hid hcp
  clear h hd hn hf hcw hch hfl hkl hcp
  go_enter Tryz.func53, Tryz.ntmps53
  go_wp2_with (first
    | (go_at_call 75; refine (ready_up H.out HD.out).mono ?_; rintro e w' ⟨rfl, rfl⟩)
    | (at_lookup; refine wpList_dir_ok_none _ rfl _ _ rfl loc bn m.names H.out.hn n hs HF.out rfl rfl ?_)
    | (go_at_call 94; refine (isName_is n _ hs HN.out).mono ?_; rintro e w' ⟨rfl, rfl⟩)
    | (at_len; refine wpList_dir_len_want _ (by rfl) _ rfl loc bn m.names H.out.hn rfl ?_))
  have hwr : IntKind.i64.wrap ((m.used : Int) + d.size) = (m.used : Int) + d.size := IntWalk.i64_in _ (by omega)
  go_region_with (go_at_call 95; refine (used_any H.out.dr hwt').mono ?_; rintro e w1 ⟨rfl, hf1⟩; have HR := Lib.hid (H.out.dr.keep hf1 (fun _ _ => id)); have k0 := HR.out.c0)
  all_goals clear hwr
  all_goals go_wp2_with (first
    | (go_at_call 96; refine (fails_any HR.out).mono ?_; rintro e w2 ⟨rfl, ⟨lft1, hr1⟩, hfr1⟩; have H1 := Lib.hid hr1; clear hr1)
    | (go_at_call 98; fail))
  all_goals
    obtain ⟨loc', S', hq, hS', hrn, hfn⟩ := H1.out.newFile
    generalize hw2 : w2.heap.size = q at hq
    generalize w2.alloc (.cells #[.string ⟨#[]⟩, .int .i64 0] 114) = w3 at hrn hfn
    have HW2 := Lib.hid hw2
    have HQ := Lib.hid hq
    have HRN := Lib.hid hrn
    clear hw2 hq hrn
    refine (set_any n q w3).mono ?_
    rintro e w4 ⟨rfl, hb4, hbl4⟩
    generalize w3.heap.size = q3 at hb4
    have HB4 := Lib.hid hb4
    clear hb4
    have HR4 := Lib.hid (HRN.out.below hbl4)
    have hcs := change_set HR4.out n.data.toList _ _ HB4.out HCH.out HCW.out
    rw [HQ.out] at hcs
    change Calls _ _ _ _ (fun e w' => e = .returned (.tuple #[]) ∧ AfterAt loc' S' w4 bd (m.counted.fresh n.data.toList) w') at hcs
    go_wp2_with (first
      | (go_at_call 97; refine hcs.mono ?_; rintro e w5 ⟨rfl, hA⟩; obtain ⟨S5, hS5, ⟨bn5, bm5, sl5, bs5, lft5, hr5⟩, hfr5⟩ := hA; have q0 := hr5.file HK.out; have z0 := hr5.ffr HK.out 0; rw [HQ.out] at q0 z0; rw [HFL.out] at q0; have HR5 := Lib.hid hr5; clear hr5)
      | (go_at_call 99; refine (outcome_any _ _).mono ?_; rintro e w' ⟨rfl, rfl⟩))
    go_ret
    refine ⟨rfl, ?_⟩
    have R := HR5.out.addedTo HK.out HFL.out d (by rw [HCP.out]; simp; omega)
    rw [HQ.out] at R
    have hl2 : w2.heap.size ≤ w4.heap.size := by have := hfn.size; have := hbl4.size; omega
    have f1 : Fr S w w2 := (((Fr.refl _ w).drew).trans (hf1.mono (fun _ => False.elim))).trans hfr1
    have hA5 : After S5 w5 bd ((m.counted.fresh n.data.toList).added m.counted.files.length d.data.toList) _ := R.1.afterOf R.2
    rw [counted_files] at hA5
    exact After.chain f1 hfn (Fr.below hbl4) hS' hS5 hfr5 hA5
end
end Go.Proofs.YtlhnjdoicolkkaaGreatDoor
