/- The operations of a disk, each as one contract. -/
import Derived.Test.YtlhnjdoicolkkaaGreatDoorOps3
set_option maxRecDepth 100000
namespace Go.Proofs.YtlhnjdoicolkkaaGreatDoor
open Go.RowKit Go.Dsk Go.Maps Go.WideMaps
set_option maxHeartbeats 400000

section
variable {loc : Nat → Nat} {S : Nat → Prop} {w : World} {bd bn bm : Nat} {sl : Value} {bs : List (Nat × Nat)} {lft : Int} {m : M}

theorem Append_rep (h : Rep loc S w bd bn bm sl bs lft m) (hwt : m.wt < 1073741824) (n d : ByteArray) (hs : n.size ≤ maxLen) (hds : d.size ≤ 4611686018427387904) :
    Calls Tryz.prog 53 #[.pointer (some ⟨bd, 0, none⟩), .string n, .string d] w fun e w' => e = .returned (.int .i64 (m.append n.data.toList d.data.toList).1) ∧ After S w bd (m.append n.data.toList d.data.toList).2 w' := by
  have hdl : d.data.toList.length = d.size := by simp
  cases hd : m.down with
  | true =>
    rw [append_down _ _ hd]
    refine (Append_down h hd n d).mono ?_
    rintro e w' ⟨rfl, rfl⟩
    exact ⟨rfl, h.after⟩
  | false =>
    cases hn : isName n.data.toList with
    | false =>
      rw [append_bad _ _ hd hn]
      refine (Append_bad h hd n d hs hn).mono ?_
      rintro e w' ⟨rfl, rfl⟩
      exact ⟨rfl, h.after⟩
    | true =>
      cases hf : find m.names n.data.toList with
      | some k =>
        by_cases hc : m.cap < (m.used : Int) + d.size
        · rw [append_full _ _ hd hn (by rw [hf]; simp) (by rw [hdl]; exact hc)]
          exact Append_full h hwt hd n d hs hds hn (by rw [hf]; simp) hc
        · rw [append_some _ _ hd hn hf (by rw [hdl]; exact hc)]
          exact Append_some h hwt hd n d hs hds hn k hf hc
      | none =>
        by_cases hl : 64 ≤ m.names.length
        · rw [append_limit _ _ hd hn hf hl]
          refine (Append_limit h hd n d hs hn hf hl).mono ?_
          rintro e w' ⟨rfl, rfl⟩
          exact ⟨rfl, h.after⟩
        · by_cases hc : m.cap < (m.used : Int) + d.size
          · rw [append_full _ _ hd hn (by omega) (by rw [hdl]; exact hc)]
            exact Append_full h hwt hd n d hs hds hn (by omega) hc
          · rw [append_none _ _ hd hn hf (by omega) (by rw [hdl]; exact hc)]
            exact Append_none h hwt hd n d hs hds hn hf (by omega) hc

/-! ### reading -/
theorem Read_rep (h : Rep loc S w bd bn bm sl bs lft m) (n : ByteArray) (hs : n.size ≤ maxLen) :
    Calls Tryz.prog 65 #[.pointer (some ⟨bd, 0, none⟩), .string n] w fun e w' => e = .returned (.tuple #[.string ⟨(m.read n.data.toList).1.toArray⟩, .int .i64 (m.read n.data.toList).2]) ∧ w = w' := by
  have H := Lib.hid h
  have h1 := h.c1
  cases hd : m.down with
  | true =>
    have e : m.read n.data.toList = ([], 18) := by simp [M.read, hd]
    rw [e]
    have HD := Lib.hid hd
    clear h hd e
    go_enter Tryz.func65, Tryz.ntmps65
    go_wp2_with (go_at_call 75; refine (ready_down H.out HD.out).mono ?_; rintro e w' ⟨rfl, rfl⟩)
    go_ret2
    exact ⟨rfl, rfl⟩
  | false =>
    have HD := Lib.hid hd
    cases hf : find m.names n.data.toList with
    | none =>
      have e : m.read n.data.toList = ([], 10) := by simp [M.read, hd, hf]
      rw [e]
      have HF := Lib.hid hf
      clear h hd hf e
      go_enter Tryz.func65, Tryz.ntmps65
      go_wp2_with (first
        | (go_at_call 75; refine (ready_up H.out HD.out).mono ?_; rintro e w' ⟨rfl, rfl⟩)
        | (at_lookup; refine wpList_dir_ok_none _ rfl _ _ rfl loc bn m.names H.out.hn n hs HF.out rfl rfl ?_))
      go_ret2
      exact ⟨rfl, rfl⟩
    | some k =>
      have e : m.read n.data.toList = ((m.files.getD k ⟨[], 0⟩).bytes, 0) := by simp [M.read, hd, hf]
      rw [e]
      have HF := Lib.hid hf
      have hk := h.file (find_good h.ok.names hf).2
      generalize (m.files.getD k ⟨[], 0⟩).bytes = by_ at hk
      clear h hd hf e
      go_enter Tryz.func65, Tryz.ntmps65
      go_wp2_with (first
        | (go_at_call 75; refine (ready_up H.out HD.out).mono ?_; rintro e w' ⟨rfl, rfl⟩)
        | (at_lookup; refine wpList_dir_ok_some _ rfl _ _ rfl loc bn m.names H.out.hn n hs k HF.out rfl rfl ?_))
      go_ret2
      exact ⟨rfl, rfl⟩

theorem Size_rep (h : Rep loc S w bd bn bm sl bs lft m) (n : ByteArray) (hs : n.size ≤ maxLen) :
    Calls Tryz.prog 121 #[.pointer (some ⟨bd, 0, none⟩), .string n] w fun e w' => e = .returned (.tuple #[.int .i64 (m.read n.data.toList).1.length, .int .i64 (m.read n.data.toList).2]) ∧ w = w' := by
  have H := Lib.hid h
  clear h
  generalize hr : m.read n.data.toList = r
  have HR := Lib.hid hr
  clear hr
  have hc := Read_rep H.out n hs
  rw [HR.out] at hc
  obtain ⟨x, y⟩ := r
  have hz := size_mk x
  have HZ := Lib.hid hz
  clear hz
  simp only at hc
  generalize (⟨x.toArray⟩ : ByteArray) = xs at hc HZ
  have HC := Lib.hid hc
  clear hc
  go_enter Tryz.func121, Tryz.ntmps121
  go_wp2_with (go_at_call 65; refine HC.out.mono ?_; rintro e w' ⟨rfl, rfl⟩)
  go_ret2
  exact ⟨by rw [← HZ.out]; rfl, rfl⟩

theorem Free_rep (h : Rep loc S w bd bn bm sl bs lft m) (hwt : m.wt < 1073741824) :
    Calls Tryz.prog 110 #[.pointer (some ⟨bd, 0, none⟩)] w fun e w' => e = .returned (.int .i64 m.free) ∧ Fr (fun _ => False) w w' := by
  have H := Lib.hid h
  have h0 := h.c0
  have hub := used_bd h.ok (by omega)
  have hwt' : m.wt ≤ 1073741824 := by omega
  have hc0 := h.ok.cap0
  have hc1 := h.ok.cap1
  cases hd : m.down with
  | true =>
    have e : m.free = 0 := by simp [M.free, hd]
    rw [e]
    have HD := Lib.hid hd
    clear h hd e
    go_enter Tryz.func110, Tryz.ntmps110
    go_wp2_with (go_at_call 75; refine (ready_down H.out HD.out).mono ?_; rintro e w' ⟨rfl, rfl⟩)
    go_ret
    exact ⟨rfl, Fr.refl _ _⟩
  | false =>
    have HD := Lib.hid hd
    have e : m.free = max 0 (m.cap - m.used) := by simp [M.free, hd]
    have E := Lib.hid e
    clear h hd e
    go_enter Tryz.func110, Tryz.ntmps110
    go_wp2_with (go_at_call 75; refine (ready_up H.out HD.out).mono ?_; rintro e w' ⟨rfl, rfl⟩)
    have hwr : IntKind.i64.wrap (m.cap - (m.used : Int)) = m.cap - (m.used : Int) := IntWalk.i64_in _ (by omega)
    go_region_with (go_at_call 95; refine (used_any H.out.dr hwt').mono ?_; rintro e w1 ⟨rfl, hf1⟩; have HR := Lib.hid (H.out.dr.keep hf1 (fun _ _ => id)); have k0 := HR.out.c0)
    all_goals clear hwr
    all_goals go_wp2_with fail
    all_goals
      go_ret
      refine ⟨?_, (((Fr.refl _ w).drew).trans hf1)⟩
      rw [E.out]
      have hmx : max 0 (m.cap - (m.used : Int)) = if 0 < m.cap - (m.used : Int) then m.cap - (m.used : Int) else 0 := by omega
      rw [hmx]
      rfl

/-! ### the limit, the switch -/
theorem Limit_rep (h : Rep loc S w bd bn bm sl bs lft m) (n : Int) (hn : n ≤ 9223372036854775807) :
    Calls Tryz.prog 36 #[.pointer (some ⟨bd, 0, none⟩), .int .i64 n] w fun e w' => e = .returned (.int .i64 (m.setLimit n).1) ∧ After S w bd (m.setLimit n).2 w' := by
  have H := Lib.hid h
  cases hd : m.down with
  | true =>
    have e : m.setLimit n = (18, m) := by simp [M.setLimit, hd]
    rw [e]
    have HD := Lib.hid hd
    clear h hd e
    go_enter Tryz.func36, Tryz.ntmps36
    go_wp2_with (go_at_call 75; refine (ready_down H.out HD.out).mono ?_; rintro e w' ⟨rfl, rfl⟩)
    go_ret
    exact ⟨rfl, H.out.after⟩
  | false =>
    have e : m.setLimit n = (0, { m with limit := max n (-1) }) := by simp [M.setLimit, hd]
    rw [e]
    have HD := Lib.hid hd
    have h4 := h.c4
    have h5 := h.c5
    have f4 := h.fr 4
    have f5 := h.fr 5
    clear h hd e
    go_enter Tryz.func36, Tryz.ntmps36
    go_wp2_with (go_at_call 75; refine (ready_up H.out HD.out).mono ?_; rintro e w' ⟨rfl, rfl⟩)
    go_ret
    refine ⟨rfl, ?_⟩
    have e1 := block_set H.out.hd 4 (.bool (decide (0 ≤ n)))
    have e2 := block_set e1 5 (.int .i64 n)
    have g1 := (Fr.refl S w).setCell (p := ⟨bd, 4, none⟩) (.inl H.out.sd) H.out.noBoxD (.bool (decide (0 ≤ n)))
    have g2 := g1.setCell (p := ⟨bd, 5, none⟩) (.inl H.out.sd) (by rintro ⟨s, hs⟩; rw [e1] at hs; simp at hs) (.int .i64 n)
    have ok : ({ m with limit := max n (-1) } : M).Ok := by
      have o := H.out.ok
      exact ⟨o.names, o.durable, o.chain, o.now, o.sizes, o.cap0, o.cap1, by simp only; omega, by simp only; omega⟩
    have R := H.out.scalars (m' := { m with limit := max n (-1) }) (lft' := n) (by
      rw [e2]
      have : decide (0 ≤ n) = decide (0 ≤ max n (-1)) := by rw [decide_eq_decide]; omega
      simp [diskCells, this]) (fun i hi => (block_other hi _).trans (block_other hi _)) (by simp [World.setCell]) g2 (fun h => by have h' : 0 ≤ max n (-1) := h; show n = max n (-1); omega) rfl rfl rfl rfl ok
    exact R.afterOf g2

theorem Crash_rep (h : Rep loc S w bd bn bm sl bs lft m) :
    Calls Tryz.prog 28 #[.pointer (some ⟨bd, 0, none⟩)] w fun e w' => e = .returned (.tuple #[]) ∧ After S w bd m.crash w' := by
  have H := Lib.hid h
  have h6 := h.c6
  have f6 := h.fr 6
  clear h
  go_enter Tryz.func28, Tryz.ntmps28
  go_wp2
  go_end0
  have o := H.out.ok
  have R := H.out.put 6 (.bool true) (m' := m.crash) (lft' := lft) rfl H.out.hl rfl rfl rfl rfl ⟨o.names, o.durable, o.chain, o.now, o.sizes, o.cap0, o.cap1, o.lim0, o.lim1⟩
  exact ⟨rfl, R.1.afterOf R.2⟩

theorem Down_rep (h : Rep loc S w bd bn bm sl bs lft m) :
    Calls Tryz.prog 37 #[.pointer (some ⟨bd, 0, none⟩)] w fun e w' => e = .returned (.bool m.down) ∧ w = w' := by
  have h6 := h.c6
  clear h
  go_enter Tryz.func37, Tryz.ntmps37
  go_wp2
  go_ret
  exact ⟨rfl, rfl⟩

/-! ### the names in order -/
theorem sorted_merge {l : Dir} (h : Sorted l) {ss : List Bs} (hp : ss.Perm (l.map (·.1))) : ss.mergeSort (fun x y => decide (x ≤ y)) = l.map (·.1) := by
  have e := mergeSort_of_perm hp
  unfold leB at e
  rw [e]
  apply List.mergeSort_of_pairwise
  refine List.pairwise_map.2 (h.imp fun {a b} hab => ?_)
  rw [bytesBefore_iff] at hab
  simpa using List.le_of_lt hab

theorem Keys_any (b : Nat) (W : World) : Calls Tryz.prog 79 #[.map (some b)] W fun e w' => e = .returned (.func (.func 113) #[] #[.pointer (some ⟨W.heap.size, 0, none⟩)]) ∧ w' = W.alloc (.cells #[.map (some b)] 96) :=
  (callsIn_wide (n := 5)).1 (Tryz.maps_Keys_79 (some b) W)

theorem Sorted_any (b : Nat) (l : Dir) (hs : Sorted l) (hl : l.length ≤ 1073741824) (w : World) (h : DirAt loc w b l) :
    Calls Tryz.prog 78 #[.func (.func 113) #[] #[.pointer (some ⟨w.heap.size, 0, none⟩)]] (w.alloc (.cells #[.map (some b)] 96)) fun e w' =>
      ∃ v, e = .returned v ∧ w'.ownsRow w.heap.size 9 1 v l.length ((l.map (·.1)).map fun x => .string ⟨x.toArray⟩) ∧ Below w.heap.size w w' := by
  refine ((callsIn_wide (n := 5)).1 (Tryz.slices_Sorted_keys_78_79 b l.length (dirD loc l) ptrR w h (by rw [dirD_size]; unfold maxLen; omega) (by rw [dirD_size]; omega))).mono ?_
  rintro e w' ⟨v, ss, rfl, hp, hrow, _, hb⟩
  rw [dirD_keys] at hp
  have hlen : ss.length = l.length := by rw [hp.length_eq]; simp
  rw [sorted_merge hs hp, hlen] at hrow
  refine ⟨v, rfl, ?_, ((Below.refl _ w).alloc (Nat.le_refl _) _).trans (hb.mono (by simp))⟩
  obtain ⟨h1, h2⟩ := hrow
  refine ⟨h1, ?_⟩
  rcases h2 with h2 | ⟨g, cap, cur, rfl, hg, hh, r⟩
  · exact .inl h2
  · exact .inr ⟨g, cap, cur, rfl, by simp at hg; omega, hh, r⟩

theorem Names_rep (h : Rep loc S w bd bn bm sl bs lft m) (hwt : m.wt < 1073741824) :
    Calls Tryz.prog 61 #[.pointer (some ⟨bd, 0, none⟩)] w fun e w' => ∃ v, e = .returned v ∧ w'.ownsRow w.heap.size 9 1 v m.list.length (m.list.map fun x => .string ⟨x.toArray⟩) ∧ Below w.heap.size w w' := by
  have H := Lib.hid h
  have h1 := h.c1
  cases hd : m.down with
  | true =>
    have e : m.list = [] := by simp [M.list, hd]
    rw [e]
    have HD := Lib.hid hd
    clear h hd e
    go_enter Tryz.func61, Tryz.ntmps61
    go_wp2_with (go_at_call 75; refine (ready_down H.out HD.out).mono ?_; rintro e w' ⟨rfl, rfl⟩)
    go_ret
    exact ⟨_, rfl, World.ownsRow_nil _ _ _ _, Below.refl _ _⟩
  | false =>
    have e : m.list = m.names.map (·.1) := by simp [M.list, hd]
    rw [e]
    have HD := Lib.hid hd
    have hl : m.names.length ≤ 1073741824 := by have := names_length h.ok; omega
    clear h hd e
    go_enter Tryz.func61, Tryz.ntmps61
    go_wp2_with (first
      | (go_at_call 75; refine (ready_up H.out HD.out).mono ?_; rintro e w' ⟨rfl, rfl⟩)
      | (go_at_call 79; refine (Keys_any _ _).mono ?_; rintro e w' ⟨rfl, rfl⟩)
      | (go_at_call 78; refine (Sorted_any bn m.names H.out.ok.names.1 hl w H.out.hn).mono ?_; rintro e w' ⟨v, rfl, hrow, hb⟩))
    go_ret
    exact ⟨v, rfl, by simpa using hrow, hb⟩
end
end Go.Proofs.YtlhnjdoicolkkaaGreatDoor
