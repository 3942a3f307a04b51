/- The document's model: isName, used, has, rename, remove, publish. -/
import Derived.Test.YtlhnjdoicolkkaaMdl
set_option maxRecDepth 100000
namespace Go.Proofs.Ytlhnjdoicolkkaa
open Go.RowKit Go.Dsk Go.Maps Go.WideMaps
set_option maxHeartbeats 1000000

theorem misName_any (s : ByteArray) (w : World) (hs : s.size ≤ maxLen) : Calls Try.prog 53 #[.string s] w fun e w' => e = .returned (.bool (isName s.data.toList)) ∧ w = w' := by
  unfold maxLen at hs
  go_enter Try.func53, Try.ntmps53
  go_wp2
  go_loop [3] (fun n => ∃ k : Nat, k ≤ s.size ∧ n = .int .i64 k ∧ (s.data.toList.take k).any badByte = false) (fun n => s.size - (intOf n).toNat)
  case atStart => exact ⟨0, Nat.zero_le _, rfl, rfl⟩
  case round =>
    obtain ⟨k, hk, rfl, hb⟩ := hrel
    have Hb := Lib.hid hb
    clear hb
    by_cases hlt : k < s.size
    · have hc := s[k].toNat_lt
      have hbb := bad_eq s[k]
      rcases (show s[k].toNat < 45 ∨ s[k].toNat = 45 ∨ s[k].toNat = 46 ∨ s[k].toNat = 47 ∨ (48 ≤ s[k].toNat ∧ s[k].toNat ≤ 57) ∨ (58 ≤ s[k].toNat ∧ s[k].toNat ≤ 96) ∨ (97 ≤ s[k].toNat ∧ s[k].toNat ≤ 122) ∨ 122 < s[k].toNat by omega) with h | h | h | h | h | h | h | h
      all_goals
        first
          | (have H := Lib.hid (hbb.trans (decide_eq_true (by omega)))
             clear hbb
             go_wp2
             all_goals first
               | (exfalso; simp at *; omega)
               | (go_ret; exact ⟨retB (isName_bad hlt H.out).symm, rfl⟩))
          | (have H := Lib.hid (hbb.trans (decide_eq_false (by omega)))
             clear hbb
             go_wp2
             all_goals first
               | (exfalso; simp at *; omega)
               | (go_round
                  case rel => exact ⟨k + 1, by omega, by go_num, any_snoc hlt Hb.out H.out⟩
                  case measure => simp [intOf]; omega))
    · obtain rfl : k = s.size := by omega
      by_cases h0 : 0 < s.size
      · by_cases h1 : s.size ≤ 40
        · go_wp2
          all_goals (go_ret; exact ⟨retB (by rw [isName_good Hb.out]; simp [h0, h1]; try omega), rfl⟩)
        · go_wp2
          all_goals (go_ret; exact ⟨retB (by rw [isName_good Hb.out]; simp [h0, h1]; try omega), rfl⟩)
      · go_wp2
        all_goals (go_ret; exact ⟨retB (by rw [isName_good Hb.out]; simp [h0]), rfl⟩)
theorem misName_is (s : ByteArray) (w : World) (hs : s.size ≤ maxLen) {b : Bool} (hb : isName s.data.toList = b) : Calls Try.prog 53 #[.string s] w fun e w' => e = .returned (.bool b) ∧ w = w' := by
  have := misName_any s w hs; rw [hb] at this; exact this

section
variable {T : Nat → Prop} {w : World} {p : Nat} {vf vn vd vp : Value} {m : M}

/-! ### used -/
def usedTo (m : M) (k : Nat) : Nat := ((m.names.take k).map fun x => m.len x.2).sum
theorem usedTo_succ {m : M} {k : Nat} (hk : k < m.names.length) : usedTo m (k + 1) = usedTo m k + m.len (m.names.getD k ([], 0)).2 := by
  unfold usedTo
  rw [List.take_succ_eq_append_getElem hk, List.map_append, List.sum_append, List.getD_eq_getElem?_getD, List.getElem?_eq_getElem hk]
  simp
theorem usedTo_all (m : M) : usedTo m m.names.length = m.used := by unfold usedTo M.used; rw [List.take_length]
theorem usedTo_le {m : M} (h : m.Ok) : ∀ k, k ≤ m.names.length → usedTo m k ≤ k * 16777216
  | 0, _ => by simp [usedTo]
  | k + 1, hk => by
    rw [usedTo_succ hk]
    have := usedTo_le h k (by omega)
    have h1 := (getD_size h (m.names.getD k ([], 0)).2).1
    have h2 := h.cap1
    unfold M.len
    omega
theorem names_at {m : M} (h : m.Ok) {k : Nat} (hk : k < m.names.length) : (m.names.getD k ([], 0)).2 < m.files.length := by
  have : m.names.getD k ([], 0) ∈ m.names := by rw [List.getD_eq_getElem?_getD, List.getElem?_eq_getElem hk]; exact List.getElem_mem hk
  exact (h.names.2 _ this).2
/-- What is read of name k and its file. -/
theorem MRep.nameAt (h : MRep T w p vf vn vd vp m) (hok : m.Ok) {k : Nat} (hk : k < m.names.length) : ∃ gn gf cn cf, vn = .slice (some ⟨gn, 0, none⟩) m.names.length cn ∧ vf = .slice (some ⟨gf, 0, none⟩) m.files.length cf ∧ m.names.length ≤ cn ∧ cn ≤ maxLen ∧ m.files.length ≤ cf ∧ cf ≤ maxLen ∧
    w.cell? ⟨gn, k * 2, none⟩ = some (.string ⟨(m.names.getD k ([], 0)).1.toArray⟩) ∧ w.cell? ⟨gn, k * 2 + 1, none⟩ = some (.int .i64 (m.names.getD k ([], 0)).2) ∧
    w.cell? ⟨gf, (m.names.getD k ([], 0)).2 * 2, none⟩ = some (.string ⟨(m.files.getD (m.names.getD k ([], 0)).2 ⟨[], 0⟩).bytes.toArray⟩) ∧
    w.cell? ⟨gf, (m.names.getD k ([], 0)).2 * 2 + 1, none⟩ = some (.int .i64 (m.files.getD (m.names.getD k ([], 0)).2 ⟨[], 0⟩).dur) := by
  obtain ⟨gn, cn, e1, _, _, n1, n2, c1⟩ := RowAt.elem (α := Bs × Nat) (f := entV) (l := m.names) h.hn entV_len ([], 0) hk rfl
  obtain ⟨gf, cf, e2, _, _, f1, f2, c2⟩ := RowAt.elem (α := Fl) (f := filV) (l := m.files) h.hf filV_len ⟨[], 0⟩ (names_at hok hk) rfl
  exact ⟨gn, gf, cn, cf, e1, e2, n1, n2, f1, f2, c1 0 (by omega), c1 1 (by omega), c2 0 (by omega), c2 1 (by omega)⟩
theorem mused_any (h : MRep T w p vf vn vd vp m) (hok : m.Ok) (hwt : m.wt < 1073741824) :
    Calls Try.prog 50 #[.pointer (some ⟨p, 0, none⟩)] w fun e w' => e = .returned (.int .i64 m.used) ∧ ∃ n, w' = w.drewN n := by
  have H := Lib.hid h
  have HOK := Lib.hid hok
  have h3 := h.c3
  have h4 := h.c4
  have hnl := names_length hok
  obtain ⟨aon, cpn, rfl, hcn, hcm, _⟩ := EntsAt.shape h.hn
  clear h hok
  go_enter Try.func50, Try.ntmps50
  go_wp2_with fail
  go_loopw [3, 4] (fun n i wr => ∃ k : Nat, k ≤ m.names.length ∧ i = .int .i64 k ∧ n = .int .i64 (usedTo m k) ∧ ∃ q, wr = w.drewN q) (fun _ i _ => m.names.length - (intOf i).toNat)
  case atStart => exact ⟨0, Nat.zero_le _, rfl, rfl, 0, rfl⟩
  case round =>
    obtain ⟨k, hk, rfl, rfl, q, hwr⟩ := hrel
    have HWR := Lib.hid hwr
    have h3 : wr.cell? ⟨p, 3, none⟩ = some vf := by rw [hwr]; exact h3
    have h4 : wr.cell? ⟨p, 4, none⟩ = some (.slice aon m.names.length cpn) := by rw [hwr]; exact h4
    clear hwr
    by_cases hlt : k < m.names.length
    · obtain ⟨gn, gf, cn, cf, e1, rfl, n1, n2, f1, f2, c1, c2, c3, c4⟩ := H.out.nameAt HOK.out hlt
      simp only [Value.slice.injEq] at e1
      obtain ⟨rfl, -, rfl⟩ := e1
      have hf := names_at HOK.out hlt
      have hsc := usedTo_succ hlt
      have hul := usedTo_le HOK.out (k + 1) hlt
      have hbl := getD_size HOK.out (m.names.getD k ([], 0)).2
      have hcap := HOK.out.cap1
      unfold M.len at hsc
      generalize (m.names.getD k ([], 0)).2 = f at *
      generalize (m.files.getD f ⟨[], 0⟩).bytes = bs at *
      obtain ⟨nb, hnb⟩ : ∃ nb : ByteArray, nb = ⟨bs.toArray⟩ := ⟨_, rfl⟩
      have hbs : nb.size = bs.length := by rw [hnb]; exact size_mk _
      rw [← hnb] at c3
      rw [← hbs] at hsc
      have d2 : wr.cell? ⟨gn, k * 2 + 1, none⟩ = some (.int .i64 f) := by rw [HWR.out]; exact c2
      have d3 : wr.cell? ⟨gf, f * 2, none⟩ = some (.string nb) := by rw [HWR.out]; exact c3
      have HSC := Lib.hid hsc
      have hs1 : (usedTo m k : Int) + nb.size ≤ 18014398509481984 := by omega
      have hk0 : (0 : Int) ≤ (k : Int) := by omega
      have hk1 : (k : Int) < (m.names.length : Int) := by omega
      have hf0 : (0 : Int) ≤ (f : Int) := by omega
      have hf1 : (f : Int) < (m.files.length : Int) := by omega
      have hsum : IntKind.i64.wrap ((usedTo m k : Int) + (nb.size : Int)) = (usedTo m k : Int) + (nb.size : Int) := IntWalk.i64_in _ (by omega)
      clear hnb hbs hsc c1 c2 c3 c4 hul hbl hcap n1 n2 f1 f2
      go_upto_region 5 with (fail)
      go_quiet (fail)
      go_wp2_with fail
      refine ⟨⟨k + 1, by omega, by go_num, ?_, ?_⟩, by simp [intOf]; omega⟩
      · rw [HSC.out]; go_num
      · exact ⟨q + nq, by rw [HWR.out, World.drewN_drewN]⟩
    · obtain rfl : k = m.names.length := by omega
      go_wp2_with fail
      go_ret
      rw [usedTo_all]
      exact ⟨rfl, q, HWR.out⟩

/-! ### has -/
theorem findI_neg {l : Dir} {n : Bs} (h : find l n = none) : findI l n = -1 := by unfold findI; rw [h]
theorem findI_pos {l : Dir} {n : Bs} {k : Nat} (h : find l n = some k) : findI l n = k := by unfold findI; rw [h]
theorem mfind_none {v : Value} {l : Dir} (h : EntsAt T w v l) (n : ByteArray) (hf : find l n.data.toList = none) : Calls Try.prog 52 #[v, .string n] w fun e w' => e = .returned (.int .i64 (-1)) ∧ w = w' := by
  have := mfind_any h n
  rw [findI_neg hf] at this
  exact this
theorem mfind_some {v : Value} {l : Dir} (h : EntsAt T w v l) (n : ByteArray) {k : Nat} (hf : find l n.data.toList = some k) : Calls Try.prog 52 #[v, .string n] w fun e w' => e = .returned (.int .i64 k) ∧ w = w' := by
  have := mfind_any h n
  rw [findI_pos hf] at this
  exact this
theorem mhas_any (h : MRep T w p vf vn vd vp m) (n : ByteArray) : Calls Try.prog 34 #[.pointer (some ⟨p, 0, none⟩), .string n] w fun e w' => e = .returned (.bool (!m.down && (find m.names n.data.toList).isSome)) ∧ w = w' := by
  have H := Lib.hid h
  have h2 := h.c2
  have h4 := h.c4
  clear h
  cases hd : m.down with
  | true =>
    rw [hd] at h2
    clear hd
    go_enter Try.func34, Try.ntmps34
    go_wp2_with fail
    go_ret
    exact ⟨rfl, rfl⟩
  | false =>
    rw [hd] at h2
    clear hd
    cases hf : find m.names n.data.toList with
    | none =>
      have HF := Lib.hid hf
      clear hf
      go_enter Try.func34, Try.ntmps34
      go_wp2_with (go_at_call 52; refine (mfind_none H.out.hn n HF.out).mono ?_; rintro e w' ⟨rfl, rfl⟩)
      go_ret
      exact ⟨rfl, rfl⟩
    | some k =>
      have HF := Lib.hid hf
      clear hf
      go_enter Try.func34, Try.ntmps34
      go_wp2_with (go_at_call 52; refine (mfind_some H.out.hn n HF.out).mono ?_; rintro e w' ⟨rfl, rfl⟩)
      go_ret
      exact ⟨rfl, rfl⟩
end
end Go.Proofs.Ytlhnjdoicolkkaa
