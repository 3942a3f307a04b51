/- Append makes a new file. -/
import Derived.Test.YtlhnjdoicolkkaaOps3
set_option maxRecDepth 100000
namespace Go.Proofs.Ytlhnjdoicolkkaa
open Go.RowKit Go.Dsk Go.Maps Go.WideMaps
set_option maxHeartbeats 400000

section
variable {loc : Nat → Nat} {S : Nat → Prop} {w : World} {bd bn bm : Nat} {sl : Value} {bs : List (Nat × Nat)} {lft : Int} {m : M}
theorem After.chain {S' S5 : Nat → Prop} {w2 w3 w4 w5 w6 : World} {m' : M} (f1 : Fr S w w2) (f2 : Fr S w2 w3) (f3 : Fr (fun _ => False) w3 w4) (hS' : ∀ i, S' i → S i ∨ w2.heap.size ≤ i) (hS5 : ∀ i, S5 i → S' i ∨ w4.heap.size ≤ i) (f4 : Fr S' w4 w5) (k : After S5 w5 bd m' w6) : After S w bd m' w6 := by
  obtain ⟨T, h1, h2, h3⟩ := k
  have g4 : Fr S w w4 := (f1.trans f2).trans (f3.mono (fun _ => False.elim))
  have s' : ∀ i, S' i → S i ∨ w.heap.size ≤ i := fun i hi => (hS' i hi).imp id (fun h => Nat.le_trans f1.size h)
  have s5 : ∀ i, S5 i → S i ∨ w.heap.size ≤ i := fun i hi => (hS5 i hi).elim (s' i) (fun h => .inr (Nat.le_trans g4.size h))
  have g5 : Fr S w w5 := g4.trans' f4 s'
  exact ⟨T, fun i hi => (h1 i hi).elim (s5 i) (fun h => .inr (Nat.le_trans g5.size h)), h2, g5.trans' h3 s5⟩

theorem Append_none (h : Rep loc S w bd bn bm sl bs lft m) (hwt : m.wt < 1073741824) (hd : m.down = false) (n d : ByteArray) (hs : n.size ≤ maxLen) (hds : d.size ≤ 4611686018427387904) (hn : isName n.data.toList = true) (hf : find m.names n.data.toList = none) (hl : m.names.length < 64) (hc : ¬ m.cap < (m.used : Int) + d.size) :
    Calls Try.prog 13 #[.pointer (some ⟨bd, 0, none⟩), .string n, .string d] w fun e w' => e = .returned (.int .i64 (outcome m.failing)) ∧ After S w bd ((m.counted.fresh n.data.toList).added m.files.length d.data.toList) w' := by
  have H := Lib.hid h
  have HD := Lib.hid hd
  have HN := Lib.hid hn
  have HF := Lib.hid hf
  have h1 := h.c1
  have h0 := h.c0
  have hub := used_bd h.ok (by omega)
  have hwt' : m.wt ≤ 1073741824 := by omega
  have hcw : ({ m.counted with files := m.counted.files ++ [⟨[], 0⟩] } : M).wt < 1073741824 := by
    have : m.counted.wt < 1073741824 := by rw [counted_wt]; exact hwt
    exact this
  have hch : ChOk ({ m.counted with files := m.counted.files ++ [⟨[], 0⟩] } : M).files.length ({ m.counted with files := m.counted.files ++ [⟨[], 0⟩] } : M).names ⟨[], n.data.toList, m.counted.files.length⟩ :=
    ⟨.inl rfl, .inr hn, fun _ => isName_ne hn, fun _ => by simp, fun e => absurd rfl e⟩
  have HCW := Lib.hid hcw
  have HCH := Lib.hid hch
  have hfl : (m.counted.fresh n.data.toList).files.getD m.counted.files.length ⟨[], 0⟩ = ⟨[], 0⟩ := by
    simp only [M.fresh, M.apply]
    simp [List.getD_eq_getElem?_getD]
  have HFL := Lib.hid hfl
  have hkl : m.counted.files.length < (m.counted.fresh n.data.toList).files.length := by simp [M.fresh, M.apply]
  have HK := Lib.hid hkl
  have hcp : (m.counted.fresh n.data.toList).cap = m.cap := by simp only [M.fresh, M.apply]; exact counted_cap m
  have HCP := Lib.hid hcp
  clear h hd hn hf hcw hch hfl hkl hcp
  go_enter Try.func13, Try.ntmps13
  go_wp2_with (first
    | (go_at_call 37; refine (ready_up H.out HD.out).mono ?_; rintro e w' ⟨rfl, rfl⟩)
    | (at_lookup; refine wpList_dir_ok_none _ rfl _ _ rfl loc bn m.names H.out.hn n hs HF.out rfl rfl ?_)
    | (go_at_call 38; refine (isName_is n _ hs HN.out).mono ?_; rintro e w' ⟨rfl, rfl⟩)
    | (at_len; refine wpList_dir_len_want _ (by rfl) _ rfl loc bn m.names H.out.hn rfl ?_))
  have hwr : IntKind.i64.wrap ((m.used : Int) + d.size) = (m.used : Int) + d.size := IntWalk.i64_in _ (by omega)
  go_region_with (go_at_call 39; refine (used_any H.out.dr hwt').mono ?_; rintro e w1 ⟨rfl, hf1⟩; have HR := Lib.hid (H.out.dr.keep hf1 (fun _ _ => id)); have k0 := HR.out.c0)
  all_goals clear hwr
  all_goals go_wp2_with (first
    | (go_at_call 40; refine (fails_any HR.out).mono ?_; rintro e w2 ⟨rfl, ⟨lft1, hr1⟩, hfr1⟩; have H1 := Lib.hid hr1; clear hr1)
    | (go_at_call 42; fail))
  all_goals
    obtain ⟨loc', S', hq, hS', hrn, hfn⟩ := H1.out.newFile
    generalize hw2 : w2.heap.size = q at hq
    generalize w2.alloc (.cells #[.string ⟨#[]⟩, .int .i64 0] 76) = w3 at hrn hfn
    have HW2 := Lib.hid hw2
    have HQ := Lib.hid hq
    have HRN := Lib.hid hrn
    clear hw2 hq hrn
    refine (set_any n q w3).mono ?_
    rintro e w4 ⟨rfl, hb4, hbl4⟩
    generalize w3.heap.size = q3 at hb4
    have HB4 := Lib.hid hb4
    clear hb4
    have HR4 := Lib.hid (HRN.out.below hbl4)
    have hcs := change_set HR4.out n.data.toList _ _ HB4.out HCH.out HCW.out
    rw [HQ.out] at hcs
    change Calls _ _ _ _ (fun e w' => e = .returned (.tuple #[]) ∧ AfterAt loc' S' w4 bd (m.counted.fresh n.data.toList) w') at hcs
    go_wp2_with (first
      | (go_at_call 41; refine hcs.mono ?_; rintro e w5 ⟨rfl, hA⟩; obtain ⟨S5, hS5, ⟨bn5, bm5, sl5, bs5, lft5, hr5⟩, hfr5⟩ := hA; have q0 := hr5.file HK.out; have z0 := hr5.ffr HK.out 0; rw [HQ.out] at q0 z0; rw [HFL.out] at q0; have HR5 := Lib.hid hr5; clear hr5)
      | (go_at_call 43; refine (outcome_any _ _).mono ?_; rintro e w' ⟨rfl, rfl⟩))
    go_ret
    refine ⟨rfl, ?_⟩
    have R := HR5.out.addedTo HK.out HFL.out d (by rw [HCP.out]; simp; omega)
    rw [HQ.out] at R
    have hl2 : w2.heap.size ≤ w4.heap.size := by have := hfn.size; have := hbl4.size; omega
    have f1 : Fr S w w2 := (((Fr.refl _ w).drew).trans (hf1.mono (fun _ => False.elim))).trans hfr1
    have hA5 : After S5 w5 bd ((m.counted.fresh n.data.toList).added m.counted.files.length d.data.toList) _ := R.1.afterOf R.2
    rw [counted_files] at hA5
    exact After.chain f1 hfn (Fr.below hbl4) hS' hS5 hfr5 hA5
end
end Go.Proofs.Ytlhnjdoicolkkaa
