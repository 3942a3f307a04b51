/- Append to a file that is there. -/
import Derived.Test.YtlhnjdoicolkkaaOps3
set_option maxRecDepth 100000
namespace Go.Proofs.Ytlhnjdoicolkkaa
open Go.RowKit Go.Dsk Go.Maps Go.WideMaps
set_option maxHeartbeats 400000

section
variable {loc : Nat → Nat} {S : Nat → Prop} {w : World} {bd bn bm : Nat} {sl : Value} {bs : List (Nat × Nat)} {lft : Int} {m : M}
theorem Append_some (h : Rep loc S w bd bn bm sl bs lft m) (hwt : m.wt < 1073741824) (hd : m.down = false) (n d : ByteArray) (hs : n.size ≤ maxLen) (hds : d.size ≤ 4611686018427387904) (hn : isName n.data.toList = true) (k : Nat) (hf : find m.names n.data.toList = some k) (hc : ¬ m.cap < (m.used : Int) + d.size) :
    Calls Try.prog 13 #[.pointer (some ⟨bd, 0, none⟩), .string n, .string d] w fun e w' => e = .returned (.int .i64 (outcome m.failing)) ∧ After S w bd (m.counted.added k d.data.toList) w' := by
  have H := Lib.hid h
  have HD := Lib.hid hd
  have HN := Lib.hid hn
  have HF := Lib.hid hf
  have h1 := h.c1
  have h0 := h.c0
  have hub := used_bd h.ok (by omega)
  have hwt' : m.wt ≤ 1073741824 := by omega
  have hk := (find_good h.ok.names hf).2
  have hsz := (getD_size h.ok k)
  have hcap := h.ok.cap1
  have hlu := len_le_used hf
  unfold M.len at hlu
  generalize hfl : m.files.getD k ⟨[], 0⟩ = fl at hsz hlu
  have hfl' : m.counted.files.getD k ⟨[], 0⟩ = fl := by rw [counted_files]; exact hfl
  have HFL := Lib.hid hfl'
  have hkc : k < m.counted.files.length := by rw [counted_files]; exact hk
  have HK := Lib.hid hkc
  have hbl : (fl.bytes.length : Int) ≤ 16777216 := by omega
  have HLU := Lib.hid hlu
  have HSZ := Lib.hid hsz
  clear h hd hn hf hfl hfl' hkc hk hsz hlu
  go_enter Try.func13, Try.ntmps13
  go_wp2_with (first
    | (go_at_call 37; refine (ready_up H.out HD.out).mono ?_; rintro e w' ⟨rfl, rfl⟩)
    | (at_lookup; refine wpList_dir_ok_some _ rfl _ _ rfl loc bn m.names H.out.hn n hs k HF.out rfl rfl ?_)
    | (go_at_call 38; refine (isName_is n _ hs HN.out).mono ?_; rintro e w' ⟨rfl, rfl⟩)
    | (at_len; refine wpList_dir_len_want _ (by rfl) _ rfl loc bn m.names H.out.hn rfl ?_))
  have hwr : IntKind.i64.wrap ((m.used : Int) + d.size) = (m.used : Int) + d.size := IntWalk.i64_in _ (by omega)
  go_region_with (go_at_call 39; refine (used_any H.out.dr hwt').mono ?_; rintro e w1 ⟨rfl, hf1⟩; have HR := Lib.hid (H.out.dr.keep hf1 (fun _ _ => id)); have k0 := HR.out.c0)
  all_goals clear hwr
  all_goals go_wp2_with (first
    | (go_at_call 40; refine (fails_any HR.out).mono ?_; rintro e w2 ⟨rfl, ⟨lft1, hr1⟩, hfr1⟩; have H1 := Lib.hid hr1; have q0 := hr1.file HK.out; have z0 := hr1.ffr HK.out 0; rw [HFL.out] at q0; clear hr1)
    | (go_at_call 43; refine (outcome_any _ _).mono ?_; rintro e w' ⟨rfl, rfl⟩))
  all_goals
    go_ret
    refine ⟨rfl, ?_⟩
    have R := H1.out.addedTo HK.out HFL.out d (by rw [counted_cap]; have := HLU.out; omega)
    exact R.1.afterOf ((((Fr.refl _ w).drew).trans (hf1.mono (fun _ => False.elim))).trans (hfr1.trans R.2))

end
end Go.Proofs.Ytlhnjdoicolkkaa
