/- Append to a full disk. -/
import Derived.Test.YtlhnjdoicolkkaaOps3
set_option maxRecDepth 100000
namespace Go.Proofs.Ytlhnjdoicolkkaa
open Go.RowKit Go.Dsk Go.Maps Go.WideMaps
set_option maxHeartbeats 400000

section
variable {loc : Nat → Nat} {S : Nat → Prop} {w : World} {bd bn bm : Nat} {sl : Value} {bs : List (Nat × Nat)} {lft : Int} {m : M}
theorem Append_full (h : Rep loc S w bd bn bm sl bs lft m) (hwt : m.wt < 1073741824) (hd : m.down = false) (n d : ByteArray) (hs : n.size ≤ maxLen) (hds : d.size ≤ 4611686018427387904) (hn : isName n.data.toList = true) (hl : find m.names n.data.toList = none → m.names.length < 64) (hc : m.cap < (m.used : Int) + d.size) :
    Calls Try.prog 13 #[.pointer (some ⟨bd, 0, none⟩), .string n, .string d] w fun e w' => e = .returned (.int .i64 33) ∧ After S w bd m w' := by
  have H := Lib.hid h
  have HD := Lib.hid hd
  have HN := Lib.hid hn
  have h1 := h.c1
  have h0 := h.c0
  have hub := used_bd h.ok (by omega)
  have hwt' : m.wt ≤ 1073741824 := by omega
  cases hf : find m.names n.data.toList with
  | some k =>
    have HF := Lib.hid hf
    clear h hd hn hf hl
    go_enter Try.func13, Try.ntmps13
    go_wp2_with (first
      | (go_at_call 37; refine (ready_up H.out HD.out).mono ?_; rintro e w' ⟨rfl, rfl⟩)
      | (at_lookup; refine wpList_dir_ok_some _ rfl _ _ rfl loc bn m.names H.out.hn n hs k HF.out rfl rfl ?_)
      | (go_at_call 38; refine (isName_is n _ hs HN.out).mono ?_; rintro e w' ⟨rfl, rfl⟩))
    have hwr : IntKind.i64.wrap ((m.used : Int) + d.size) = (m.used : Int) + d.size := IntWalk.i64_in _ (by omega)
    go_region_with (go_at_call 39; refine (used_any H.out.dr hwt').mono ?_; rintro e w1 ⟨rfl, hf1⟩; have HR := Lib.hid (H.out.dr.keep hf1 (fun _ _ => id)); have k0 := HR.out.c0)
    all_goals clear hwr
    all_goals go_wp2_with fail
    all_goals
      go_ret
      exact ⟨rfl, HR.out.afterOf (((Fr.refl _ w).drew).trans (hf1.mono (fun _ => False.elim)))⟩
  | none =>
    have hl' := hl hf
    have HF := Lib.hid hf
    clear h hd hn hf hl
    go_enter Try.func13, Try.ntmps13
    go_wp2_with (first
      | (go_at_call 37; refine (ready_up H.out HD.out).mono ?_; rintro e w' ⟨rfl, rfl⟩)
      | (at_lookup; refine wpList_dir_ok_none _ rfl _ _ rfl loc bn m.names H.out.hn n hs HF.out rfl rfl ?_)
      | (go_at_call 38; refine (isName_is n _ hs HN.out).mono ?_; rintro e w' ⟨rfl, rfl⟩)
      | (at_len; refine wpList_dir_len_want _ (by rfl) _ rfl loc bn m.names H.out.hn rfl ?_))
    have hwr : IntKind.i64.wrap ((m.used : Int) + d.size) = (m.used : Int) + d.size := IntWalk.i64_in _ (by omega)
    go_region_with (go_at_call 39; refine (used_any H.out.dr hwt').mono ?_; rintro e w1 ⟨rfl, hf1⟩; have HR := Lib.hid (H.out.dr.keep hf1 (fun _ _ => id)); have k0 := HR.out.c0)
    all_goals clear hwr
    all_goals go_wp2_with fail
    all_goals
      go_ret
      exact ⟨rfl, HR.out.afterOf (((Fr.refl _ w).drew).trans (hf1.mono (fun _ => False.elim)))⟩

end
end Go.Proofs.Ytlhnjdoicolkkaa
