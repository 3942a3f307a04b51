/- content: the bytes of a journal, built in a strings.Builder. -/
import Derived.Test.YtlhnjdoicolkkaaGreatDoorJStep
import Derived.Lib.ItoaLen
set_option maxRecDepth 100000
namespace Go.Proofs.YtlhnjdoicolkkaaGreatDoor
open Go.RowKit Go.Dsk Go.Maps Go.WideMaps
set_option maxHeartbeats 2000000
open Jnl (J)

theorem frames_snoc (l : List Bs) (x : Bs) : Jnl.frames (l ++ [x]) = Jnl.frames l ++ Jnl.frame x := by simp [Jnl.frames]
theorem frames_take {l : List Bs} {k : Nat} (h : k < l.length) : Jnl.frames (l.take (k + 1)) = Jnl.frames (l.take k) ++ Jnl.frame (l.getD k []) := by
  rw [List.take_succ_eq_append_getElem h, frames_snoc, List.getD_eq_getElem?_getD, List.getElem?_eq_getElem h]
  rfl
theorem frames_len {l : List Bs} (h : ∀ r ∈ l, r.length ≤ 4096) : (Jnl.frames l).length ≤ l.length * 4104 := by
  induction l with
  | nil => simp [Jnl.frames]
  | cons x r ih =>
    have h1 := h x (by simp)
    have h2 := ih fun y hy => h y (by simp [hy])
    have e : Jnl.frames (x :: r) = Jnl.frame x ++ Jnl.frames r := by simp [Jnl.frames]
    rw [e, List.length_append, Jnl.frame_length, List.length_cons]
    omega
theorem getD_len {l : List Bs} (h : ∀ r ∈ l, r.length ≤ 4096) (k : Nat) : (l.getD k []).length ≤ 4096 := by
  rw [List.getD_eq_getElem?_getD]
  cases hk : l[k]? with
  | none => simp
  | some x =>
    have := h x (List.mem_of_getElem? hk)
    simpa using this
section
variable {w0 w : World} {bb : Nat} {l : Bs} {Q : SP}
theorem WriteString_h (hQ : Nice Q) (h : Has w0 w (Star (BldP bb l) Q)) (s : ByteArray) (hlen : l.length + s.size ≤ 1099511627776) :
    Calls Tryz.prog 51 #[.pointer (some ⟨bb, 0, none⟩), .string s] w fun e w' => e = .returned (.tuple #[.int .i64 s.size, .nilIface]) ∧ Has w0 w' (Star (BldP bb (l ++ s.data.toList)) Q) :=
  Has.pair (h.does hQ (Q := fun e S w => e = .returned (.tuple #[.int .i64 s.size, .nilIface]) ∧ BldP bb (l ++ s.data.toList) S w) (fun _ hS => (WriteString_any hS s hlen).mono fun _ _ ⟨a, S', b, c, d⟩ => ⟨S', b, ⟨a, c⟩, d⟩))
theorem bString_h (hQ : Nice Q) (h : Has w0 w (Star (BldP bb l) Q)) :
    Calls Tryz.prog 55 #[.pointer (some ⟨bb, 0, none⟩)] w fun e w' => e = .returned (.string ⟨l.toArray⟩) ∧ Has w0 w' (Star (BldP bb l) Q) :=
  Has.pair (h.does hQ (Q := fun e S w => e = .returned (.string ⟨l.toArray⟩) ∧ BldP bb l S w) (fun S hS => (bString_any hS).mono fun _ _ ⟨a, b, c⟩ => ⟨S, fun _ => .inl, ⟨a, b⟩, c⟩))
theorem itoa_small {n : Nat} (h : n ≤ 1099511627776) : (Lib.itoa (n : Int)).length ≤ 21 := Lib.itoa_length_le _ (by omega) (by omega)
theorem content_any {first : Nat} {v : Value} {rs : List Bs} (hg : Glob w) (hf : first ≤ 1099511627776) (hv : StrsIn w v rs) (hr : ∀ r ∈ rs, r.length ≤ 4096) (hl : rs.length ≤ 1048576) :
    Calls Tryz.prog 69 #[.int .i64 first, v] w fun e w' => e = .returned (.string ⟨(Jnl.content first rs).toArray⟩) ∧ Below w.heap.size w w' := by
  obtain ⟨ao, c, rfl, hc1, hc2, hcell⟩ := hv
  have HG := Lib.hid hg
  have HC := Lib.hid hcell
  have HR := Lib.hid hr
  have hil := itoa_small hf
  obtain ⟨ib, hib⟩ : ∃ ib : ByteArray, (⟨(Lib.itoa (first : Int)).toArray⟩ : ByteArray) = ib := ⟨_, rfl⟩
  have hibs : ib.data.toList = Lib.itoa (first : Int) := by rw [← hib]
  have hibl : ib.size ≤ 21 := by
    have : ib.data.toList.length = ib.size := rfl
    rw [hibs] at this
    omega
  have HIB := Lib.hid hibs
  have hf1 : (-9223372036854775808 : Int) ≤ (first : Int) := by omega
  have hf2 : (first : Int) ≤ 9223372036854775807 := by omega
  have HIT := Lib.hid (And.intro hf1 (And.intro hf2 hib))
  unfold maxLen at hc2
  clear hg hcell hr hib hibs hf1 hf2
  have hnew := bld_new w
  have h0 : Has w (w.alloc (.cells #[.pointer none, .slice none 0 0] 89)) (Star (BldP w.heap.size []) Nil) := (Has.start (Below.refl _ _)).new Nice.nil ((Below.refl _ w).alloc (Nat.le_refl _) _) (fun i hi => by rw [hi]; exact Nat.le_refl _) hnew
  obtain ⟨bb, hbb⟩ : ∃ bb, bb = w.heap.size := ⟨_, rfl⟩
  rw [← hbb] at h0
  have H0 := Lib.hid h0
  have HBB := Lib.hid hbb
  clear hnew h0
  go_enter Tryz.func69, Tryz.ntmps69
  go_upto_region 2 with fail
  rw [← hbb]
  clear hbb
  generalize w.alloc (.cells #[.pointer none, .slice none 0 0] 89) = wa at *
  go_wp2_with fail
  refine (Itoa_any HIT.out.1 HIT.out.2.1 (HG.out.below H0.out.below)).mono ?_
  rintro e w1 ⟨rfl, hb1⟩
  rw [HIT.out.2.2]
  have H1 := Lib.hid (H0.out.moved (Nice.star (nice_bld _ _) Nice.nil) hb1)
  clear hb1 H0
  go_wp2_with fail
  refine (jframe_any ib (by omega) _).mono ?_
  rintro e w2 ⟨rfl, hb2⟩
  have H2 := Lib.hid (H1.out.moved (Nice.star (nice_bld _ _) Nice.nil) hb2)
  clear hb2 H1
  have hfs := frame_sz ib
  go_wp2_with fail
  refine (WriteString_h Nice.nil H2.out ⟨(Jnl.frame ib.data.toList).toArray⟩ (by simp only [List.length_nil]; omega)).mono ?_
  rintro e w3 ⟨rfl, h3⟩
  have h3 : Has w w3 (Star (BldP bb (Jnl.frame ib.data.toList)) Nil) := h3
  have H3 := Lib.hid h3
  clear h3 H2
  have hpl : (Jnl.frame ib.data.toList).length ≤ 29 := by
    rw [Jnl.frame_length]
    have : ib.data.toList.length = ib.size := rfl
    omega
  obtain ⟨pre, hpre⟩ : ∃ pre, Jnl.frame ib.data.toList = pre := ⟨_, rfl⟩
  rw [hpre] at H3 hpl
  have HPRE := Lib.hid hpre
  clear hpre hfs HIT
  go_wp2_with fail
  go_loopw [14] (fun i wr => ∃ k : Nat, k ≤ rs.length ∧ i = .int .i64 k ∧ Has w wr (Star (BldP bb (pre ++ Jnl.frames (rs.take k))) Nil)) (fun i _ => rs.length - (intOf i).toNat)
  case atStart => exact ⟨0, Nat.zero_le _, rfl, by simpa [Jnl.frames] using H3.out⟩
  case round =>
    obtain ⟨k, hk, rfl, hB⟩ := hrel
    have HB := Lib.hid hB
    clear hB H3
    by_cases hlt : k < rs.length
    · obtain ⟨b, off, rfl, hbl, hcell⟩ := HC.out (Nat.lt_of_le_of_lt (Nat.zero_le _) hlt)
      have x0 := (HB.out.below.cell (p := ⟨b, off + k, none⟩) hbl).trans (hcell k hlt)
      have hln := getD_len HR.out k
      have hft := frames_take hlt
      obtain ⟨sx, hsx⟩ : ∃ sx : ByteArray, (⟨(rs.getD k []).toArray⟩ : ByteArray) = sx := ⟨_, rfl⟩
      have hsd : sx.data.toList = rs.getD k [] := by rw [← hsx]
      have hss : sx.size ≤ 4096 := by
        have : sx.data.toList.length = sx.size := rfl
        rw [hsd] at this
        omega
      unfold strV at x0
      rw [hsx] at x0
      rw [← hsd] at hft
      have hfl := frames_len (l := rs.take k) (fun r hr => HR.out r (List.mem_of_mem_take hr))
      have htl : (rs.take k).length ≤ k := List.length_take_le _ _
      have hbig : (pre ++ Jnl.frames (rs.take k)).length ≤ 29 + k * 4104 := by
        rw [List.length_append]
        have := Nat.mul_le_mul_right 4104 htl
        omega
      have hfz := frame_sz sx
      have hsum : (pre ++ Jnl.frames (rs.take k)).length + (⟨(Jnl.frame sx.data.toList).toArray⟩ : ByteArray).size ≤ 1099511627776 := by omega
      have hk0 : (0 : Int) ≤ (k : Int) := by omega
      have hk1 : (k : Int) < (rs.length : Int) := by omega
      have HS := Lib.hid (And.intro hsum hft)
      clear hcell hln hft hsx hsd hfl htl hbig hfz hsum
      go_wp2_with fail
      refine (jframe_any sx (by omega) _).mono ?_
      rintro e w4 ⟨rfl, hb4⟩
      have H4 := Lib.hid (HB.out.moved (Nice.star (nice_bld _ _) Nice.nil) hb4)
      clear hb4 HB
      go_wp2_with fail
      refine (WriteString_h Nice.nil H4.out ⟨(Jnl.frame sx.data.toList).toArray⟩ HS.out.1).mono ?_
      rintro e w5 ⟨rfl, h5⟩
      have H5 := Lib.hid h5
      clear h5 H4
      go_wp2_with fail
      go_roundw
      case rel =>
        refine ⟨k + 1, by omega, by go_num, ?_⟩
        rw [HS.out.2, ← List.append_assoc]
        exact H5.out
      case measure => simp [intOf]; omega
    · obtain rfl : k = rs.length := by omega
      go_wp2_with fail
      refine (bString_h Nice.nil HB.out).mono ?_
      rintro e w4 ⟨rfl, h4⟩
      have H4 := Lib.hid h4
      clear h4
      go_wp2_with fail
      go_ret
      refine ⟨?_, H4.out.below⟩
      unfold Jnl.content
      rw [← HPRE.out, HIB.out]
      rfl
end
end Go.Proofs.YtlhnjdoicolkkaaGreatDoor
