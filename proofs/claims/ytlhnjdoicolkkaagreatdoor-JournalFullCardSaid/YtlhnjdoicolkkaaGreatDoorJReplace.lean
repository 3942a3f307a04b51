/- replace: the journal's file, replaced. -/
import Derived.Test.YtlhnjdoicolkkaaGreatDoorJCommit1
import Derived.BigRegion
import Derived.Deep.RegionHeld3
set_option maxRecDepth 100000
namespace Go.Proofs.YtlhnjdoicolkkaaGreatDoor
open Go.RowKit Go.Dsk Go.Maps Go.WideMaps
set_option maxHeartbeats 2000000
open Jnl (J)

section
variable {w0 w : World} {bj bd b1 : Nat} {n : ByteArray} {j : J} {d : M} {R : SP} {vr vp : Value}
theorem Star.assoc {P Q T : SP} {U : Nat → Prop} {w : World} (h : Star (Star P Q) T U w) : Star P (Star Q T) U w := by
  obtain ⟨S, V, hu, hd, ⟨A, B, hu2, hd2, h1, h2⟩, h3⟩ := h
  exact ⟨A, fun i => B i ∨ V i, fun i => by rw [hu, hu2, or_assoc], fun i ha h => h.elim (hd2 i ha) (hd i ((hu2 i).2 (.inl ha))), h1, B, V, fun i => Iff.rfl, fun i hb => hd i ((hu2 i).2 (.inr hb)), h2, h3⟩
theorem Star.group {P Q T : SP} {U : Nat → Prop} {w : World} (h : Star P (Star Q T) U w) : Star (Star P Q) T U w := by
  obtain ⟨A, S, hu, hd, h1, B, V, hu2, hd2, h2, h3⟩ := h
  exact ⟨fun i => A i ∨ B i, V, fun i => by rw [hu, hu2, or_assoc], fun i hi hv => hi.elim (fun ha => hd i ha ((hu2 i).2 (.inr hv))) (fun hb => hd2 i hb hv), ⟨A, B, fun i => Iff.rfl, fun i ha hb => hd i ha ((hu2 i).2 (.inl hb)), h1, h2⟩, h3⟩
theorem Has.assoc {w0 w : World} {P Q T : SP} (h : Has w0 w (Star (Star P Q) T)) : Has w0 w (Star P (Star Q T)) := h.imp fun _ h => h.assoc
theorem Has.group {w0 w : World} {P Q T : SP} (h : Has w0 w (Star P (Star Q T))) : Has w0 w (Star (Star P Q) T) := h.imp fun _ h => h.group
/-- X goes in behind two. -/
theorem Has.in3 {w0 w : World} {X P Q T : SP} (h : Has w0 w (Star X (Star P (Star Q T)))) : Has w0 w (Star P (Star Q (Star X T))) := h.left.imp fun _ h => h.inner fun _ h => h.left
/-- The third comes to the second. -/
theorem Has.out3 {w0 w : World} {X P Q T : SP} (h : Has w0 w (Star P (Star Q (Star X T)))) : Has w0 w (Star (Star Q X) (Star P T)) := (h.left.imp fun _ h => h.inner fun _ h => h.left).group
theorem str_begin (hR : Nice R) (h : Has w0 w (Qv R bd d bj n j vr vp b1)) (x : ByteArray) : Has w0 (w.alloc (.cells #[.string x] 9)) (Star (BoxP w.heap.size (.string x) 9) (Qv R bd d bj n j vr vp b1)) :=
  h.new (nice_qv hR) ((Below.refl _ w).alloc (Nat.le_refl _) _) (S := fun i => i = w.heap.size) (fun i hi => by rw [hi]; exact Nat.le_refl _) ⟨fun i => Iff.rfl, heap_alloc_new w _⟩
theorem replace_any (hR : Nice R) (h : DJ R w0 w bd d bj n j) (x : ByteArray) (hx : x.size ≤ 1073741824) (hn : n.size ≤ 1048576) (hw : d.wt < 1073741800) {Z : Int × J × M} (hZ : Jnl.run (Jnl.replaceSteps n.data.toList x.data.toList) j d = Z) :
    Calls Tryz.prog 67 #[pbox bj, .string x] w fun e w' => e = .returned (.int .i64 Z.1) ∧ DJ R w0 w' bd Z.2.2 bj n Z.2.1 := by
  obtain ⟨vr, vp, h1⟩ := qv_new hR h
  obtain ⟨b1, hb1⟩ : ∃ b1, b1 = w.heap.size := ⟨_, rfl⟩
  rw [← hb1] at h1
  have h2 := str_begin hR h1 x
  obtain ⟨b2, hb2⟩ : ∃ b2, b2 = b1 + 1 := ⟨_, rfl⟩
  have hsz : (w.alloc (.cells #[pj bj] 43)).heap.size = b2 := by rw [hb2, hb1]; simp
  rw [hsz] at h2
  have H2 := Lib.hid h2
  have HZ := Lib.hid hZ
  have HB1 := Lib.hid hb1
  have HB2 := Lib.hid hb2
  clear h h1 h2 hZ hb1 hb2 hsz
  go_enter Tryz.func67, Tryz.ntmps67
  go_upto_region 1 with fail
  rw [← HB1.out, ← HB2.out]
  generalize (w.alloc (.cells #[pj bj] 43)).alloc (.cells #[.string x] 9) = wB at *
  have h3 := H2.out.moved (Nice.star (nice_box _ _ _) (nice_qv hR)) (Below.refl _ wB).drew
  have hS := steps_new (Nice.star (nice_box _ _ _) (nice_qv hR)) h3 (bd := bd) (b1 := b1) (b2 := b2) (ks := [.repA, .repB, .repC, .pub]) #[.func (.func 105) #[] #[pbox b1, pbox b2], .func (.func 106) #[] #[pbox b1], .func (.func 107) #[] #[pbox b1], .func (.func 58) #[pbox bd] #[]] rfl (by decide)
  obtain ⟨k1, hs1⟩ := qv_see H2.out.snd
  have c0 := hs1.c0
  have hcall := run_any (ks := [.repA, .repB, .repC, .pub]) (x := x.data.toList) (nice_box _ _ _) hR ?needs (run_ready hS) hn (show x.data.toList.length ≤ 1073741824 from hx) (by simp only [List.length_cons, List.length_nil]; omega)
  case needs =>
    intro k hk
    simp only [List.mem_cons, List.not_mem_nil, or_false] at hk
    rcases hk with rfl | rfl | rfl | rfl
    · show _ = BoxP b2 (.string ⟨x.data.toList.toArray⟩) 9
      rw [ba_self]
    all_goals exact trivial
  have hsteps : ([.repA, .repB, .repC, .pub] : List Sk).map (Sk.step n.data.toList x.data.toList) = Jnl.replaceSteps n.data.toList x.data.toList := rfl
  rw [hsteps, HZ.out] at hcall
  have HCALL := Lib.hid hcall
  clear h3 hS hs1 hcall hsteps
  go_region_held3 (fun w' => w'.cell? ⟨b1, 0, none⟩ = some (pj bj) ∧ w'.cell? ⟨bj, 0, none⟩ = some (.pointer (some ⟨bd, 0, none⟩))) (go_keep)
    (first
      | (go_at_call 59
         refine HCALL.out.mono ?_
         rintro e we ⟨rfl, he⟩
         obtain ⟨q1, q2, -⟩ := jd_see he
         have HE := Lib.hid (jd_dj he)
         clear he))
  all_goals
    go_wp2_with fail
    go_ret
    exact ⟨rfl, HE.out⟩
end
end Go.Proofs.YtlhnjdoicolkkaaGreatDoor
