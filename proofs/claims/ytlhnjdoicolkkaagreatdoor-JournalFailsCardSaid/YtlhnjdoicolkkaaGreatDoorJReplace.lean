/- replace: the journal's file, replaced. -/
import Derived.Test.YtlhnjdoicolkkaaGreatDoorJCommit1
import Derived.BigRegion
import Derived.Deep.RegionHeld3
import Derived.Test.YtlhnjdoicolkkaaGreatDoorJName
import Derived.Lib.LazyBuf
set_option maxRecDepth 100000
namespace Go.Proofs.YtlhnjdoicolkkaaGreatDoor
open Go.RowKit Go.Dsk Go.Maps Go.WideMaps
set_option maxHeartbeats 2000000
open Jnl (J)

section
variable {w0 w : World} {bj bd b1 : Nat} {n : ByteArray} {j : J} {d : M} {R : SP} {vr vp : Value}
theorem Star.assoc {P Q T : SP} {U : Nat → Prop} {w : World} (h : Star (Star P Q) T U w) : Star P (Star Q T) U w := by
  obtain ⟨S, V, hu, hd, ⟨A, B, hu2, hd2, h1, h2⟩, h3⟩ := h
  exact ⟨A, fun i => B i ∨ V i, fun i => by rw [hu, hu2, or_assoc], fun i ha h => h.elim (hd2 i ha) (hd i ((hu2 i).2 (.inl ha))), h1, B, V, fun i => Iff.rfl, fun i hb => hd i ((hu2 i).2 (.inr hb)), h2, h3⟩
theorem Star.group {P Q T : SP} {U : Nat → Prop} {w : World} (h : Star P (Star Q T) U w) : Star (Star P Q) T U w := by
  obtain ⟨A, S, hu, hd, h1, B, V, hu2, hd2, h2, h3⟩ := h
  exact ⟨fun i => A i ∨ B i, V, fun i => by rw [hu, hu2, or_assoc], fun i hi hv => hi.elim (fun ha => hd i ha ((hu2 i).2 (.inr hv))) (fun hb => hd2 i hb hv), ⟨A, B, fun i => Iff.rfl, fun i ha hb => hd i ha ((hu2 i).2 (.inl hb)), h1, h2⟩, h3⟩
theorem Has.assoc {w0 w : World} {P Q T : SP} (h : Has w0 w (Star (Star P Q) T)) : Has w0 w (Star P (Star Q T)) := h.imp fun _ h => h.assoc
theorem Has.group {w0 w : World} {P Q T : SP} (h : Has w0 w (Star P (Star Q T))) : Has w0 w (Star (Star P Q) T) := h.imp fun _ h => h.group
/-- X goes in behind two. -/
theorem Has.in3 {w0 w : World} {X P Q T : SP} (h : Has w0 w (Star X (Star P (Star Q T)))) : Has w0 w (Star P (Star Q (Star X T))) := h.left.imp fun _ h => h.inner fun _ h => h.left
/-- The third comes to the second. -/
theorem Has.out3 {w0 w : World} {X P Q T : SP} (h : Has w0 w (Star P (Star Q (Star X T)))) : Has w0 w (Star (Star Q X) (Star P T)) := (h.left.imp fun _ h => h.inner fun _ h => h.left).group
theorem str_begin (hR : Nice R) (h : Has w0 w (Qv R bd d bj n j vr vp b1)) (x : ByteArray) : Has w0 (w.alloc (.cells #[.string x] 9)) (Star (BoxP w.heap.size (.string x) 9) (Qv R bd d bj n j vr vp b1)) :=
  h.new (nice_qv hR) ((Below.refl _ w).alloc (Nat.le_refl _) _) (S := fun i => i = w.heap.size) (fun i hi => by rw [hi]; exact Nat.le_refl _) ⟨fun i => Iff.rfl, heap_alloc_new w _⟩
theorem replace_any (hR : Nice R) (h : DJ R w0 w bd d bj n j) (x : ByteArray) (hx : x.size ≤ 1073741824) (hn : n.size ≤ 1048576) (hw : d.wt < 1073741800) {Z : Int × J × M} (hZ : Jnl.run (Jnl.replaceSteps n.data.toList x.data.toList) j d = Z) :
    Calls Tryz.prog 67 #[pbox bj, .string x] w fun e w' => e = .returned (.int .i64 Z.1) ∧ DJ R w0 w' bd Z.2.2 bj n Z.2.1 := by
  obtain ⟨vr, vp, h1⟩ := qv_new hR h
  obtain ⟨b1, hb1⟩ : ∃ b1, b1 = w.heap.size := ⟨_, rfl⟩
  rw [← hb1] at h1
  have h2 := str_begin hR h1 x
  obtain ⟨b2, hb2⟩ : ∃ b2, b2 = b1 + 1 := ⟨_, rfl⟩
  have hsz : (w.alloc (.cells #[pj bj] 43)).heap.size = b2 := by rw [hb2, hb1]; simp
  rw [hsz] at h2
  have H2 := Lib.hid h2
  have HZ := Lib.hid hZ
  have HB1 := Lib.hid hb1
  have HB2 := Lib.hid hb2
  clear h h1 h2 hZ hb1 hb2 hsz
  go_enter Tryz.func67, Tryz.ntmps67
  go_upto_region 1 with fail
  rw [← HB1.out, ← HB2.out]
  generalize (w.alloc (.cells #[pj bj] 43)).alloc (.cells #[.string x] 9) = wB at *
  have h3 := H2.out.moved (Nice.star (nice_box _ _ _) (nice_qv hR)) (Below.refl _ wB).drew
  have hS := steps_new (Nice.star (nice_box _ _ _) (nice_qv hR)) h3 (bd := bd) (b1 := b1) (b2 := b2) (ks := [.repA, .repB, .repC, .pub]) #[.func (.func 105) #[] #[pbox b1, pbox b2], .func (.func 106) #[] #[pbox b1], .func (.func 107) #[] #[pbox b1], .func (.func 58) #[pbox bd] #[]] rfl (by decide)
  obtain ⟨k1, hs1⟩ := qv_see H2.out.snd
  have c0 := hs1.c0
  have hcall := run_any (ks := [.repA, .repB, .repC, .pub]) (x := x.data.toList) (nice_box _ _ _) hR ?needs (run_ready hS) hn (show x.data.toList.length ≤ 1073741824 from hx) (by simp only [List.length_cons, List.length_nil]; omega)
  case needs =>
    intro k hk
    simp only [List.mem_cons, List.not_mem_nil, or_false] at hk
    rcases hk with rfl | rfl | rfl | rfl
    · show _ = BoxP b2 (.string ⟨x.data.toList.toArray⟩) 9
      rw [ba_self]
    all_goals exact trivial
  have hsteps : ([.repA, .repB, .repC, .pub] : List Sk).map (Sk.step n.data.toList x.data.toList) = Jnl.replaceSteps n.data.toList x.data.toList := rfl
  rw [hsteps, HZ.out] at hcall
  have HCALL := Lib.hid hcall
  clear h3 hS hs1 hcall hsteps
  go_region_held3 (fun w' => w'.cell? ⟨b1, 0, none⟩ = some (pj bj) ∧ w'.cell? ⟨bj, 0, none⟩ = some (.pointer (some ⟨bd, 0, none⟩))) (go_keep)
    (first
      | (go_at_call 59
         refine HCALL.out.mono ?_
         rintro e we ⟨rfl, he⟩
         obtain ⟨q1, q2, -⟩ := jd_see he
         have HE := Lib.hid (jd_dj he)
         clear he))
  all_goals
    go_wp2_with fail
    go_ret
    exact ⟨rfl, HE.out⟩
end
end Go.Proofs.YtlhnjdoicolkkaaGreatDoor

/- Cut: the records before a number are removed. -/
set_option maxRecDepth 100000
namespace Go.Proofs.YtlhnjdoicolkkaaGreatDoor
open Go.RowKit Go.Dsk Go.Maps Go.WideMaps
set_option maxHeartbeats 16000000
open Jnl (J)

section
variable {w0 w : World} {bj bd : Nat} {n : ByteArray} {j : J} {d : M} {R : SP} {vr vp : Value}
/-- A clone of a list of strings, in a row of its own. -/
theorem strsClone_zero (a : Addr) (c : Nat) (W : World) :
    Calls Tryz.prog 68 #[.slice (some a) 0 c] W fun e w' => ∃ v, e = .returned v ∧ w'.ownsRow W.heap.size 9 1 v 0 [] ∧ (∀ a cap, v = .slice a 0 cap → cap = 0) ∧ Below W.heap.size W w' := by
  have he : (binOp .eql 25 (.slice (some a) 0 c) (.slice none 0 0)).run Tryz.prog W = .ok (.bool false) W := by
    apply Lib.run_eql_slice_nil
    exact Tryz.underlying25
  go_enter Tryz.func68, Tryz.ntmps68
  go_wp2_with fail
  go_ret
  exact ⟨_, rfl, ⟨by simp, .inr ⟨W.heap.size, 0, #[], rfl, Nat.le_refl _, heap_alloc_new W _, Nat.le_refl _, by unfold maxLen; omega, by simp, by simp⟩⟩, fun a cap h => by simp at h; omega, (Below.refl _ W).alloc (Nat.le_refl _) _⟩
theorem strsClone_row {W : World} {a : Addr} {c k : Nat} {l : List Bs} (h : StrsIn W (.slice (some a) l.length c) l) (hk : k ≤ l.length) (hl : l.length ≤ 1099511627776) :
    Calls Tryz.prog 68 #[.slice (if c = k then some a else some (a.add k)) (l.length - k) (c - k)] W fun e w' => ∃ v, e = .returned v ∧ w'.ownsRow W.heap.size 9 1 v (l.drop k).length ((l.drop k).map strV) ∧ (∀ a cap, v = .slice a 0 cap → cap = 0) ∧ Below W.heap.size W w' := by
  obtain ⟨ao, c', e, h1, h2, hc⟩ := h
  simp only [Value.slice.injEq, true_and] at e
  obtain ⟨rfl, rfl⟩ := e
  by_cases hz : l.length - k = 0
  · have hd : l.drop k = [] := List.drop_eq_nil_of_le (by omega)
    rw [hz, hd]
    obtain ⟨a', ha'⟩ : ∃ a' : Addr, (if c = k then some a else some (a.add k)) = some a' := by split <;> exact ⟨_, rfl⟩
    rw [ha']
    exact strsClone_zero a' (c - k) W
  · obtain ⟨b, off, e, hlt, hcell⟩ := hc (by omega)
    simp only [Option.some.injEq] at e
    subst e
    rw [if_neg (by omega), add_plain2]
    have hzl : ((l.drop k).map fun x => (⟨x.toArray⟩ : ByteArray)).length = l.length - k := by simp
    refine (Tryz.slices_Clone_string b (off + k) (l.length - k) (c - k) ((l.drop k).map fun x => ⟨x.toArray⟩) W (by rw [hzl]; exact Nat.le_refl _) (by omega) (fun j hj => ?_)).mono ?_
    · rw [hzl] at hj
      rw [Nat.add_assoc, hcell (k + j) (by omega)]
      unfold strV
      simp only [List.getD_eq_getElem?_getD, List.getElem?_map, List.getElem?_drop]
      rw [List.getElem?_eq_getElem (by omega : k + j < l.length)]
      rfl
    · rintro e w' ⟨v, rfl, ho, _, hb⟩
      refine ⟨v, rfl, ?_, fun a' cap e => ?_, hb⟩
      · have e1 : (l.drop k).length = l.length - k := by simp
        rw [e1]
        rw [List.take_of_length_le (by rw [hzl]; exact Nat.le_refl _), List.map_map] at ho
        exact ho
      · subst e
        obtain ⟨h3, ⟨h4, h5⟩ | ⟨g, cap2, cur, h4, _⟩⟩ := ho
        · simp at h4
          omega
        · simp only [Value.slice.injEq] at h4
          omega
/-- The journal gets other records. -/
abbrev jset (w : World) (bj f : Nat) (v : Value) : World := (w.setCell ⟨bj, 2, none⟩ (.int .i64 f)).setCell ⟨bj, 3, none⟩ v
theorem jset_fr {vr vp : Value} (hd : w.heap[bj]? = some (.cells (jCells bd n j vr vp) 86 (0, 0))) (f : Nat) (v : Value) : Fr (fun i => i = bj) w (jset w bj f v) := by
  have e1 := block_set hd 2 (.int .i64 f)
  have nb : ∀ {W : World} {cs : Array Value}, W.heap[bj]? = some (.cells cs 86 (0, 0)) → ¬ IsBox W bj := by
    rintro W cs h ⟨s, hs⟩
    rw [h] at hs
    simp at hs
  exact ((Fr.refl (fun i => i = bj) w).setCell (p := ⟨bj, 2, none⟩) (.inl rfl) (nb hd) _).setCell (p := ⟨bj, 3, none⟩) (.inl rfl) (nb e1) _
theorem jrn_recs {S : Nat → Prop} {v : Value} {l : List Bs} (h : Star (JrnP bj bd n j) (StrP v l) S w) {f : Nat} {j' : J} (hF' : Fit j') (hf : j'.first = f) (hr : j'.recs = l) (hp : j'.pend = j.pend) (hh : j'.has = j.has) (hb : j'.broken = j.broken) : Does S w (JrnP bj bd n j') (jset w bj f v) := by
  obtain ⟨A, B, hu, hd, ⟨hF, vr, vp, C, D, hu2, hd2, h1, E, F, hu3, hd3, h2, h3⟩, h4⟩ := h
  have hfr := jset_fr h1.2 f v
  have hhd : (jset w bj f v).heap[bj]? = some (.cells (jCells bd n j' v vp) 86 (0, 0)) := by
    have e2 := block_set (block_set h1.2 2 (.int .i64 f)) 3 v
    simpa [jCells, hf, hb, hh] using e2
  have hnb : ∀ i, i = bj → ¬ F i := fun i hi hf => hd2 i ((h1.1 i).2 hi) ((hu3 i).2 (.inr hf))
  have hnb2 : ∀ i, i = bj → ¬ B i := fun i hi hb => hd i ((hu2 i).2 (.inl ((h1.1 i).2 hi))) hb
  refine ⟨fun i => C i ∨ (B i ∨ F i), ?_, ⟨hF', v, vp, C, fun i => B i ∨ F i, fun i => Iff.rfl, ?_, ⟨h1.1, hhd⟩, B, F, fun i => Iff.rfl, ?_, ?_, ?_⟩, hfr.mono ?_⟩
  · rintro i (hi | hi | hi)
    · exact .inl ((hu i).2 (.inl ((hu2 i).2 (.inl hi))))
    · exact .inl ((hu i).2 (.inr hi))
    · exact .inl ((hu i).2 (.inl ((hu2 i).2 (.inr ((hu3 i).2 (.inr hi))))))
  · rintro i hc (hb | hf)
    · exact hd i ((hu2 i).2 (.inl hc)) hb
    · exact hd2 i hc ((hu3 i).2 (.inr hf))
  · intro i hb hf
    exact hd i ((hu2 i).2 (.inr ((hu3 i).2 (.inr hf)))) hb
  · rw [hr]
    exact (nice_str v l).keep h4 hfr fun i hi e => hnb2 i e hi
  · rw [hp]
    exact (nice_str vp j.pend).keep h3 hfr fun i hi e => hnb i e hi
  · rintro i rfl
    exact (hu _).2 (.inl ((hu2 _).2 (.inl ((h1.1 _).2 rfl))))
/-- The calls that change nothing. -/
theorem cut_out (hR : Nice R) (h : DJ R w0 w bd d bj n j) {f : Int} (hf : f < 1073741824000000 ∧ -1073741824000000 < f) {e : Int} (he : (j.broken = true ∧ e = 18) ∨ (j.broken = false ∧ j.pend ≠ [] ∧ e = 17) ∨ (j.broken = false ∧ j.pend = [] ∧ f < j.first ∧ e = 10) ∨ (j.broken = false ∧ j.pend = [] ∧ ¬ f < j.first ∧ j.last + 1 < f ∧ e = 10) ∨
      (j.broken = false ∧ j.pend = [] ∧ ¬ f < j.first ∧ ¬ j.last + 1 < f ∧ 1099511627776 < f ∧ e = 2) ∨ (j.broken = false ∧ j.pend = [] ∧ ¬ j.last + 1 < f ∧ ¬ 1099511627776 < f ∧ f = j.first ∧ e = 0)) :
    Calls Tryz.prog 31 #[pj bj, .int .i64 f] w fun x w' => x = .returned (.int .i64 e) ∧ DJ R w0 w' bd d bj n j := by
  obtain ⟨vr, vp, hs⟩ := jr_see h.left
  have c2 := hs.c2
  have c4 := hs.c4
  have f1 := hs.fit.first
  have f2 := hs.fit.recs
  have H := Lib.hid h
  rcases he with ⟨hb, rfl⟩ | ⟨hb, hp, rfl⟩ | ⟨hb, hp, h1, rfl⟩ | ⟨hb, hp, h1, h2, rfl⟩ | ⟨hb, hp, h1, h2, h3, rfl⟩ | ⟨hb, hp, h2, h3, h4, rfl⟩
  · have hst := state_broken hs hb
    clear h hs
    go_enter Tryz.func31, Tryz.ntmps31
    go_wp2_with fail
    refine hst.mono ?_
    rintro e w1 ⟨rfl, hw1⟩
    obtain rfl := hw1.symm
    go_wp2_with fail
    go_ret
    exact ⟨rfl, H.out⟩
  · have hst := state_well hs hb
    obtain ⟨ao, c, rfl, -⟩ := hs.p
    obtain ⟨m, hm⟩ : ∃ m, j.pend.length = m + 1 := ⟨j.pend.length - 1, by have := List.length_pos_iff.2 hp; omega⟩
    rw [hm] at c4
    clear h hs
    go_enter Tryz.func31, Tryz.ntmps31
    go_wp2_with fail
    refine hst.mono ?_
    rintro e w1 ⟨rfl, hw1⟩
    obtain rfl := hw1.symm
    go_wp2_with fail
    go_ret
    exact ⟨rfl, H.out⟩
  all_goals
    have hst := state_well hs hb
    obtain ⟨ao, c, e4, -⟩ := hs.p
    rw [hp] at e4
    subst e4
  · have h1' : (f < (j.first : Int)) = True := by simp; omega
    clear h hs
    go_enter Tryz.func31, Tryz.ntmps31
    go_wp2_with fail
    refine hst.mono ?_
    rintro e w1 ⟨rfl, hw1⟩
    obtain rfl := hw1.symm
    go_wp2_with fail
    go_ret
    exact ⟨rfl, H.out⟩
  all_goals
    have hl := Last_any hs
    have hlv : j.last = (j.first : Int) + j.recs.length - 1 := by unfold Jnl.J.last; rw [hb]; simp
    obtain ⟨L, hL⟩ : ∃ L, j.last = L := ⟨_, rfl⟩
    rw [hL] at hl h2 hlv
    have hw : wrap64 (L + 1) = L + 1 := IntWalk.wrap64_in _ (by omega)
  · have h1' : (f < (j.first : Int)) = False := by simp; omega
    have h2' : (L + 1 < f) = True := by simp; omega
    clear h hs hlv hL
    go_enter Tryz.func31, Tryz.ntmps31
    go_wp2_with fail
    refine hst.mono ?_
    rintro e w1 ⟨rfl, hw1⟩
    obtain rfl := hw1.symm
    go_wp2_with fail
    refine hl.mono ?_
    rintro e w2 ⟨rfl, q, rfl⟩
    go_wp2_with fail
    go_ret
    exact ⟨rfl, H.out.moved (nice_dj hR) (below_drawn w q)⟩
  · have h1' : (f < (j.first : Int)) = False := by simp; omega
    have h2' : (L + 1 < f) = False := by simp; omega
    have h3' : (1099511627776 < f) = True := by simp; omega
    clear h hs hlv hL
    go_enter Tryz.func31, Tryz.ntmps31
    go_wp2_with fail
    refine hst.mono ?_
    rintro e w1 ⟨rfl, hw1⟩
    obtain rfl := hw1.symm
    go_wp2_with fail
    refine hl.mono ?_
    rintro e w2 ⟨rfl, q, rfl⟩
    go_wp2_with fail
    go_ret
    exact ⟨rfl, H.out.moved (nice_dj hR) (below_drawn w q)⟩
  · have h1' : (f < (j.first : Int)) = False := by simp; omega
    have h2' : (L + 1 < f) = False := by simp; omega
    have h3' : (1099511627776 < f) = False := by simp; omega
    have h4' : (f == (j.first : Int)) = true := by simp [h4]
    clear h hs hlv hL h4
    go_enter Tryz.func31, Tryz.ntmps31
    go_wp2_with fail
    refine hst.mono ?_
    rintro e w1 ⟨rfl, hw1⟩
    obtain rfl := hw1.symm
    go_wp2_with fail
    refine hl.mono ?_
    rintro e w2 ⟨rfl, q, rfl⟩
    go_wp2_with fail
    go_ret
    exact ⟨rfl, H.out.moved (nice_dj hR) (below_drawn w q)⟩
theorem str_row {v : Value} {l : List Bs} {base : Nat} (h : w.ownsRow base 9 1 v l.length (l.map strV)) (hc : ∀ a cap, v = .slice a 0 cap → cap = 0) : StrP v l (fun i => v.ownBlock = some i) w := ⟨fun _ => Iff.rfl, own_weaken h (Nat.zero_le _), hc⟩
/-- Records are cut off. -/
theorem cut_in (hR : Nice R) (hg : Glob w0) (h : DJ R w0 w bd d bj n j) (k : Nat) (hb : j.broken = false) (hp : j.pend = []) (hk0 : 0 < k) (hk : k ≤ j.recs.length) (hle : j.first + k ≤ 1099511627776) (hn : n.size ≤ 1048576) (hw : d.wt < 1073741800) (hlr : j.recs.length ≤ 260000)
    {Z : Int × J × M} (hZ : Jnl.run (Jnl.replaceSteps n.data.toList (Jnl.content (j.first + k) (j.recs.drop k))) j d = Z) :
    Calls Tryz.prog 31 #[pj bj, .int .i64 ((j.first : Int) + k)] w fun x w' => (Z.1 ≠ 0 ∧ x = .returned (.int .i64 Z.1) ∧ DJ R w0 w' bd Z.2.2 bj n Z.2.1) ∨ (Z.1 = 0 ∧ x = .returned (.int .i64 0) ∧ DJ R w0 w' bd Z.2.2 bj n { j with first := j.first + k, recs := j.recs.drop k }) := by
  obtain ⟨vr, vp, hs⟩ := jr_see h.left
  have c2 := hs.c2
  have c3 := hs.c3
  have c4 := hs.c4
  have hst := state_well hs hb
  have hl := Last_any hs
  have HF := Lib.hid hs.fit
  have f1 := hs.fit.first
  have f2 := hs.fit.recs
  have hlv : j.last = (j.first : Int) + j.recs.length - 1 := by unfold Jnl.J.last; rw [hb]; simp
  obtain ⟨L, hL⟩ : ∃ L, j.last = L := ⟨_, rfl⟩
  rw [hL] at hl hlv
  have hw1 : wrap64 (L + 1) = L + 1 := IntWalk.wrap64_in _ (by omega)
  have h1' : ((j.first : Int) + (k : Int) < (j.first : Int)) = False := by simp; omega
  have h2' : (L + 1 < (j.first : Int) + (k : Int)) = False := by simp; omega
  have h3' : (1099511627776 < (j.first : Int) + (k : Int)) = False := by simp; omega
  have h4' : ((j.first : Int) + (k : Int) == (j.first : Int)) = false := by simp; omega
  have hw2 : wrap64 ((j.first : Int) + (k : Int) - (j.first : Int)) = (k : Int) := (IntWalk.wrap64_in _ (by omega)).trans (by omega)
  have hw3 : IntKind.i64.wrap ((j.first : Int) + (k : Int) - (j.first : Int)) = (k : Int) := (IntWalk.i64_in _ (by omega)).trans (by omega)
  have hq0 : (0 : Int) ≤ (k : Int) := by omega
  have hq1 : (k : Int) ≤ (j.recs.length : Int) := by omega
  obtain ⟨ao4, c4', e4, -⟩ := hs.p
  rw [hp] at e4
  subst e4
  obtain ⟨ao, c, rfl, hc1, hc2, hcell⟩ := hs.r
  obtain ⟨ab, aoff, rfl, halt, -⟩ := hcell (by omega)
  generalize (⟨ab, aoff, none⟩ : Addr) = a at *
  have HRD := Lib.hid hs.r
  unfold maxLen at hc2
  have H := Lib.hid h
  have HG := Lib.hid hg
  have HZ := Lib.hid hZ
  have HP := Lib.hid hp
  have HBR := Lib.hid hb
  have hcs : ((j.first + k : Nat) : Int) = (j.first : Int) + (k : Int) := by omega
  have HCS := Lib.hid hcs
  clear h hs hlv hL hcell hg hZ hp hb hcs
  go_enter Tryz.func31, Tryz.ntmps31
  go_wp2_with fail
  refine hst.mono ?_
  rintro e w1 ⟨rfl, hw1⟩
  obtain rfl := hw1.symm
  go_wp2_with fail
  refine hl.mono ?_
  rintro e w2 ⟨rfl, q, rfl⟩
  go_upto_region 12 with fail
  generalize hwq : w.drewN q = wq
  have hbq : Below w.heap.size w wq := by rw [← hwq]; exact below_drawn w q
  have c2 : wq.cell? ⟨bj, 2, none⟩ = some (.int .i64 j.first) := by rw [← hwq]; exact c2
  have c3 : wq.cell? ⟨bj, 3, none⟩ = some (.slice (some a) j.recs.length c) := by rw [← hwq]; exact c3
  have hsi : StrsIn wq.drew (.slice (some a) j.recs.length c) j.recs := HRD.out.below hbq.drew
  have hcl := strsClone_row hsi hk (by omega)
  have HQ := Lib.hid (H.out.moved (nice_dj hR) hbq.drew)
  clear hsi hwq hbq
  have fin : ∀ {v : Value} {w3 : World}, (w3.ownsRow wq.drew.heap.size 9 1 v (j.recs.drop k).length ((j.recs.drop k).map strV) ∧ (∀ a cap, v = .slice a 0 cap → cap = 0) ∧ Below wq.drew.heap.size wq.drew w3) → DJ (Star (StrP v (j.recs.drop k)) R) w0 w3 bd d bj n j ∧ StrsIn w3 v (j.recs.drop k) := fun h =>
    ⟨(HQ.out.new (nice_dj hR) h.2.2 (fun i hi => (h.1.lt i hi).1) (str_row h.1 h.2.1)).in3, own_reads h.1⟩
  have FIN := Lib.hid (fun v w3 => @fin v w3)
  clear fin
  by_cases hck : c = k
  · rw [if_pos hck, show c - k = 0 by omega] at hcl
    have HCL := Lib.hid hcl
    clear hcl
    go_region_with (go_at_call 68; refine HCL.out.mono ?_; rintro e w3 ⟨v, rfl, hv⟩; have HV := Lib.hid (FIN.out v w3 hv); clear hv)
    all_goals
      have HSH := Lib.hid (show ∃ av cv, v = .slice av (j.recs.length - k) cv from by obtain ⟨av, cv, h, -⟩ := HV.out.2; rw [List.length_drop] at h; exact ⟨av, cv, h⟩)
      have hct := content_any (first := j.first + k) (HG.out.below HV.out.1.below) hle HV.out.2 (fun r hr => HF.out.lenR r (List.mem_of_mem_drop hr)) (by rw [List.length_drop]; omega)
      rw [HCS.out] at hct
      obtain ⟨xb, hxb⟩ : ∃ xb : ByteArray, (⟨(Jnl.content (j.first + k) (j.recs.drop k)).toArray⟩ : ByteArray) = xb := ⟨_, rfl⟩
      have hxd : xb.data.toList = Jnl.content (j.first + k) (j.recs.drop k) := by rw [← hxb]
      have hxs : xb.size ≤ 1073741824 := by
        have h1 : xb.data.toList.length = xb.size := rfl
        have h2 := itoa_small hle
        have h3 := frames_len (l := j.recs.drop k) (fun r hr => HF.out.lenR r (List.mem_of_mem_drop hr))
        rw [hxd] at h1
        unfold Jnl.content at h1
        rw [List.length_append, Jnl.frame_length] at h1
        have h4 : (j.recs.drop k).length * 4104 ≤ 260000 * 4104 := Nat.mul_le_mul_right _ (by rw [List.length_drop]; omega)
        omega
      rw [hxb] at hct
      have hz := HZ.out
      rw [← hxd] at hz
      have HZ2 := Lib.hid hz
      have HCT := Lib.hid hct
      clear hct hz hxb hxd HZ
      go_wp2_with fail
      refine HCT.out.mono ?_
      rintro e w4 ⟨rfl, hb4⟩
      have H4 := Lib.hid (HV.out.1.moved (nice_dj (Nice.star (nice_str _ _) hR)) hb4)
      clear hb4
      go_wp2_with fail
      refine (replace_any (Nice.star (nice_str _ _) hR) H4.out xb hxs hn hw HZ2.out).mono ?_
      rintro e w5 ⟨rfl, h5⟩
      have H5 := Lib.hid h5
      clear h5 H4 HV HQ
      obtain ⟨z, j', d'⟩ := Z
      simp only at H5 ⊢
      by_cases hz : z = 0
      · subst hz
        have hjj : j' = j := by
          have := run_ok (l := Jnl.replaceSteps n.data.toList xb.data.toList) (j := j) (d := d) (by rw [HZ2.out])
          rw [HZ2.out] at this
          exact this
        subst hjj
        obtain ⟨av, cv, rfl⟩ := HSH.out
        obtain ⟨vr5, vp5, hs5⟩ := jr_see H5.out.left
        have z2 := hs5.free 2
        have e1 := block_set hs5.hd 2 (.int .i64 ((j'.first : Int) + k))
        have z3 := block_free e1 3
        have y2 := hs5.c2
        have y3 := block_cell e1 3
        simp [jCells] at y3
        have hfin := (H5.out.out3.turn (Nice.star (nice_disk _ _) hR) fun _ hS => jrn_recs (f := j'.first + k) (j' := { j' with first := j'.first + k, recs := j'.recs.drop k }) hS ⟨hle, by simp only [List.length_drop]; omega, HF.out.pend, fun r hr => HF.out.lenR r (List.mem_of_mem_drop hr), HF.out.lenP⟩ rfl rfl rfl rfl rfl).left
        rw [jset, HCS.out] at hfin
        have HFIN := Lib.hid hfin
        clear hfin hs5 e1 H5
        go_wp2_with fail
        go_ret
        exact ⟨rfl, HFIN.out⟩
      · have hz' : (z != 0) = true := by simpa using hz
        go_wp2_with fail
        go_ret
        exact ⟨rfl, H5.out.sub (Sub.inner (Sub.inner (Sub.drop _ _)))⟩
  · rw [if_neg hck] at hcl
    have HCL := Lib.hid hcl
    clear hcl
    go_region_with (go_at_call 68; refine HCL.out.mono ?_; rintro e w3 ⟨v, rfl, hv⟩; have HV := Lib.hid (FIN.out v w3 hv); clear hv)
    all_goals
      have HSH := Lib.hid (show ∃ av cv, v = .slice av (j.recs.length - k) cv from by obtain ⟨av, cv, h, -⟩ := HV.out.2; rw [List.length_drop] at h; exact ⟨av, cv, h⟩)
      have hct := content_any (first := j.first + k) (HG.out.below HV.out.1.below) hle HV.out.2 (fun r hr => HF.out.lenR r (List.mem_of_mem_drop hr)) (by rw [List.length_drop]; omega)
      rw [HCS.out] at hct
      obtain ⟨xb, hxb⟩ : ∃ xb : ByteArray, (⟨(Jnl.content (j.first + k) (j.recs.drop k)).toArray⟩ : ByteArray) = xb := ⟨_, rfl⟩
      have hxd : xb.data.toList = Jnl.content (j.first + k) (j.recs.drop k) := by rw [← hxb]
      have hxs : xb.size ≤ 1073741824 := by
        have h1 : xb.data.toList.length = xb.size := rfl
        have h2 := itoa_small hle
        have h3 := frames_len (l := j.recs.drop k) (fun r hr => HF.out.lenR r (List.mem_of_mem_drop hr))
        rw [hxd] at h1
        unfold Jnl.content at h1
        rw [List.length_append, Jnl.frame_length] at h1
        have h4 : (j.recs.drop k).length * 4104 ≤ 260000 * 4104 := Nat.mul_le_mul_right _ (by rw [List.length_drop]; omega)
        omega
      rw [hxb] at hct
      have hz := HZ.out
      rw [← hxd] at hz
      have HZ2 := Lib.hid hz
      have HCT := Lib.hid hct
      clear hct hz hxb hxd HZ
      go_wp2_with fail
      refine HCT.out.mono ?_
      rintro e w4 ⟨rfl, hb4⟩
      have H4 := Lib.hid (HV.out.1.moved (nice_dj (Nice.star (nice_str _ _) hR)) hb4)
      clear hb4
      go_wp2_with fail
      refine (replace_any (Nice.star (nice_str _ _) hR) H4.out xb hxs hn hw HZ2.out).mono ?_
      rintro e w5 ⟨rfl, h5⟩
      have H5 := Lib.hid h5
      clear h5 H4 HV HQ
      obtain ⟨z, j', d'⟩ := Z
      simp only at H5 ⊢
      by_cases hz : z = 0
      · subst hz
        have hjj : j' = j := by
          have := run_ok (l := Jnl.replaceSteps n.data.toList xb.data.toList) (j := j) (d := d) (by rw [HZ2.out])
          rw [HZ2.out] at this
          exact this
        subst hjj
        obtain ⟨av, cv, rfl⟩ := HSH.out
        obtain ⟨vr5, vp5, hs5⟩ := jr_see H5.out.left
        have z2 := hs5.free 2
        have e1 := block_set hs5.hd 2 (.int .i64 ((j'.first : Int) + k))
        have z3 := block_free e1 3
        have y2 := hs5.c2
        have y3 := block_cell e1 3
        simp [jCells] at y3
        have hfin := (H5.out.out3.turn (Nice.star (nice_disk _ _) hR) fun _ hS => jrn_recs (f := j'.first + k) (j' := { j' with first := j'.first + k, recs := j'.recs.drop k }) hS ⟨hle, by simp only [List.length_drop]; omega, HF.out.pend, fun r hr => HF.out.lenR r (List.mem_of_mem_drop hr), HF.out.lenP⟩ rfl rfl rfl rfl rfl).left
        rw [jset, HCS.out] at hfin
        have HFIN := Lib.hid hfin
        clear hfin hs5 e1 H5
        go_wp2_with fail
        go_ret
        exact ⟨rfl, HFIN.out⟩
      · have hz' : (z != 0) = true := by simpa using hz
        go_wp2_with fail
        go_ret
        exact ⟨rfl, H5.out.sub (Sub.inner (Sub.inner (Sub.drop _ _)))⟩
/-- Cut, as the chapter defines it. -/
theorem Cut_any (hR : Nice R) (hg : Glob w0) (h : DJ R w0 w bd d bj n j) {f : Int} (hf : f < 1073741824000000 ∧ -1073741824000000 < f) (hn : n.size ≤ 1048576) (hw : d.wt < 1073741800) (hlr : j.recs.length ≤ 260000) :
    Calls Tryz.prog 31 #[pj bj, .int .i64 f] w fun x w' => x = .returned (.int .i64 (j.cut n.data.toList d f).1) ∧ DJ R w0 w' bd (j.cut n.data.toList d f).2.2 bj n (j.cut n.data.toList d f).2.1 := by
  unfold Jnl.J.cut
  cases hb : j.broken with
  | true => exact cut_out hR h hf (.inl ⟨hb, rfl⟩)
  | false =>
    simp only [Bool.false_eq_true, if_false]
    by_cases hp : j.pend = []
    · rw [if_neg (fun h => h hp)]
      by_cases h1 : f < j.first
      · rw [if_pos (.inl h1)]
        exact cut_out hR h hf (.inr (.inr (.inl ⟨hb, hp, h1, rfl⟩)))
      · by_cases h2 : j.last + 1 < f
        · rw [if_pos (.inr h2)]
          exact cut_out hR h hf (.inr (.inr (.inr (.inl ⟨hb, hp, h1, h2, rfl⟩))))
        · rw [if_neg (fun h => h.elim h1 h2)]
          by_cases h3 : 1099511627776 < f
          · rw [if_pos h3]
            exact cut_out hR h hf (.inr (.inr (.inr (.inr (.inl ⟨hb, hp, h1, h2, h3, rfl⟩)))))
          · rw [if_neg h3]
            by_cases h4 : f = j.first
            · rw [if_pos h4]
              exact cut_out hR h hf (.inr (.inr (.inr (.inr (.inr ⟨hb, hp, h2, h3, h4, rfl⟩)))))
            · rw [if_neg h4]
              have hlv : j.last = (j.first : Int) + j.recs.length - 1 := by unfold Jnl.J.last; rw [hb]; simp
              obtain ⟨k, hk⟩ : ∃ k : Nat, k = (f - j.first).toNat := ⟨_, rfl⟩
              have hfk : f = (j.first : Int) + k := by omega
              have hft : f.toNat = j.first + k := by omega
              rw [← hk, hft, hfk]
              refine (cut_in hR hg h k hb hp (by omega) (by omega) (by omega) hn hw hlr rfl).mono ?_
              rintro e w' (⟨h5, h6, h7⟩ | ⟨h5, h6, h7⟩)
              · rw [if_neg h5]
                exact ⟨h6, h7⟩
              · rw [if_pos h5]
                refine ⟨h6, ?_⟩
                simpa only [hb] using h7
    · rw [if_pos hp]
      exact cut_out hR h hf (.inr (.inl ⟨hb, hp, rfl⟩))
end
end Go.Proofs.YtlhnjdoicolkkaaGreatDoor
