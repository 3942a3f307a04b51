/- run: steps upon the disk until one of them returns an error. -/
import Derived.Test.YtlhnjdoicolkkaaGreatDoorJStep
set_option maxRecDepth 100000
namespace Go.Proofs.YtlhnjdoicolkkaaGreatDoor
open Go.RowKit Go.Dsk Go.Maps Go.WideMaps
set_option maxHeartbeats 2000000
open Jnl (J)

/-- The kinds of steps. -/
inductive Sk where
  | repA | repB | repC | pub | comA | comB | opA
abbrev pbox (b : Nat) : Value := .pointer (some ⟨b, 0, none⟩)
def Sk.val (bd b1 b2 : Nat) : Sk → Value
  | .repA => .func (.func 105) #[] #[pbox b1, pbox b2]
  | .repB => .func (.func 106) #[] #[pbox b1]
  | .repC => .func (.func 107) #[] #[pbox b1]
  | .pub => .func (.func 58) #[pbox bd] #[]
  | .comA => .func (.func 52) #[] #[pbox b1, pbox b2]
  | .comB => .func (.func 56) #[] #[pbox b1]
  | .opA => .func (.func 66) #[] #[pbox b1]
def Sk.fn : Sk → Nat
  | .repA => 105
  | .repB => 106
  | .repC => 107
  | .pub => 58
  | .comA => 52
  | .comB => 56
  | .opA => 66
def Sk.args (bd b1 b2 : Nat) : Sk → Array Value
  | .repA => #[pbox b1, pbox b2]
  | .repB => #[pbox b1]
  | .repC => #[pbox b1]
  | .pub => #[pbox bd]
  | .comA => #[pbox b1, pbox b2]
  | .comB => #[pbox b1]
  | .opA => #[pbox b1]
def Sk.step (n x : Bs) : Sk → Jnl.Step
  | .repA => Jnl.appends (Jnl.newName n) x
  | .repB => Jnl.syncs (Jnl.newName n)
  | .repC => Jnl.renames (Jnl.newName n) (Jnl.logName n)
  | .pub => Jnl.publishes
  | .comA => Jnl.appends (Jnl.logName n) x
  | .comB => Jnl.syncs (Jnl.logName n)
  | .opA => Jnl.removes (Jnl.logName n)
/-- What a step needs beside the journal: the bytes. -/
def Sk.needs (b2 : Nat) (x : Bs) (X : SP) : Sk → Prop
  | .repA => X = BoxP b2 (.string ⟨x.toArray⟩) 9
  | .comA => X = BldP b2 x
  | _ => True
theorem step_wt (n x : Bs) (k : Sk) {d : M} (h : d.Ok) : (k.step n x d).2.wt ≤ d.wt + 1 := by
  cases k
  · exact append_wt d _ _
  · exact sync_wt h _
  · exact rename_wt h _ _
  · exact publish_wt h
  · exact append_wt d _ _
  · exact sync_wt h _
  · exact remove_wt h _
section
variable {w0 w : World} {bj bd b1 b2 : Nat} {n : ByteArray} {x : Bs} {j : J} {d : M} {X R : SP}
theorem sk_any (k : Sk) (hX : Nice X) (hR : Nice R) (hk : k.needs b2 x X) (h : Jd (Star X R) w0 w bd d bj n j b1) (hn : n.size ≤ 1048576) (hx : x.length ≤ 1073741824) (hw : d.wt < 1073741822) :
    Calls Tryz.prog k.fn (k.args bd b1 b2) w fun e w' => e = .returned (.int .i64 (k.step n.data.toList x d).1) ∧ Jd (Star X R) w0 w' bd (k.step n.data.toList x d).2 bj n j b1 := by
  cases k
  · subst hk
    exact repA_any hR h hn hx hw rfl
  · exact repB_any (Nice.star hX hR) h hn hw rfl
  · exact repC_any (Nice.star hX hR) h hn hw rfl
  · exact pub_any (Nice.star hX hR) h hw rfl
  · subst hk
    exact comA_any hR h hn hx hw rfl
  · exact comB_any (Nice.star hX hR) h hn hw rfl
  · exact opA_any (Nice.star hX hR) h hn hw rfl
/-- A list of steps. -/
def StepsP (bd b1 b2 : Nat) (v : Value) (ks : List Sk) : SP := fun S w => (∀ i, S i ↔ v.ownBlock = some i) ∧ w.ownsRow 0 58 1 v ks.length (ks.map (Sk.val bd b1 b2))
theorem nice_steps (v : Value) (ks : List Sk) : Nice (StepsP bd b1 b2 v ks) where
  lt h i hi := (h.2.lt i ((h.1 i).1 hi)).2
  keep h hf hd := ⟨h.1, row_same h.2 fun j hj => hf.block j (h.2.lt j hj).2 (.inl (hd j ((h.1 j).2 hj)))⟩
theorem did_zero (j : J) : j.did 0 = j := by
  cases j
  simp [Jnl.J.did, Jnl.bad]
/-- What can be read of the steps. -/
theorem steps_see {v : Value} {ks : List Sk} (h : Jd (Star X (Star (StepsP bd b1 b2 v ks) R)) w0 w bd d bj n j b1) : ∃ ao c, v = .slice ao ks.length c ∧ ks.length ≤ c ∧ c ≤ maxLen ∧ (0 < ks.length → ∃ g, ao = some ⟨g, 0, none⟩ ∧ ∀ i k, ks[i]? = some k → w.cell? ⟨g, i, none⟩ = some (k.val bd b1 b2)) := by
  obtain ⟨_, U, _, S, T, _, _, _, S2, T2, _, _, _, S3, T3, _, _, _, S4, T4, _, _, _, S5, T5, _, _, ⟨_, h1, h2⟩, _⟩ := h
  rcases h2 with ⟨rfl, h2⟩ | ⟨g, cap, cur, rfl, hg, hh, h3, h4, h5, h6⟩
  · exact ⟨none, 0, by rw [h2], by omega, by unfold maxLen; omega, fun h => by omega⟩
  · refine ⟨_, cap, rfl, h3, h4, fun h0 => ⟨g, rfl, fun i k hi => ?_⟩⟩
    have hlt : i < ks.length := (List.getElem?_eq_some_iff.1 hi).1
    have e : cur[i]? = some (k.val bd b1 b2) := by
      have e1 : (cur.toList.take (ks.length * 1))[i]? = (ks.map (Sk.val bd b1 b2))[i]? := by rw [h6]
      rw [List.getElem?_take_of_lt (by omega), List.getElem?_map, hi] at e1
      rw [← Array.getElem?_toList, e1]
      rfl
    rw [block_cell hh]
    exact e
theorem run_any {v : Value} {ks : List Sk} (hX : Nice X) (hR : Nice R) (hks : ∀ k ∈ ks, k.needs b2 x X) (h : Jd (Star X (Star (StepsP bd b1 b2 v ks) R)) w0 w bd d bj n j b1) (hn : n.size ≤ 1048576) (hx : x.length ≤ 1073741824) (hw : d.wt + ks.length < 1073741822) :
    Calls Tryz.prog 59 #[pbox bj, v] w fun e w' => e = .returned (.int .i64 (Jnl.run (ks.map (Sk.step n.data.toList x)) j d).1) ∧ Jd (Star X (Star (StepsP bd b1 b2 v ks) R)) w0 w' bd (Jnl.run (ks.map (Sk.step n.data.toList x)) j d).2.2 bj n (Jnl.run (ks.map (Sk.step n.data.toList x)) j d).2.1 b1 := by
  obtain ⟨ao, c, rfl, hc1, hc2, -⟩ := steps_see h
  have hRR : Nice (Star (StepsP bd b1 b2 (.slice ao ks.length c) ks) R) := Nice.star (nice_steps _ _) hR
  obtain ⟨Z, hZ⟩ : ∃ Z, Jnl.run (ks.map (Sk.step n.data.toList x)) j d = Z := ⟨_, rfl⟩
  rw [hZ]
  have H := Lib.hid h
  have HKS := Lib.hid hks
  have HZ := Lib.hid hZ
  clear h hks hZ
  unfold maxLen at hc2
  go_enter Tryz.func59, Tryz.ntmps59
  go_wp2_with fail
  go_loopw [10] (fun i wr => ∃ (k : Nat) (dk : M), k ≤ ks.length ∧ i = .int .i64 k ∧ dk.wt ≤ d.wt + k ∧ Jnl.run ((ks.drop k).map (Sk.step n.data.toList x)) j dk = Z ∧ Jd (Star X (Star (StepsP bd b1 b2 (.slice ao ks.length c) ks) R)) w0 wr bd dk bj n j b1) (fun i _ => ks.length - (intOf i).toNat)
  case atStart => exact ⟨0, d, Nat.zero_le _, rfl, Nat.le_refl _, HZ.out, H.out⟩
  case round =>
    obtain ⟨k, dk, hk, rfl, hwk, hrun, hD⟩ := hrel
    have HD := Lib.hid hD
    have HRUN := Lib.hid hrun
    clear hD hrun H HZ
    by_cases hlt : k < ks.length
    · obtain ⟨ao2, c2, e2, -, -, hcell0⟩ := steps_see HD.out
      simp only [Value.slice.injEq] at e2
      obtain ⟨rfl, -, rfl⟩ := e2
      obtain ⟨g, rfl, hcell⟩ := hcell0 (Nat.lt_of_le_of_lt (Nat.zero_le _) hlt)
      obtain ⟨s, hs⟩ : ∃ s, ks[k] = s := ⟨_, rfl⟩
      have hsk : ks[k]? = some s := by rw [List.getElem?_eq_getElem hlt, hs]
      have hdr : ks.drop k = s :: ks.drop (k + 1) := by rw [List.drop_eq_getElem_cons hlt, hs]
      have x0 := hcell k s hsk
      have hneed := HKS.out s (by rw [← hs]; exact List.getElem_mem hlt)
      have hrun := HRUN.out
      rw [hdr, List.map_cons] at hrun
      unfold Jnl.run at hrun
      have hcall := sk_any s hX hRR hneed HD.out hn hx (by omega)
      have hw2 := step_wt n.data.toList x s (dr_ok HD.out)
      generalize hst : Sk.step n.data.toList x s dk = p at hrun hcall hw2
      obtain ⟨r, d2⟩ := p
      simp only at hrun hcall hw2
      have hk0 : (0 : Int) ≤ (k : Int) := by omega
      have hk1 : (k : Int) < (ks.length : Int) := by omega
      have HRUN2 := Lib.hid hrun
      have HCALL := Lib.hid hcall
      clear hrun hcall hcell hcell0 hdr hneed hst HRUN hs hsk
      by_cases hr : r = 0
      · subst hr
        have hrun := HRUN2.out
        rw [if_pos rfl] at hrun
        have HRUN3 := Lib.hid hrun
        clear hrun HRUN2
        cases s <;>
        · unfold Sk.val at x0
          go_wp2_with fail
          refine HCALL.out.mono ?_
          rintro e w3 ⟨rfl, h3⟩
          have H3 := Lib.hid h3
          clear h3 HCALL
          go_wp2_with fail
          refine (did_jr (Nice.star (nice_disk _ _) (Nice.star (nice_box _ _ _) (Nice.star hX hRR))) H3.out.left 0).mono ?_
          rintro e w4 ⟨rfl, h4⟩
          rw [did_zero] at h4
          have H4 := Lib.hid h4.left
          clear h4 H3
          go_wp2_with fail
          go_roundw
          case rel => exact ⟨k + 1, d2, by omega, by go_num, by omega, HRUN3.out, H4.out⟩
          case measure => simp [intOf]; omega
      · have hrun := HRUN2.out
        rw [if_neg hr] at hrun
        have HRUN3 := Lib.hid hrun
        have hr' : (r != 0) = true := by simpa using hr
        clear hrun HRUN2
        cases s <;>
        · unfold Sk.val at x0
          go_wp2_with fail
          refine HCALL.out.mono ?_
          rintro e w3 ⟨rfl, h3⟩
          have H3 := Lib.hid h3
          clear h3 HCALL
          go_wp2_with fail
          refine (did_jr (Nice.star (nice_disk _ _) (Nice.star (nice_box _ _ _) (Nice.star hX hRR))) H3.out.left r).mono ?_
          rintro e w4 ⟨rfl, h4⟩
          have H4 := Lib.hid h4.left
          clear h4 H3
          go_wp2_with fail
          go_ret
          rw [← HRUN3.out]
          exact ⟨rfl, H4.out⟩
    · obtain rfl : k = ks.length := by omega
      have hrun := HRUN.out
      rw [List.drop_length] at hrun
      have hrun : (0, j, dk) = Z := hrun
      have HRUN2 := Lib.hid hrun
      clear hrun
      go_wp2_with fail
      go_ret
      rw [← HRUN2.out]
      exact ⟨rfl, HD.out⟩
end
end Go.Proofs.YtlhnjdoicolkkaaGreatDoor
