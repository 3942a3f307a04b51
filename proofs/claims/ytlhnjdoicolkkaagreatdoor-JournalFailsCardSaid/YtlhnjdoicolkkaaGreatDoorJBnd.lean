/- How far the acts carry a journal and its disk. -/
import Derived.Test.YtlhnjdoicolkkaaGreatDoorJRun
import Derived.Test.YtlhnjdoicolkkaaGreatDoorPlain
set_option maxRecDepth 100000
namespace Go.Proofs.YtlhnjdoicolkkaaGreatDoor
open Go.RowKit Go.Dsk Go.Maps Go.WideMaps
set_option maxHeartbeats 2000000
open Jnl (J)

theorem step_ok (n x : Bs) (k : Sk) {d : M} (h : d.Ok) : (k.step n x d).2.Ok := by
  cases k
  · exact Dsk.append_keeps h _ _
  · exact Dsk.sync_keeps h _
  · exact Dsk.rename_keeps h _ _
  · exact Dsk.publish_keeps h
  · exact Dsk.append_keeps h _ _
  · exact Dsk.sync_keeps h _
  · exact Dsk.remove_keeps h _
theorem run_wt (n x : Bs) : ∀ (ks : List Sk) (j : J) {d : M}, d.Ok → (Jnl.run (ks.map (Sk.step n x)) j d).2.2.wt ≤ d.wt + ks.length
  | [], _, d, _ => Nat.le_refl _
  | k :: ks, j, d, h => by
    have h1 := step_wt n x k h
    by_cases e : (k.step n x d).1 = 0
    · rw [List.map_cons, Jnl.run_two e]
      have := run_wt n x ks j (step_ok n x k h)
      simp only [List.length_cons]
      omega
    · rw [List.map_cons, Jnl.run_one e]
      simp only [List.length_cons]
      omega
section
variable {n : Bs} {j : J} {d : M}
theorem commit_wt (h : d.Ok) : (j.commit n d).2.2.2.wt ≤ d.wt + 3 := by
  unfold Jnl.J.commit
  split
  · exact Nat.le_add_right _ _
  split
  · exact Nat.le_add_right _ _
  have hw : (Jnl.run (Jnl.commitSteps n j.data j.has) j d).2.2.wt ≤ d.wt + 3 := by
    cases hh : j.has with
    | true => exact Nat.le_trans (run_wt n j.data [.comA, .comB] j h) (by simp only [List.length_cons, List.length_nil]; omega)
    | false => exact run_wt n j.data [.comA, .comB, .pub] j h
  simp only
  split <;> exact hw
theorem cut_wt (h : d.Ok) (f : Int) : (j.cut n d f).2.2.wt ≤ d.wt + 4 := by
  unfold Jnl.J.cut
  split
  · exact Nat.le_add_right _ _
  split
  · exact Nat.le_add_right _ _
  split
  · exact Nat.le_add_right _ _
  split
  · exact Nat.le_add_right _ _
  split
  · exact Nat.le_add_right _ _
  have hw := run_wt n (Jnl.content f.toNat (j.recs.drop (f - j.first).toNat)) [.repA, .repB, .repC, .pub] j h
  have hw : (Jnl.run (Jnl.replaceSteps n (Jnl.content f.toNat (j.recs.drop (f - j.first).toNat))) j d).2.2.wt ≤ d.wt + 4 := hw
  simp only
  split <;> exact hw
theorem cleaned_wt (h : d.Ok) : (Jnl.cleaned n d).2.wt ≤ d.wt + 1 := by
  unfold Jnl.cleaned
  split
  · exact remove_wt h _
  · exact Nat.le_add_right _ _
theorem opened2_wt (h : d.Ok) (x : Bs) : (Jnl.opened2 n d x).2.2.wt ≤ d.wt + 4 := by
  rw [Jnl.opened2_run rfl]
  have hw : (Jnl.run (if (Jnl.scan x).2.2 = 0 then [Jnl.removes (Jnl.logName n), Jnl.publishes] else if (Jnl.scan x).2.2 < x.length then Jnl.replaceSteps n (x.take (Jnl.scan x).2.2) else []) Jnl.J.new d).2.2.wt ≤ d.wt + 4 := by
    split
    · exact Nat.le_trans (run_wt n x [.opA, .pub] Jnl.J.new h) (by simp only [List.length_cons, List.length_nil]; omega)
    split
    · exact run_wt n (x.take (Jnl.scan x).2.2) [.repA, .repB, .repC, .pub] Jnl.J.new h
    · exact Nat.le_add_right _ _
  revert hw
  generalize Jnl.run _ Jnl.J.new d = Z
  intro hw
  split <;> exact hw
theorem opened_wt (h : d.Ok) : (Jnl.opened n d).2.2.wt ≤ d.wt + 5 := by
  have hc := cleaned_wt (n := n) h
  have hk := (Jnl.cleaned_sim n (Jnl.simE_refl d) h).2.2
  unfold Jnl.opened
  split
  · exact Nat.le_add_right _ _
  split
  · exact Nat.le_add_right _ _
  split
  · split
    · exact Nat.le_trans (opened2_wt hk _) (by omega)
    · simp only; omega
  · simp only; omega
theorem commit_recs : (j.commit n d).2.2.1.recs.length ≤ j.recs.length + j.pend.length := by
  unfold Jnl.J.commit
  split
  · exact Nat.le_add_right _ _
  split
  · exact Nat.le_add_right _ _
  obtain ⟨Z, hZ⟩ : ∃ Z, Jnl.run (Jnl.commitSteps n j.data j.has) j d = Z := ⟨_, rfl⟩
  simp only [hZ]
  rcases Jnl.run_commit hZ with ⟨h1, _⟩ | ⟨h1, h2, _⟩
  · rw [if_pos h1]
    simp
  · rw [if_neg h1, h2]
    exact Nat.le_add_right _ _
theorem cut_recs (hn : Dsk.isName (Jnl.logName n) = true) (f : Int) : (j.cut n d f).2.1.recs.length ≤ j.recs.length := by
  unfold Jnl.J.cut
  split
  · exact Nat.le_refl _
  split
  · exact Nat.le_refl _
  split
  · exact Nat.le_refl _
  split
  · exact Nat.le_refl _
  split
  · exact Nat.le_refl _
  obtain ⟨Z, hZ⟩ : ∃ Z, Jnl.run (Jnl.replaceSteps n (Jnl.content f.toNat (j.recs.drop (f - j.first).toNat))) j d = Z := ⟨_, rfl⟩
  simp only [hZ]
  rcases Jnl.run_replace hn hZ with ⟨h1, _⟩ | ⟨h1, h2, _⟩
  · rw [if_pos h1]
    simp
  · rw [if_neg h1, h2]
    exact Nat.le_refl _
end
end Go.Proofs.YtlhnjdoicolkkaaGreatDoor

/- An act upon the plain journal and the plain disk: what stays true. No program stands here beyond the names of the steps. -/
set_option maxRecDepth 100000
namespace Go.Proofs.YtlhnjdoicolkkaaGreatDoor
open Go.RowKit Go.Dsk Go.Maps Go.WideMaps
set_option maxHeartbeats 2000000
open Jnl (J)

theorem append_cap (d : M) (n x : Bs) : (d.append n x).2.cap = d.cap := by
  unfold M.append
  split
  · rfl
  split
  · rfl
  split
  · rfl
  split
  · rfl
  split
  · exact counted_cap d
  · exact counted_cap d
theorem sync_cap (d : M) (n : Bs) : (d.sync n).2.cap = d.cap := by
  unfold M.sync
  split
  · rfl
  split
  · rfl
  split
  · exact counted_cap d
  · exact counted_cap d
theorem rename_cap (d : M) (a b : Bs) : (d.rename a b).2.cap = d.cap := by
  unfold M.rename
  split
  · rfl
  split
  · rfl
  split
  · rfl
  · exact counted_cap d
theorem remove_cap (d : M) (a : Bs) : (d.remove a).2.cap = d.cap := by
  unfold M.remove
  split
  · rfl
  split
  · rfl
  · exact counted_cap d
theorem publish_cap (d : M) : d.publish.2.cap = d.cap := by
  unfold M.publish
  split
  · rfl
  split
  · exact counted_cap d
  · exact counted_cap d
theorem step_cap (n x : Bs) (k : Sk) (d : M) : (k.step n x d).2.cap = d.cap := by
  cases k
  · exact append_cap d _ _
  · exact sync_cap d _
  · exact rename_cap d _ _
  · exact publish_cap d
  · exact append_cap d _ _
  · exact sync_cap d _
  · exact remove_cap d _
theorem run_cap (n x : Bs) : ∀ (ks : List Sk) (j : J) (d : M), (Jnl.run (ks.map (Sk.step n x)) j d).2.2.cap = d.cap
  | [], _, _ => rfl
  | k :: ks, j, d => by
    have h1 := step_cap n x k d
    by_cases e : (k.step n x d).1 = 0
    · rw [List.map_cons, Jnl.run_two e]
      exact (run_cap n x ks j _).trans h1
    · rw [List.map_cons, Jnl.run_one e]
      exact h1
section
variable {n : Bs} {j : J} {d : M}
theorem commit_cap : (j.commit n d).2.2.2.cap = d.cap := by
  unfold Jnl.J.commit
  split
  · rfl
  split
  · rfl
  have hw : (Jnl.run (Jnl.commitSteps n j.data j.has) j d).2.2.cap = d.cap := by
    cases hh : j.has with
    | true => exact run_cap n j.data [.comA, .comB] j d
    | false => exact run_cap n j.data [.comA, .comB, .pub] j d
  simp only
  split <;> exact hw
theorem cut_cap (f : Int) : (j.cut n d f).2.2.cap = d.cap := by
  unfold Jnl.J.cut
  split
  · rfl
  split
  · rfl
  split
  · rfl
  split
  · rfl
  split
  · rfl
  have hw : (Jnl.run (Jnl.replaceSteps n (Jnl.content f.toNat (j.recs.drop (f - j.first).toNat))) j d).2.2.cap = d.cap := run_cap n (Jnl.content f.toNat (j.recs.drop (f - j.first).toNat)) [.repA, .repB, .repC, .pub] j d
  simp only
  split <;> exact hw
theorem cleaned_cap : (Jnl.cleaned n d).2.cap = d.cap := by
  unfold Jnl.cleaned
  split
  · exact remove_cap d _
  · rfl
theorem opened2_cap (x : Bs) : (Jnl.opened2 n d x).2.2.cap = d.cap := by
  rw [Jnl.opened2_run rfl]
  have hw : (Jnl.run (if (Jnl.scan x).2.2 = 0 then [Jnl.removes (Jnl.logName n), Jnl.publishes] else if (Jnl.scan x).2.2 < x.length then Jnl.replaceSteps n (x.take (Jnl.scan x).2.2) else []) Jnl.J.new d).2.2.cap = d.cap := by
    split
    · exact run_cap n x [.opA, .pub] Jnl.J.new d
    split
    · exact run_cap n (x.take (Jnl.scan x).2.2) [.repA, .repB, .repC, .pub] Jnl.J.new d
    · rfl
  revert hw
  generalize Jnl.run _ Jnl.J.new d = Z
  intro hw
  split <;> exact hw
theorem opened_cap : (Jnl.opened n d).2.2.cap = d.cap := by
  have hc : (Jnl.cleaned n d).2.cap = d.cap := cleaned_cap
  unfold Jnl.opened
  split
  · rfl
  split
  · rfl
  split
  · split
    · exact (opened2_cap _).trans hc
    · exact hc
  · exact hc
theorem read_cap (h : d.Ok) (s : Bs) : ((d.read s).1.length : Int) ≤ d.cap := by
  have h0 := h.cap0
  unfold M.read
  split
  · simpa using h0
  split
  · simpa using h0
  · exact (getD_size h _).1
theorem opened2_recs (x : Bs) {j' : J} (hj : (Jnl.opened2 n d x).2.1 = some j') : j'.recs.length ≤ x.length ∧ j'.pend = [] := by
  rw [Jnl.opened2_run rfl] at hj
  revert hj
  generalize Jnl.run _ Jnl.J.new d = Z
  intro hj
  split at hj
  · simp only [Option.some.injEq] at hj
    subst hj
    exact ⟨(Jnl.scan_fit x).2.1, rfl⟩
  · cases hj
theorem opened_recs (h : d.Ok) {j' : J} (hj : (Jnl.opened n d).2.1 = some j') : (j'.recs.length : Int) ≤ d.cap ∧ j'.pend = [] := by
  have hk := (Jnl.cleaned_sim n (Jnl.simE_refl d) h).2.2
  have h0 := h.cap0
  unfold Jnl.opened at hj
  split at hj
  · cases hj
  split at hj
  · cases hj
  split at hj
  · split at hj
    · have h1 := opened2_recs _ hj
      have h2 := read_cap hk (Jnl.logName n)
      rw [cleaned_cap] at h2
      exact ⟨by omega, h1.2⟩
    · cases hj
      exact ⟨by simpa [Jnl.J.new] using h0, rfl⟩
  · cases hj
end
/-- An act: its kind, its number. The record that an append takes is r. -/
def actJ (n : Bs) (r : Bs) (k q : Int) (j : J) (d : M) : J × M :=
  if k % 8 = 3 then ((j.commit n d).2.2.1, (j.commit n d).2.2.2)
  else if k % 8 = 4 then (j.discard.2, d)
  else if k % 8 = 5 then ((j.cut n d (j.first + q)).2.1, (j.cut n d (j.first + q)).2.2)
  else if k % 8 = 6 then (j, d)
  else if k % 8 = 7 then ((Jnl.opened n d).2.1.getD j, (Jnl.opened n d).2.2)
  else ((j.append r).2.2, d)
section
variable {n r : Bs} {k q : Int} {j : J} {d m : M}
theorem actJ_sim (h : SimE m d) (ha : m.Ok) : (actJ n r k q j d).1 = (actJ n r k q j m).1 ∧ SimE (actJ n r k q j m).2 (actJ n r k q j d).2 := by
  unfold actJ
  split
  · have := Jnl.commit_sim n j h ha
    exact ⟨this.2.2.1, this.2.2.2⟩
  split
  · exact ⟨rfl, h⟩
  split
  · have := Jnl.cut_sim n j (j.first + q) h ha
    exact ⟨this.2.1, this.2.2⟩
  split
  · exact ⟨rfl, h⟩
  split
  · have := Jnl.opened_sim n h ha
    exact ⟨by simp only [this.2.1], this.2.2⟩
  · exact ⟨rfl, h⟩
theorem actJ_inv (hn : Dsk.isName (Jnl.logName n) = true) (h : Jnl.Inv n j m) : Jnl.Inv n (actJ n r k q j m).1 (actJ n r k q j m).2 := by
  unfold actJ
  split
  · exact Jnl.inv_commit h
  split
  · exact Jnl.inv_discard h
  split
  · exact Jnl.inv_cut hn h _
  split
  · exact h
  split
  · have hi := Jnl.inv_opened hn h
    cases ho : (Jnl.opened n m).2.1 with
    | none => exact hi.2 ho
    | some j' => exact hi.1 j' ho
  · exact Jnl.inv_append h r
theorem actJ_cap : (actJ n r k q j d).2.cap = d.cap := by
  unfold actJ
  split
  · exact commit_cap
  split
  · rfl
  split
  · exact cut_cap _
  split
  · rfl
  split
  · exact opened_cap
  · rfl
theorem actJ_wt (h : d.Ok) : (actJ n r k q j d).2.wt ≤ d.wt + 5 := by
  unfold actJ
  split
  · exact Nat.le_trans (commit_wt h) (by omega)
  split
  · exact Nat.le_add_right _ _
  split
  · exact Nat.le_trans (cut_wt h _) (by omega)
  split
  · exact Nat.le_add_right _ _
  split
  · exact opened_wt h
  · exact Nat.le_add_right _ _
theorem actJ_recs (hn : Dsk.isName (Jnl.logName n) = true) (h : d.Ok) (hp : j.pend.length ≤ 64) {B : Nat} (hB : j.recs.length ≤ B) (hc : d.cap ≤ B) : (actJ n r k q j d).1.recs.length ≤ B + 64 := by
  unfold actJ
  split
  · have := commit_recs (n := n) (j := j) (d := d)
    simp only
    omega
  split
  · have : j.discard.2.recs = j.recs := by unfold Jnl.J.discard; split <;> rfl
    simp only [this]
    omega
  split
  · have := cut_recs (n := n) (j := j) (d := d) hn (j.first + q)
    simp only
    omega
  split
  · simp only; omega
  split
  · cases ho : (Jnl.opened n d).2.1 with
    | none => simp only [Option.getD_none]; omega
    | some j' =>
      have := (opened_recs h ho).1
      simp only [Option.getD_some]
      omega
  · have : (j.append r).2.2.recs = j.recs := by
      unfold Jnl.J.append
      split
      · rfl
      split
      · rfl
      split <;> rfl
    simp only [this]
    omega
end
end Go.Proofs.YtlhnjdoicolkkaaGreatDoor
