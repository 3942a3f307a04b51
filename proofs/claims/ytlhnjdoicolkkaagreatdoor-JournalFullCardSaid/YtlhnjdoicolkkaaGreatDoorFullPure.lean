/- A first commit upon a new disk with room enough. No program stands here. -/
import Derived.Test.YtlhnjdoicolkkaaGreatDoorPlain
namespace Go.Jnl
open Go.Dsk (Bs M find)

theorem run_cons_ok {f : Step} {l : List Step} {j : J} {d d' : M} (h : f d = (0, d')) : run (f :: l) j d = run l j d' := by
  show (if (f d).1 = 0 then run l j (f d).2 else _) = _
  rw [h]
  rfl
def jn (p : List Bs) : J := ⟨1, [], p, false, false⟩
theorem commit_new {n : Bs} (hn : Dsk.isName (logName n) = true) {p : List Bs} (hp : p ≠ []) {c : Int} (hc : ((jn p).data.length : Int) ≤ c) :
    ∃ X, (jn p).commit n (M.new c) = ((p.length : Int), 0, ⟨1, p, [], true, false⟩, X) := by
  obtain ⟨x, hx⟩ : ∃ x, (jn p).data = x := ⟨_, rfl⟩
  rw [hx] at hc
  have hcn : (M.new c).counted = M.new c := by simp [M.counted, M.new]
  have e1 : appends (logName n) x (M.new c) = (0, ((M.new c).fresh (logName n)).added 0 x) := by
    unfold appends M.append
    have h1 : find (M.new c).names (logName n) = none := rfl
    have h2 : (M.new c).used = 0 := rfl
    rw [h1, hcn, h2]
    have h3 : (M.new c).down = false := rfl
    have h4 : (M.new c).cap = c := rfl
    have h5 : (M.new c).names.length = 0 := rfl
    have h6 : (M.new c).files.length = 0 := rfl
    have h7 : (M.new c).failing = false := rfl
    rw [h3, h4, h5, h6, h7, hn]
    have h8 : ¬ c < ((0 : Nat) : Int) + (x.length : Int) := by omega
    simp only [Bool.false_eq_true, if_false, Bool.not_true, Option.isNone_none, Bool.true_and, decide_eq_true_eq]
    rw [if_neg (by decide), if_neg h8]
    rfl
  obtain ⟨D1, hD1⟩ : ∃ D1, ((M.new c).fresh (logName n)).added 0 x = D1 := ⟨_, rfl⟩
  have hn0 := Dsk.isName_ne hn
  have d1 : D1.down = false := by rw [← hD1]; rfl
  have l1 : D1.limit = -1 := by rw [← hD1]; rfl
  have f1 : find D1.names (logName n) = some 0 := by
    rw [← hD1]
    show find (Dsk.changed [] ⟨[], logName n, 0⟩) (logName n) = _
    simp [Dsk.changed, Dsk.withOne, Dsk.without, Dsk.ins, find, hn0]
  have g1 : D1.failing = false := by unfold M.failing; rw [l1]; rfl
  have c1 : D1.counted = D1 := by unfold M.counted; rw [l1]; simp
  have e2 : ∃ D2, syncs (logName n) D1 = (0, D2) ∧ D2.down = false ∧ D2.limit = -1 := by
    refine ⟨{ D1.counted with files := Dsk.setFile D1.files 0 Dsk.synced }, ?_, by rw [c1]; exact d1, by rw [c1]; exact l1⟩
    unfold syncs M.sync
    rw [if_neg (by rw [d1]; simp), f1]
    simp only
    rw [if_neg (by rw [g1]; simp)]
  obtain ⟨D2, e2, d2, l2⟩ := e2
  have e3 : ∃ X, publishes D2 = (0, X) := by
    have g2 : D2.failing = false := by unfold M.failing; rw [l2]; rfl
    unfold publishes M.publish
    rw [if_neg (by rw [d2]; simp), if_neg (by rw [g2]; simp)]
    exact ⟨_, rfl⟩
  obtain ⟨X, e3⟩ := e3
  refine ⟨X, ?_⟩
  unfold J.commit
  rw [if_neg (by simp [jn]), if_neg (by simpa [jn] using hp)]
  have hr : run (commitSteps n (jn p).data (jn p).has) (jn p) (M.new c) = (0, jn p, X) := by
    rw [hx]
    show run [appends (logName n) x, syncs (logName n), publishes] (jn p) (M.new c) = _
    rw [run_cons_ok e1, hD1, run_cons_ok e2, run_cons_ok e3]
    rfl
  simp only [hr, if_true]
  simp [jn]
  omega
end Go.Jnl
