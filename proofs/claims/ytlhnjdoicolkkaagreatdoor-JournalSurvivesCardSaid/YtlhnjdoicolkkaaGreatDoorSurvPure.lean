/- What a journal's disk keeps behind a failure and a start. No program stands here. -/
import Derived.Test.YtlhnjdoicolkkaaGreatDoorPlain
set_option maxRecDepth 100000
namespace Go.Jnl
open Go.Dsk (Bs M Fl)

/-! ### the bytes of a journal -/
theorem run_cons_ok' {f : Step} {l : List Step} {j : J} {d d' : M} (h : f d = (0, d')) : run (f :: l) j d = run l j d' := by
  show (if (f d).1 = 0 then run l j (f d).2 else _) = _
  rw [h]
  rfl
theorem cut_spec {d : Bs} (h : (cut d).2.2 = true) : d = frame (cut d).1 ++ (cut d).2.1 := by
  unfold cut at h ⊢
  split at h
  · cases h
  · rename_i h1
    split at h
    · cases h
    · rename_i h2
      rw [if_neg h1, if_neg h2]
      simp only [decide_eq_true_eq] at h
      have := (take_cut (d := d) (by omega) (by omega)).2 h
      show d = frame ((d.drop 8).take (number d)) ++ d.drop (8 + number d)
      rw [← this, List.take_append_drop]
theorem recs_behind : ∀ (l : List Bs) (t : Bs), (∀ r ∈ l, r.length ≤ 4096) → recs (frames l ++ t) = (l ++ (recs t).1, (recs t).2)
  | [], t, _ => rfl
  | r :: l, t, hl => by
    have e : frames (r :: l) ++ t = frame r ++ (frames l ++ t) := by simp [frames]
    have hc := cut_frame r (frames l ++ t) (hl r (by simp))
    rw [e, recs_step (by rw [hc]), hc]
    simp only
    rw [recs_behind l t fun x hx => hl x (by simp [hx])]
    rfl
theorem recs_spec (n : Nat) : ∀ d : Bs, d.length ≤ n → d = frames (recs d).1 ++ (recs d).2 ∧ ∀ r ∈ (recs d).1, r.length ≤ 4096 := by
  induction n with
  | zero =>
    intro d hd
    obtain rfl : d = [] := List.length_eq_zero_iff.1 (by omega)
    rw [recs_stop rfl]
    exact ⟨rfl, fun r hr => by cases hr⟩
  | succ n ih =>
    intro d hd
    by_cases hc : (cut d).2.2 = true
    · have h1 := cut_rest_length hc
      obtain ⟨h2, h3⟩ := ih (cut d).2.1 (by omega)
      have h4 := cut_spec hc
      have h5 := cut_first_length d
      rw [recs_step hc]
      refine ⟨?_, fun r hr => ?_⟩
      · have e : frames ((cut d).1 :: (recs (cut d).2.1).1) = frame (cut d).1 ++ frames (recs (cut d).2.1).1 := by simp [frames]
        simp only
        rw [e, List.append_assoc, ← h2, ← h4]
      · simp only [List.mem_cons] at hr
        rcases hr with rfl | hr
        · exact h5
        · exact h3 r hr
    · rw [recs_stop (by simpa using hc)]
      exact ⟨rfl, fun r hr => by cases hr⟩
theorem itoa_fit {f : Nat} (h2 : f ≤ 1099511627776) : (Lib.itoa (f : Int)).length ≤ 4096 := by
  have := Lib.itoa_length_le (f : Int) (by omega) (by omega)
  omega
/-- The bytes of a journal, and what stands behind them. -/
theorem scan_behind {f : Nat} {l : List Bs} (h1 : 1 ≤ f) (h2 : f ≤ 1099511627776) (hl : ∀ r ∈ l, r.length ≤ 4096) (t : Bs) : scan (content f l ++ t) = (f, l ++ (recs t).1, (content f l ++ t).length - (recs t).2.length) := by
  have e : content f l ++ t = frame (Lib.itoa f) ++ (frames l ++ t) := by unfold content; rw [List.append_assoc]
  have hc := cut_frame (Lib.itoa f) (frames l ++ t) (itoa_fit h2)
  have hh := headOf_itoa h1 h2
  unfold scan
  rw [e, hc]
  simp only
  rw [if_pos ⟨trivial, by rw [hh]; omega⟩, hh, recs_behind l t hl]
theorem scan_whole {f : Nat} {l : List Bs} (h1 : 1 ≤ f) (h2 : f ≤ 1099511627776) (hl : ∀ r ∈ l, r.length ≤ 4096) : scan (content f l) = (f, l, (content f l).length) := by
  have := scan_behind h1 h2 hl []
  rw [recs_stop (d := []) rfl] at this
  simpa using this
/-- What a scan finds, it finds again in the bytes that it takes. -/
theorem scan_again (s : Bs) : ((scan s).2.2 = 0 ∧ scan s = (1, [], 0)) ∨ ((scan s).2.2 ≠ 0 ∧ (scan s).2.2 ≤ s.length ∧ scan (s.take (scan s).2.2) = scan s) := by
  by_cases hc : (cut s).2.2 = true ∧ headOf (cut s).1 ≠ 0
  · right
    have e1 := cut_spec hc.1
    have e0 := cut_first_length s
    obtain ⟨e2, e3⟩ := recs_spec _ (cut s).2.1 (Nat.le_refl _)
    have hsc : scan s = (headOf (cut s).1, (recs (cut s).2.1).1, s.length - (recs (cut s).2.1).2.length) := by
      unfold scan; rw [if_pos hc]
    generalize hh : (cut s).1 = h at *
    generalize hr : (cut s).2.1 = r at *
    generalize hl : (recs r).1 = l at *
    generalize ht : (recs r).2 = t at *
    have es : s = (frame h ++ frames l) ++ t := by rw [e1, List.append_assoc, ← e2]
    have hk : s.length - t.length = (frame h ++ frames l).length := by rw [es, List.length_append]; omega
    have hk0 : (frame h ++ frames l).length ≠ 0 := by rw [List.length_append, frame_length]; omega
    rw [hsc]
    simp only
    rw [hk]
    refine ⟨hk0, by have := congrArg List.length es; rw [List.length_append] at this; omega, ?_⟩
    have et : s.take (frame h ++ frames l).length = frame h ++ frames l := by rw [es, List.take_left']; rfl
    rw [et]
    have hcf := cut_frame h (frames l) e0
    have hrf := recs_behind l [] e3
    rw [recs_stop (d := []) rfl] at hrf
    simp only [List.append_nil] at hrf
    unfold scan
    rw [hcf]
    simp only
    rw [if_pos ⟨trivial, hc.2⟩, hrf]
    simp
  · left
    have : scan s = (1, [], 0) := by unfold scan; rw [if_neg hc]
    rw [this]
    exact ⟨rfl, rfl⟩
/-- What is right of the bytes of a journal, some cut off, the last one perhaps another one: with its first number, or nothing at all. -/
theorem scan_near1 {f : Nat} {l : List Bs} {s : Bs} (h1 : 1 ≤ f) (h2 : f ≤ 1099511627776) (hl : ∀ r ∈ l, r.length ≤ 4096) (h : Near s (content f l)) :
    ((scan s).1 = f ∨ scan s = (1, [], 0)) ∧ ∃ m, (scan s).2.1 = l.take m := by
  have hi := itoa_fit h2
  unfold content at h
  unfold scan
  split
  · rename_i hc
    by_cases hs : (frame (Lib.itoa f)).length < s.length
    · obtain ⟨t, rfl, ht⟩ := near_behind h hs
      have hcf := cut_frame (Lib.itoa f) t hi
      obtain ⟨m, hm⟩ := recs_near l t hl ht
      rw [hcf]
      exact ⟨.inl (headOf_itoa h1 h2), m, hm⟩
    · obtain ⟨e1, e⟩ := near_first h hi (by omega) hc.1
      rw [e, e1, recs_stop (by simp [cut])]
      exact ⟨.inl (headOf_itoa h1 h2), 0, rfl⟩
  · exact ⟨.inr rfl, 0, rfl⟩

/-! ### what a start leaves of a file -/
theorem startFile_dur (f : Fl) (sc : List Int) : (Dsk.startFile f sc).1.dur = (Dsk.startFile f sc).1.bytes.length := by
  have hp := Dsk.pick_le' sc (f.bytes.length - f.dur)
  unfold Dsk.startFile
  generalize Dsk.pick sc (f.bytes.length - f.dur) = p at *
  simp only
  split
  · rename_i h0
    split
    · exact (Dsk.damaged_length (by rw [List.length_take]; omega)).symm
    · rfl
  · rfl
theorem begins_near {x : Bs} {s : Bs} {d : Nat} (h : Dsk.Begins x d s) : s.take d = x.take d ∧ d ≤ s.length ∧ Near s x := by
  obtain ⟨h1, h2, h3, h4⟩ := h
  have h5 : ∀ i, i < max d (s.length - 1) → s[i]? = x[i]? := fun i hi => by
    have := congrArg (fun l : Bs => l[i]?) h3
    simpa [List.getElem?_take, hi] using this
  refine ⟨?_, h1, h2, fun i hi => h5 i (by omega)⟩
  refine List.ext_getElem? fun i => ?_
  rw [List.getElem?_take, List.getElem?_take]
  split
  · exact h5 i (by omega)
  · rfl
/-- Behind bytes that are durable: these, and a beginning of what is behind them. -/
theorem begins_behind {a b s : Bs} (h : Dsk.Begins (a ++ b) a.length s) : ∃ t, s = a ++ t ∧ Near t b := by
  obtain ⟨h1, h2, h3⟩ := begins_near h
  rw [List.take_left'] at h1
  · by_cases hl : a.length < s.length
    · exact near_behind h3 hl
    · refine ⟨[], ?_, Nat.zero_le _, fun i hi => by simp at hi⟩
      rw [List.append_nil, ← h1, List.take_of_length_le (by omega)]
  · rfl

/-! ### the disk of the law -/
abbrev nm : Bs := [108, 111, 103]
abbrev nL : Bs := [108, 111, 103, 46, 108, 111, 103]
abbrev nW : Bs := [108, 111, 103, 46, 110, 101, 119]
theorem isL : Dsk.isName nL = true := rfl
theorem isW : Dsk.isName nW = true := rfl
/-- Nothing was committed. -/
def DA (lim : Int) (dn : Bool) : M := ⟨100000, lim, dn, [], [], [], []⟩
/-- The journal's file is k, and its name is durable. -/
def DB (lim : Int) (dn : Bool) (fs : List Fl) (k : Nat) : M := ⟨100000, lim, dn, fs, [(nL, k)], [(nL, k)], []⟩
/-- The journal's first file; its name is pending. -/
def DC (lim : Int) (dn : Bool) (x : Bs) (u : Nat) : M := ⟨100000, lim, dn, [⟨x, u⟩], [(nL, 0)], [], [⟨[], nL, 0⟩]⟩
/-- A new file m stands beside the journal's. -/
def DE (lim : Int) (dn : Bool) (fs : List Fl) (k m : Nat) : M := ⟨100000, lim, dn, fs, [(nL, k), (nW, m)], [(nL, k)], [⟨[], nW, m⟩]⟩
/-- The new file has the journal's name. -/
def DF (lim : Int) (dn : Bool) (fs : List Fl) (k m : Nat) : M := ⟨100000, lim, dn, fs, [(nL, m)], [(nL, k)], [⟨[], nW, m⟩, ⟨nW, nL, m⟩]⟩
def cnt (lim : Int) : Int := if lim = 0 then 0 else if 0 < lim then lim - 1 else lim
theorem counted_cnt (c lim : Int) (fs : List Fl) (a b : Dsk.Dir) (p : List Dsk.Ch) : (⟨c, lim, false, fs, a, b, p⟩ : M).counted = ⟨c, cnt lim, decide (lim = 0), fs, a, b, p⟩ := by
  unfold M.counted cnt
  by_cases h : lim = 0
  · simp [h]
  · by_cases h2 : 0 < lim
    · simp [h, h2]
    · simp [h, h2]
theorem dir2 (k m : Nat) : Dsk.withOne [(nL, k)] (nW, m) = [(nL, k), (nW, m)] := rfl
theorem dir1 (k m : Nat) : Dsk.changed [(nL, k), (nW, m)] ⟨nW, nL, m⟩ = [(nL, m)] := rfl
theorem dir0 (m : Nat) : Dsk.changed [] ⟨[], nL, m⟩ = [(nL, m)] := rfl
theorem dirW (k m : Nat) : Dsk.changed [(nL, k)] ⟨[], nW, m⟩ = [(nL, k), (nW, m)] := rfl
theorem dirR (k m : Nat) : Dsk.changed [(nL, k), (nW, m)] ⟨nW, [], 0⟩ = [(nL, k)] := rfl
theorem dirL (k : Nat) : Dsk.changed [(nL, k)] ⟨nL, [], 0⟩ = [] := rfl
theorem findL (k : Nat) : Dsk.find [(nL, k)] nL = some k := rfl
theorem findW (k : Nat) : Dsk.find [(nL, k)] nW = none := rfl
theorem findL2 (k m : Nat) : Dsk.find [(nL, k), (nW, m)] nL = some k := rfl
theorem findW2 (k m : Nat) : Dsk.find [(nL, k), (nW, m)] nW = some m := rfl
theorem failing_is (c lim : Int) (dn : Bool) (fs : List Fl) (a b : Dsk.Dir) (p : List Dsk.Ch) : (⟨c, lim, dn, fs, a, b, p⟩ : M).failing = decide (lim = 0) := rfl
theorem set_last (fs : List Fl) (f g : Fl) : (fs ++ [f]).set fs.length g = fs ++ [g] := by
  rw [List.set_append_right _ _ (Nat.le_refl _)]; simp
theorem getD_last (fs : List Fl) (f : Fl) : (fs ++ [f]).getD fs.length ⟨[], 0⟩ = f := by
  rw [List.getD_eq_getElem?_getD, List.getElem?_append_right (Nat.le_refl _)]; simp
theorem getD_front (fs : List Fl) (f : Fl) {k : Nat} (hk : k < fs.length) : (fs ++ [f]).getD k ⟨[], 0⟩ = fs.getD k ⟨[], 0⟩ := by
  rw [List.getD_eq_getElem?_getD, List.getD_eq_getElem?_getD, List.getElem?_append_left hk]

section
variable {lim : Int} {fs : List Fl} {k m : Nat} {c x : Bs}
theorem s_append (hc : (fs.getD k ⟨[], 0⟩).bytes.length + c.length ≤ 100000) : (DB lim false fs k).append nW c = (Dsk.outcome (decide (lim = 0)), DE (cnt lim) (decide (lim = 0)) (fs ++ [⟨c, 0⟩]) k fs.length) := by
  have hu : (DB lim false fs k).used = (fs.getD k ⟨[], 0⟩).bytes.length := by simp [M.used, M.len, DB]
  unfold M.append
  rw [hu]
  unfold DB DE
  simp only [Bool.false_eq_true, if_false, isW, Bool.not_true, findW, Option.isNone_none, List.length_cons, List.length_nil, Bool.true_and, failing_is, counted_cnt]
  rw [if_neg (by simp), if_neg (by omega)]
  unfold M.fresh M.apply M.added Dsk.setFile Dsk.addTo
  simp only [dirW, set_last, getD_last, List.nil_append]
theorem s_sync (u : Nat) : (DE lim false (fs ++ [⟨c, u⟩]) k fs.length).sync nW = if lim = 0 then (32, DE (cnt lim) true (fs ++ [⟨c, u⟩]) k fs.length) else (0, DE (cnt lim) false (fs ++ [⟨c, c.length⟩]) k fs.length) := by
  unfold M.sync DE
  simp only [Bool.false_eq_true, if_false, findW2, failing_is, counted_cnt, Dsk.setFile, getD_last, set_last, Dsk.synced]
  by_cases h : lim = 0
  · simp [h]
  · simp [h]
theorem s_rename : (DE lim false fs k m).rename nW nL = (Dsk.outcome (decide (lim = 0)), DF (cnt lim) (decide (lim = 0)) fs k m) := by
  unfold M.rename DE DF
  simp only [Bool.false_eq_true, if_false, findW2, failing_is, counted_cnt, isL, Bool.not_true, M.apply, dir1]
  rfl
theorem s_publish : (DF lim false fs k m).publish = if lim = 0 then (32, DF (cnt lim) true fs k m) else (0, DB (cnt lim) false fs m) := by
  unfold M.publish DF DB
  simp only [Bool.false_eq_true, if_false, failing_is, counted_cnt]
  by_cases h : lim = 0
  · simp [h]
  · simp [h]
theorem c_append (hc : x.length ≤ 100000) : (DA lim false).append nL x = (Dsk.outcome (decide (lim = 0)), DC (cnt lim) (decide (lim = 0)) x 0) := by
  have hu : (DA lim false).used = 0 := rfl
  unfold M.append
  rw [hu]
  unfold DA DC
  simp only [Bool.false_eq_true, if_false, isL, Bool.not_true, List.length_nil, failing_is, counted_cnt]
  rw [if_neg (by simp), if_neg (by omega)]
  rfl
theorem c_sync (u : Nat) : (DC lim false x u).sync nL = if lim = 0 then (32, DC (cnt lim) true x u) else (0, DC (cnt lim) false x x.length) := by
  unfold M.sync DC
  simp only [Bool.false_eq_true, if_false, findL, failing_is, counted_cnt]
  by_cases h : lim = 0
  · simp [h]
  · simp [h, Dsk.setFile, Dsk.synced]
theorem c_publish : (DC lim false x m).publish = if lim = 0 then (32, DC (cnt lim) true x m) else (0, DB (cnt lim) false [⟨x, m⟩] 0) := by
  unfold M.publish DC DB
  simp only [Bool.false_eq_true, if_false, failing_is, counted_cnt]
  by_cases h : lim = 0
  · simp [h]
  · simp [h]
theorem b_append (hc : (fs.getD k ⟨[], 0⟩).bytes.length + c.length ≤ 100000) : (DB lim false fs k).append nL c = (Dsk.outcome (decide (lim = 0)), DB (cnt lim) (decide (lim = 0)) (fs.set k (Dsk.addTo c (fs.getD k ⟨[], 0⟩))) k) := by
  have hu : (DB lim false fs k).used = (fs.getD k ⟨[], 0⟩).bytes.length := by simp [M.used, M.len, DB]
  unfold M.append
  rw [hu]
  unfold DB
  simp only [Bool.false_eq_true, if_false, isL, Bool.not_true, findL, Option.isNone_some, Bool.false_and, failing_is, counted_cnt]
  rw [if_neg (by omega)]
  rfl
theorem b_sync : (DB lim false fs k).sync nL = if lim = 0 then (32, DB (cnt lim) true fs k) else (0, DB (cnt lim) false (fs.set k (Dsk.synced (fs.getD k ⟨[], 0⟩))) k) := by
  unfold M.sync DB
  simp only [Bool.false_eq_true, if_false, findL, failing_is, counted_cnt]
  by_cases h : lim = 0
  · simp [h]
  · simp [h, Dsk.setFile]
theorem out_yes : Dsk.outcome (decide ((0 : Int) = 0)) = 32 := rfl
theorem out_no {l : Int} (h : l ≠ 0) : Dsk.outcome (decide (l = 0)) = 0 := by simp [Dsk.outcome, h]
theorem two_names : newName nm = nW ∧ logName nm = nL := ⟨rfl, rfl⟩
/-- A file is replaced: what comes of it. -/
theorem rep_run (j : J) (hc : (fs.getD k ⟨[], 0⟩).bytes.length + c.length ≤ 100000) :
    (∃ lim', (lim = -1 → lim' = -1) ∧ run (replaceSteps nm c) j (DB lim false fs k) = (0, j, DB lim' false (fs ++ [⟨c, c.length⟩]) fs.length)) ∨
    (lim ≠ -1 ∧ ((∃ lim' u, run (replaceSteps nm c) j (DB lim false fs k) = (32, j.did 32, DE lim' true (fs ++ [⟨c, u⟩]) k fs.length)) ∨
      ∃ lim', run (replaceSteps nm c) j (DB lim false fs k) = (32, j.did 32, DF lim' true (fs ++ [⟨c, c.length⟩]) k fs.length))) := by
  have a1 := s_append (lim := lim) hc
  unfold replaceSteps
  by_cases h1 : lim = 0
  · right
    subst h1
    refine ⟨by decide, .inl ⟨cnt 0, 0, ?_⟩⟩
    rw [run_one (by show (M.append _ nW c).1 ≠ 0; rw [a1]; simp [Dsk.outcome])]
    show ((M.append _ nW c).1, j.did (M.append _ nW c).1, (M.append _ nW c).2) = _
    rw [a1]
    rfl
  rw [run_cons_ok' (d' := DE (cnt lim) false (fs ++ [⟨c, 0⟩]) k fs.length) (by show M.append _ nW c = _; rw [a1, out_no h1]; simp [h1])]
  have a2 := s_sync (lim := cnt lim) (fs := fs) (k := k) (c := c) 0
  by_cases h2 : cnt lim = 0
  · right
    refine ⟨by rintro rfl; revert h2; decide, .inl ⟨cnt (cnt lim), 0, ?_⟩⟩
    rw [if_pos h2] at a2
    rw [run_one (by show (M.sync _ nW).1 ≠ 0; rw [a2]; simp)]
    show ((M.sync _ nW).1, j.did (M.sync _ nW).1, (M.sync _ nW).2) = _
    rw [a2]
  rw [if_neg h2] at a2
  rw [run_cons_ok' (d' := DE (cnt (cnt lim)) false (fs ++ [⟨c, c.length⟩]) k fs.length) (by show M.sync _ nW = _; rw [a2])]
  have a3 := s_rename (lim := cnt (cnt lim)) (fs := fs ++ [⟨c, c.length⟩]) (k := k) (m := fs.length)
  by_cases h3 : cnt (cnt lim) = 0
  · right
    refine ⟨by rintro rfl; revert h3; decide, .inr ⟨cnt (cnt (cnt lim)), ?_⟩⟩
    rw [h3] at a3 ⊢
    rw [run_one (by show (M.rename _ nW nL).1 ≠ 0; rw [a3]; simp [Dsk.outcome])]
    show ((M.rename _ nW nL).1, j.did (M.rename _ nW nL).1, (M.rename _ nW nL).2) = _
    rw [a3]
    rfl
  rw [run_cons_ok' (d' := DF (cnt (cnt (cnt lim))) false (fs ++ [⟨c, c.length⟩]) k fs.length) (by show M.rename _ nW nL = _; rw [a3, out_no h3]; simp [h3])]
  have a4 := s_publish (lim := cnt (cnt (cnt lim))) (fs := fs ++ [⟨c, c.length⟩]) (k := k) (m := fs.length)
  by_cases h4 : cnt (cnt (cnt lim)) = 0
  · right
    refine ⟨by rintro rfl; revert h4; decide, .inr ⟨cnt (cnt (cnt (cnt lim))), ?_⟩⟩
    rw [if_pos h4] at a4
    rw [run_one (by show (M.publish _).1 ≠ 0; rw [a4]; simp)]
    show ((M.publish _).1, j.did (M.publish _).1, (M.publish _).2) = _
    rw [a4]
  left
  rw [if_neg h4] at a4
  refine ⟨cnt (cnt (cnt (cnt lim))), by rintro rfl; decide, ?_⟩
  rw [run_cons_ok' (d' := DB (cnt (cnt (cnt (cnt lim)))) false (fs ++ [⟨c, c.length⟩]) fs.length) (by show M.publish _ = _; rw [a4])]
  rfl
end
end Go.Jnl

/- A journal under the law's acts: what it has behind a failure and a start. No program stands here. -/
set_option maxRecDepth 100000
namespace Go.Jnl
open Go.Dsk (Bs M Fl)

/-! ### two openings -/
/-- The disk can be opened twice: the same journal comes of it, and the second one changes nothing. -/
def Twice (d : M) (f : Nat) (l : List Bs) : Prop :=
  ∃ d2 j1 j2, opened nm d = (0, some j1, d2) ∧ opened nm d2 = (0, some j2, d2) ∧ j1.broken = false ∧ j2.broken = false ∧ j1.first = f ∧ j2.first = f ∧ j1.recs = l ∧ j2.recs = l
theorem twice_none (fs : List Fl) : Twice ⟨100000, -1, false, fs, [], [], []⟩ 1 [] := by
  have h : opened nm ⟨100000, -1, false, fs, [], [], []⟩ = (0, some J.new, ⟨100000, -1, false, fs, [], [], []⟩) := by
    have h1 := opened_none (n := nm) (d := ⟨100000, -1, false, fs, [], [], []⟩) (by decide) rfl (by rw [cleaned_not rfl]) rfl
    rwa [cleaned_not rfl] at h1
  exact ⟨_, _, _, h, h, rfl, rfl, rfl, rfl, rfl, rfl⟩
theorem opened_at {d : M} {k : Nat} {s : Bs} (hd : d.down = false) (hl : Dsk.find d.names nL = some k) (hw : Dsk.find d.names nW = none) (hs : (d.files.getD k ⟨[], 0⟩).bytes = s) : opened nm d = opened2 nm d s := by
  have hc : cleaned nm d = (0, d) := cleaned_not (by show (Dsk.find d.names nW).isSome = false; rw [hw]; rfl)
  have hr : d.read nL = (s, 0) := by unfold M.read; rw [if_neg (by rw [hd]; simp), hl, ← hs]
  rw [opened_some (by decide) hd (by rw [hc]) (by show (Dsk.find d.names nL).isSome = true; rw [hl]; rfl), hc]
  show opened2 nm d (d.read nL).1 = _
  rw [hr]
theorem opened_whole {d : M} {k f : Nat} {s : Bs} {l : List Bs} (hd : d.down = false) (hl : Dsk.find d.names nL = some k) (hw : Dsk.find d.names nW = none) (hs : (d.files.getD k ⟨[], 0⟩).bytes = s) (hsc : scan s = (f, l, s.length)) (h0 : s.length ≠ 0) :
    opened nm d = (0, some (opJ s), d) := by
  rw [opened_at hd hl hw hs]
  exact opened2_all (by rw [hsc]; exact h0) (by rw [hsc]; simp)
theorem twice_whole {d : M} {k f : Nat} {s : Bs} {l : List Bs} (hd : d.down = false) (hl : Dsk.find d.names nL = some k) (hw : Dsk.find d.names nW = none) (hs : (d.files.getD k ⟨[], 0⟩).bytes = s) (hsc : scan s = (f, l, s.length)) (h0 : s.length ≠ 0) : Twice d f l := by
  have h := opened_whole hd hl hw hs hsc h0
  refine ⟨_, _, _, h, h, rfl, rfl, ?_, ?_, ?_, ?_⟩ <;> simp [opJ, hsc]
theorem twice_bytes {fs : List Fl} {k : Nat} {s : Bs} (hf : fs.getD k ⟨[], 0⟩ = ⟨s, s.length⟩) (hs : s.length ≤ 50000) : Twice (DB (-1) false fs k) (scan s).1 (scan s).2.1 := by
  have hb : ((DB (-1) false fs k).files.getD k ⟨[], 0⟩).bytes = s := by show (fs.getD k ⟨[], 0⟩).bytes = s; rw [hf]
  have ho := opened_at (d := DB (-1) false fs k) rfl (findL k) (findW k) hb
  rcases scan_again s with ⟨h0, h1⟩ | ⟨h0, h1, h2⟩
  · have r1 : (DB (-1) false fs k).remove nL = (0, ⟨100000, -1, false, fs, [], [(nL, k)], [⟨nL, [], 0⟩]⟩) := rfl
    have r2 : (⟨100000, -1, false, fs, [], [(nL, k)], [⟨nL, [], 0⟩]⟩ : M).publish = (0, ⟨100000, -1, false, fs, [], [], []⟩) := rfl
    have r := opened2_zero3 (n := nm) (x := s) h0 r1 r2
    obtain ⟨d2, j1, j2, e1, e2, b1, b2, f1, f2, l1, l2⟩ := twice_none fs
    have he : opened nm ⟨100000, -1, false, fs, [], [], []⟩ = (0, some J.new, ⟨100000, -1, false, fs, [], [], []⟩) := by
      have h1 := opened_none (n := nm) (d := ⟨100000, -1, false, fs, [], [], []⟩) (by decide) rfl (by rw [cleaned_not rfl]) rfl
      rwa [cleaned_not rfl] at h1
    refine ⟨_, _, _, ho.trans r, he, rfl, rfl, rfl, ?_, rfl, ?_⟩
    · rw [h1]; rfl
    · rw [h1]; rfl
  · by_cases hl : (scan s).2.2 < s.length
    · have hc : (s.take (scan s).2.2).length = (scan s).2.2 := by rw [List.length_take]; omega
      rcases rep_run (lim := -1) (fs := fs) (k := k) (c := s.take (scan s).2.2) J.new (by rw [hf]; simp only; omega) with ⟨lim', hlim, hr⟩ | ⟨hn, -⟩
      · obtain rfl := hlim rfl
        have r := opened2_part2 (n := nm) h0 hl hr rfl
        have hw : opened nm (DB (-1) false (fs ++ [⟨s.take (scan s).2.2, (s.take (scan s).2.2).length⟩]) fs.length) = _ :=
          opened_whole (k := fs.length) (f := (scan s).1) (l := (scan s).2.1) (s := s.take (scan s).2.2) rfl (findL _) (findW _) (by show ((fs ++ [_]).getD fs.length ⟨[], 0⟩).bytes = _; rw [getD_last]) (by rw [h2, hc]) (by rw [hc]; exact h0)
        refine ⟨_, _, _, ho.trans r, hw, rfl, rfl, rfl, ?_, rfl, ?_⟩ <;> simp [opJ, h2]
      · exact absurd rfl hn
    · have h3 := opened2_all (n := nm) (d := DB (-1) false fs k) h0 hl
      exact ⟨_, _, _, ho.trans h3, ho.trans h3, rfl, rfl, rfl, rfl, rfl, rfl⟩
theorem twice_two {fs : List Fl} {k m f : Nat} {s : Bs} {l : List Bs} (hb : (fs.getD k ⟨[], 0⟩).bytes = s) (hsc : scan s = (f, l, s.length)) (h0 : s.length ≠ 0) : Twice ⟨100000, -1, false, fs, [(nL, k), (nW, m)], [(nL, k), (nW, m)], []⟩ f l := by
  have r1 : cleaned nm ⟨100000, -1, false, fs, [(nL, k), (nW, m)], [(nL, k), (nW, m)], []⟩ = (0, ⟨100000, -1, false, fs, [(nL, k)], [(nL, k), (nW, m)], [⟨nW, [], 0⟩]⟩) := rfl
  have h2 := opened_whole (d := ⟨100000, -1, false, fs, [(nL, k)], [(nL, k), (nW, m)], [⟨nW, [], 0⟩]⟩) rfl (findL k) (findW k) hb hsc h0
  have h1 : opened nm ⟨100000, -1, false, fs, [(nL, k), (nW, m)], [(nL, k), (nW, m)], []⟩ = (0, some (opJ s), ⟨100000, -1, false, fs, [(nL, k)], [(nL, k), (nW, m)], [⟨nW, [], 0⟩]⟩) := by
    have hr : (⟨100000, -1, false, fs, [(nL, k)], [(nL, k), (nW, m)], [⟨nW, [], 0⟩]⟩ : M).read nL = (s, 0) := by rw [← hb]; rfl
    rw [opened_some (by decide) rfl (by rw [r1]) rfl, r1]
    show opened2 nm _ (M.read _ nL).1 = _
    rw [hr]
    exact opened2_all (by rw [hsc]; exact h0) (by rw [hsc]; simp)
  refine ⟨_, _, _, h1, h2, rfl, rfl, ?_, ?_, ?_, ?_⟩ <;> simp [opJ, hsc]

/-! ### behind a failure -/
/-- What the law asks of a disk that has started. -/
def Good2 (first to : Nat) (dur pend : List Bs) (d : M) : Prop :=
  ∃ f l, Twice d f l ∧ (f = first ∨ f = to) ∧ first ≤ f ∧ f - first ≤ dur.length ∧ dur.drop (f - first) <+: l ∧ l <+: dur.drop (f - first) ++ pend
def Lives (first to : Nat) (dur pend : List Bs) (d : M) : Prop := ∀ sc, Good2 first to dur pend (d.crash.start sc)
theorem start_form (c lim : Int) (fs : List Fl) (a b : Dsk.Dir) (pd : List Dsk.Ch) (sc : List Int) :
    ∃ p sc', p ≤ pd.length ∧ (⟨c, lim, true, fs, a, b, pd⟩ : M).start sc = ⟨c, -1, false, (Dsk.startAll fs sc' (Dsk.all b (pd.take p))).1, Dsk.all b (pd.take p), Dsk.all b (pd.take p), []⟩ :=
  ⟨(Dsk.pick sc pd.length).1, (Dsk.pick sc pd.length).2, Dsk.pick_le' _ _, rfl⟩
theorem frames_small : ∀ {l : List Bs}, (∀ r ∈ l, r.length ≤ 100) → (frames l).length ≤ 108 * l.length
  | [], _ => by simp [frames]
  | r :: l, h => by
    have h1 := frames_small (l := l) fun x hx => h x (by simp [hx])
    have h2 := h r (by simp)
    have e : frames (r :: l) = frame r ++ frames l := by simp [frames]
    rw [e, List.length_append, frame_length, List.length_cons]
    omega
theorem frames_append (a b : List Bs) : frames (a ++ b) = frames a ++ frames b := by simp [frames]
theorem content_small {f : Nat} {l : List Bs} (hf : f ≤ 1099511627776) (h : ∀ r ∈ l, r.length ≤ 100) : (content f l).length ≤ 29 + 108 * l.length := by
  have h1 := frames_small h
  have h2 := Lib.itoa_length_le (f : Int) (by omega) (by omega)
  unfold content
  rw [List.length_append, frame_length]
  omega
theorem content_ne (f : Nat) (l : List Bs) : (content f l).length ≠ 0 := by
  unfold content
  rw [List.length_append, frame_length]
  omega
/-- Sizes within the law's. -/
structure Sz (i first : Nat) (dur pend : List Bs) : Prop where
  one : 1 ≤ first
  sum : first + dur.length + pend.length ≤ 1 + i
  most : i ≤ 40
  dl : ∀ r ∈ dur, r.length ≤ 100
  pl : ∀ r ∈ pend, r.length ≤ 100
section
variable {i first to : Nat} {dur pend : List Bs} {lim : Int} {dn : Bool} {fs : List Fl} {k m u : Nat}
theorem lives_A : Lives 1 1 [] pend (DA lim dn) := by
  intro sc
  obtain ⟨p, sc', hp, e⟩ := start_form 100000 lim [] [] [] [] sc
  show Good2 1 1 [] pend ((⟨100000, lim, true, [], [], [], []⟩ : M).start sc)
  rw [e, List.take_nil]
  exact ⟨1, [], twice_none _, .inl rfl, Nat.le_refl _, by simp, by simp, by simp⟩
theorem lives_B (hz : Sz i first dur pend) (hk : k < fs.length) {q : List Bs} (hq : q <+: pend) (hf : fs.getD k ⟨[], 0⟩ = ⟨content first dur ++ frames q, (content first dur).length⟩) : Lives first first dur pend (DB lim dn fs k) := by
  intro sc
  obtain ⟨p, sc', hp, e⟩ := start_form 100000 lim fs [(nL, k)] [(nL, k)] [] sc
  show Good2 first first dur pend ((⟨100000, lim, true, fs, [(nL, k)], [(nL, k)], []⟩ : M).start sc)
  rw [e, List.take_nil]
  show Good2 first first dur pend (DB (-1) false (fs.set k (Dsk.startFile (fs.getD k ⟨[], 0⟩) sc').1) k)
  rw [hf]
  have hz1 := hz.one
  have hz2 := hz.sum
  have hz3 := hz.most
  have hqp : ∀ r ∈ q, r.length ≤ 100 := fun r hr => hz.pl r (hq.subset hr)
  have hd : ∀ r ∈ dur, r.length ≤ 4096 := fun r hr => by have := hz.dl r hr; omega
  have hb := Dsk.startFile_begins (l := content first dur ++ frames q) (d := (content first dur).length) (by simp) sc'
  have hdur := startFile_dur ⟨content first dur ++ frames q, (content first dur).length⟩ sc'
  generalize Dsk.startFile ⟨content first dur ++ frames q, (content first dur).length⟩ sc' = Z at hb hdur ⊢
  obtain ⟨⟨s, v⟩, zz⟩ := Z
  simp only at hb hdur ⊢
  subst hdur
  obtain ⟨t, rfl, ht⟩ := begins_behind hb
  obtain ⟨mm, hm⟩ := recs_near q t (fun r hr => by have := hqp r hr; omega) ht
  have hsc := scan_behind hz1 (by omega) hd t
  rw [hm] at hsc
  have hl1 := content_small (f := first) (by omega) hz.dl
  have hl2 := frames_small hqp
  have hl3 := ht.1
  have hl4 := hq.length_le
  have h2 := twice_bytes (fs := fs.set k ⟨content first dur ++ t, (content first dur ++ t).length⟩) (k := k) (s := content first dur ++ t) (by simp [List.getD_eq_getElem?_getD, hk]) (by rw [List.length_append]; omega)
  rw [hsc] at h2
  refine ⟨_, _, h2, .inl rfl, Nat.le_refl _, by simp, by simp, ?_⟩
  simp only [Nat.sub_self, List.drop_zero]
  exact (List.prefix_append_right_inj dur).2 ((List.take_prefix mm q).trans hq)
theorem lives_C (hz : Sz i 1 [] pend) (hu : u ≤ (content 1 pend).length) : Lives 1 1 [] pend (DC lim dn (content 1 pend) u) := by
  intro sc
  obtain ⟨p, sc', hp, e⟩ := start_form 100000 lim [⟨content 1 pend, u⟩] [(nL, 0)] [] [⟨[], nL, 0⟩] sc
  show Good2 1 1 [] pend ((⟨100000, lim, true, [⟨content 1 pend, u⟩], [(nL, 0)], [], [⟨[], nL, 0⟩]⟩ : M).start sc)
  rw [e]
  have hz2 := hz.sum
  have hz3 := hz.most
  have hp' : p = 0 ∨ p = 1 := by simp only [List.length_cons, List.length_nil] at hp; omega
  rcases hp' with rfl | rfl
  · exact ⟨1, [], twice_none _, .inl rfl, Nat.le_refl _, by simp, by simp, by simp⟩
  · show Good2 1 1 [] pend (DB (-1) false [(Dsk.startFile ⟨content 1 pend, u⟩ sc').1] 0)
    have hb := Dsk.startFile_begins (l := content 1 pend) (d := u) hu sc'
    have hdur := startFile_dur ⟨content 1 pend, u⟩ sc'
    generalize Dsk.startFile ⟨content 1 pend, u⟩ sc' = Z at hb hdur ⊢
    obtain ⟨⟨s, v⟩, zz⟩ := Z
    simp only at hb hdur ⊢
    subst hdur
    obtain ⟨-, -, hn⟩ := begins_near hb
    have hl1 := content_small (f := 1) (l := pend) (by omega) hz.pl
    have hl3 := hn.1
    obtain ⟨h1, mm, hm⟩ := scan_near1 (f := 1) (l := pend) (Nat.le_refl _) (by omega) (fun r hr => by have := hz.pl r hr; omega) hn
    have h2 := twice_bytes (fs := [⟨s, s.length⟩]) (k := 0) (s := s) rfl (by simp only [List.length_nil] at hz2; omega)
    have h3 : (scan s).1 = 1 := by
      rcases h1 with h | h
      · exact h
      · rw [h]
    rw [h3] at h2
    refine ⟨_, _, h2, .inl rfl, Nat.le_refl _, by simp, by simp, ?_⟩
    rw [hm]
    exact List.take_prefix _ _
theorem good_old (d : M) (hd : Twice d first dur) : Good2 first to dur [] d :=
  ⟨_, _, hd, .inl rfl, Nat.le_refl _, by simp, by simp, by simp⟩
theorem whole_scan (hz : Sz i first dur pend) : scan (content first dur) = (first, dur, (content first dur).length) :=
  scan_whole hz.one (by have := hz.sum; have := hz.most; omega) fun r hr => by have := hz.dl r hr; omega
theorem lives_E (hz : Sz i first dur []) (hk : k < fs.length) (hf : fs.getD k ⟨[], 0⟩ = ⟨content first dur, (content first dur).length⟩) : Lives first to dur [] (DE lim dn fs k m) := by
  intro sc
  obtain ⟨p, sc', hp, e⟩ := start_form 100000 lim fs [(nL, k), (nW, m)] [(nL, k)] [⟨[], nW, m⟩] sc
  show Good2 first to dur [] ((⟨100000, lim, true, fs, [(nL, k), (nW, m)], [(nL, k)], [⟨[], nW, m⟩]⟩ : M).start sc)
  rw [e]
  have hkeep := fun l sc => Dsk.startAll_keeps k ⟨content first dur, (content first dur).length⟩ rfl l fs sc hk hf
  have hp' : p = 0 ∨ p = 1 := by simp only [List.length_cons, List.length_nil] at hp; omega
  rcases hp' with rfl | rfl
  · exact good_old _ (twice_whole (s := content first dur) rfl (findL k) (findW k) (by rw [hkeep]) (whole_scan hz) (content_ne _ _))
  · exact good_old _ (twice_two (s := content first dur) (by rw [hkeep]) (whole_scan hz) (content_ne _ _))
theorem lives_F (hz : Sz i first dur []) (ht1 : first ≤ to) (ht2 : to - first ≤ dur.length) (hk : k < fs.length) (hf : fs.getD k ⟨[], 0⟩ = ⟨content first dur, (content first dur).length⟩)
    (hm : m < fs.length) (hg : fs.getD m ⟨[], 0⟩ = ⟨content to (dur.drop (to - first)), (content to (dur.drop (to - first))).length⟩) : Lives first to dur [] (DF lim dn fs k m) := by
  intro sc
  obtain ⟨p, sc', hp, e⟩ := start_form 100000 lim fs [(nL, m)] [(nL, k)] [⟨[], nW, m⟩, ⟨nW, nL, m⟩] sc
  show Good2 first to dur [] ((⟨100000, lim, true, fs, [(nL, m)], [(nL, k)], [⟨[], nW, m⟩, ⟨nW, nL, m⟩]⟩ : M).start sc)
  rw [e]
  have hkeep := fun l sc => Dsk.startAll_keeps k ⟨content first dur, (content first dur).length⟩ rfl l fs sc hk hf
  have hkeep2 := fun l sc => Dsk.startAll_keeps m ⟨content to (dur.drop (to - first)), (content to (dur.drop (to - first))).length⟩ rfl l fs sc hm hg
  have hp' : p = 0 ∨ p = 1 ∨ p = 2 := by simp only [List.length_cons, List.length_nil] at hp; omega
  rcases hp' with rfl | rfl | rfl
  · exact good_old _ (twice_whole (s := content first dur) rfl (findL k) (findW k) (by rw [hkeep]) (whole_scan hz) (content_ne _ _))
  · exact good_old _ (twice_two (s := content first dur) (by rw [hkeep]) (whole_scan hz) (content_ne _ _))
  · have hz1 := hz.one
    have hz2 := hz.sum
    have hz3 := hz.most
    have hs : scan (content to (dur.drop (to - first))) = _ := scan_whole (by omega) (by simp only [List.length_nil] at hz2; omega) fun r hr => by have := hz.dl r (List.mem_of_mem_drop hr); omega
    have h2 := twice_whole (d := ⟨100000, -1, false, (Dsk.startAll fs sc' [(nL, m)]).1, [(nL, m)], [(nL, m)], []⟩) (s := content to (dur.drop (to - first))) rfl (findL m) (findW m) (by rw [hkeep2]) hs (content_ne _ _)
    exact ⟨_, _, h2, .inr rfl, ht1, ht2, by simp, by simp⟩

/-! ### the law's state -/
/-- The journal's file, when nothing failed. -/
def Rests (first : Nat) (dur pend : List Bs) (j : J) (d : M) : Prop :=
  (j = ⟨1, [], pend, false, false⟩ ∧ first = 1 ∧ dur = [] ∧ ∃ lim, d = DA lim false) ∨
  (j = ⟨first, dur, pend, true, false⟩ ∧ ∃ lim fs k, k < fs.length ∧ fs.getD k ⟨[], 0⟩ = ⟨content first dur, (content first dur).length⟩ ∧ d = DB lim false fs k)
/-- What holds throughout the law's acts. -/
structure St (i first : Nat) (dur pend : List Bs) (j : J) (d : M) : Prop where
  sz : Sz i first dur pend
  way : Rests first dur pend j d ∨ (j.broken = true ∧ d.down = true ∧ Lives first first dur pend d)
variable {j : J} {d : M}
theorem Sz.next (h : Sz i first dur pend) (hi : i < 40) : Sz (i + 1) first dur pend := ⟨h.one, by have := h.sum; omega, hi, h.dl, h.pl⟩
theorem St.next (h : St i first dur pend j d) (hi : i < 40) : St (i + 1) first dur pend j d := ⟨h.sz.next hi, h.way⟩
theorem st_new (lim : Int) : St 0 1 [] [] J.new (DA lim false) := ⟨⟨Nat.le_refl _, by simp, by omega, fun r h => (by cases h), fun r h => (by cases h)⟩, .inl (.inl ⟨rfl, rfl, rfl, lim, rfl⟩)⟩
theorem St.lives (h : St i first dur pend j d) : Lives first first dur pend d := by
  rcases h.way with (⟨-, rfl, rfl, lim, rfl⟩ | ⟨-, lim, fs, k, hk, hf, rfl⟩) | h
  · exact lives_A
  · exact lives_B (q := []) h.sz hk (by simp) (by rw [hf]; simp [frames])
  · exact h.2.2
theorem st_append (h : St i first dur pend j d) (hi : i < 40) {r : Bs} (hr : r.length ≤ 100) :
    ((j.append r).2.1 = 0 ∧ St (i + 1) first dur (pend ++ [r]) (j.append r).2.2 d) ∨ ((j.append r).2.1 ≠ 0 ∧ St (i + 1) first dur pend (j.append r).2.2 d) := by
  have hn := h.next hi
  unfold J.append
  split
  · exact .inr ⟨by simp, hn⟩
  rename_i hb
  split
  · exact .inr ⟨by simp, hn⟩
  split
  · exact .inr ⟨by simp, hn⟩
  refine .inl ⟨rfl, ⟨h.sz.one, by have := h.sz.sum; simp only [List.length_append, List.length_cons, List.length_nil]; omega, hi, h.sz.dl, fun x hx => ?_⟩, .inl ?_⟩
  · simp only [List.mem_append, List.mem_cons, List.not_mem_nil, or_false] at hx
    rcases hx with hx | rfl
    · exact h.sz.pl x hx
    · exact hr
  · rcases h.way with (⟨rfl, rfl, rfl, lim, rfl⟩ | ⟨rfl, lim, fs, k, hk, hf, rfl⟩) | h
    · exact .inl ⟨rfl, rfl, rfl, lim, rfl⟩
    · exact .inr ⟨rfl, lim, fs, k, hk, hf, rfl⟩
    · exact absurd h.1 hb
theorem st_discard (h : St i first dur pend j d) (hi : i < 40) :
    (j.discard.1 = 0 ∧ St (i + 1) first dur [] j.discard.2 d) ∨ (j.discard.1 ≠ 0 ∧ St (i + 1) first dur pend j.discard.2 d) := by
  have hn := h.next hi
  unfold J.discard
  split
  · exact .inr ⟨by simp, hn⟩
  rename_i hb
  refine .inl ⟨rfl, ⟨h.sz.one, by have := h.sz.sum; simp only [List.length_nil]; omega, hi, h.sz.dl, fun x hx => (by cases hx)⟩, .inl ?_⟩
  rcases h.way with (⟨rfl, rfl, rfl, lim, rfl⟩ | ⟨rfl, lim, fs, k, hk, hf, rfl⟩) | h
  · exact .inl ⟨rfl, rfl, rfl, lim, rfl⟩
  · exact .inr ⟨rfl, lim, fs, k, hk, hf, rfl⟩
  · exact absurd h.1 hb
theorem content_one (p : List Bs) : J.data ⟨1, [], p, false, false⟩ = content 1 p := rfl
theorem data_one (p : List Bs) : content 1 p = J.data ⟨1, [], p, false, false⟩ := rfl
theorem data_more (f : Nat) (l p : List Bs) : frames p = J.data ⟨f, l, p, true, false⟩ := rfl
theorem did_32 (j : J) : (j.did 32).broken = true := by simp [J.did, bad]
/-- A first commit. -/
theorem run_first (j : J) {x : Bs} (hx : x.length ≤ 100000) :
    (∃ lim', run (commitSteps nm x false) j (DA lim false) = (0, j, DB lim' false [⟨x, x.length⟩] 0)) ∨
    (∃ lim' u, u ≤ x.length ∧ run (commitSteps nm x false) j (DA lim false) = (32, j.did 32, DC lim' true x u)) := by
  have a1 := c_append (lim := lim) hx
  show (∃ lim', run [appends nL x, syncs nL, publishes] j (DA lim false) = (0, j, DB lim' false [⟨x, x.length⟩] 0)) ∨ (∃ lim' u, u ≤ x.length ∧ run [appends nL x, syncs nL, publishes] j (DA lim false) = (32, j.did 32, DC lim' true x u))
  by_cases h1 : lim = 0
  · subst h1
    refine .inr ⟨cnt 0, 0, Nat.zero_le _, ?_⟩
    rw [run_one (by show (M.append _ nL x).1 ≠ 0; rw [a1]; simp [Dsk.outcome])]
    show ((M.append _ nL x).1, j.did (M.append _ nL x).1, (M.append _ nL x).2) = _
    rw [a1]
    rfl
  rw [run_cons_ok' (d' := DC (cnt lim) false x 0) (by show M.append _ nL x = _; rw [a1, out_no h1]; simp [h1])]
  have a2 := c_sync (lim := cnt lim) (x := x) 0
  by_cases h2 : cnt lim = 0
  · refine .inr ⟨cnt (cnt lim), 0, Nat.zero_le _, ?_⟩
    rw [if_pos h2] at a2
    rw [run_one (by show (M.sync _ nL).1 ≠ 0; rw [a2]; simp)]
    show ((M.sync _ nL).1, j.did (M.sync _ nL).1, (M.sync _ nL).2) = _
    rw [a2]
  rw [if_neg h2] at a2
  rw [run_cons_ok' (d' := DC (cnt (cnt lim)) false x x.length) (by show M.sync _ nL = _; rw [a2])]
  have a4 := c_publish (lim := cnt (cnt lim)) (x := x) (m := x.length)
  by_cases h4 : cnt (cnt lim) = 0
  · refine .inr ⟨cnt (cnt (cnt lim)), x.length, Nat.le_refl _, ?_⟩
    rw [if_pos h4] at a4
    rw [run_one (by show (M.publish _).1 ≠ 0; rw [a4]; simp)]
    show ((M.publish _).1, j.did (M.publish _).1, (M.publish _).2) = _
    rw [a4]
  rw [if_neg h4] at a4
  refine .inl ⟨cnt (cnt (cnt lim)), ?_⟩
  rw [run_cons_ok' (d' := DB (cnt (cnt (cnt lim))) false [⟨x, x.length⟩] 0) (by show M.publish _ = _; rw [a4])]
  rfl
/-- A later commit. -/
theorem run_later (j : J) {x y : Bs} (hk : k < fs.length) (hf : fs.getD k ⟨[], 0⟩ = ⟨y, y.length⟩) (hx : y.length + x.length ≤ 100000) :
    (∃ lim' fs', k < fs'.length ∧ fs'.getD k ⟨[], 0⟩ = ⟨y ++ x, (y ++ x).length⟩ ∧ run (commitSteps nm x true) j (DB lim false fs k) = (0, j, DB lim' false fs' k)) ∨
    (∃ lim' fs', k < fs'.length ∧ fs'.getD k ⟨[], 0⟩ = ⟨y ++ x, y.length⟩ ∧ run (commitSteps nm x true) j (DB lim false fs k) = (32, j.did 32, DB lim' true fs' k)) := by
  have a1 := b_append (lim := lim) (fs := fs) (k := k) (c := x) (by rw [hf]; exact hx)
  rw [hf] at a1
  have hg : (fs.set k (Dsk.addTo x ⟨y, y.length⟩)).getD k ⟨[], 0⟩ = ⟨y ++ x, y.length⟩ := by simp [List.getD_eq_getElem?_getD, hk, Dsk.addTo]
  have hl : k < (fs.set k (Dsk.addTo x ⟨y, y.length⟩)).length := by simpa using hk
  generalize fs.set k (Dsk.addTo x ⟨y, y.length⟩) = fs' at a1 hg hl
  show (∃ lim' fs', k < fs'.length ∧ fs'.getD k ⟨[], 0⟩ = ⟨y ++ x, (y ++ x).length⟩ ∧ run [appends nL x, syncs nL] j (DB lim false fs k) = (0, j, DB lim' false fs' k)) ∨ (∃ lim' fs', k < fs'.length ∧ fs'.getD k ⟨[], 0⟩ = ⟨y ++ x, y.length⟩ ∧ run [appends nL x, syncs nL] j (DB lim false fs k) = (32, j.did 32, DB lim' true fs' k))
  by_cases h1 : lim = 0
  · subst h1
    refine .inr ⟨cnt 0, fs', hl, hg, ?_⟩
    rw [run_one (by show (M.append _ nL x).1 ≠ 0; rw [a1]; simp [Dsk.outcome])]
    show ((M.append _ nL x).1, j.did (M.append _ nL x).1, (M.append _ nL x).2) = _
    rw [a1]
    rfl
  rw [run_cons_ok' (d' := DB (cnt lim) false fs' k) (by show M.append _ nL x = _; rw [a1, out_no h1]; simp [h1])]
  have a2 := b_sync (lim := cnt lim) (fs := fs') (k := k)
  rw [hg] at a2
  by_cases h2 : cnt lim = 0
  · refine .inr ⟨cnt (cnt lim), fs', hl, hg, ?_⟩
    rw [if_pos h2] at a2
    rw [run_one (by show (M.sync _ nL).1 ≠ 0; rw [a2]; simp)]
    show ((M.sync _ nL).1, j.did (M.sync _ nL).1, (M.sync _ nL).2) = _
    rw [a2]
  rw [if_neg h2] at a2
  refine .inl ⟨cnt (cnt lim), fs'.set k (Dsk.synced ⟨y ++ x, y.length⟩), by simpa using hl, by simp [List.getD_eq_getElem?_getD, hl, Dsk.synced], ?_⟩
  rw [run_cons_ok' (d' := DB (cnt (cnt lim)) false (fs'.set k (Dsk.synced ⟨y ++ x, y.length⟩)) k) (by show M.sync _ nL = _; rw [a2])]
  rfl
theorem commit_none {n : Bs} (hb : j.broken = false) (hp : j.pend = []) : j.commit n d = (j.last, 0, j, d) := by
  unfold J.commit
  rw [if_neg (by rw [hb]; simp), if_pos hp]
theorem commit_is {n : Bs} (hb : j.broken = false) (hp : j.pend ≠ []) {Z : Int × J × M} (hZ : run (commitSteps n j.data j.has) j d = Z) :
    j.commit n d = if Z.1 = 0 then ((j.first : Int) + (j.recs ++ j.pend).length - 1, 0, { j with recs := j.recs ++ j.pend, pend := [], has := true }, Z.2.2) else (0, Z.1, Z.2.1, Z.2.2) := by
  subst hZ
  unfold J.commit
  rw [if_neg (by rw [hb]; simp), if_neg hp]
theorem content_more (f : Nat) (a b : List Bs) : content f a ++ frames b = content f (a ++ b) := by unfold content; rw [frames_append, List.append_assoc]
theorem sz_commit (h : Sz i first dur pend) (hi : i < 40) : Sz (i + 1) first (dur ++ pend) [] := by
  refine ⟨h.one, by have := h.sum; simp only [List.length_append, List.length_nil]; omega, hi, fun r hr => ?_, fun r hr => (by cases hr)⟩
  simp only [List.mem_append] at hr
  rcases hr with hr | hr
  · exact h.dl r hr
  · exact h.pl r hr
theorem st_commit (h : St i first dur pend j d) (hi : i < 40) :
    ((j.commit nm d).2.1 = 0 ∧ (j.commit nm d).1 = (first : Int) + (dur ++ pend).length - 1 ∧ St (i + 1) first (dur ++ pend) [] (j.commit nm d).2.2.1 (j.commit nm d).2.2.2) ∨
    ((j.commit nm d).2.1 ≠ 0 ∧ St (i + 1) first dur pend (j.commit nm d).2.2.1 (j.commit nm d).2.2.2) := by
  have hn := h.next hi
  have hsum := h.sz.sum
  rcases h.way with hr | hr
  rotate_left
  · refine .inr ?_
    unfold J.commit
    rw [if_pos hr.1]
    exact ⟨by simp, hn⟩
  by_cases hp : pend = []
  · subst hp
    left
    have hj : j.broken = false ∧ j.pend = [] ∧ j.last = (first : Int) + dur.length - 1 := by
      rcases hr with ⟨e, e1, e2, -⟩ | ⟨e, -⟩
      · rw [e, e1, e2]
        exact ⟨rfl, rfl, by simp [J.last]⟩
      · rw [e]
        exact ⟨rfl, rfl, by simp [J.last]⟩
    rw [commit_none hj.1 hj.2.1, List.append_nil]
    exact ⟨rfl, hj.2.2, hn⟩
  · rcases hr with ⟨rfl, rfl, rfl, lim, rfl⟩ | ⟨rfl, lim, fs, k, hk, hf, rfl⟩
    · have hs := content_small (f := 1) (l := pend) (by omega) h.sz.pl
      simp only [List.length_nil] at hsum
      have hs2 : (content 1 pend).length ≤ 100000 := by omega
      rcases run_first (lim := lim) ⟨1, [], pend, false, false⟩ hs2 with ⟨lim', e⟩ | ⟨lim', u, hu, e⟩
      · rw [commit_is (j := ⟨1, [], pend, false, false⟩) (Z := (0, ⟨1, [], pend, false, false⟩, DB lim' false [⟨content 1 pend, (content 1 pend).length⟩] 0)) rfl hp (by rw [← data_one]; exact e), if_pos rfl]
        exact .inl ⟨rfl, by simp, ⟨sz_commit h.sz hi, .inl (.inr ⟨rfl, lim', _, 0, by simp, rfl, rfl⟩)⟩⟩
      · rw [commit_is (j := ⟨1, [], pend, false, false⟩) (Z := (32, J.did ⟨1, [], pend, false, false⟩ 32, DC lim' true (content 1 pend) u)) rfl hp (by rw [← data_one]; exact e), if_neg (by simp)]
        exact .inr ⟨by simp, ⟨hn.sz, .inr ⟨did_32 _, rfl, lives_C h.sz hu⟩⟩⟩
    · have hs := content_small (f := first) (by have := h.sz.most; omega) h.sz.dl
      have hs3 := frames_small h.sz.pl
      have hs4 := h.sz.most
      rcases run_later (lim := lim) ⟨first, dur, pend, true, false⟩ (x := frames pend) hk hf (by omega) with ⟨lim', fs', hk', hf', e⟩ | ⟨lim', fs', hk', hf', e⟩
      · rw [commit_is (j := ⟨first, dur, pend, true, false⟩) (Z := (0, ⟨first, dur, pend, true, false⟩, DB lim' false fs' k)) rfl hp (by rw [← data_more]; exact e), if_pos rfl]
        rw [content_more] at hf'
        exact .inl ⟨rfl, by simp, ⟨sz_commit h.sz hi, .inl (.inr ⟨rfl, lim', fs', k, hk', hf', rfl⟩)⟩⟩
      · rw [commit_is (j := ⟨first, dur, pend, true, false⟩) (Z := (32, J.did ⟨first, dur, pend, true, false⟩ 32, DB lim' true fs' k)) rfl hp (by rw [← data_more]; exact e), if_neg (by simp)]
        exact .inr ⟨by simp, ⟨hn.sz, .inr ⟨did_32 _, rfl, lives_B h.sz hk' (List.prefix_refl pend) hf'⟩⟩⟩
theorem cut_is {n : Bs} {f : Int} (hb : j.broken = false) (hp : j.pend = []) (h1 : ¬ (f < j.first ∨ j.last + 1 < f)) (h2 : ¬ 1099511627776 < f) (h3 : f ≠ j.first) {Z : Int × J × M} (hZ : run (replaceSteps n (content f.toNat (j.recs.drop (f - j.first).toNat))) j d = Z) :
    j.cut n d f = if Z.1 = 0 then (0, { j with first := f.toNat, recs := j.recs.drop (f - j.first).toNat }, Z.2.2) else Z := by
  subst hZ
  unfold J.cut
  rw [if_neg (by rw [hb]; simp), if_neg (by rw [hp]; simp), if_neg h1, if_neg h2, if_neg h3]
theorem st_cut (h : St i first dur [] j d) (hi : i < 40) (ht1 : first ≤ to) (ht2 : to ≤ first + dur.length) :
    ((j.cut nm d to).1 = 0 ∧ (j.cut nm d to).2.2.down = false ∧ St (i + 1) to (dur.drop (to - first)) [] (j.cut nm d to).2.1 (j.cut nm d to).2.2) ∨
    ((j.cut nm d to).1 = 32 ∧ (j.cut nm d to).2.2.down = true ∧ Lives first to dur [] (j.cut nm d to).2.2) ∨
    ((j.cut nm d to).1 = 18 ∧ (j.cut nm d to).2.2.down = true ∧ St (i + 1) first dur [] (j.cut nm d to).2.1 (j.cut nm d to).2.2) := by
  have hn := h.next hi
  have hsum := h.sz.sum
  have hone := h.sz.one
  have hmost := h.sz.most
  simp only [List.length_nil] at hsum
  rcases h.way with hr | hr
  rotate_left
  · refine .inr (.inr ?_)
    unfold J.cut
    rw [if_pos hr.1]
    exact ⟨rfl, hr.2.1, hn⟩
  rcases hr with ⟨rfl, rfl, rfl, lim, rfl⟩ | ⟨rfl, lim, fs, k, hk, hf, rfl⟩
  · obtain rfl : to = 1 := by simp only [List.length_nil] at ht2; omega
    exact .inl ⟨rfl, rfl, hn⟩
  · have hl : J.last ⟨first, dur, [], true, false⟩ = (first : Int) + dur.length - 1 := rfl
    by_cases he : to = first
    · subst he
      have e : J.cut nm ⟨to, dur, [], true, false⟩ (DB lim false fs k) to = (0, ⟨to, dur, [], true, false⟩, DB lim false fs k) := by
        unfold J.cut
        rw [if_neg (by simp), if_neg (by simp), hl]
        simp only
        rw [if_neg (by omega), if_neg (by omega)]
        simp
      rw [e]
      refine .inl ⟨rfl, rfl, ?_⟩
      simp only [Nat.sub_self, List.drop_zero]
      exact hn
    · have hx1 : ((to : Int)).toNat = to := by omega
      have hx2 : ((to : Int) - (first : Int)).toNat = to - first := by omega
      have hdl : ∀ r ∈ dur.drop (to - first), r.length ≤ 100 := fun r hr => h.sz.dl r (List.mem_of_mem_drop hr)
      have hs1 := content_small (f := first) (by omega) h.sz.dl
      have hs2 := content_small (f := to) (by omega) hdl
      rw [List.length_drop] at hs2
      have hsz : Sz (i + 1) to (dur.drop (to - first)) [] := ⟨by omega, by rw [List.length_drop, List.length_nil]; omega, hi, hdl, fun r hr => (by cases hr)⟩
      have hci : ∀ {Z : Int × J × M}, run (replaceSteps nm (content to (dur.drop (to - first)))) ⟨first, dur, [], true, false⟩ (DB lim false fs k) = Z → J.cut nm ⟨first, dur, [], true, false⟩ (DB lim false fs k) to = if Z.1 = 0 then (0, ⟨to, dur.drop (to - first), [], true, false⟩, Z.2.2) else Z := fun hZ => by
        subst hZ
        have := cut_is (n := nm) (f := (to : Int)) (j := ⟨first, dur, [], true, false⟩) (d := DB lim false fs k) rfl rfl (by rw [hl]; show ¬((to : Int) < (first : Int) ∨ (first : Int) + dur.length - 1 + 1 < (to : Int)); omega) (by omega) (by show (to : Int) ≠ (first : Int); omega) rfl
        rw [hx1] at this
        simp only [hx2] at this
        exact this
      rcases rep_run (lim := lim) (fs := fs) (k := k) (c := content to (dur.drop (to - first))) ⟨first, dur, [], true, false⟩ (by rw [hf]; simp only; omega) with ⟨lim', -, e⟩ | ⟨-, ⟨lim', u, e⟩ | ⟨lim', e⟩⟩
      · rw [hci e, if_pos rfl]
        exact .inl ⟨rfl, rfl, ⟨hsz, .inl (.inr ⟨rfl, lim', _, fs.length, by simp, getD_last _ _, rfl⟩)⟩⟩
      · rw [hci e, if_neg (by simp)]
        exact .inr (.inl ⟨rfl, rfl, lives_E h.sz (by simp; omega) (by rw [getD_front _ _ hk, hf])⟩)
      · rw [hci e, if_neg (by simp)]
        exact .inr (.inl ⟨rfl, rfl, lives_F h.sz ht1 (by omega) (by simp; omega) (by rw [getD_front _ _ hk, hf]) (by simp) (getD_last _ _)⟩)
end
end Go.Jnl
