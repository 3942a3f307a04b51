/- A change of the names: carried out, and noted as pending. -/
import Derived.Test.YtlhnjdoicolkkaaGreatDoorSmall
import Derived.StillTailTactics
set_option maxRecDepth 100000
namespace Go.Proofs.YtlhnjdoicolkkaaGreatDoor
open Go.RowKit Go.Dsk Go.Maps Go.WideMaps
set_option maxHeartbeats 400000

theorem cell?_alloc_lt {w : World} {b i : Nat} {o : Obj} (h : b < w.heap.size) : (w.alloc o).cell? ⟨b, i, none⟩ = w.cell? ⟨b, i, none⟩ := World.cell?_of_block (w := w) (Below.heap_alloc w o b h)
theorem frozen?_alloc_lt {w : World} {b i : Nat} {o : Obj} (h : b < w.heap.size) : (w.alloc o).frozen? ⟨b, i, none⟩ = w.frozen? ⟨b, i, none⟩ := World.frozen?_of_block (w := w) (Below.heap_alloc w o b h)
theorem infoCh : (Tryz.prog.info? 108).map (fun i => (i.zero, i.size, i.bytes)) = some (some (.agg #[.pointer none, .nilFunc]), 2, 16) := by kernel_rfl

section
variable {loc : Nat → Nat} {S : Nat → Prop} {w : World} {bd bn bm : Nat} {sl : Value} {bs : List (Nat × Nat)} {lft : Int} {m : M}

/-- .. with the files where they were. -/
def AfterAt (loc : Nat → Nat) (S : Nat → Prop) (w : World) (bd : Nat) (m' : M) (w' : World) : Prop := ∃ S', (∀ i, S' i → S i ∨ w.heap.size ≤ i) ∧ (∃ bn bm sl bs lft, Rep loc S' w' bd bn bm sl bs lft m') ∧ Fr S w w'
theorem AfterAt.after {loc : Nat → Nat} {S : Nat → Prop} {w : World} {bd : Nat} {m' : M} {w' : World} (h : AfterAt loc S w bd m' w') : After S w bd m' w' := by
  obtain ⟨S', h1, ⟨bn, bm, sl, bs, lft, h2⟩, h3⟩ := h
  exact ⟨S', h1, ⟨_, _, _, _, _, _, h2⟩, h3⟩

/-- Behind the steps of a change the disk is the changed one. -/
theorem Rep.applied (h : Rep loc S w bd bn bm sl bs lft m) {c : Ch} {b : Nat × Nat} {wa w1 w2 : World} {o : Obj} {g cp : Nat} {news : List Value} (hc : ChOk m.files.length m.names c) (hv : news = chV loc c b) (hbx : chBoxes w c b)
    (hbl : Fr (fun _ => False) w wa) (hd1 : DirAt loc w1 bn (changed m.names c)) (hg1 : wa.grownBy w1 (some bn)) (hs1 : w1.heap.size = wa.heap.size)
    (hown2 : w2.ownsRow 0 108 2 (.slice (some ⟨g, 0, none⟩) (m.pending.length + 1) cp) (m.pending.length + 1) (((m.pending.zip bs).flatMap fun p => chV loc p.1 p.2) ++ news)) (hg2 : (w1.alloc o).grownBy w2 sl.ownBlock) (hat : sl.ownBlock = some g ∨ w1.heap.size ≤ g) :
    AfterAt loc S w bd (m.apply c) (w2.setCell ⟨bd, 3, none⟩ (.slice (some ⟨g, 0, none⟩) (m.pending.length + 1) cp)) := by
  have hsz1 : w.heap.size ≤ w1.heap.size := by rw [hs1]; exact hbl.size
  have hsz2 : w1.heap.size + 1 ≤ w2.heap.size := by have := hg2.size; simpa using this
  obtain ⟨cur, hcur⟩ := row_block hown2 (j := g) rfl
  -- a block that is none of the three is as it was
  have ho2 : ∀ i, i < w.heap.size → i ≠ bn → sl.ownBlock ≠ some i → w2.heap[i]? = w.heap[i]? := fun i hi h2 h3 => by
    rw [hg2.block i (by simp; omega) (fun e => h3 e.symm), Below.heap_alloc _ _ _ (by omega), hg1.block i (by have := hbl.size; omega) (fun e => h2 (by simpa using e))]
    exact hbl.block i hi (.inl id)
  have hbd := lt_of_block h.hd
  have hd2 : w2.heap[bd]? = some (.cells (diskCells m bn bm sl lft) 99 (0, 0)) := (ho2 bd hbd h.bdn.symm (fun e => h.bdp e rfl)).trans h.hd
  have hgd : g ≠ bd := by rintro rfl; rw [hcur] at hd2; simp at hd2
  have hn2 : DirAt loc w2 bn (changed m.names c) := hd1.same (by
    rw [hg2.block bn (by have := hd1.lt; simp; omega) (fun e => by
      obtain ⟨cu, hcu⟩ := row_block h.hp.row e.symm
      exact h.hn.noRow hcu rfl), Below.heap_alloc _ _ _ hd1.lt])
  have hgn : g ≠ bn := fun e => hn2.noRow hcur e.symm
  have hfr2 : Fr S w w2 := by
    have f1 : Fr S w w1 := (hbl.mono (fun _ => False.elim)).grown hg1 (.inl h.sn) ((h.hn.same (hbl.block bn h.hn.lt (.inl id))).noBox)
    have f2 := f1.alloc o
    refine ⟨hg2.os.trans f2.os, hg2.tape.trans f2.tape, hg2.output.trans f2.output, Nat.le_trans f2.size hg2.size, fun i hi hn => ?_⟩
    rw [hg2.block i (Nat.lt_of_lt_of_le hi f2.size) (fun e => by
      rcases hn with hn | hn
      · exact hn (h.sp i e.symm)
      · obtain ⟨cu, hcu⟩ := row_block h.hp.row e.symm
        obtain ⟨s, hs⟩ := hn
        rw [hcu] at hs; simp at hs)]
    exact f2.block i hi hn
  have hfr : Fr S w (w2.setCell ⟨bd, 3, none⟩ (.slice (some ⟨g, 0, none⟩) (m.pending.length + 1) cp)) := hfr2.setCell (.inl h.sd) (by rintro ⟨s, hs⟩; rw [hd2] at hs; simp at hs) _
  have ho : ∀ i, i ≠ bd → (w2.setCell ⟨bd, 3, none⟩ (.slice (some ⟨g, 0, none⟩) (m.pending.length + 1) cp)).heap[i]? = w2.heap[i]? := fun i hi => block_other hi _
  refine ⟨fun i => S i ∨ i = g, ?_, ⟨bn, bm, .slice (some ⟨g, 0, none⟩) (m.pending.length + 1) cp, bs ++ [b], lft, ?_⟩, hfr⟩
  · rintro i (hi | rfl)
    · exact .inl hi
    · rcases hat with e | e
      · exact .inl (h.sp _ e)
      · exact .inr (by omega)
  · refine ⟨?_, .inl h.sd, .inl h.sn, .inl h.sm, h.ne, ?_, h.hl, ?_, ?_, ?_, ?_, ?_, h.inj, apply_ok h.ok hc⟩
    · rintro i (hi | rfl)
      · exact Nat.lt_of_lt_of_le (h.lt i hi) hfr.size
      · have := lt_of_block hcur; simpa [World.setCell] using this
    · rw [block_set hd2]; rfl
    · exact hn2.same (ho _ h.bdn)
    · refine h.hm.same ((ho _ h.bdm).trans (ho2 bm h.hm.lt h.ne.symm (fun e => ?_)))
      obtain ⟨cu, hcu⟩ := row_block h.hp.row e
      exact h.hm.noRow hcu rfl
    · refine ⟨by simp [M.apply, h.hp.len], ?_, ?_⟩
      · refine row_same ?_ (fun j hj => ho j (by simp [Value.ownBlock] at hj; omega))
        have e : (((m.apply c).pending.zip (bs ++ [b])).flatMap fun p => chV loc p.1 p.2) = ((m.pending.zip bs).flatMap fun p => chV loc p.1 p.2) ++ news := by
          simp only [M.apply]
          rw [List.zip_append (by rw [h.hp.len])]
          simp [hv]
        rw [e]
        simpa [M.apply] using hown2
      · intro p hp
        simp only [M.apply] at hp
        rw [List.zip_append (by rw [h.hp.len])] at hp
        rcases List.mem_append.1 hp with hp | hp
        · exact chBoxes_same hfr (h.hp.box p hp)
        · simp at hp; subst hp; exact chBoxes_same hfr hbx
    · intro j hj; simp [Value.ownBlock] at hj; exact .inr hj.symm
    · intro k hk
      have hk' : k < m.files.length := hk
      refine ⟨.inl (h.hf k hk').1, ?_⟩
      have hne : loc k ≠ bn := fun e => h.hn.noRow (h.hf k hk').2 e.symm
      exact ((ho _ (h.bdf hk')).trans (ho2 _ (h.lt _ (h.hf k hk').1) hne (fun e => h.fp e hk' rfl))).trans (h.hf k hk').2

theorem change_set (h : Rep loc S w bd bn bm sl bs lft m) (n : Bs) (k b : Nat) (hbx : box w b n) (hc : ChOk m.files.length m.names ⟨[], n, k⟩) (hwt : m.wt < 1073741824) :
    Calls Tryz.prog 97 #[.pointer (some ⟨bd, 0, none⟩), .agg #[.pointer (some ⟨loc k, 0, none⟩), .func (.func 123) #[] #[.pointer (some ⟨b, 0, none⟩)]]] w fun e w' => e = .returned (.tuple #[]) ∧ AfterAt loc S w bd (m.apply ⟨[], n, k⟩) w' := by
  have h1 := h.c1
  have hbd := lt_of_block h.hd
  have hne : n ≠ [] := hc.2.2.1 rfl
  have hnl : n.length ≤ maxLen := by have : n.length ≤ 40 := isName_len (hc.2.1.resolve_left hne); unfold maxLen; omega
  have hml : m.names.length < maxLen := by have := names_length h.ok; unfold maxLen; omega
  have hpl : m.pending.length + 1 ≤ maxLen := by unfold M.wt at hwt; unfold maxLen; omega
  have hpb : (m.pending.length + 1) * 16 ≤ 140737488355328 := by unfold M.wt at hwt; omega
  have hsb : ¬ some bd = sl.ownBlock := fun e => h.bdp e.symm rfl
  have hbn := h.hn.lt
  have H := Lib.hid h
  clear h
  go_enter Tryz.func97, Tryz.ntmps97
  go_wp2
  generalize hq : w.heap.size = q at hbd hbn
  have hbl := Fr.alloc (S := fun _ => False) (Fr.refl _ w) (.cells #[.pointer (some ⟨loc k, 0, none⟩), .func (.func 123) #[] #[.pointer (some ⟨b, 0, none⟩)]] 108)
  have hnw := heap_alloc_new w (.cells #[.pointer (some ⟨loc k, 0, none⟩), .func (.func 123) #[] #[.pointer (some ⟨b, 0, none⟩)]] 108)
  rw [hq] at hnw
  generalize w.alloc (.cells #[.pointer (some ⟨loc k, 0, none⟩), .func (.func 123) #[] #[.pointer (some ⟨b, 0, none⟩)]] 108) = w0 at *
  have H0 := Lib.hid (H.out.keep hbl (fun _ _ => id))
  have q0 := block_cell hnw 0
  have q1 := block_cell hnw 1
  have g1 := H0.out.c1
  simp at q0 q1
  clear h1
  go_still_tail 8, (by kernel_rfl)
  change wpList _ _ _ _ _ w0.drew
  have hbl1 := hbl.drew
  have hnw1 : w0.drew.heap[q]? = _ := hnw
  generalize w0.drew = wa at *
  clear q0 q1 g1 H0 hbl hnw
  have H0 := Lib.hid (H.out.keep hbl1 (fun _ _ => id))
  go_wp2_with (go_at_call 123; refine (setF_any loc b bn k m.names ⟨n.toArray⟩ (by rw [size_mk]; exact hnl) hml wa (cell_of_one (box_same hbl1 hbx)) H0.out.hn).mono ?_; rintro e w1 ⟨rfl, hd1, hg1, hs1⟩)
  have hbd1 : bd < w1.heap.size := by have := hg1.size; have := hbl1.size; omega
  have e3 := (World.cell?_of_block (a := ⟨bd, 3, none⟩) (hg1.block bd (lt_of_block H0.out.hd) (by simpa using H0.out.bdn.symm))).trans H0.out.c3
  have e4 := (World.frozen?_of_block (a := ⟨bd, 3, none⟩) (hg1.block bd (lt_of_block H0.out.hd) (by simpa using H0.out.bdn.symm))).trans (H0.out.fr 3)
  have eq := (hg1.block q (lt_of_block hnw1) (by simp; omega)).trans hnw1
  have p0 := block_cell eq 0
  have p1 := block_cell eq 1
  simp at p0 p1
  have hrow1 : w1.ownsRow 0 108 2 sl m.pending.length ((m.pending.zip bs).flatMap fun p => chV loc p.1 p.2) :=
    row_same H0.out.hp.row (fun j hj => hg1.block j (by obtain ⟨cu, hcu⟩ := row_block H0.out.hp.row hj; exact lt_of_block hcu) (fun e => by
      obtain ⟨cu, hcu⟩ := row_block H0.out.hp.row hj
      exact H0.out.hn.noRow hcu (by simpa using e.symm)))
  obtain ⟨i0, hi, hz0, hz1, hz2⟩ := info_parts infoCh
  have HS1 := Lib.hid hs1
  have HD1 := Lib.hid hd1
  clear hs1 hd1 hbd hbn hnw1 eq
  have HBL := Lib.hid hbl1
  clear hbl1
  have e3a : ∀ o, (w1.alloc o).cell? ⟨bd, 3, none⟩ = some sl := fun o => (cell?_alloc_lt hbd1).trans e3
  go_region_law (refine step_append_lies _ rfl (.tmp 17) (.tmp 19) 97 rfl 0 108 i0 _ 2 16 Tryz.underlying97 hi hz0 hz1 hz2 rfl (by decide) sl m.pending.length _ (by simp [Act.eval]) (hrow1.alloc (.cells #[.pointer (some ⟨loc k, 0, none⟩), .func (.func 123) #[] #[.pointer (some ⟨b, 0, none⟩)]] 108)) ⟨w1.heap.size, 0, none⟩ 1 1 [.pointer (some ⟨loc k, 0, none⟩), .func (.func 123) #[] #[.pointer (some ⟨b, 0, none⟩)]] (by simp [Act.eval]) rfl (World.news_of_block (heap_alloc_new w1 _)) (by simp [Value.oneCell']) (by decide) hpl hpb (Nat.zero_le _) _ rfl ?_; intro g cp w2 hown2 hg2 hat2 hlt2; have e5 := (hg2.cell_far ⟨bd, 3, none⟩ (by simpa using Nat.lt_succ_of_lt hbd1) (by simpa using hsb)).trans ((cell?_alloc_lt hbd1).trans e3); have e6 := (hg2.frozen_far ⟨bd, 3, none⟩ (by simpa using Nat.lt_succ_of_lt hbd1) (by simpa using hsb)).trans ((frozen?_alloc_lt hbd1).trans e4))
  all_goals
    go_end0
    exact ⟨rfl, H.out.applied (o := .cells #[.pointer (some ⟨loc k, 0, none⟩), .func (.func 123) #[] #[.pointer (some ⟨b, 0, none⟩)]] 108) (b := (b, 0)) hc (by simp [chV]) (by simpa [chBoxes] using hbx) HBL.out (by rw [show changed m.names ⟨[], n, k⟩ = withOne m.names (n, k) by simp [changed, hne]]; exact HD1.out) hg1 HS1.out hown2 ⟨hg2.os, hg2.tape, hg2.output, hg2.size, hg2.block⟩ (hat2.imp id (fun e => by rw [e]; simp))⟩

theorem change_remove (h : Rep loc S w bd bn bm sl bs lft m) (n : Bs) (b : Nat) (hne : n ≠ []) (hbx : box w b n) (hc : ChOk m.files.length m.names ⟨n, [], 0⟩) (hwt : m.wt < 1073741824) :
    Calls Tryz.prog 97 #[.pointer (some ⟨bd, 0, none⟩), .agg #[.pointer none, .func (.func 125) #[] #[.pointer (some ⟨b, 0, none⟩)]]] w fun e w' => e = .returned (.tuple #[]) ∧ AfterAt loc S w bd (m.apply ⟨n, [], 0⟩) w' := by
  have h1 := h.c1
  have hbd := lt_of_block h.hd
  have hnl : n.length ≤ maxLen := by have : n.length ≤ 40 := isName_len (hc.1.resolve_left hne); unfold maxLen; omega
  have hml : m.names.length < maxLen := by have := names_length h.ok; unfold maxLen; omega
  have hpl : m.pending.length + 1 ≤ maxLen := by unfold M.wt at hwt; unfold maxLen; omega
  have hpb : (m.pending.length + 1) * 16 ≤ 140737488355328 := by unfold M.wt at hwt; omega
  have hsb : ¬ some bd = sl.ownBlock := fun e => h.bdp e.symm rfl
  have hbn := h.hn.lt
  have H := Lib.hid h
  clear h
  go_enter Tryz.func97, Tryz.ntmps97
  go_wp2
  generalize hq : w.heap.size = q at hbd hbn
  have hbl := Fr.alloc (S := fun _ => False) (Fr.refl _ w) (.cells #[.pointer none, .func (.func 125) #[] #[.pointer (some ⟨b, 0, none⟩)]] 108)
  have hnw := heap_alloc_new w (.cells #[.pointer none, .func (.func 125) #[] #[.pointer (some ⟨b, 0, none⟩)]] 108)
  rw [hq] at hnw
  generalize w.alloc (.cells #[.pointer none, .func (.func 125) #[] #[.pointer (some ⟨b, 0, none⟩)]] 108) = w0 at *
  have H0 := Lib.hid (H.out.keep hbl (fun _ _ => id))
  have q0 := block_cell hnw 0
  have q1 := block_cell hnw 1
  have g1 := H0.out.c1
  simp at q0 q1
  clear h1
  go_still_tail 8, (by kernel_rfl)
  change wpList _ _ _ _ _ w0.drew
  have hbl1 := hbl.drew
  have hnw1 : w0.drew.heap[q]? = _ := hnw
  generalize w0.drew = wa at *
  clear q0 q1 g1 H0 hbl hnw
  have H0 := Lib.hid (H.out.keep hbl1 (fun _ _ => id))
  go_wp2_with (go_at_call 125; refine (removeF_any loc b bn m.names ⟨n.toArray⟩ (by rw [size_mk]; exact hnl) wa (cell_of_one (box_same hbl1 hbx)) H0.out.hn).mono ?_; rintro e w1 ⟨rfl, hd1, hg1, hs1⟩)
  have hbd1 : bd < w1.heap.size := by have := hg1.size; have := hbl1.size; omega
  have e3 := (World.cell?_of_block (a := ⟨bd, 3, none⟩) (hg1.block bd (lt_of_block H0.out.hd) (by simpa using H0.out.bdn.symm))).trans H0.out.c3
  have e4 := (World.frozen?_of_block (a := ⟨bd, 3, none⟩) (hg1.block bd (lt_of_block H0.out.hd) (by simpa using H0.out.bdn.symm))).trans (H0.out.fr 3)
  have eq := (hg1.block q (lt_of_block hnw1) (by simp; omega)).trans hnw1
  have p0 := block_cell eq 0
  have p1 := block_cell eq 1
  simp at p0 p1
  have hrow1 : w1.ownsRow 0 108 2 sl m.pending.length ((m.pending.zip bs).flatMap fun p => chV loc p.1 p.2) :=
    row_same H0.out.hp.row (fun j hj => hg1.block j (by obtain ⟨cu, hcu⟩ := row_block H0.out.hp.row hj; exact lt_of_block hcu) (fun e => by
      obtain ⟨cu, hcu⟩ := row_block H0.out.hp.row hj
      exact H0.out.hn.noRow hcu (by simpa using e.symm)))
  obtain ⟨i0, hi, hz0, hz1, hz2⟩ := info_parts infoCh
  have HS1 := Lib.hid hs1
  have HD1 := Lib.hid hd1
  clear hs1 hd1 hbd hbn hnw1 eq
  have HBL := Lib.hid hbl1
  clear hbl1
  have e3a : ∀ o, (w1.alloc o).cell? ⟨bd, 3, none⟩ = some sl := fun o => (cell?_alloc_lt hbd1).trans e3
  go_region_law (refine step_append_lies _ rfl (.tmp 17) (.tmp 19) 97 rfl 0 108 i0 _ 2 16 Tryz.underlying97 hi hz0 hz1 hz2 rfl (by decide) sl m.pending.length _ (by simp [Act.eval]) (hrow1.alloc (.cells #[.pointer none, .func (.func 125) #[] #[.pointer (some ⟨b, 0, none⟩)]] 108)) ⟨w1.heap.size, 0, none⟩ 1 1 [.pointer none, .func (.func 125) #[] #[.pointer (some ⟨b, 0, none⟩)]] (by simp [Act.eval]) rfl (World.news_of_block (heap_alloc_new w1 _)) (by simp [Value.oneCell']) (by decide) hpl hpb (Nat.zero_le _) _ rfl ?_; intro g cp w2 hown2 hg2 hat2 hlt2; have e5 := (hg2.cell_far ⟨bd, 3, none⟩ (by simpa using Nat.lt_succ_of_lt hbd1) (by simpa using hsb)).trans ((cell?_alloc_lt hbd1).trans e3); have e6 := (hg2.frozen_far ⟨bd, 3, none⟩ (by simpa using Nat.lt_succ_of_lt hbd1) (by simpa using hsb)).trans ((frozen?_alloc_lt hbd1).trans e4))
  all_goals
    go_end0
    exact ⟨rfl, H.out.applied (o := .cells #[.pointer none, .func (.func 125) #[] #[.pointer (some ⟨b, 0, none⟩)]] 108) (b := (b, 0)) hc (by simp [chV, hne]) (by simpa [chBoxes, hne] using hbx) HBL.out (by rw [show changed m.names ⟨n, [], 0⟩ = without m.names n by simp [changed, hne]]; exact HD1.out) hg1 HS1.out hown2 ⟨hg2.os, hg2.tape, hg2.output, hg2.size, hg2.block⟩ (hat2.imp id (fun e => by rw [e]; simp))⟩

theorem change_rename (h : Rep loc S w bd bn bm sl bs lft m) (n t : Bs) (k b d : Nat) (hne : n ≠ []) (hte : t ≠ []) (hbx : box w b n) (hbt : box w d t) (hc : ChOk m.files.length m.names ⟨n, t, k⟩) (hwt : m.wt < 1073741824) :
    Calls Tryz.prog 97 #[.pointer (some ⟨bd, 0, none⟩), .agg #[.pointer none, .func (.func 137) #[] #[.pointer (some ⟨b, 0, none⟩), .pointer (some ⟨d, 0, none⟩)]]] w fun e w' => e = .returned (.tuple #[]) ∧ AfterAt loc S w bd (m.apply ⟨n, t, k⟩) w' := by
  have h1 := h.c1
  have hbd := lt_of_block h.hd
  have hnl : n.length ≤ maxLen := by have : n.length ≤ 40 := isName_len (hc.1.resolve_left hne); unfold maxLen; omega
  have htl : t.length ≤ maxLen := by have : t.length ≤ 40 := isName_len (hc.2.1.resolve_left hte); unfold maxLen; omega
  have hml : m.names.length < maxLen := by have := names_length h.ok; unfold maxLen; omega
  have hpl : m.pending.length + 1 ≤ maxLen := by unfold M.wt at hwt; unfold maxLen; omega
  have hpb : (m.pending.length + 1) * 16 ≤ 140737488355328 := by unfold M.wt at hwt; omega
  have hsb : ¬ some bd = sl.ownBlock := fun e => h.bdp e.symm rfl
  have hbn := h.hn.lt
  have H := Lib.hid h
  clear h
  go_enter Tryz.func97, Tryz.ntmps97
  go_wp2
  generalize hq : w.heap.size = q at hbd hbn
  have hbl := Fr.alloc (S := fun _ => False) (Fr.refl _ w) (.cells #[.pointer none, .func (.func 137) #[] #[.pointer (some ⟨b, 0, none⟩), .pointer (some ⟨d, 0, none⟩)]] 108)
  have hnw := heap_alloc_new w (.cells #[.pointer none, .func (.func 137) #[] #[.pointer (some ⟨b, 0, none⟩), .pointer (some ⟨d, 0, none⟩)]] 108)
  rw [hq] at hnw
  generalize w.alloc (.cells #[.pointer none, .func (.func 137) #[] #[.pointer (some ⟨b, 0, none⟩), .pointer (some ⟨d, 0, none⟩)]] 108) = w0 at *
  have H0 := Lib.hid (H.out.keep hbl (fun _ _ => id))
  have q0 := block_cell hnw 0
  have q1 := block_cell hnw 1
  have g1 := H0.out.c1
  simp at q0 q1
  clear h1
  go_still_tail 8, (by kernel_rfl)
  change wpList _ _ _ _ _ w0.drew
  have hbl1 := hbl.drew
  have hnw1 : w0.drew.heap[q]? = _ := hnw
  generalize w0.drew = wa at *
  clear q0 q1 g1 H0 hbl hnw
  have H0 := Lib.hid (H.out.keep hbl1 (fun _ _ => id))
  go_wp2_with (go_at_call 137; refine (renameF_any loc b d bn k m.names ⟨n.toArray⟩ ⟨t.toArray⟩ (by rw [size_mk]; exact hnl) (by rw [size_mk]; exact htl) hml (hc.2.2.2.2 hne hte) wa (box_same hbl1 hbx) (box_same hbl1 hbt) H0.out.hn).mono ?_; rintro e w1 ⟨rfl, hd1, hg1, hs1⟩)
  have hbd1 : bd < w1.heap.size := by have := hg1.size; have := hbl1.size; omega
  have e3 := (World.cell?_of_block (a := ⟨bd, 3, none⟩) (hg1.block bd (lt_of_block H0.out.hd) (by simpa using H0.out.bdn.symm))).trans H0.out.c3
  have e4 := (World.frozen?_of_block (a := ⟨bd, 3, none⟩) (hg1.block bd (lt_of_block H0.out.hd) (by simpa using H0.out.bdn.symm))).trans (H0.out.fr 3)
  have eq := (hg1.block q (lt_of_block hnw1) (by simp; omega)).trans hnw1
  have p0 := block_cell eq 0
  have p1 := block_cell eq 1
  simp at p0 p1
  have hrow1 : w1.ownsRow 0 108 2 sl m.pending.length ((m.pending.zip bs).flatMap fun p => chV loc p.1 p.2) :=
    row_same H0.out.hp.row (fun j hj => hg1.block j (by obtain ⟨cu, hcu⟩ := row_block H0.out.hp.row hj; exact lt_of_block hcu) (fun e => by
      obtain ⟨cu, hcu⟩ := row_block H0.out.hp.row hj
      exact H0.out.hn.noRow hcu (by simpa using e.symm)))
  obtain ⟨i0, hi, hz0, hz1, hz2⟩ := info_parts infoCh
  have HS1 := Lib.hid hs1
  have HD1 := Lib.hid hd1
  clear hs1 hd1 hbd hbn hnw1 eq
  have HBL := Lib.hid hbl1
  clear hbl1
  have e3a : ∀ o, (w1.alloc o).cell? ⟨bd, 3, none⟩ = some sl := fun o => (cell?_alloc_lt hbd1).trans e3
  go_region_law (refine step_append_lies _ rfl (.tmp 17) (.tmp 19) 97 rfl 0 108 i0 _ 2 16 Tryz.underlying97 hi hz0 hz1 hz2 rfl (by decide) sl m.pending.length _ (by simp [Act.eval]) (hrow1.alloc (.cells #[.pointer none, .func (.func 137) #[] #[.pointer (some ⟨b, 0, none⟩), .pointer (some ⟨d, 0, none⟩)]] 108)) ⟨w1.heap.size, 0, none⟩ 1 1 [.pointer none, .func (.func 137) #[] #[.pointer (some ⟨b, 0, none⟩), .pointer (some ⟨d, 0, none⟩)]] (by simp [Act.eval]) rfl (World.news_of_block (heap_alloc_new w1 _)) (by simp [Value.oneCell']) (by decide) hpl hpb (Nat.zero_le _) _ rfl ?_; intro g cp w2 hown2 hg2 hat2 hlt2; have e5 := (hg2.cell_far ⟨bd, 3, none⟩ (by simpa using Nat.lt_succ_of_lt hbd1) (by simpa using hsb)).trans ((cell?_alloc_lt hbd1).trans e3); have e6 := (hg2.frozen_far ⟨bd, 3, none⟩ (by simpa using Nat.lt_succ_of_lt hbd1) (by simpa using hsb)).trans ((frozen?_alloc_lt hbd1).trans e4))
  all_goals
    go_end0
    exact ⟨rfl, H.out.applied (o := .cells #[.pointer none, .func (.func 137) #[] #[.pointer (some ⟨b, 0, none⟩), .pointer (some ⟨d, 0, none⟩)]] 108) (b := (b, d)) hc (by simp [chV, hne, hte]) (by simpa [chBoxes, hne, hte] using ⟨hbx, hbt⟩) HBL.out (by rw [show changed m.names ⟨n, t, k⟩ = withOne (without m.names n) (t, k) by simp [changed, hne, hte]]; exact HD1.out) hg1 HS1.out hown2 ⟨hg2.os, hg2.tape, hg2.output, hg2.size, hg2.block⟩ (hat2.imp id (fun e => by rw [e]; simp))⟩

end
end Go.Proofs.YtlhnjdoicolkkaaGreatDoor
