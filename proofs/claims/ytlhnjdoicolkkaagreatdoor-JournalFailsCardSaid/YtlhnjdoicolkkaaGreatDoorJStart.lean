/- start: a journal and its model, each on its own disk. -/
import Derived.Test.YtlhnjdoicolkkaaGreatDoorLopen
import Derived.Test.YtlhnjdoicolkkaaGreatDoorClone
set_option maxRecDepth 100000
namespace Go.Proofs.YtlhnjdoicolkkaaGreatDoor
open Go.RowKit Go.Dsk Go.Maps Go.WideMaps
set_option maxHeartbeats 2000000
open Jnl (J)

theorem dr_clone {R : SP} {w0 w : World} {bd : Nat} {m : M} (hR : Nice R) (h : Dr R w0 w bd m) :
    Calls Tryz.prog 49 #[.pointer (some ⟨bd, 0, none⟩)] w fun e w' => ∃ bo m0, e = .returned (.pointer (some ⟨bo, 0, none⟩)) ∧ SimE m0 m ∧ m0.wt = m.wt ∧ Has w0 w' (Star (DiskP bo m0) (Star (DiskP bd m) R)) := by
  have hwt := dr_wt h
  refine dr_quiet h fun loc S bn bm sl bs lft hr => (Clone_rep hr hwt).mono ?_
  rintro e w' ⟨bo, m0, S', rfl, hs, hw, hS, hd, hb⟩
  exact ⟨bo, m0, rfl, hs, hw, h.new (Nice.star (nice_disk _ _) hR) hb hS ⟨hd, by omega⟩⟩
/-- The name of the journal in the statements. -/
abbrev logB : ByteArray := ⟨#[108, 111, 103]⟩
/-- The pair at bp. -/
def PairP (bp bj bm bd : Nat) : SP := fun S w => (∀ i, S i ↔ i = bp) ∧ w.heap[bp]? = some (.cells #[pj bj, pm bm, .pointer (some ⟨bd, 0, none⟩)] 47 (0, 0))
theorem nice_pair (bp bj bm bd : Nat) : Nice (PairP bp bj bm bd) where
  lt h i hi := by rw [(h.1 i).1 hi]; exact lt_of_block h.2
  keep h hf hd := ⟨h.1, (hf.block bp (lt_of_block h.2) (.inl (hd bp ((h.1 bp).2 rfl)))).trans h.2⟩
/-- A pair, its journal and its model, and R beside them. -/
abbrev Duo (R : SP) (w0 w : World) (bp bj bm bd bo : Nat) (d m : M) (j k : J) : Prop :=
  Has w0 w (Star (DiskP bd d) (Star (JrnP bj bd logB j) (Star (DiskP bo m) (Star (MdlP bm bo logB k) (Star (PairP bp bj bm bd) R)))))
theorem nice_duo {bp bj bm bd bo : Nat} {d m : M} {j k : J} {R : SP} (hR : Nice R) : Nice (Star (DiskP bd d) (Star (JrnP bj bd logB j) (Star (DiskP bo m) (Star (MdlP bm bo logB k) (Star (PairP bp bj bm bd) R))))) :=
  Nice.star (nice_disk _ _) (Nice.star (nice_jrn _ _ _ _) (Nice.star (nice_disk _ _) (Nice.star (nice_mdl _ _ _ _) (Nice.star (nice_pair _ _ _ _) hR))))
theorem opened_new (c : Int) : Jnl.opened logB.data.toList (M.new c) = (0, some Jnl.J.new, M.new c) := by
  have h1 : (find (M.new c).names (Jnl.newName logB.data.toList)).isSome = false := rfl
  have h2 : (find (M.new c).names (Jnl.logName logB.data.toList)).isSome = false := rfl
  have h := Jnl.opened_none (n := logB.data.toList) (d := M.new c) (by decide) rfl (by rw [Jnl.cleaned_not h1]) h2
  rw [Jnl.cleaned_not h1] at h
  exact h
theorem Has.out2 {w0 w : World} {X P Q T : SP} (h : Has w0 w (Star P (Star Q (Star X T)))) : Has w0 w (Star X (Star P (Star Q T))) := (h.imp fun _ h => h.inner fun _ h => h.left).left
theorem start_any {w : World} (hg : Glob w) (c : Int) (h0 : 0 ≤ c) (h1 : c ≤ 16777216) :
    Calls Tryz.prog 21 #[.int .i64 c] w fun e w' => ∃ bp bj bm bd bo m, e = .returned (.pointer (some ⟨bp, 0, none⟩)) ∧ SimE m (M.new c) ∧ m.Ok ∧ Duo Nil w w' bp bj bm bd bo (M.new c) m Jnl.J.new Jnl.J.new := by
  have HG := Lib.hid hg
  clear hg
  go_enter Tryz.func21, Tryz.ntmps21
  go_wp2_with fail
  refine (dr_new Nice.nil (Has.start (Below.refl _ w)) c h0 h1).mono ?_
  rintro e w1 ⟨bd, rfl, h1⟩
  have H1 := Lib.hid h1
  clear h1
  go_wp2_with fail
  refine (dr_clone Nice.nil H1.out).mono ?_
  rintro e w2 ⟨bo, m0, rfl, hs2, hwt2, h2⟩
  have hok2 := dr_ok h2
  have H2 := Lib.hid h2
  have hsim := Jnl.opened_sim logB.data.toList hs2 hok2
  rw [opened_new] at hsim
  obtain ⟨Z, hZ⟩ : ∃ Z, Jnl.opened logB.data.toList m0 = Z := ⟨_, rfl⟩
  rw [hZ] at hsim
  obtain ⟨z, oj, m⟩ := Z
  obtain ⟨rfl, rfl, hs3⟩ := hsim
  have hw0 : m0.wt < 1073741000 := by rw [hwt2]; simp [M.wt, M.new]
  have HS := Lib.hid hs3
  have HZ := Lib.hid hZ
  clear h2 hs2 hok2 hs3 hZ hwt2 H1
  go_wp2_with fail
  refine (lopen_any (Nice.star (nice_disk _ _) Nice.nil) HG.out H2.out (by decide) hw0 HZ.out).mono ?_
  rintro e w3 (⟨bm, j, hj, rfl, h3⟩ | ⟨hj, _⟩)
  · simp only [Option.some.injEq] at hj
    subst hj
    have hok3 := dr_ok h3
    have HOK := Lib.hid hok3
    have H3 := Lib.hid h3.out2
    clear h3 H2 hok3
    go_wp2_with fail
    refine (Open_fresh (n := logB) (Nice.star (nice_disk _ _) (Nice.star (nice_mdl _ _ _ _) Nice.nil)) H3.out rfl rfl (by decide) (by decide)).mono ?_
    rintro e w4 ⟨bj, rfl, h4⟩
    have H4 := Lib.hid h4
    clear h4 H3
    have hn := H4.out.new (nice_dj (Nice.star (nice_disk _ _) (Nice.star (nice_mdl _ _ _ _) Nice.nil))) ((Below.refl _ w4).alloc (Nat.le_refl _) (.cells #[pj bj, pm bm, .pointer (some ⟨bd, 0, none⟩)] 47)) (P := PairP w4.heap.size bj bm bd) (S := fun i => i = w4.heap.size) (fun i hi => by rw [hi]; exact Nat.le_refl _) ⟨fun _ => Iff.rfl, heap_alloc_new w4 _⟩
    have hn2 : Duo Nil w (w4.alloc (.cells #[pj bj, pm bm, .pointer (some ⟨bd, 0, none⟩)] 47)) w4.heap.size bj bm bd bo (M.new c) m Jnl.J.new Jnl.J.new :=
      hn.in3.imp fun _ h => h.inner fun _ h => h.inner fun _ h => h.left.inner fun _ h => h.left
    have HN := Lib.hid hn2
    clear hn hn2
    go_wp2_with fail
    go_ret
    exact ⟨_, _, _, _, _, _, rfl, HS.out, HOK.out, HN.out⟩
  · cases hj
end Go.Proofs.YtlhnjdoicolkkaaGreatDoor
