/- variables' add. -/
import Derived.Test.YtgofihilkobenaaGreatDoorDVariablesM
set_option maxRecDepth 100000
namespace Go.Proofs.YtgofihilkobenaaGreatDoor
open Go.RowKit Go.Num Go.Flow Go.Dtm
set_option maxHeartbeats 8000000
set_option linter.unusedVariables false

theorem row_turns {w w' : World} {B : Nat} {t t2 : TypeId} {k n k2 n2 : Nat} {v v2 : Value} {l l2 : List Value} (h : w.ownsRow B t k v n l) (hg : w.grownBy w' v2.ownBlock) (h2 : w.ownsRow B t2 k2 v2 n2 l2) (ht : t ≠ t2) : w'.ownsRow B t k v n l := by
 rcases h.2 with h1 | ⟨g, cap, cur, h1, hB, h3, h4⟩
 ·exact ⟨h.1, .inl h1⟩
 ·refine ⟨h.1, .inr ⟨g, cap, cur, h1, hB, (hg.block g (lt_of_block h3) fun e => ?_).trans h3, h4⟩⟩
  exact row_off h2 h3 ht g e.symm rfl
theorem row_setNe {w : World} {B : Nat} {t : TypeId} {k n : Nat} {v : Value} {l : List Value} (h : w.ownsRow B t k v n l) {b : Nat} (hb : ∀ g, v.ownBlock = some g → g ≠ b) (i : Nat) (u : Value) : (w.setCell ⟨b, i, none⟩ u).ownsRow B t k v n l := by
 rcases h.2 with h1 | ⟨g, cap, cur, h1, h2, h3, h4⟩
 ·exact ⟨h.1, .inl h1⟩
 ·exact ⟨h.1, .inr ⟨g, cap, cur, h1, h2, (Below.heap_setCell _ _ _ _ (hb g (by rw [h1]; rfl))).trans h3, h4⟩⟩
theorem one_set {w : World} {b : Nat} {x : Value} {t : TypeId} (h : w.heap[b]? = some (.cells #[x] t (0, 0))) (u : Value) : (w.setCell ⟨b, 0, none⟩ u).heap[b]? = some (.cells #[u] t (0, 0)) := by
 simp [World.setCell, Array.getElem?_modify, h]
/-- The blocks of other types have not turned. -/
def KeepTy (S : List TypeId) (w w' : World) : Prop := ∀ (b : Nat) (cs : Array Value) (t : TypeId), w.heap[b]? = some (.cells cs t (0, 0)) → t ∉ S → w'.heap[b]? = some (.cells cs t (0, 0))
theorem KeepTy.refl (S : List TypeId) (w : World) : KeepTy S w w := fun _ _ _ h _ => h
theorem KeepTy.trans {S : List TypeId} {a b c : World} (h : KeepTy S a b) (k : KeepTy S b c) : KeepTy S a c := fun g cs t e n => k g cs t (h g cs t e n) n
theorem KeepTy.below {S : List TypeId} {a b : World} (h : Below a.heap.size a b) : KeepTy S a b := fun g cs t e _ => (h.block g (lt_of_block e)).trans e
theorem KeepTy.set {S : List TypeId} {w : World} {b : Nat} {cs : Array Value} {t : TypeId} (h : w.heap[b]? = some (.cells cs t (0, 0))) (ht : t ∈ S) (i : Nat) (u : Value) : KeepTy S w (w.setCell ⟨b, i, none⟩ u) := fun g cs' t' e n => by
 refine (Below.heap_setCell _ _ _ _ ?_).trans e
 rintro rfl
 have e2 := h.symm.trans e
 simp at e2
 exact n (e2.2 ▸ ht)
theorem KeepTy.grown {S : List TypeId} {w w' : World} {B : Nat} {t : TypeId} {k n : Nat} {v : Value} {l : List Value} (hr : w.ownsRow B t k v n l) (hg : w.grownBy w' v.ownBlock) (ht : t ∈ S) : KeepTy S w w' := fun g cs t' e m => by
 refine (hg.block g (lt_of_block e) fun e2 => ?_).trans e
 exact row_off hr e (fun e3 => m (e3 ▸ ht)) g e2.symm rfl
theorem dmCells_snoc (l : List Dm) (d : Dm) : dmCells (l ++ [d]) = dmCells l ++ [.string d.name, .int .i64 d.nominal, .int .i64 d.lower, .int .i64 d.upper] := by
 unfold dmCells
 rw [List.flatMap_append]
 rfl
theorem infoKey : (Tryz.prog.info? 88).map (fun i => (i.zero, i.size, i.bytes)) = some (some (.agg #[.int .i64 0, .int .i64 0]), 2, 16) := by kernel_rfl
abbrev vTys : List TypeId := [31, 45, 60, 88]
/-- The two lists that variables makes, in their boxes. -/
def TwoIn (w : World) (B bo bk : Nat) (L : List Dm) (M : List (Nat × Int)) : Prop := ∃ vo vk, w.heap[bo]? = some (.cells #[vo] 31 (0, 0)) ∧ w.heap[bk]? = some (.cells #[vk] 45 (0, 0)) ∧ w.ownsRow B 60 4 vo L.length (dmCells L) ∧ w.ownsRow B 88 2 vk M.length (varCells M)
theorem TwoIn.below {w w' : World} {B bo bk : Nat} {L : List Dm} {M : List (Nat × Int)} (h : TwoIn w B bo bk L M) (hb : Below w.heap.size w w') : TwoIn w' B bo bk L M := by
 obtain ⟨vo, vk, h1, h2, h3, h4⟩ := h
 exact ⟨vo, vk, (hb.block _ (lt_of_block h1)).trans h1, (hb.block _ (lt_of_block h2)).trans h2, row_below h3 hb, row_below h4 hb⟩
theorem qadd_any {w : World} {B bo bk : Nat} {L : List Dm} {M : List (Nat × Int)} (hT : TwoIn w B bo bk L M) (hB1 : B ≤ bo) (hB2 : B ≤ bk) (hL : L.length ≤ 1000) (hM : M.length ≤ 1000) (i : Nat) (k : Int) (nm : ByteArray) (no lo up : Int) :
  Calls Tryz.prog 65 #[.int .i64 (i : Int), .int .i64 k, .string nm, .int .i64 no, .int .i64 lo, .int .i64 up, .pointer (some ⟨bo, 0, none⟩), .pointer (some ⟨bk, 0, none⟩)] w fun e w' => e = .returned (.tuple #[]) ∧ TwoIn w' B bo bk (L ++ [⟨nm, no, lo, up⟩]) (M ++ [(i, k)]) ∧ Below B w w' ∧ KeepTy vTys w w' := by
 obtain ⟨vo, vk, ko, kk, ro, rk⟩ := hT
 have hbo := lt_of_block ko
 have hbk := lt_of_block kk
 obtain ⟨i0, hi, hz0, hz1, hz2⟩ := info_parts infoDim
 have HI := Lib.hid (And.intro hi (And.intro hz0 (And.intro hz1 hz2)))
 obtain ⟨i1, hj, hy0, hy1, hy2⟩ := info_parts infoKey
 have HJ := Lib.hid (And.intro hj (And.intro hy0 (And.intro hy1 hy2)))
 have s0 := block_cell ko 0
 simp at s0
 have RO := Lib.hid ro
 have RK := Lib.hid rk
 have KO := Lib.hid ko
 have KK := Lib.hid kk
 have HB := Lib.hid (And.intro hB1 (And.intro hB2 (And.intro hbo (And.intro hbk (And.intro hL hM)))))
 clear hi hz0 hz1 hz2 hj hy0 hy1 hy2 ro rk ko kk hB1 hB2 hbo hbk hL hM
 go_enter Tryz.func65, Tryz.ntmps65
 go_wp2_with (at_builtin; refine wpList_append_own _ rfl _ _ 31 rfl B 60 i0 _ 4 40 Tryz.underlying31 HI.out.1 HI.out.2.1 HI.out.2.2.1 HI.out.2.2.2 rfl (by decide) _ _ _ rfl (World.ownsRow.alloc RO.out _) ⟨w.heap.size, 0, none⟩ 1 1 [.string nm, .int .i64 no, .int .i64 lo, .int .i64 up] rfl rfl ?c1 ?c2 ?c3 ?c4 ?c5 ?_)
 case c1 => exact World.news_of_block (heap_alloc_new w _)
 case c2 => simp [Value.oneCell']
 case c3 => have := HB.out; unfold maxLen; omega
 case c4 => have := HB.out; omega
 case c5 => have := HB.out; simp; omega
 intro v2 w2 hown2 hg2 _
 obtain ⟨a2, c2, rfl, -, -⟩ := row_shape hown2
 obtain ⟨v2, hv2⟩ : ∃ x, x = Value.slice a2 (L.length + 1) c2 := ⟨_, rfl⟩
 rw [← hv2] at hown2
 obtain ⟨W1, hW1⟩ : ∃ x, x = w.alloc (.cells #[.string nm, .int .i64 no, .int .i64 lo, .int .i64 up] 60) := ⟨_, rfl⟩
 have hl1 : Below w.heap.size w W1 := by rw [hW1]; exact (Below.refl _ w).alloc (Nat.le_refl _) _
 rw [← hW1] at hg2
 have ro1 := row_below RO.out hl1
 have kt1 : KeepTy vTys w W1 := KeepTy.below hl1
 have hne : ∀ g, vo.ownBlock = some g → g ≠ bo := row_off RO.out KO.out (by decide)
 have hne2 : ∀ g, vo.ownBlock = some g → g ≠ bk := row_off RO.out KK.out (by decide)
 have ko2 : w2.heap[bo]? = some (.cells #[vo] 31 (0, 0)) := (hg2.block bo (Nat.lt_of_lt_of_le HB.out.2.2.1 hl1.size) (fun e => hne bo e.symm rfl)).trans ((hl1.block bo HB.out.2.2.1).trans KO.out)
 have kk2 : w2.heap[bk]? = some (.cells #[vk] 45 (0, 0)) := (hg2.block bk (Nat.lt_of_lt_of_le HB.out.2.2.2.1 hl1.size) (fun e => hne2 bk e.symm rfl)).trans ((hl1.block bk HB.out.2.2.2.1).trans KK.out)
 have rk2 : w2.ownsRow B 88 2 vk M.length (varCells M) := row_turns (row_below RK.out hl1) hg2 ro1 (by decide)
 have kt2 := kt1.trans (KeepTy.grown (S := vTys) ro1 hg2 (by decide))
 have hb2 : Below B w w2 := ((Below.refl B w).trans (hl1.mono (by have := HB.out; omega))).grown hg2 (by have := HB.out; have := hl1.size; omega) (fun q e => (row_lt RO.out q e).1)
 have sz2 : w.heap.size ≤ w2.heap.size := hb2.size
 have t0 := block_cell ko2 0
 have f0 := block_free ko2 0
 simp at t0
 have hne3 : ∀ g, v2.ownBlock = some g → g ≠ bo := row_off hown2 ko2 (by decide)
 have hbk0 : bk ≠ bo := fun e => by subst e; have e2 := kk2.symm.trans ko2; simp at e2
 have ko3 := one_set ko2 v2
 have kk3 : (w2.setCell ⟨bo, 0, none⟩ v2).heap[bk]? = some (.cells #[vk] 45 (0, 0)) := (Below.heap_setCell _ _ _ _ hbk0).trans kk2
 have ro3 := row_setNe hown2 hne3 0 v2
 have rk3 := row_setNe rk2 (row_off rk2 ko2 (by decide)) 0 v2
 have kt3 := kt2.trans (KeepTy.set (S := vTys) ko2 (by decide) 0 v2)
 have hb3 := hb2.setCell (p := ⟨bo, 0, none⟩) HB.out.1 v2
 have sz3 : w.heap.size ≤ (w2.setCell ⟨bo, 0, none⟩ v2).heap.size := hb3.size
 obtain ⟨w3, hw3⟩ : ∃ x, x = w2.setCell ⟨bo, 0, none⟩ v2 := ⟨_, rfl⟩
 rw [← hw3] at ko3 kk3 ro3 rk3 kt3 hb3 sz3
 have u1 := block_cell kk3 0
 simp at u1
 have RO := Lib.hid ro3
 have RK := Lib.hid rk3
 have KO := Lib.hid ko3
 have KK := Lib.hid kk3
 have KT := Lib.hid kt3
 have BB := Lib.hid hb3
 have SZ := Lib.hid sz3
 rw [hv2] at hw3
 have HW3 := Lib.hid hw3
 clear hW1 hl1 ro1 kt1 hne hne2 ko2 kk2 rk2 kt2 hb2 sz2 hne3 hbk0 ko3 kk3 ro3 rk3 kt3 hb3 sz3 hown2 hg2 hw3 s0 hv2
 go_upto_region 1 with fail
 rw [← HW3.out]
 clear HW3 f0
 go_wp2_with (at_builtin; refine wpList_append_own _ rfl _ _ 45 rfl B 88 i1 _ 2 16 Tryz.underlying45 HJ.out.1 HJ.out.2.1 HJ.out.2.2.1 HJ.out.2.2.2 rfl (by decide) _ _ _ rfl (World.ownsRow.alloc RK.out _) ⟨w3.heap.size, 0, none⟩ 1 1 [.int .i64 (i : Int), .int .i64 k] rfl rfl ?c1 ?c2 ?c3 ?c4 ?c5 ?_)
 case c1 => exact World.news_of_block (heap_alloc_new w3 _)
 case c2 => simp [Value.oneCell']
 case c3 => have := HB.out; unfold maxLen; omega
 case c4 => have := HB.out; omega
 case c5 => have := HB.out; have := SZ.out; simp; omega
 intro v4 w4 hown4 hg4 _
 obtain ⟨a4, c4, rfl, -, -⟩ := row_shape hown4
 obtain ⟨v4, hv4⟩ : ∃ x, x = Value.slice a4 (M.length + 1) c4 := ⟨_, rfl⟩
 rw [← hv4] at hown4
 obtain ⟨W1, hW1⟩ : ∃ x, x = w3.alloc (.cells #[.int .i64 (i : Int), .int .i64 k] 88) := ⟨_, rfl⟩
 have hl1 : Below w3.heap.size w3 W1 := by rw [hW1]; exact (Below.refl _ w3).alloc (Nat.le_refl _) _
 rw [← hW1] at hg4
 have rk1 := row_below RK.out hl1
 have lo3 := lt_of_block KO.out
 have lk3 := lt_of_block KK.out
 have kt1 : KeepTy vTys w W1 := KT.out.trans (KeepTy.below hl1)
 have hne : ∀ g, vk.ownBlock = some g → g ≠ bo := row_off RK.out KO.out (by decide)
 have hne2 : ∀ g, vk.ownBlock = some g → g ≠ bk := row_off RK.out KK.out (by decide)
 have ko4 : w4.heap[bo]? = some (.cells #[v2] 31 (0, 0)) := (hg4.block bo (Nat.lt_of_lt_of_le lo3 hl1.size) (fun e => hne bo e.symm rfl)).trans ((hl1.block bo lo3).trans KO.out)
 have kk4 : w4.heap[bk]? = some (.cells #[vk] 45 (0, 0)) := (hg4.block bk (Nat.lt_of_lt_of_le lk3 hl1.size) (fun e => hne2 bk e.symm rfl)).trans ((hl1.block bk lk3).trans KK.out)
 have ro4 : w4.ownsRow B 60 4 v2 (L.length + 1) (dmCells L ++ [.string nm, .int .i64 no, .int .i64 lo, .int .i64 up]) := row_turns (row_below RO.out hl1) hg4 rk1 (by decide)
 have kt4 := kt1.trans (KeepTy.grown (S := vTys) rk1 hg4 (by decide))
 have hb4 : Below B w w4 := (BB.out.trans (hl1.mono (by have := HB.out; have := SZ.out; omega))).grown hg4 (by have := HB.out; have := SZ.out; have := hl1.size; omega) (fun q e => (row_lt RK.out q e).1)
 have t1 := block_cell kk4 0
 have f1 := block_free kk4 0
 simp at t1
 have hbk0 : bo ≠ bk := fun e => by subst e; have e2 := ko4.symm.trans kk4; simp at e2
 have F1 := (show TwoIn (w4.setCell ⟨bk, 0, none⟩ v4) B bo bk (L ++ [⟨nm, no, lo, up⟩]) (M ++ [(i, k)]) from ⟨v2, v4, (Below.heap_setCell _ _ _ _ hbk0).trans ko4, one_set kk4 v4, by
  rw [dmCells_snoc, List.length_append]
  exact row_setNe ro4 (row_off ro4 kk4 (by decide)) 0 v4, by
  rw [varCells_snoc, List.length_append]
  exact row_setNe hown4 (row_off hown4 kk4 (by decide)) 0 v4⟩)
 have F2 := (hb4.setCell (p := ⟨bk, 0, none⟩) HB.out.2.1 v4)
 have F3 := (kt4.trans (KeepTy.set (S := vTys) kk4 (by decide) 0 v4))
 rw [hv4] at F1 F2 F3
 replace F1 := Lib.hid F1
 replace F2 := Lib.hid F2
 replace F3 := Lib.hid F3
 clear hW1 hl1 rk1 lo3 lk3 kt1 hne hne2 ko4 kk4 ro4 kt4 hb4 hbk0 hown4 hg4 u1 hv4
 go_wp2_with fail
 go_end0
 exact ⟨rfl, F1.out, F2.out, F3.out⟩
end Go.Proofs.YtgofihilkobenaaGreatDoor
