/- The document's model: start. -/
import Derived.Test.YtlhnjdoicolkkaaMdl6
import Derived.Test.YtlhnjdoicolkkaaSim
set_option maxRecDepth 100000
namespace Go.Proofs.Ytlhnjdoicolkkaa
open Go.RowKit Go.Dsk Go.Maps Go.WideMaps
set_option maxHeartbeats 2000000

/-- The numbers of a script as they come in. -/
def ScriptIn (w : World) (p : Nat) (ao : Option Addr) (cap : Nat) (sc : List Int) : Prop :=
  sc.length ≤ cap ∧ cap ≤ maxLen ∧ (0 < sc.length → ∃ g off, g ≠ p ∧ g < w.heap.size ∧ ao = some ⟨g, off, none⟩ ∧ ∀ j, j < sc.length → w.cell? ⟨g, off + j, none⟩ = some (.int .i64 (sc.getD j 0)))
theorem ScriptIn.box {w : World} {p : Nat} {ao : Option Addr} {cap : Nat} {sc : List Int} (h : ScriptIn w p ao cap sc) (hp : p < w.heap.size) :
    ∃ gs, gs ≠ p ∧ gs ≠ w.heap.size ∧ (0 < sc.length → gs < w.heap.size) ∧ ScrAt (w.alloc (.cells #[.slice ao sc.length cap] 106)) w.heap.size gs sc := by
  obtain ⟨h1, h2, h3⟩ := h
  have hn := heap_alloc_new w (.cells #[.slice ao sc.length cap] 106)
  by_cases h0 : 0 < sc.length
  · obtain ⟨g, off, hg, hl, e, hc⟩ := h3 h0
    refine ⟨g, hg, by omega, fun _ => hl, ao, cap, hn, h1, h2, fun _ => ⟨off, e, fun j hj => ?_⟩⟩
    exact (cell?_alloc_lt hl).trans (hc j hj)
  · exact ⟨w.heap.size + 1, by omega, by omega, fun h => absurd h h0, ao, cap, hn, h1, h2, fun h => absurd h h0⟩
theorem ScrAt.same' {w w' : World} {q g : Nat} {sc : List Int} (h : ScrAt w q g sc) (hq : w'.heap[q]? = w.heap[q]?) (hg : 0 < sc.length → w'.heap[g]? = w.heap[g]?) : ScrAt w' q g sc := by
  obtain ⟨ao, cap, h1, h2, h3, h4⟩ := h
  refine ⟨ao, cap, hq.trans h1, h2, h3, fun h0 => ?_⟩
  obtain ⟨off, e, hc⟩ := h4 h0
  exact ⟨off, e, fun j hj => (World.cell?_of_block (w := w) (a := ⟨g, off + j, none⟩) (hg h0)).trans (hc j hj)⟩
theorem ScrAt.qlt {w : World} {q g : Nat} {sc : List Int} (h : ScrAt w q g sc) : q < w.heap.size := by
  obtain ⟨ao, cap, h1, _⟩ := h
  exact lt_of_block h1
theorem ScrAt.glt {w : World} {q g : Nat} {sc : List Int} (h : ScrAt w q g sc) (h0 : 0 < sc.length) : g < w.heap.size := by
  obtain ⟨ao, cap, h1, h2, h3, h4⟩ := h
  obtain ⟨off, e, hc⟩ := h4 h0
  have := hc 0 h0
  unfold World.cell? at this
  rcases Nat.lt_or_ge g w.heap.size with h | h
  · exact h
  · rw [Array.getElem?_eq_none h] at this
    cases this
theorem ScrAt.fr {S : Nat → Prop} {w w' : World} {q g : Nat} {sc : List Int} (h : ScrAt w q g sc) (hf : Fr S w w') (hq : ¬ S q) (hg : ¬ S g) : ScrAt w' q g sc :=
  h.same' (hf.block q h.qlt (.inl hq)) (fun h0 => hf.block g (h.glt h0) (.inl hg))

/-- The first loop: k changes have been carried out. -/
def TT (T : Nat → Prop) (w : World) (q : Nat) (wr : World) (g : Nat) : Prop := (T g ∨ (w.heap.size ≤ g ∧ g ≠ q)) ∧ g < wr.heap.size
structure Loop1 (T : Nat → Prop) (w : World) (p q gs : Nat) (vf vn vd vp : Value) (m : M) (sc : List Int) (wr : World) : Prop where
  rep : MRep (TT T w q wr) wr p vf vn vd vp m
  scr : ScrAt wr q gs sc
  fr : Fr (fun i => i = p) w wr
theorem Loop1.step {T : Nat → Prop} {w : World} {p q gs : Nat} {vf vn vd vp v1 : Value} {m : M} {sc : List Int} {wr w1 : World} {l : Dir} (h : Loop1 T w p q gs vf vn vd vp m sc wr) (hqp : q ≠ p) (hgp : gs ≠ p) (hp : p < w.heap.size)
    (hr : EntsAt (fun g => TT T w q wr g ∨ wr.heap.size ≤ g) w1 v1 l) (hb : Below wr.heap.size wr w1) : Loop1 T w p q gs vf vn v1 vp { m with durable := l } sc (w1.setCell ⟨p, 5, none⟩ v1) := by
  have h1 := h.rep.below hb
  have hql := h.scr.qlt
  have hfr := (Fr.refl (fun i => i = p) w1).setCell (p := ⟨p, 5, none⟩) (.inl rfl) h1.noBox v1
  have hall := ((Fr.below hb).mono (S' := fun i => i = p) (fun _ => False.elim)).trans hfr
  have hT : ∀ g, (TT T w q wr g ∨ wr.heap.size ≤ g) → T g ∨ (w.heap.size ≤ g ∧ g ≠ q) := fun g hg => by
    rcases hg with hg | hg
    · exact hg.1
    · exact .inr ⟨Nat.le_trans h.fr.size hg, by omega⟩
  have hTp : ∀ g, (TT T w q wr g ∨ wr.heap.size ≤ g) → ¬ g = p := fun g hg e => by
    rcases hg with hg | hg
    · exact h.rep.np (e ▸ hg)
    · have := h.fr.size; omega
  refine ⟨⟨fun g hg => hg.2, fun hg => ?_, block_set h1.hd 5 v1, ?_, ?_, ?_, ?_⟩, h.scr.fr hall (fun e => hqp e) (fun e => hgp e), h.fr.trans hall⟩
  · have := h.rep.np
    exact this ⟨hg.1, by have := h.fr.size; omega⟩
  · exact ((h.rep.hf.fr hall (fun g hg => hTp g (.inl hg))).mono (fun g hg => hg.1)).cut
  · exact ((RowAt.fr h.rep.hn hall (fun g hg => hTp g (.inl hg))).mono (fun g hg => hg.1)).cut
  · exact ((RowAt.fr hr hfr hTp).mono hT).cut
  · exact ((h.rep.hp.fr hall (fun g hg => hTp g (.inl hg))).mono (fun g hg => hg.1)).cut
theorem all_take_succ (l : Dir) (cs : List Ch) (k : Nat) (hk : k < cs.length) : all l (cs.take (k + 1)) = changed (all l (cs.take k)) (cs.getD k ⟨[], [], 0⟩) := by
  rw [List.take_succ_eq_append_getElem hk, all_snoc, List.getD_eq_getElem?_getD, List.getElem?_eq_getElem hk]
  rfl

/-! ### the second loop -/
theorem damaged_sub {dt : ByteArray} {t : Bs} {la : Nat} (hd : dt = ⟨t.toArray⟩) (hl : dt.size = la + 1) (hla : la < dt.size) : dt.extract 0 la ++ ⟨#[UInt8.ofNat (255 - dt[la].toNat)]⟩ = ⟨(damaged t).toArray⟩ := by
  have hx : UInt8.ofNat (255 - dt[la].toNat) = UInt8.ofNat (bits BinOp.xor IntKind.u8 IntKind.u8.max (dt[la].toNat : Int)).toNat := by
    have hm : IntKind.u8.max = 255 := rfl
    rw [hm, flip_byte dt[la]]
    have h := dt[la].toNat_lt
    apply UInt8.toNat_inj.1
    rw [UInt8.toNat_not]
    simp
    omega
  rw [hx]
  exact damaged_mk hd hl hla
structure Going (w3 wr : World) (q gs B n : Nat) (v : Value) (cap : Int) (a : List Fl × List Int) : Prop where
  own : wr.ownsRow B 92 2 v n (a.1.flatMap filV)
  len : a.1.length = n
  sizes : ∀ f ∈ a.1, (f.bytes.length : Int) ≤ cap ∧ f.dur ≤ f.bytes.length
  scr : ScrAt wr q gs a.2
  fr : Fr (fun i => i = q ∨ v.ownBlock = some i) w3 wr
theorem Going.drewN {w3 wr : World} {q gs B n : Nat} {v : Value} {cap : Int} {a : List Fl × List Int} (h : Going w3 wr q gs B n v cap a) (k : Nat) : Going w3 (wr.drewN k) q gs B n v cap a :=
  ⟨h.own, h.len, h.sizes, h.scr, h.fr.drewN k⟩
theorem Going.alloc {w3 wr : World} {q gs B n : Nat} {v : Value} {cap : Int} {a : List Fl × List Int} (h : Going w3 wr q gs B n v cap a) (o : Obj) : Going w3 (wr.alloc o) q gs B n v cap a :=
  ⟨h.own.alloc o, h.len, h.sizes, h.scr.same' (Below.heap_alloc _ _ _ h.scr.qlt) (fun h0 => Below.heap_alloc _ _ _ (h.scr.glt h0)), h.fr.alloc o⟩
theorem Going.chosen {w3 wr wk : World} {q gs B n : Nat} {v : Value} {cap : Int} {a : List Fl × List Int} {sc' : List Int} (h : Going w3 wr q gs B n v cap a) (hq : q < B) (hs : ScrAt wk q gs sc') (hf : Fr (fun i => i = q) wr wk) : Going w3 wk q gs B n v cap (a.1, sc') :=
  ⟨row_same h.own (fun j hj => hf.block j (h.own.lt j hj).2 (.inl (fun e => by have := (h.own.lt j hj).1; omega))), h.len, h.sizes, hs, h.fr.trans (hf.mono (fun _ => .inl))⟩
theorem Going.cells {w3 wr : World} {q gs B n g cp f : Nat} {cap : Int} {a : List Fl × List Int} (h : Going w3 wr q gs B n (.slice (some ⟨g, 0, none⟩) n cp) cap a) (hf : f < n) :
    wr.cell? ⟨g, f * 2, none⟩ = some (.string ⟨(a.1.getD f ⟨[], 0⟩).bytes.toArray⟩) ∧ wr.cell? ⟨g, f * 2 + 1, none⟩ = some (.int .i64 (a.1.getD f ⟨[], 0⟩).dur) := by
  have hl := h.len
  have hl2 : (a.1.flatMap filV).length = a.1.length * 2 := flat_len filV 2 filV_len _
  have e0 := flat_at filV 2 filV_len ⟨[], 0⟩ a.1 f (by omega) 0 (by omega)
  have e1 := flat_at filV 2 filV_len ⟨[], 0⟩ a.1 f (by omega) 1 (by omega)
  rw [List.getD_eq_getElem?_getD, List.getElem?_eq_getElem (by omega)] at e0 e1
  constructor
  · rw [h.own.cellAt (f * 2) (by omega), List.getElem?_eq_getElem (by omega)]
    exact congrArg some e0
  · rw [h.own.cellAt (f * 2 + 1) (by omega), List.getElem?_eq_getElem (by omega)]
    exact congrArg some e1
theorem Going.free {w3 wr : World} {q gs B n g cp : Nat} {cap : Int} {a : List Fl × List Int} (h : Going w3 wr q gs B n (.slice (some ⟨g, 0, none⟩) n cp) cap a) (hn : 0 < n) (i : Nat) : wr.frozen? ⟨g, i, none⟩ = false := by
  obtain ⟨g', cp', e, _, _, _, _, hh⟩ := own_some h.own hn
  simp only [Value.slice.injEq, Option.some.injEq, Addr.mk.injEq, and_true, true_and] at e
  obtain ⟨rfl, -⟩ := e
  exact hh i
theorem Going.file {w3 wr : World} {q gs B n g cp f : Nat} {cap : Int} {a : List Fl × List Int} (h : Going w3 wr q gs B n (.slice (some ⟨g, 0, none⟩) n cp) cap a) (hf : f < n) (hq : q < B) (hg : 0 < a.2.length → gs ≠ g) {t : Bs} {dt : ByteArray} (ht : dt = ⟨t.toArray⟩) (hc : (t.length : Int) ≤ cap) :
    Going w3 ((wr.setCell ⟨g, f * 2, none⟩ (.string dt)).setCell ⟨g, f * 2 + 1, none⟩ (.int .i64 dt.size)) q gs B n (.slice (some ⟨g, 0, none⟩) n cp) cap (a.1.set f ⟨t, t.length⟩, a.2) := by
  have hl := h.len
  subst ht
  rw [size_mk]
  obtain ⟨o1, g1⟩ := h.own.stored (f * 2) (.string ⟨t.toArray⟩)
  obtain ⟨o2, g2⟩ := o1.stored (f * 2 + 1) (.int .i64 t.length)
  have hB := (h.own.lt g rfl).1
  have e1 := flat_set filV 2 filV_len ⟨[], 0⟩ a.1 f (by omega) 0 ⟨t, (a.1.getD f ⟨[], 0⟩).dur⟩ (.string ⟨t.toArray⟩) (by omega) rfl
  rw [Nat.add_zero] at e1
  have e2 := flat_set filV 2 filV_len ⟨[], 0⟩ (a.1.set f ⟨t, (a.1.getD f ⟨[], 0⟩).dur⟩) f (by simp; omega) 1 ⟨t, t.length⟩ (.int .i64 t.length) (by omega) (by
    rw [getD_set _ _ _ _ (by omega)]; simp [filV])
  rw [e1, e2, List.set_set] at o2
  have hb : ∀ i, i ≠ g → ((wr.setCell ⟨g, f * 2, none⟩ (.string ⟨t.toArray⟩)).setCell ⟨g, f * 2 + 1, none⟩ (.int .i64 t.length)).heap[i]? = wr.heap[i]? := fun i hi => (block_other hi _).trans (block_other hi _)
  have hbx : ∀ {W : World} {xs : List Value}, W.ownsRow B 92 2 (.slice (some ⟨g, 0, none⟩) n cp) n xs → ¬ IsBox W g := by
    intro W xs ho
    obtain ⟨_, ⟨e, _⟩ | ⟨g', cap', cur, e, _, hh, _⟩⟩ := ho
    · cases e
    · simp only [Value.slice.injEq, Option.some.injEq, Addr.mk.injEq, and_true, true_and] at e
      obtain ⟨rfl, -⟩ := e
      rintro ⟨s, hs⟩
      rw [hh] at hs
      simp at hs
  refine ⟨o2, by simp [hl], ?_, h.scr.same' (hb q (by omega)) (fun h0 => hb gs (hg h0)), ?_⟩
  · intro x hx
    rcases List.mem_or_eq_of_mem_set hx with hx | rfl
    · exact h.sizes x hx
    · exact ⟨hc, Nat.le_refl _⟩
  · exact (h.fr.grown g1 (.inl (.inr rfl)) (hbx h.own)).grown g2 (.inl (.inr rfl)) (hbx o1)

theorem pick_len (sc : List Int) (most : Nat) : (pick sc most).2.length ≤ sc.length := by
  unfold pick
  split
  · simp
  · simp
theorem startFile_len (f : Fl) (sc : List Int) : (startFile f sc).2.length ≤ sc.length := by
  have h1 := pick_len sc (f.bytes.length - f.dur)
  have h2 := pick_len (pick sc (f.bytes.length - f.dur)).2 1
  unfold startFile
  simp only
  split
  · split
    · simp only; omega
    · simp only; omega
  · exact h1
theorem startAll_len : ∀ (l : Dir) (fs : List Fl) (sc : List Int), (startAll fs sc l).2.length ≤ sc.length
  | [], _, _ => Nat.le_refl _
  | x :: r, fs, sc => by
    have h1 := startAll_len r (startOne (fs, sc) x).1 (startOne (fs, sc) x).2
    have h2 : (startOne (fs, sc) x).2.length ≤ sc.length := startFile_len _ _
    have e : startAll fs sc (x :: r) = startAll (startOne (fs, sc) x).1 (startOne (fs, sc) x).2 r := rfl
    rw [e]
    omega

section
variable {T : Nat → Prop} {w : World} {p : Nat} {vf vn vd vp : Value} {m : M}
theorem mstart_up (h : MRep T w p vf vn vd vp m) (hd : m.down = false) (v : Value) : Calls Try.prog 51 #[.pointer (some ⟨p, 0, none⟩), v] w fun e w' => e = .returned (.tuple #[]) ∧ MAfter T w p m w' := by
  have H := Lib.hid h
  have h2 := h.c2
  rw [hd] at h2
  clear h hd
  go_enter Try.func51, Try.ntmps51
  go_wp2_with fail
  exact bodyPost_ret (v := .tuple #[]) (by simp [results, Try.results51, go_sem]) rfl ⟨rfl, H.out.after⟩
theorem mstart_down (h : MRep T w p vf vn vd vp m) (hok : m.Ok) (hwt : m.wt < 1073741821) (hfl : m.files.length ≤ 1073741822) (hd : m.down = true) (ao : Option Addr) (cap : Nat) (sc : List Int) (hsc : ScriptIn w p ao cap sc) :
    Calls Try.prog 51 #[.pointer (some ⟨p, 0, none⟩), .slice ao sc.length cap] w fun e w' => e = .returned (.tuple #[]) ∧ MAfter T w p (m.start sc) w' := by
  have H := Lib.hid h
  have HOK := Lib.hid hok
  have h2 := h.c2
  have hpl := h.plt
  have HD := Lib.hid hd
  obtain ⟨i0, hi, hz0, hz1, hz2⟩ := info_parts infoFil
  obtain ⟨gs, hgp, hgq, hgl, hscr⟩ := hsc.box hpl
  obtain ⟨aop, cpp, hvp, hcp, hcpm⟩ := h.hp.shape
  have hb1 := (Below.refl w.heap.size w).alloc (Nat.le_refl _) (.cells #[.slice ao sc.length cap] 106)
  have hr1 := h.below hb1
  have k6 := hr1.c6
  have hpw : m.pending.length ≤ m.wt := by unfold M.wt; omega
  rw [hd] at h2
  rw [hvp] at k6
  unfold maxLen at hcpm
  obtain ⟨pn, hpn⟩ : ∃ pn, pn = pick sc m.pending.length := ⟨_, rfl⟩
  have hch : ∀ W, ScrAt W w.heap.size gs sc → Calls Try.prog 66 #[.pointer (some ⟨w.heap.size, 0, none⟩), .int .i64 m.pending.length] W fun e w' => e = .returned (.int .i64 pn.1) ∧ ScrAt w' w.heap.size gs pn.2 ∧ Fr (fun i => i = w.heap.size) W w' := by
    intro W hW
    rw [hpn]
    exact mchoice_any w.heap.size gs (fun e => hgq e.symm) m.pending.length (by omega) sc W hW
  have hpk : pn.1 ≤ m.pending.length := by rw [hpn]; exact pick_le _ _
  have HPN := Lib.hid hpn
  obtain ⟨n1, sc1⟩ := pn
  simp only at hch hpk
  have HCH := Lib.hid hch
  have HSC := Lib.hid hscr
  have HVP := Lib.hid hvp
  have HB1 := Lib.hid hb1
  have HR1 := Lib.hid hr1
  have HGL := Lib.hid hgl
  obtain ⟨q, hq⟩ : ∃ q, q = w.heap.size := ⟨_, rfl⟩
  have HQ := Lib.hid hq
  have hqp : q ≠ p := by omega
  have hgq2 : gs ≠ q := by omega
  rw [← hq] at HCH HSC
  clear h hok hd hscr hvp hb1 hr1 hpn hch hgl hgq
  go_enter Try.func51, Try.ntmps51
  go_wp2_with (go_at_call 66; rw [← hq]; refine (HCH.out _ HSC.out).mono ?_; rintro e w2 ⟨rfl, hs2, hf2⟩; have HS2 := Lib.hid hs2; have HF2 := Lib.hid hf2; clear hs2 hf2)
  have hL0 : Loop1 T w p q gs vf vn vd vp { m with durable := all m.durable (m.pending.take 0) } sc1 w2 := by
    have hf : Fr (fun i => i = q) w w2 := ((Fr.below HB1.out).mono (fun _ => False.elim)).trans HF2.out
    have hS : ∀ i, T i → ¬ i = q := fun i hi e => by have := H.out.lt i hi; omega
    have hr := H.out.keep hf hS (fun e => hqp e.symm)
    refine ⟨hr.wider (fun g hg => ⟨.inl hg, hr.lt g hg⟩) (fun g hg => hg.2) (fun hg => ?_), HS2.out, ?_⟩
    · rcases hg.1 with h | h
      · exact H.out.np h
      · omega
    · exact ⟨hf.os, hf.tape, hf.output, hf.size, fun i hi hn => hf.block i hi (.inl (by omega))⟩
  have HL0 := Lib.hid hL0
  have hdl : m.durable.length ≤ m.wt := by unfold M.wt; omega
  clear hL0 k6 h2 hq
  rw [← HQ.out]
  go_loopw [6] (fun i wr => ∃ k : Nat, k ≤ n1 ∧ i = .int .i64 k ∧ ∃ vd', Loop1 T w p q gs vf vn vd' vp { m with durable := all m.durable (m.pending.take k) } sc1 wr) (fun i _ => n1 - (intOf i).toNat)
  case atStart => exact ⟨0, Nat.zero_le _, rfl, vd, HL0.out⟩
  case round =>
    obtain ⟨k, hk, rfl, vd', hL⟩ := hrel
    have HL := Lib.hid hL
    clear hL
    by_cases hlt : k < n1
    · have hkp : k < m.pending.length := by omega
      obtain ⟨gp, cp, hve, _, _, hc1, hc2, hcc⟩ := RowAt.elem (α := Ch) (f := chgV) (l := m.pending) HL.out.rep.hp chgV_len ⟨[], [], 0⟩ hkp rfl
      have hD1 := length_all (m.pending.take k) m.durable
      have hD2 : (m.pending.take k).length ≤ k := List.length_take_le _ _
      have hDl : (all m.durable (m.pending.take k)).length ≤ 1073741823 := by
        have : m.durable.length + m.pending.length = m.wt := rfl
        omega
      obtain ⟨ch, hch⟩ : ∃ ch, ch = m.pending.getD k ⟨[], [], 0⟩ := ⟨_, rfl⟩
      have hA := all_take_succ m.durable m.pending k hkp
      rw [← hch] at hcc hA
      have HCHE := Lib.hid hch
      obtain ⟨cs, ct, cf⟩ := ch
      have y0 := hcc 0 (by omega)
      have y1 := hcc 1 (by omega)
      have y2 := hcc 2 (by omega)
      simp only [chgV, Nat.add_zero, List.getD_cons_zero, List.getD_cons_succ] at y0 y1 y2
      obtain ⟨na, hna⟩ : ∃ na : ByteArray, na = ⟨cs.toArray⟩ := ⟨_, rfl⟩
      obtain ⟨nb, hnb⟩ : ∃ nb : ByteArray, nb = ⟨ct.toArray⟩ := ⟨_, rfl⟩
      rw [← hna] at y0
      rw [← hnb] at y1
      have hcs : cs = na.data.toList := by rw [hna]
      have hct : ct = nb.data.toList := by rw [hnb]
      rw [hcs, hct] at hA
      have x5 := HL.out.rep.c5
      have x6 := HL.out.rep.c6
      have z5 := HL.out.rep.fr 5
      have hpw2 := HL.out.rep.plt
      rw [hve] at x6
      have hk0 : (0 : Int) ≤ (k : Int) := by omega
      have hk1 : (k : Int) < (m.pending.length : Int) := by omega
      have HA := Lib.hid hA
      clear hch hcc hna hnb hcs hct hA hve hD1 hD2 hc1 hc2
      go_upto_region 6 with fail
      go_region_with (go_at_call 67; refine (mchanged_any (HL.out.rep.below ((Below.refl _ _).drew)).hu hDl na nb cf).mono ?_; rintro e w3 ⟨v3, rfl, hr3, hb3⟩; obtain ⟨ao3, cp3, rfl, hs1, hs2, hs3⟩ := hr3.shape; clear hs1 hs2 hs3; have e5 := (hb3.cell (p := ⟨p, 5, none⟩) hpw2).trans x5; have f5 := (hb3.frozen (p := ⟨p, 5, none⟩) hpw2).trans z5; have HR3 := Lib.hid hr3; have HB3 := Lib.hid hb3; clear hr3 hb3)
      all_goals
        go_wp2_with fail
        go_roundw
        case rel =>
          refine ⟨k + 1, by omega, by go_num, .slice ao3 (changed (all m.durable (m.pending.take k)) ⟨na.data.toList, nb.data.toList, cf⟩).length cp3, ?_⟩
          rw [HA.out]
          exact HL.out.step hqp hgp hpl HR3.out ((Below.refl _ _).drew.trans HB3.out)
        case measure => simp [intOf]; omega
    · obtain rfl : k = n1 := by omega
      obtain ⟨wl, hwl⟩ : ∃ wl : World, wl = wr := ⟨_, rfl⟩
      rw [← hwl] at HL
      rw [← hwl]
      clear hwl
      have hDs : Dsk.Good m.files.length (all m.durable (m.pending.take k)) := good_all HOK.out.durable (chain_take k HOK.out.chain)
      have hDl : (all m.durable (m.pending.take k)).length ≤ 1073741824 := by
        have h1 := length_all (m.pending.take k) m.durable
        have h2 : (m.pending.take k).length ≤ k := List.length_take_le _ _
        have : m.durable.length + m.pending.length = m.wt := rfl
        omega
      have hmd : m.start sc = { m with down := false, limit := -1, names := all m.durable (m.pending.take k), durable := all m.durable (m.pending.take k), pending := [], files := (startAll m.files sc1 (all m.durable (m.pending.take k))).1 } := by
        unfold M.start
        rw [HD.out]
        simp only [Bool.not_true, Bool.false_eq_true, if_false]
        rw [← HPN.out]
      generalize all m.durable (m.pending.take k) = D at HL hDs hDl hmd
      have HMD := Lib.hid hmd
      clear hmd
      have HDS := Lib.hid hDs
      obtain ⟨aod, cpd, hvd, _, hcdm⟩ := RowAt.shape HL.out.rep.hu
      obtain ⟨aof, cpf, hvf, _, hcfm⟩ := RowAt.shape HL.out.rep.hf
      subst hvd hvf
      have x5 := HL.out.rep.c5
      have x4 := HL.out.rep.c4
      have x6 := HL.out.rep.c6
      have x2 := HL.out.rep.c2
      have x1 := HL.out.rep.c1
      have z1 := HL.out.rep.fr 1
      have z2 := HL.out.rep.fr 2
      have z4 := HL.out.rep.fr 4
      have z6 := HL.out.rep.fr 6
      have hR7 : MRep (TT T w q wl) ((((wl.setCell ⟨p, 4, none⟩ (.slice aod D.length cpd)).setCell ⟨p, 6, none⟩ (.slice none 0 0)).setCell ⟨p, 2, none⟩ (.bool false)).setCell ⟨p, 1, none⟩ (.int .i64 (-1))) p (.slice aof m.files.length cpf) (.slice aod D.length cpd) (.slice aod D.length cpd) (.slice none 0 0) { m with down := false, limit := -1, names := D, durable := D, pending := [] } ∧
          Fr (fun i => i = p) wl ((((wl.setCell ⟨p, 4, none⟩ (.slice aod D.length cpd)).setCell ⟨p, 6, none⟩ (.slice none 0 0)).setCell ⟨p, 2, none⟩ (.bool false)).setCell ⟨p, 1, none⟩ (.int .i64 (-1))) := by
        obtain ⟨r1, f1⟩ := HL.out.rep.put 4 (.slice aod D.length cpd) (m' := { m with durable := D, names := D }) rfl HL.out.rep.hf HL.out.rep.hu HL.out.rep.hu HL.out.rep.hp
        obtain ⟨r2, f2⟩ := r1.put 6 (.slice none 0 0) (m' := { m with durable := D, names := D, pending := [] }) rfl r1.hf r1.hn r1.hu (row_nil _ _ _)
        obtain ⟨r3, f3⟩ := r2.put 2 (.bool false) (m' := { m with down := false, names := D, durable := D, pending := [] }) rfl r2.hf r2.hn r2.hu r2.hp
        obtain ⟨r4, f4⟩ := r3.put 1 (.int .i64 (-1)) (m' := { m with down := false, limit := -1, names := D, durable := D, pending := [] }) rfl r3.hf r3.hn r3.hu r3.hp
        exact ⟨r4, ((f1.trans f2).trans f3).trans f4⟩
      have HR7 := Lib.hid hR7
      unfold maxLen at hcdm hcfm
      clear hR7 hDs
      go_upto_region 8 with fail
      clear x1 x2 x4 x5 x6 z1 z2 z4 z6
      obtain ⟨hR8, hF8⟩ := HR7.out
      generalize hw7 : ((((wl.setCell ⟨p, 4, none⟩ (.slice aod D.length cpd)).setCell ⟨p, 6, none⟩ (.slice none 0 0)).setCell ⟨p, 2, none⟩ (.bool false)).setCell ⟨p, 1, none⟩ (.int .i64 (-1))) = w1 at hR8 hF8
      have H1 := Lib.hid hR8
      have HF8 := Lib.hid hF8
      have hs8 := HL.out.scr.fr hF8 (fun e => hqp e) (fun e => hgp e)
      have HS8 := Lib.hid hs8
      have k3 : ∀ o, (w1.alloc o).cell? ⟨p, 3, none⟩ = some (.slice aof m.files.length cpf) := fun o => (cell?_alloc_lt hR8.plt).trans hR8.c3
      clear hR8 hF8 hs8 hw7 HR7
      have hqB : q < w1.heap.size := HS8.out.qlt
      have hfB : w.heap.size ≤ w1.heap.size := by have := HL.out.fr.size; have := HF8.out.size; omega
      have hpB : p < w1.heap.size := by omega
      go_wp2_with (at_builtin; refine wpList_append_row _ rfl (.tmp 63) (.tmp 67) 52 rfl w1.heap.size 92 i0 _ 2 24 Try.underlying52 hi hz0 hz1 hz2 rfl (by decide) (.slice (some ⟨w1.heap.size, 0, none⟩) 0 0) 0 [] rfl (own_made0 _ _ _) (.slice aof m.files.length cpf) m.files.length (m.files.flatMap filV) rfl ?lies ?c3 ?c4 ?c5 ?_)
      case lies =>
        have hrf := H1.out.hf
        exact row_lies (hrf.below ((Below.refl _ _).alloc (Nat.le_refl _) _)) (filV_one _) (by decide)
      case c3 => unfold maxLen; omega
      case c4 => omega
      intro v2 w2a hO2 hg2
      try simp only [Nat.zero_add, List.nil_append] at hO2
      have hb2 := ((Below.refl w1.heap.size w1).alloc (Nat.le_refl _) (.cells #[] 92)).grown hg2 (by simp) (fun q e => by simp [Value.ownBlock] at e; omega)
      obtain ⟨ao2, cp2, hv2⟩ := own_shape hO2
      have e3 := (H1.out.below hb2).c3
      have f3 := (H1.out.below hb2).fr 3
      have hR2 := H1.out.below hb2
      have hd3 := block_set hR2.hd 3 v2
      have hF3 : Fr (fun i => i = p) w1 (w2a.setCell ⟨p, 3, none⟩ v2) := ((Fr.below hb2).mono (fun _ => False.elim)).trans ((Fr.refl (fun i => i = p) w2a).setCell (p := ⟨p, 3, none⟩) (.inl rfl) hR2.noBox _)
      have hO3 : (w2a.setCell ⟨p, 3, none⟩ v2).ownsRow w1.heap.size 92 2 v2 m.files.length (m.files.flatMap filV) := row_same hO2 (fun j hj => block_other (by have := (hO2.lt j hj).1; omega) _)
      have hG0 : Going (w2a.setCell ⟨p, 3, none⟩ v2) (w2a.setCell ⟨p, 3, none⟩ v2) q gs w1.heap.size m.files.length v2 m.cap (m.files, sc1) := ⟨hO3, rfl, HOK.out.sizes, HS8.out.fr hF3 (fun e => hqp e) (fun e => hgp e), Fr.refl _ _⟩
      subst hv2
      have HS3 := Lib.hid (And.intro hd3 (And.intro hF3 hG0))
      clear hO3 hd3 hF3 hO2 hg2 hb2 hR2 hG0
      go_upto_region 9 with fail
      obtain ⟨hd3, hF3, hG0⟩ := HS3.out
      clear HS3 k3 e3 f3
      generalize hw3 : w2a.setCell ⟨p, 3, none⟩ (.slice ao2 m.files.length cp2) = w3 at hd3 hF3 hG0
      have hE3 := RowAt.fr H1.out.hn hF3 (fun g hg e => H1.out.np (e ▸ hg))
      have HE3 := Lib.hid hE3
      have HD3 := Lib.hid hd3
      have HF3 := Lib.hid hF3
      have HG0 := Lib.hid hG0
      clear hd3 hF3 hG0 hw3 hE3
      go_wp2_with fail
      go_loopw [7] (fun i wr2 => ∃ k2 : Nat, k2 ≤ D.length ∧ i = .int .i64 k2 ∧ Going w3 wr2 q gs w1.heap.size m.files.length (.slice ao2 m.files.length cp2) m.cap (startAll m.files sc1 (D.take k2))) (fun i _ => D.length - (intOf i).toNat)
      case atStart => exact ⟨0, Nat.zero_le _, rfl, HG0.out⟩
      case round =>
        obtain ⟨k2, hk2, rfl, hst⟩ := hrel
        have HST := Lib.hid hst
        clear hst
        have hhd : wr.heap[p]? = w3.heap[p]? := HST.out.fr.block p (lt_of_block HD3.out) (.inl (by
          rintro (e | e)
          · exact hqp e.symm
          · have := own_ge HST.out.own e; omega))
        have x4 : wr.cell? ⟨p, 4, none⟩ = some (.slice aod D.length cpd) := by rw [World.cell?_of_block (a := ⟨p, 4, none⟩) hhd]; exact block_cell HD3.out 4
        have x3 : wr.cell? ⟨p, 3, none⟩ = some (.slice ao2 m.files.length cp2) := by rw [World.cell?_of_block (a := ⟨p, 3, none⟩) hhd]; exact block_cell HD3.out 3
        have HHD := Lib.hid hhd
        clear hhd
        by_cases hlt2 : k2 < D.length
        · have hnf := HDS.out.2 D[k2] (List.getElem_mem hlt2)
          have hDk : D.getD k2 ([], 0) = D[k2] := by rw [List.getD_eq_getElem?_getD, List.getElem?_eq_getElem hlt2]; rfl
          obtain ⟨gn, cn, hne, hgT, hgl3, hn1, hn2, hnc⟩ := RowAt.elem (α := Bs × Nat) (f := entV) (l := D) HE3.out entV_len ([], 0) hlt2 rfl
          simp only [Value.slice.injEq] at hne
          obtain ⟨rfl, -, rfl⟩ := hne
          have hgnq : gn ≠ q := by
            rcases hgT.1 with h | h
            · have := H.out.lt gn h; have := HQ.out; omega
            · exact h.2
          have y1 := hnc 1 (by omega)
          rw [hDk] at y1
          rw [← World.cell?_of_block (a := ⟨gn, k2 * 2 + 1, none⟩) (HST.out.fr.block gn hgl3 (.inl (by
            rintro (e | e)
            · exact hgnq e
            · have := own_ge HST.out.own e
              have := hgT.2
              have := HF8.out.size
              omega)))] at y1
          simp only [entV, List.getD_cons_zero, List.getD_cons_succ] at y1
          obtain ⟨f, hf⟩ : ∃ f, f = D[k2].2 := ⟨_, rfl⟩
          rw [← hf] at y1
          have hfn : f < m.files.length := by rw [hf]; exact hnf.2
          obtain ⟨gf, cf, hve, hgfB, hgf1, hgf2, hgf3, _⟩ := own_some HST.out.own (by omega)
          simp only [Value.slice.injEq] at hve
          obtain ⟨rfl, -, rfl⟩ := hve
          obtain ⟨u0, u1⟩ := HST.out.cells hfn
          have hsz := HST.out.sizes ((startAll m.files sc1 (D.take k2)).1.getD f ⟨[], 0⟩) (by
            rw [List.getD_eq_getElem?_getD, List.getElem?_eq_getElem (by rw [HST.out.len]; exact hfn)]
            exact List.getElem_mem _)
          generalize hfl2 : (startAll m.files sc1 (D.take k2)).1.getD f ⟨[], 0⟩ = fl at u0 u1 hsz
          generalize hae : startAll m.files sc1 (D.take k2) = a at HST hfl2
          have HAE := Lib.hid hae
          have HFL := Lib.hid hfl2
          have HF := Lib.hid hf
          have hcap1 := HOK.out.cap1
          have hb1 : (fl.bytes.length : Int) ≤ 16777216 := by omega
          have hb2 : fl.dur ≤ fl.bytes.length := hsz.2
          have HBC := Lib.hid hsz.1
          clear hsz hnf hnc hDk hfl2 hae hf hcap1 hgT
          obtain ⟨fb, hfb⟩ : ∃ fb : ByteArray, fb = ⟨fl.bytes.toArray⟩ := ⟨_, rfl⟩
          have hfz : fl.bytes.length = fb.size := by rw [hfb, size_mk]
          rw [← hfb] at u0
          rw [hfz] at hb1 hb2
          obtain ⟨mo, hmo⟩ : ∃ mo, mo = fb.size - fl.dur := ⟨_, rfl⟩
          have hmi : (fb.size : Int) - (fl.dur : Int) = (mo : Int) := by omega
          have hml : mo ≤ 16777216 := by omega
          have hch2 := fun (W : World) (h : ScrAt W q gs a.2) => mchoice_any q gs (fun e => hgq2 e.symm) mo (by omega) a.2 W h
          have hpk2 := pick_le a.2 mo
          generalize hpe2 : pick a.2 mo = pr at hch2 hpk2
          obtain ⟨kp, sc2⟩ := pr
          simp only at hch2 hpk2
          have HPE2 := Lib.hid hpe2
          have HCH2 := Lib.hid hch2
          have HFB := Lib.hid hfb
          have HFZ := Lib.hid hfz
          have HMO := Lib.hid hmo
          have HMI := Lib.hid hmi
          have hkd : fl.dur + kp ≤ fb.size := by omega
          have hk0 : (0 : Int) ≤ (k2 : Int) := by omega
          have hk1 : (k2 : Int) < (D.length : Int) := by omega
          have hf0 : (0 : Int) ≤ (f : Int) := by omega
          have hf1 : (f : Int) < (m.files.length : Int) := by omega
          unfold maxLen at hn2 hgf2
          clear hpe2 hch2 hfb hfz hmo hmi
          go_upto_region 12 with fail
          go_quiet (fail)
          have HG1 := Lib.hid (HST.out.drewN nq)
          have y0 : (wr.drewN nq).cell? ⟨gf, f * 2, none⟩ = some (.string fb) := u0
          have y2 : (wr.drewN nq).cell? ⟨gf, f * 2 + 1, none⟩ = some (.int .i64 fl.dur) := u1
          generalize wr.drewN nq = wq at HG1 y0 y2
          clear u0 u1 x3 x4 y1 hk0 hk1 hf0 hf1
          go_upto_region 13 with fail
          have hwl : IntKind.i64.wrap ((fb.size : Int) - (fl.dur : Int)) = (mo : Int) := by rw [HMI.out]; exact IntWalk.i64_in _ (by omega)
          go_still_tail 11, (by kernel_rfl)
          clear hwl
          have hG2 : Going w3 wq.drew q gs w1.heap.size m.files.length (.slice (some ⟨gf, 0, none⟩) m.files.length cp2) m.cap a := HG1.out.drewN 1
          have z0 : wq.drew.cell? ⟨gf, f * 2, none⟩ = some (.string fb) := y0
          have z1 : wq.drew.cell? ⟨gf, f * 2 + 1, none⟩ = some (.int .i64 fl.dur) := y2
          have HG2 := Lib.hid hG2
          change wpList _ _ _ _ _ wq.drew
          generalize wq.drew = wy at HG2 z0 z1
          clear hG2 y0 y2 HG1
          go_upto_region 14 with (go_at_call 66; refine (HCH2.out _ HG2.out.scr).mono ?_; rintro e wk ⟨rfl, hsk, hfk⟩; have HGK := Lib.hid (HG2.out.chosen hqB hsk hfk); have v0 := (World.cell?_of_block (a := ⟨gf, f * 2, none⟩) (hfk.block gf (HG2.out.own.lt gf rfl).2 (.inl (by omega)))).trans z0; have v1 := (World.cell?_of_block (a := ⟨gf, f * 2 + 1, none⟩) (hfk.block gf (HG2.out.own.lt gf rfl).2 (.inl (by omega)))).trans z1; clear hsk hfk z0 z1)
          have hwl : IntKind.i64.wrap ((fl.dur : Int) + (kp : Int)) = (fl.dur : Int) + (kp : Int) := IntWalk.i64_in _ (by omega)
          have hw0 : (0 : Int) ≤ (fl.dur : Int) + (kp : Int) := by omega
          have hw1 : (fl.dur : Int) + (kp : Int) ≤ (fb.size : Int) := by omega
          have hw2 : ((fl.dur : Int) + (kp : Int)).toNat = fl.dur + kp := by omega
          go_quiet (fail)
          clear hwl hw0 hw1 hw2
          have HGZ := Lib.hid (HGK.out.drewN nq)
          have y0 : (wk.drewN nq).cell? ⟨gf, f * 2, none⟩ = some (.string fb) := v0
          have y1 : (wk.drewN nq).cell? ⟨gf, f * 2 + 1, none⟩ = some (.int .i64 fl.dur) := v1
          generalize wk.drewN nq = wz at HGZ y0 y1
          clear v0 v1 HGK HG2
          obtain ⟨dt, hdt⟩ : ∃ dt, dt = fb.extract 0 (fl.dur + kp) := ⟨_, rfl⟩
          have hdz : dt.size = fl.dur + kp := by rw [hdt, ByteArray.size_extract]; omega
          have hdi : dt.size ≤ 16777216 := by omega
          have hdk : kp ≤ dt.size := by omega
          rw [← hdt]
          have HDT := Lib.hid hdt
          have HDZ := Lib.hid hdz
          clear hdt hdz
          have f0 := HGZ.out.free (by omega) (f * 2)
          have f1 := HGZ.out.free (by omega) (f * 2 + 1)
          have hnext : ∀ (W : World) (r : Fl × List Int), startFile fl a.2 = r → Going w3 W q gs w1.heap.size m.files.length (.slice (some ⟨gf, 0, none⟩) m.files.length cp2) m.cap (a.1.set f r.1, r.2) → Going w3 W q gs w1.heap.size m.files.length (.slice (some ⟨gf, 0, none⟩) m.files.length cp2) m.cap (startAll m.files sc1 (D.take (k2 + 1))) := by
            intro W r hr h
            rw [List.take_succ_eq_append_getElem hlt2, startAll_snoc, HAE.out]
            unfold startOne
            rw [← HF.out, HFL.out, hr]
            exact h
          have HNX := Lib.hid hnext
          have hsl : a.2.length ≤ sc.length := by
            have h1 := startAll_len (D.take k2) m.files sc1
            have h2 := pick_len sc m.pending.length
            rw [HAE.out] at h1
            rw [← HPN.out] at h2
            exact Nat.le_trans h1 h2
          have hsl2 : sc2.length ≤ a.2.length := by
            have := pick_len a.2 mo
            rw [HPE2.out] at this
            exact this
          have hgs0 : 0 < sc.length → gs ≠ gf := fun h => by have := HGL.out h; omega
          have HGS := Lib.hid hgs0
          clear hnext hgs0
          by_cases hk0 : kp = 0
          · subst hk0
            go_wp2_with fail
            go_roundw
            case rel =>
              refine ⟨k2 + 1, by omega, by go_num, HNX.out _ _ (startFile_zero (by rw [HFZ.out, ← HMO.out]; exact HPE2.out)) ?_⟩
              have e1 : dt = ⟨(fl.bytes.take (fl.dur + 0)).toArray⟩ := by rw [HDT.out, HFB.out, extract_take]
              exact HGZ.out.file hfn hqB (fun h => HGS.out (by simp only at h; omega)) e1 (by have := HBC.out; simp; omega)
            case measure => simp [intOf]; omega
          · have hkp : 0 < kp := by omega
            have hch3 := fun (W : World) (h : ScrAt W q gs sc2) => mchoice_any q gs (fun e => hgq2 e.symm) 1 (by omega) sc2 W h
            have hpk3 := pick_le sc2 1
            have hsl3 := pick_len sc2 1
            generalize hpe3 : pick sc2 1 = pr at hch3 hpk3 hsl3
            obtain ⟨c2, sc3⟩ := pr
            simp only at hch3 hpk3 hsl3
            have HPE3 := Lib.hid hpe3
            have hch3' : ∀ (W : World), ScrAt W q gs sc2 → Calls Try.prog 66 #[.pointer (some ⟨q, 0, none⟩), .int .i64 1] W fun e w' => e = .returned (.int .i64 c2) ∧ ScrAt w' q gs sc3 ∧ Fr (fun i => i = q) W w' := hch3
            have HCH3 := Lib.hid hch3'
            clear hch3 hch3' hpe3
            have hd1 : 1 ≤ dt.size := by omega
            by_cases hc1 : c2 = 1
            · subst hc1
              go_upto_region 16 with (go_at_call 66; refine (HCH3.out wz HGZ.out.scr).mono ?_; rintro e wk ⟨rfl, hsk, hfk⟩; have HGK := Lib.hid (HGZ.out.chosen hqB hsk hfk); have v0 := (World.cell?_of_block (a := ⟨gf, f * 2, none⟩) (hfk.block gf (HGZ.out.own.lt gf rfl).2 (.inl (by omega)))).trans y0; have v1 := (World.cell?_of_block (a := ⟨gf, f * 2 + 1, none⟩) (hfk.block gf (HGZ.out.own.lt gf rfl).2 (.inl (by omega)))).trans y1; clear hsk hfk y0 y1 f0 f1)
              obtain ⟨la, hla⟩ : ∃ la, dt.size = la + 1 := ⟨dt.size - 1, by omega⟩
              have hlb : la ≤ 16777216 := by omega
              have hl1 : (la : Int) ≤ (la : Int) + 1 := by omega
              have hl2 : (0 : Int) ≤ (la : Int) := by omega
              have hl3 : (la : Int) < (dt.size : Int) := by omega
              have hl4 : la < dt.size := by omega
              have hl5 : (la : Int) < (la : Int) + 1 := by omega
              have hlx : dt[la].toNat < 256 := dt[la].toNat_lt
              have hcv : ∀ n : Int, (convert 38 9 (.slice (some ⟨wk.heap.size, 0, none⟩) 1 1)).run Try.prog (wk.alloc (.cells #[.int .u8 n] 5)).drew = .ok (.string ⟨#[UInt8.ofNat n.toNat]⟩) (wk.alloc (.cells #[.int .u8 n] 5)).drew := fun n => convert_one _ _ n (heap_alloc_new wk _)
              have hes : (dt.extract 0 la).size ≤ 16777216 := by rw [ByteArray.size_extract]; omega
              go_cut [10] (fun s10 wx => s10 = .string (dt.extract 0 la ++ ⟨#[UInt8.ofNat (255 - (dt[la]'(by omega)).toNat)]⟩) ∧ Going w3 wx q gs w1.heap.size m.files.length (.slice (some ⟨gf, 0, none⟩) m.files.length cp2) m.cap (a.1, sc3))
              case first =>
                go_region
                all_goals
                  go_wp2_with fail
                  go_meet
                  exact ⟨rfl, (HGK.out.alloc _).drewN 1⟩
              case rest =>
                obtain ⟨rfl, hst3⟩ := hcut
                have hdm : dt.extract 0 la ++ ⟨#[UInt8.ofNat (255 - (dt[la]'(by omega)).toNat)]⟩ = ⟨(damaged (fl.bytes.take (fl.dur + kp))).toArray⟩ := damaged_sub (by rw [HDT.out, HFB.out, extract_take]) hla _
                generalize dt.extract 0 la ++ ⟨#[UInt8.ofNat (255 - (dt[la]'(by omega)).toNat)]⟩ = dm at hdm
                have hdl : (damaged (fl.bytes.take (fl.dur + kp))).length = (fl.bytes.take (fl.dur + kp)).length := damaged_length (by have := HFZ.out; simp; omega)
                have HDM := Lib.hid hdm
                have HDL2 := Lib.hid hdl
                have HS3 := Lib.hid hst3
                obtain ⟨v0, v1⟩ := hst3.cells hfn
                have g0 := hst3.free (by omega) (f * 2)
                have g1 := hst3.free (by omega) (f * 2 + 1)
                clear hdm hdl hst3 hcv hes hla hl1 hl2 hl3 hl4 hl5 hlx
                go_wp2_with fail
                go_roundw
                case rel =>
                  refine ⟨k2 + 1, by omega, by go_num, HNX.out _ _ (startFile_bad (by rw [HFZ.out, ← HMO.out]; exact HPE2.out) hkp HPE3.out) ?_⟩
                  rw [← HDL2.out]
                  exact HS3.out.file hfn hqB (fun h => HGS.out (by simp only at h; omega)) HDM.out (by have := HBC.out; rw [HDL2.out]; simp; omega)
                case measure => simp [intOf]; omega
            · have hbe : ((c2 : Int) == 1) = false := by simp; omega
              go_wp2_with (go_at_call 66; refine (HCH3.out wz HGZ.out.scr).mono ?_; rintro e wk ⟨rfl, hsk, hfk⟩; have HGK := Lib.hid (HGZ.out.chosen hqB hsk hfk); have v0 := (World.cell?_of_block (a := ⟨gf, f * 2, none⟩) (hfk.block gf (HGZ.out.own.lt gf rfl).2 (.inl (by omega)))).trans y0; have v1 := (World.cell?_of_block (a := ⟨gf, f * 2 + 1, none⟩) (hfk.block gf (HGZ.out.own.lt gf rfl).2 (.inl (by omega)))).trans y1; have g0 := HGK.out.free (by omega) (f * 2); have g1 := HGK.out.free (by omega) (f * 2 + 1); clear hsk hfk y0 y1 f0 f1)
              go_roundw
              case rel =>
                refine ⟨k2 + 1, by omega, by go_num, HNX.out _ _ (startFile_plain (by rw [HFZ.out, ← HMO.out]; exact HPE2.out) hkp HPE3.out hc1) ?_⟩
                have e1 : dt = ⟨(fl.bytes.take (fl.dur + kp)).toArray⟩ := by rw [HDT.out, HFB.out, extract_take]
                exact HGK.out.file hfn hqB (fun h => HGS.out (by simp only at h; omega)) e1 (by have := HBC.out; simp; omega)
              case measure => simp [intOf]; omega
        · obtain rfl : k2 = D.length := by omega
          go_wp2_with fail
          go_end0
          refine ⟨rfl, ?_⟩
          rw [HMD.out]
          rw [List.take_length] at HST
          have hw3 : ∀ i, i < w3.heap.size → i ≠ q → i < w1.heap.size → wr.heap[i]? = w3.heap[i]? := fun i hi hq1 hb => HST.out.fr.block i hi (.inl (by
            rintro (e | e)
            · exact hq1 e
            · have := own_ge HST.out.own e; omega))
          have hrow : ∀ g, TT T w q wl g → g < w1.heap.size → wr.heap[g]? = w1.heap[g]? := fun g hg hl => by
            have hgq1 : g ≠ q := by
              rcases hg.1 with h | h
              · have := H.out.lt g h; have := HQ.out; omega
              · exact h.2
            have hgp1 : ¬ g = p := fun e => H1.out.np (e ▸ hg)
            exact (hw3 g (Nat.lt_of_lt_of_le hl HF3.out.size) hgq1 hl).trans (HF3.out.block g hl (.inl hgp1))
          have hsz : w1.heap.size ≤ wr.heap.size := Nat.le_trans HF3.out.size HST.out.fr.size
          have hF1 : Fr (fun i => i = p) w w1 := HL.out.fr.trans HF8.out
          have hTm : ∀ g, TT T w q wl g → T g ∨ w.heap.size ≤ g := fun g hg => hg.1.imp id (fun h => h.1)
          have hd4 := HHD.out.trans HD3.out
          have hgood := HDS.out
          refine ⟨fun g => (T g ∨ w.heap.size ≤ g) ∧ g < wr.heap.size, fun i hi => hi.1, ⟨.slice ao2 m.files.length cp2, _, _, _, fun g hg => hg.2, fun hg => ?_, hd4, ?_, ?_, ?_, ?_⟩, ?_⟩
          · rcases hg.1 with h | h
            · exact H.out.np h
            · omega
          · have hown := row_own HST.out.own
            have hlen := HST.out.len
            show RowAt _ wr _ 2 (startAll m.files sc1 D).1.length _
            rw [hlen]
            exact (hown.mono (fun g hg => Or.inr (Nat.le_trans hfB hg))).cut
          · exact ((RowAt.same H1.out.hn hrow hsz).mono hTm).cut
          · exact ((RowAt.same H1.out.hu hrow hsz).mono hTm).cut
          · exact row_nil _ _ _
          · exact ⟨HST.out.fr.os.trans (HF3.out.os.trans hF1.os), HST.out.fr.tape.trans (HF3.out.tape.trans hF1.tape), HST.out.fr.output.trans (HF3.out.output.trans hF1.output), Nat.le_trans hF1.size hsz, fun i hi hn => by
              have hne : ¬ i = p := hn.elim id (fun hb e => H.out.noBox (e ▸ hb))
              exact (hw3 i (by have := HF3.out.size; have := hF1.size; omega) (by have := HQ.out; omega) (by omega)).trans ((HF3.out.block i (by omega) (.inl hne)).trans (hF1.block i hi (.inl hne)))⟩
end
end Go.Proofs.Ytlhnjdoicolkkaa
