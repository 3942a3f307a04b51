/- The document's model: with, changed. -/
import Derived.Test.YtlhnjdoicolkkaaEnts
import Derived.BigQuiet
import Derived.Deep.QuietTactic
import Derived.WalkSmall
import Derived.Sort.Walk0
set_option maxRecDepth 100000
namespace Go.Proofs.Ytlhnjdoicolkkaa
open Go.RowKit Go.Dsk Go.Maps Go.WideMaps
set_option maxHeartbeats 1000000

/-- A slice whose m elements can be appended. -/
def Lies (w : World) (xv : Value) (size m : Nat) (news : List Value) : Prop :=
  news.length = m * size ∧ (∀ u ∈ news, u.oneCell' = true) ∧ ((xv = .slice none 0 0 ∧ m = 0) ∨ ∃ ad c, xv = .slice (some ad) m c ∧ ∀ j u, news[j]? = some u → w.cell? (ad.add j) = some u)
theorem wpList_append_row {P : Program} (w : World) {ops : Array Oper} {rest : List Oper} {o : Oper} {a : Act} {Q : Exit → Act → World → Prop} (hgd : o.guard = none) (s x : Operand) (t : TypeId)
    (ho : o.op = .call { callee := .builtin .append, args := #[s, x], argTypes := #[t, t] })
    (base : Nat) (e : TypeId) (i : TypeInfo) (z : Value) (size bytes : Nat) (ht : P.underlying t = some (.slice e)) (hi : P.info? e = some i) (hz : i.zero = some z)
    (hsize : i.size = size) (hby : i.bytes = bytes) (hzs : z.cells.size = size) (hsz : 0 < size)
    (v : Value) (n : Nat) (xs : List Value) (hs : a.eval s = v) (hown : w.ownsRow base e size v n xs)
    (xv : Value) (m : Nat) (news : List Value) (hx : a.eval x = xv) (hl : Lies w xv size m news)
    (h63 : n + m ≤ maxLen) (hbytes : (n + m) * bytes ≤ 140737488355328) (hbase : base ≤ w.heap.size)
    (h : ∀ v' w', w'.ownsRow base e size v' (n + m) (xs ++ news) → w.grownBy w' v.ownBlock → wpList P ops Q rest (a.put o.dst v') w') : wpList P ops Q (o :: rest) a w := by
  obtain ⟨h1, h2, ⟨rfl, rfl⟩ | ⟨ad, c, rfl, hc⟩⟩ := hl
  · refine wpList_plain hgd fun _ hK => ?_
    have hr := run_append_owned_none (P := P) (w := w) base t o.type e i size ht hi v n xs hown
    unfold Oper.wp execOp
    simp only [ho, resolve, invoke, builtin, Sem.run_bind, Sem.run_pure, Result.andThen_ok, List.map_toArray, List.map_cons, List.map_nil, hs, hx, hr]
    have e0 : news = [] := List.eq_nil_of_length_eq_zero (by simpa using h1)
    subst e0
    exact hK _ _ (h v w (by simpa using hown) ⟨rfl, rfl, rfl, Nat.le_refl _, fun _ _ _ => rfl⟩)
  · exact wpList_append_own w hgd s x t ho base e i z size bytes ht hi hz hsize hby hzs hsz v n xs hs hown ad m c news hx h1 hc h2 h63 hbytes hbase fun v' w' a b _ => h v' w' a b

/-- Where x stands among the names. -/
def pos (l : Dir) (x : Bs) : Nat := (l.takeWhile fun p => bytesBefore p.1 x).length
theorem pos_le (l : Dir) (x : Bs) : pos l x ≤ l.length := (List.takeWhile_prefix _).length_le
theorem pos_at {l : Dir} {x : Bs} {k : Nat} (hk : k ≤ l.length) (hs : ∀ j, j < k → bytesBefore (l.getD j ([], 0)).1 x = true) (he : k = l.length ∨ bytesBefore (l.getD k ([], 0)).1 x = false) : pos l x = k := by
  induction l generalizing k with
  | nil => simp at hk; subst hk; rfl
  | cons p r ih =>
    cases k with
    | zero =>
      have h : bytesBefore p.1 x = false := by
        rcases he with he | he
        · simp at he
        · simpa using he
      simp [pos, h]
    | succ k =>
      have h0 : bytesBefore p.1 x = true := by simpa using hs 0 (by omega)
      have := ih (k := k) (by simpa using hk) (fun j hj => by simpa using hs (j + 1) (by omega)) (by simpa using he)
      unfold pos at this ⊢
      simp [h0, this]
theorem ins_pos {x : Bs × Nat} : ∀ {l : Dir}, (∀ p ∈ l, p.1 ≠ x.1) → ins x l = l.take (pos l x.1) ++ x :: l.drop (pos l x.1)
  | [], _ => rfl
  | p :: r, h => by
    have hp : p.1 ≠ x.1 := h p (by simp)
    have ih := ins_pos (x := x) (l := r) (fun q hq => h q (by simp [hq]))
    unfold ins
    by_cases hb : bytesBefore p.1 x.1 = true
    · rw [if_neg (by rw [bytesBefore_asymm hb]; simp), ih]
      simp [pos, hb]
    · rw [if_pos ((bytesBefore_total hp).resolve_left hb)]
      simp [pos, hb]

theorem less_before (x y : Bs) : Op.bytesLess x y = bytesBefore x y := by
  rw [Go.Proofs.bytesLess_eq]
  by_cases h : x < y
  · rw [(bytesBefore_iff x y).2 h]; simp [h]
  · have : bytesBefore x y = false := by rw [Bool.eq_false_iff]; exact fun e => h ((bytesBefore_iff x y).1 e)
    rw [this]; simp [h]
theorem flat_take {α : Type} (f : α → List Value) (s : Nat) (hf : ∀ x, (f x).length = s) : ∀ (l : List α) (k : Nat), (l.flatMap f).take (k * s) = (l.take k).flatMap f
  | [], k => by simp
  | x :: r, 0 => by simp
  | x :: r, k + 1 => by
    rw [List.flatMap_cons, List.take_succ_cons, List.flatMap_cons, List.take_append, hf, ← flat_take f s hf r k]
    rw [List.take_of_length_le (by rw [hf, Nat.succ_mul]; omega)]
    rw [show (k + 1) * s - s = k * s by rw [Nat.succ_mul]; omega]
theorem flat_drop {α : Type} (f : α → List Value) (s : Nat) (hf : ∀ x, (f x).length = s) : ∀ (l : List α) (k : Nat), (l.flatMap f).drop (k * s) = (l.drop k).flatMap f
  | [], k => by simp
  | x :: r, 0 => by simp
  | x :: r, k + 1 => by
    rw [List.flatMap_cons, List.drop_succ_cons, List.drop_append, hf, ← flat_drop f s hf r k]
    rw [List.drop_of_length_le (by rw [hf, Nat.succ_mul]; omega)]
    rw [show (k + 1) * s - s = k * s by rw [Nat.succ_mul]; omega]
    rfl
theorem entV_one (l : Dir) : ∀ u ∈ l.flatMap entV, u.oneCell' = true := by
  intro u hu
  obtain ⟨p, _, hp⟩ := List.mem_flatMap.1 hu
  simp [entV] at hp
  rcases hp with rfl | rfl <;> simp [Value.oneCell']
theorem ents_take {T : Nat → Prop} {w : World} {ao : Option Addr} {n cp : Nat} {l : Dir} (h : EntsAt T w (.slice ao n cp) l) {k : Nat} (hk : k ≤ l.length) : Lies w (.slice ao k cp) 2 k ((l.take k).flatMap entV) := by
  obtain ⟨h1, ao', cp', h2, h3, h4, h6, h5⟩ := h
  simp only [Value.slice.injEq] at h2
  obtain ⟨rfl, rfl, rfl⟩ := h2
  refine ⟨by rw [flat_len entV 2 entV_len]; simp; omega, entV_one _, ?_⟩
  cases ao with
  | none =>
    have hc := h6 rfl
    have : k = 0 := by omega
    subst this
    exact .inl ⟨by rw [hc], rfl⟩
  | some a =>
    refine .inr ⟨a, cp, rfl, fun j u hu => ?_⟩
    have hj : j < ((l.take k).flatMap entV).length := (List.getElem?_eq_some_iff.1 hu).1
    rw [flat_len entV 2 entV_len, List.length_take] at hj
    obtain ⟨g, e, _, hg, hc⟩ := h5 (by omega)
    cases e
    rw [add_plain, Nat.zero_add, hc j (by omega)]
    rw [← flat_take entV 2 entV_len, List.getElem?_take_of_lt (by omega)] at hu
    rw [List.getD_eq_getElem?_getD, hu]
    rfl
theorem ents_drop {T : Nat → Prop} {w : World} {a : Addr} {n cp : Nat} {l : Dir} (h : EntsAt T w (.slice (some a) n cp) l) {k : Nat} (hk : k ≤ l.length) (c : Nat) (d : Addr) (hd : k < l.length → d = a.add (k * 2)) : Lies w (.slice (some d) (l.length - k) c) 2 (l.length - k) ((l.drop k).flatMap entV) := by
  obtain ⟨h1, ao', cp', h2, h3, h4, h6, h5⟩ := h
  simp only [Value.slice.injEq] at h2
  obtain ⟨rfl, rfl, rfl⟩ := h2
  refine ⟨by rw [flat_len entV 2 entV_len]; simp, entV_one _, .inr ⟨d, c, rfl, fun j u hu => ?_⟩⟩
  have hj : j < ((l.drop k).flatMap entV).length := (List.getElem?_eq_some_iff.1 hu).1
  rw [flat_len entV 2 entV_len, List.length_drop] at hj
  rw [hd (by omega)]
  obtain ⟨g, e, _, hg, hc⟩ := h5 (by omega)
  cases e
  rw [add_plain, add_plain, Nat.zero_add, hc (k * 2 + j) (by omega)]
  rw [← flat_drop entV 2 entV_len, List.getElem?_drop] at hu
  rw [List.getD_eq_getElem?_getD, hu]
  rfl
theorem own_weaken {w : World} {base base' : Nat} {e : TypeId} {size n : Nat} {v : Value} {xs : List Value} (h : w.ownsRow base' e size v n xs) (hb : base ≤ base') : w.ownsRow base e size v n xs := by
  obtain ⟨h1, h2⟩ := h
  rcases h2 with h2 | ⟨g, cap, cur, rfl, hg, hr⟩
  · exact ⟨h1, .inl h2⟩
  · exact ⟨h1, .inr ⟨g, cap, cur, rfl, Nat.le_trans hb hg, hr⟩⟩
theorem withOne_pos {l W : Dir} {n : Bs} {f k : Nat} (hW : W = without l n) (hp : pos W n = k) : withOne l (n, f) = W.take k ++ (n, f) :: W.drop k := by
  unfold withOne
  rw [← hW, ins_pos (fun p hp => by rw [hW] at hp; exact (mem_without.1 hp).2), hp]
theorem mwith_any {T : Nat → Prop} {w : World} {v : Value} {l : Dir} (h : EntsAt T w v l) (hl : l.length ≤ 1073741823) (n : ByteArray) (f : Nat) :
    Calls Try.prog 73 #[v, .agg #[.string n, .int .i64 f]] w fun e w' => ∃ v', e = .returned v' ∧ w'.ownsRow w.heap.size 94 2 v' (withOne l (n.data.toList, f)).length ((withOne l (n.data.toList, f)).flatMap entV) ∧ Below w.heap.size w w' := by
  have H := Lib.hid h
  clear h
  obtain ⟨i0, hi, hz0, hz1, hz2⟩ := info_parts infoEnt
  go_enter Try.func73, Try.ntmps73
  go_wp2_with fail
  have hbx := (Below.refl w.heap.size w).alloc (Nat.le_refl _) (.cells #[.string n, .int .i64 f] 94)
  refine (mwithout_any (H.out.below hbx) (by omega) n).mono ?_
  rintro e v1 ⟨l1, rfl, hown, hb1⟩
  have hrow : EntsAt (fun g => (w.alloc (.cells #[.string n, .int .i64 f] 94)).heap.size ≤ g) v1 l1 (without l n.data.toList) := row_own hown
  have x0 : v1.cell? ⟨w.heap.size, 0, none⟩ = some (.string n) := (hb1.cell (p := ⟨w.heap.size, 0, none⟩) (by simp)).trans (by simp only [World.cell?, heap_alloc_new]; rfl)
  have x1 : v1.cell? ⟨w.heap.size, 1, none⟩ = some (.int .i64 f) := (hb1.cell (p := ⟨w.heap.size, 1, none⟩) (by simp)).trans (by simp only [World.cell?, heap_alloc_new]; rfl)
  have hsz : w.heap.size < v1.heap.size := by have := hb1.size; simp at this; omega
  have HB1 := Lib.hid (hbx.trans (hb1.mono (by simp)))
  have hwl : (without l n.data.toList).length ≤ l.length := length_without l n.data.toList
  obtain ⟨W, hW⟩ : ∃ W, W = without l n.data.toList := ⟨_, rfl⟩
  rw [← hW] at hrow hwl
  have HW := Lib.hid hW
  have HR := Lib.hid hrow
  obtain ⟨ao, cp, rfl, hcp, hcm, hc⟩ := hrow.shape
  have HC := Lib.hid hc
  have X0 := Lib.hid x0
  have X1 := Lib.hid x1
  clear hrow hown hb1 hbx hW hc x0 x1
  unfold maxLen at hcm
  go_wp2_with fail
  go_loopw [6] (fun i wr => ∃ k : Nat, k ≤ W.length ∧ i = .int .i64 k ∧ (∀ j, j < k → bytesBefore (W.getD j ([], 0)).1 n.data.toList = true) ∧ Below v1.heap.size v1 wr) (fun i _ => W.length - (intOf i).toNat)
  case atStart => exact ⟨0, Nat.zero_le _, rfl, fun j hj => absurd hj (Nat.not_lt_zero _), Below.refl _ _⟩
  case round =>
    obtain ⟨k, hk, rfl, hs, hb⟩ := hrel
    have HS := Lib.hid hs
    have HB := Lib.hid hb
    have x0 := (hb.cell (p := ⟨w.heap.size, 0, none⟩) hsz).trans X0.out
    clear hs hb
    have x1 := (HB.out.cell (p := ⟨w.heap.size, 1, none⟩) hsz).trans X1.out
    by_cases hlt : k < W.length
    · obtain ⟨g, rfl, hg, hcs⟩ := HC.out (by omega)
      obtain ⟨h1, h2⟩ := hcs k hlt
      clear hcs h2
      have h1 := (HB.out.cell (p := ⟨g, k * 2, none⟩) hg).trans h1
      obtain ⟨nm, hnm⟩ : ∃ nm, nm = (W.getD k ([], 0)).1 := ⟨_, rfl⟩
      rw [← hnm] at h1
      obtain ⟨nb, hnb⟩ : ∃ nb : ByteArray, nb = ⟨nm.toArray⟩ := ⟨_, rfl⟩
      rw [← hnb] at h1
      have HNM := Lib.hid hnm
      have hlb : Op.bytesLess nb.toList n.toList = bytesBefore nm n.data.toList := by
        rw [less_before, ByteArray.toList_eq, ByteArray.toList_eq, hnb]
      have t1 : decide ((k : Int) < (W.length : Int)) = true := by simp; omega
      have hk0 : (0 : Int) ≤ (k : Int) := by omega
      have hk1 : (k : Int) < (W.length : Int) := by omega
      clear hnm hnb
      cases hbb : bytesBefore nm n.data.toList with
      | true =>
        rw [hbb] at hlb
        have HBB := Lib.hid hbb
        clear hbb
        go_upto_region 4 with (fail)
        go_quiet (fail)
        go_wp2_with fail
        refine ⟨⟨k + 1, by omega, by simp, ?_, below_drewN HB.out nq⟩, by simp [intOf]; omega⟩
        intro j hj
        rcases Nat.lt_or_ge j k with h | h
        · exact HS.out j h
        · obtain rfl : j = k := by omega
          rw [← HNM.out]
          exact HBB.out
      | false =>
        rw [hbb] at hlb
        have hps : pos W n.data.toList = k := pos_at hk HS.out (.inr (by rw [← HNM.out]; exact hbb))
        have HPS := Lib.hid hps
        clear hbb hps
        go_upto_region 4 with (fail)
        go_quiet (fail)
        have hbq := below_drewN HB.out nq
        have xq0 : (wr.drewN nq).cell? ⟨w.heap.size, 0, none⟩ = some (.string n) := x0
        have xq1 : (wr.drewN nq).cell? ⟨w.heap.size, 1, none⟩ = some (.int .i64 f) := x1
        clear x0 x1 h1 hlb t1 hk0 hk1
        generalize wr.drewN nq = wq at hbq xq0 xq1
        have hrq := HR.out.below hbq
        have HBV := Lib.hid hbq
        have HBQ := Lib.hid (HB1.out.trans (hbq.mono (Nat.le_of_lt hsz)))
        have ht := ents_take (k := k) hrq hk
        have HT := Lib.hid ht
        have HRQ := Lib.hid hrq
        clear hbq ht hrq
        go_wp2_with (at_builtin; refine wpList_append_row _ rfl _ _ 53 rfl wq.heap.size 94 i0 _ 2 24 Try.underlying53 hi hz0 hz1 hz2 rfl (by decide) (.slice none 0 0) 0 [] rfl (World.ownsRow_nil _ _ _ _) _ k ((W.take k).flatMap entV) rfl ?lies ?c3 ?c4 ?c5 ?_)
        case lies => exact HT.out
        case c3 => unfold maxLen; omega
        case c4 => omega
        case c5 => exact Nat.le_refl _
        intro v2 w2 hown2 hg2
        have hb2 := HBQ.out.grown hg2 (by have := HBQ.out.size; omega) (fun q e => by simp [Value.ownBlock] at e)
        have y0 := (hg2.cell_far ⟨w.heap.size, 0, none⟩ (by have := HBV.out.size; simp; omega) (by simp [Value.ownBlock])).trans xq0
        have y1 := (hg2.cell_far ⟨w.heap.size, 1, none⟩ (by have := HBV.out.size; simp; omega) (by simp [Value.ownBlock])).trans xq1
        have HO2 := Lib.hid hown2
        have HB2 := Lib.hid hb2
        have HG2 := Lib.hid hg2
        clear hown2 hb2 hg2 xq0 xq1
        go_wp2_with (at_builtin; refine wpList_append_row _ rfl _ _ 53 rfl wq.heap.size 94 i0 _ 2 24 Try.underlying53 hi hz0 hz1 hz2 rfl (by decide) v2 k _ rfl (HO2.out.alloc _) _ 1 [.string n, .int .i64 f] rfl ?lies ?c3 ?c4 ?c5 ?_)
        case lies => exact ⟨rfl, by simp [Value.oneCell'], .inr ⟨_, 1, rfl, World.news_of_block (heap_alloc_new w2 _)⟩⟩
        case c3 => unfold maxLen; omega
        case c4 => omega
        case c5 => have := HG2.out.size; simp; omega
        intro v3 w3 hown3 hg3
        have hb3 := (HB2.out.alloc (by have := HB2.out.size; omega) (.cells #[.string n, .int .i64 f] 94)).grown hg3 (by have := HB2.out.size; simp; omega) (fun q e => by have := own_ge HO2.out e; have := HBQ.out.size; omega)
        have hr3 := HRQ.out.same (w' := w3) (fun q _ hq => (hg3.block q (by have := HG2.out.size; simp; omega) (fun e => by have := own_ge HO2.out e.symm; omega)).trans ((((Below.refl w2.heap.size w2).alloc (Nat.le_refl _) _).block q (by have := HG2.out.size; omega)).trans (HG2.out.block q hq (by simp [Value.ownBlock])))) (by have := HG2.out.size; have := hg3.size; simp at this; omega)
        have hz3 : wq.heap.size ≤ w3.heap.size := by have := HG2.out.size; have := hg3.size; simp at this; omega
        have HR3 := Lib.hid hr3
        have HO3 := Lib.hid hown3
        have HB3 := Lib.hid hb3
        clear hown3 hb3 hr3 hg3 y0 y1
        go_wp2_with (at_builtin; refine wpList_append_row _ rfl _ _ 53 rfl wq.heap.size 94 i0 _ 2 24 Try.underlying53 hi hz0 hz1 hz2 rfl (by decide) v3 (k + 1) _ rfl HO3.out _ (W.length - k) ((W.drop k).flatMap entV) rfl ?lies ?c3 ?c4 ?c5 ?_)
        case lies => exact ents_drop (k := k) HR3.out hk (cp - k) ⟨g, k * 2, none⟩ (fun _ => by rw [add_plain, Nat.zero_add])
        case c3 => unfold maxLen; omega
        case c4 => omega
        case c5 => exact hz3
        intro v4 w4 hown4 hg4
        have hb4 := HB3.out.grown hg4 (by have := HB3.out.size; omega) (fun q e => by have := own_ge HO3.out e; have := HBQ.out.size; omega)
        have HB4 := Lib.hid hb4
        have HO4 := Lib.hid (own_weaken hown4 (by have := HBQ.out.size; omega : w.heap.size ≤ wq.heap.size))
        clear hown4 hb4 hg4
        go_wp2_with fail
        go_ret
        refine ⟨_, rfl, ?_, HB4.out⟩
        rw [withOne_pos HW.out HPS.out]
        have h := HO4.out
        have e1 : (W.take k ++ (n.data.toList, f) :: W.drop k).length = k + 1 + (W.length - k) := by simp; omega
        have e2 : (W.take k ++ (n.data.toList, f) :: W.drop k).flatMap entV = ((W.take k).flatMap entV ++ [.string n, .int .i64 f]) ++ (W.drop k).flatMap entV := by
          rw [List.flatMap_append, List.flatMap_cons, List.append_assoc]
          rfl
        rw [e1, e2]
        simpa using h
    · have t1 : decide ((k : Int) < (W.length : Int)) = false := by simp; omega
      have hps : pos W n.data.toList = k := pos_at hk HS.out (.inl (by omega))
      have HPS := Lib.hid hps
      clear hps
      go_upto_region 4 with (fail)
      go_quiet (fail)
      have hbq := below_drewN HB.out nq
      have xq0 : (wr.drewN nq).cell? ⟨w.heap.size, 0, none⟩ = some (.string n) := x0
      have xq1 : (wr.drewN nq).cell? ⟨w.heap.size, 1, none⟩ = some (.int .i64 f) := x1
      clear x0 x1 t1
      cases ao with
      | some a =>
        by_cases hck : k < cp
        · skip
          generalize wr.drewN nq = wq at hbq xq0 xq1
          have hrq := HR.out.below hbq
          have HBV := Lib.hid hbq
          have HBQ := Lib.hid (HB1.out.trans (hbq.mono (Nat.le_of_lt hsz)))
          have ht := ents_take (k := k) hrq hk
          have HT := Lib.hid ht
          have HRQ := Lib.hid hrq
          clear hbq ht hrq
          go_wp2_with (at_builtin; refine wpList_append_row _ rfl _ _ 53 rfl wq.heap.size 94 i0 _ 2 24 Try.underlying53 hi hz0 hz1 hz2 rfl (by decide) (.slice none 0 0) 0 [] rfl (World.ownsRow_nil _ _ _ _) _ k ((W.take k).flatMap entV) rfl ?lies ?c3 ?c4 ?c5 ?_)
          case lies => exact HT.out
          case c3 => unfold maxLen; omega
          case c4 => omega
          case c5 => exact Nat.le_refl _
          intro v2 w2 hown2 hg2
          have hb2 := HBQ.out.grown hg2 (by have := HBQ.out.size; omega) (fun q e => by simp [Value.ownBlock] at e)
          have y0 := (hg2.cell_far ⟨w.heap.size, 0, none⟩ (by have := HBV.out.size; simp; omega) (by simp [Value.ownBlock])).trans xq0
          have y1 := (hg2.cell_far ⟨w.heap.size, 1, none⟩ (by have := HBV.out.size; simp; omega) (by simp [Value.ownBlock])).trans xq1
          have HO2 := Lib.hid hown2
          have HB2 := Lib.hid hb2
          have HG2 := Lib.hid hg2
          clear hown2 hb2 hg2 xq0 xq1
          go_wp2_with (at_builtin; refine wpList_append_row _ rfl _ _ 53 rfl wq.heap.size 94 i0 _ 2 24 Try.underlying53 hi hz0 hz1 hz2 rfl (by decide) v2 k _ rfl (HO2.out.alloc _) _ 1 [.string n, .int .i64 f] rfl ?lies ?c3 ?c4 ?c5 ?_)
          case lies => exact ⟨rfl, by simp [Value.oneCell'], .inr ⟨_, 1, rfl, World.news_of_block (heap_alloc_new w2 _)⟩⟩
          case c3 => unfold maxLen; omega
          case c4 => omega
          case c5 => have := HG2.out.size; simp; omega
          intro v3 w3 hown3 hg3
          have hb3 := (HB2.out.alloc (by have := HB2.out.size; omega) (.cells #[.string n, .int .i64 f] 94)).grown hg3 (by have := HB2.out.size; simp; omega) (fun q e => by have := own_ge HO2.out e; have := HBQ.out.size; omega)
          have hr3 := HRQ.out.same (w' := w3) (fun q _ hq => (hg3.block q (by have := HG2.out.size; simp; omega) (fun e => by have := own_ge HO2.out e.symm; omega)).trans ((((Below.refl w2.heap.size w2).alloc (Nat.le_refl _) _).block q (by have := HG2.out.size; omega)).trans (HG2.out.block q hq (by simp [Value.ownBlock])))) (by have := HG2.out.size; have := hg3.size; simp at this; omega)
          have hz3 : wq.heap.size ≤ w3.heap.size := by have := HG2.out.size; have := hg3.size; simp at this; omega
          have HR3 := Lib.hid hr3
          have HO3 := Lib.hid hown3
          have HB3 := Lib.hid hb3
          clear hown3 hb3 hr3 hg3 y0 y1
          go_wp2_with (at_builtin; refine wpList_append_row _ rfl _ _ 53 rfl wq.heap.size 94 i0 _ 2 24 Try.underlying53 hi hz0 hz1 hz2 rfl (by decide) v3 (k + 1) _ rfl HO3.out _ (W.length - k) ((W.drop k).flatMap entV) rfl ?lies ?c3 ?c4 ?c5 ?_)
          case lies => exact ents_drop (k := k) HR3.out hk _ _ (fun h => absurd h (by omega))
          case c3 => unfold maxLen; omega
          case c4 => omega
          case c5 => exact hz3
          intro v4 w4 hown4 hg4
          have hb4 := HB3.out.grown hg4 (by have := HB3.out.size; omega) (fun q e => by have := own_ge HO3.out e; have := HBQ.out.size; omega)
          have HB4 := Lib.hid hb4
          have HO4 := Lib.hid (own_weaken hown4 (by have := HBQ.out.size; omega : w.heap.size ≤ wq.heap.size))
          clear hown4 hb4 hg4
          go_wp2_with fail
          go_ret
          refine ⟨_, rfl, ?_, HB4.out⟩
          rw [withOne_pos HW.out HPS.out]
          have h := HO4.out
          have e1 : (W.take k ++ (n.data.toList, f) :: W.drop k).length = k + 1 + (W.length - k) := by simp; omega
          have e2 : (W.take k ++ (n.data.toList, f) :: W.drop k).flatMap entV = ((W.take k).flatMap entV ++ [.string n, .int .i64 f]) ++ (W.drop k).flatMap entV := by
            rw [List.flatMap_append, List.flatMap_cons, List.append_assoc]
            rfl
          rw [e1, e2]
          simpa using h
        · skip
          generalize wr.drewN nq = wq at hbq xq0 xq1
          have hrq := HR.out.below hbq
          have HBV := Lib.hid hbq
          have HBQ := Lib.hid (HB1.out.trans (hbq.mono (Nat.le_of_lt hsz)))
          have ht := ents_take (k := k) hrq hk
          have HT := Lib.hid ht
          have HRQ := Lib.hid hrq
          clear hbq ht hrq
          go_wp2_with (at_builtin; refine wpList_append_row _ rfl _ _ 53 rfl wq.heap.size 94 i0 _ 2 24 Try.underlying53 hi hz0 hz1 hz2 rfl (by decide) (.slice none 0 0) 0 [] rfl (World.ownsRow_nil _ _ _ _) _ k ((W.take k).flatMap entV) rfl ?lies ?c3 ?c4 ?c5 ?_)
          case lies => exact HT.out
          case c3 => unfold maxLen; omega
          case c4 => omega
          case c5 => exact Nat.le_refl _
          intro v2 w2 hown2 hg2
          have hb2 := HBQ.out.grown hg2 (by have := HBQ.out.size; omega) (fun q e => by simp [Value.ownBlock] at e)
          have y0 := (hg2.cell_far ⟨w.heap.size, 0, none⟩ (by have := HBV.out.size; simp; omega) (by simp [Value.ownBlock])).trans xq0
          have y1 := (hg2.cell_far ⟨w.heap.size, 1, none⟩ (by have := HBV.out.size; simp; omega) (by simp [Value.ownBlock])).trans xq1
          have HO2 := Lib.hid hown2
          have HB2 := Lib.hid hb2
          have HG2 := Lib.hid hg2
          clear hown2 hb2 hg2 xq0 xq1
          go_wp2_with (at_builtin; refine wpList_append_row _ rfl _ _ 53 rfl wq.heap.size 94 i0 _ 2 24 Try.underlying53 hi hz0 hz1 hz2 rfl (by decide) v2 k _ rfl (HO2.out.alloc _) _ 1 [.string n, .int .i64 f] rfl ?lies ?c3 ?c4 ?c5 ?_)
          case lies => exact ⟨rfl, by simp [Value.oneCell'], .inr ⟨_, 1, rfl, World.news_of_block (heap_alloc_new w2 _)⟩⟩
          case c3 => unfold maxLen; omega
          case c4 => omega
          case c5 => have := HG2.out.size; simp; omega
          intro v3 w3 hown3 hg3
          have hb3 := (HB2.out.alloc (by have := HB2.out.size; omega) (.cells #[.string n, .int .i64 f] 94)).grown hg3 (by have := HB2.out.size; simp; omega) (fun q e => by have := own_ge HO2.out e; have := HBQ.out.size; omega)
          have hr3 := HRQ.out.same (w' := w3) (fun q _ hq => (hg3.block q (by have := HG2.out.size; simp; omega) (fun e => by have := own_ge HO2.out e.symm; omega)).trans ((((Below.refl w2.heap.size w2).alloc (Nat.le_refl _) _).block q (by have := HG2.out.size; omega)).trans (HG2.out.block q hq (by simp [Value.ownBlock])))) (by have := HG2.out.size; have := hg3.size; simp at this; omega)
          have hz3 : wq.heap.size ≤ w3.heap.size := by have := HG2.out.size; have := hg3.size; simp at this; omega
          have HR3 := Lib.hid hr3
          have HO3 := Lib.hid hown3
          have HB3 := Lib.hid hb3
          clear hown3 hb3 hr3 hg3 y0 y1
          go_wp2_with (at_builtin; refine wpList_append_row _ rfl _ _ 53 rfl wq.heap.size 94 i0 _ 2 24 Try.underlying53 hi hz0 hz1 hz2 rfl (by decide) v3 (k + 1) _ rfl HO3.out _ (W.length - k) ((W.drop k).flatMap entV) rfl ?lies ?c3 ?c4 ?c5 ?_)
          case lies => exact ents_drop (k := k) HR3.out hk _ _ (fun h => absurd h (by omega))
          case c3 => unfold maxLen; omega
          case c4 => omega
          case c5 => exact hz3
          intro v4 w4 hown4 hg4
          have hb4 := HB3.out.grown hg4 (by have := HB3.out.size; omega) (fun q e => by have := own_ge HO3.out e; have := HBQ.out.size; omega)
          have HB4 := Lib.hid hb4
          have HO4 := Lib.hid (own_weaken hown4 (by have := HBQ.out.size; omega : w.heap.size ≤ wq.heap.size))
          clear hown4 hb4 hg4
          go_wp2_with fail
          go_ret
          refine ⟨_, rfl, ?_, HB4.out⟩
          rw [withOne_pos HW.out HPS.out]
          have h := HO4.out
          have e1 : (W.take k ++ (n.data.toList, f) :: W.drop k).length = k + 1 + (W.length - k) := by simp; omega
          have e2 : (W.take k ++ (n.data.toList, f) :: W.drop k).flatMap entV = ((W.take k).flatMap entV ++ [.string n, .int .i64 f]) ++ (W.drop k).flatMap entV := by
            rw [List.flatMap_append, List.flatMap_cons, List.append_assoc]
            rfl
          rw [e1, e2]
          simpa using h
      | none =>
        have hcp0 : cp = 0 := by
          obtain ⟨_, ao', cp', e, _, _, h6, _⟩ := HR.out
          simp only [Value.slice.injEq] at e
          obtain ⟨rfl, _, rfl⟩ := e
          exact h6 rfl
        have hW0 : W = [] := List.eq_nil_of_length_eq_zero (by omega)
        have hk0 : k = 0 := by rw [hW0] at hk; simpa using hk
        subst hcp0
        have HK0 := Lib.hid hk0
        have HWL := Lib.hid (show W.length = 0 by omega)
        clear hk0 hW0
        generalize wr.drewN nq = wq at hbq xq0 xq1
        have hrq := HR.out.below hbq
        have HBV := Lib.hid hbq
        have HBQ := Lib.hid (HB1.out.trans (hbq.mono (Nat.le_of_lt hsz)))
        have ht := ents_take (k := k) hrq hk
        have HT := Lib.hid ht
        have HRQ := Lib.hid hrq
        clear hbq ht hrq
        go_wp2_with (at_builtin; refine wpList_append_row _ rfl _ _ 53 rfl wq.heap.size 94 i0 _ 2 24 Try.underlying53 hi hz0 hz1 hz2 rfl (by decide) (.slice none 0 0) 0 [] rfl (World.ownsRow_nil _ _ _ _) _ k ((W.take k).flatMap entV) rfl ?lies ?c3 ?c4 ?c5 ?_)
        case lies => exact HT.out
        case c3 => unfold maxLen; omega
        case c4 => omega
        case c5 => exact Nat.le_refl _
        intro v2 w2 hown2 hg2
        have hb2 := HBQ.out.grown hg2 (by have := HBQ.out.size; omega) (fun q e => by simp [Value.ownBlock] at e)
        have y0 := (hg2.cell_far ⟨w.heap.size, 0, none⟩ (by have := HBV.out.size; simp; omega) (by simp [Value.ownBlock])).trans xq0
        have y1 := (hg2.cell_far ⟨w.heap.size, 1, none⟩ (by have := HBV.out.size; simp; omega) (by simp [Value.ownBlock])).trans xq1
        have HO2 := Lib.hid hown2
        have HB2 := Lib.hid hb2
        have HG2 := Lib.hid hg2
        clear hown2 hb2 hg2 xq0 xq1
        go_wp2_with (at_builtin; refine wpList_append_row _ rfl _ _ 53 rfl wq.heap.size 94 i0 _ 2 24 Try.underlying53 hi hz0 hz1 hz2 rfl (by decide) v2 k _ rfl (HO2.out.alloc _) _ 1 [.string n, .int .i64 f] rfl ?lies ?c3 ?c4 ?c5 ?_)
        case lies => exact ⟨rfl, by simp [Value.oneCell'], .inr ⟨_, 1, rfl, World.news_of_block (heap_alloc_new w2 _)⟩⟩
        case c3 => unfold maxLen; omega
        case c4 => omega
        case c5 => have := HG2.out.size; simp; omega
        intro v3 w3 hown3 hg3
        have hb3 := (HB2.out.alloc (by have := HB2.out.size; omega) (.cells #[.string n, .int .i64 f] 94)).grown hg3 (by have := HB2.out.size; simp; omega) (fun q e => by have := own_ge HO2.out e; have := HBQ.out.size; omega)
        have hr3 := HRQ.out.same (w' := w3) (fun q _ hq => (hg3.block q (by have := HG2.out.size; simp; omega) (fun e => by have := own_ge HO2.out e.symm; omega)).trans ((((Below.refl w2.heap.size w2).alloc (Nat.le_refl _) _).block q (by have := HG2.out.size; omega)).trans (HG2.out.block q hq (by simp [Value.ownBlock])))) (by have := HG2.out.size; have := hg3.size; simp at this; omega)
        have hz3 : wq.heap.size ≤ w3.heap.size := by have := HG2.out.size; have := hg3.size; simp at this; omega
        have HR3 := Lib.hid hr3
        have HO3 := Lib.hid hown3
        have HB3 := Lib.hid hb3
        clear hown3 hb3 hr3 hg3 y0 y1
        go_wp2_with (at_builtin; refine wpList_append_row _ rfl _ _ 53 rfl wq.heap.size 94 i0 _ 2 24 Try.underlying53 hi hz0 hz1 hz2 rfl (by decide) v3 (k + 1) _ rfl HO3.out _ (W.length - k) ((W.drop k).flatMap entV) rfl ?lies ?c3 ?c4 ?c5 ?_)
        case lies => exact ⟨by rw [flat_len entV 2 entV_len]; simp, entV_one _, .inl ⟨by show Value.slice none (W.length - k) 0 = _; rw [show W.length - k = 0 by have := HWL.out; omega], by have := HWL.out; omega⟩⟩
        case c3 => unfold maxLen; omega
        case c4 => omega
        case c5 => exact hz3
        intro v4 w4 hown4 hg4
        have hb4 := HB3.out.grown hg4 (by have := HB3.out.size; omega) (fun q e => by have := own_ge HO3.out e; have := HBQ.out.size; omega)
        have HB4 := Lib.hid hb4
        have HO4 := Lib.hid (own_weaken hown4 (by have := HBQ.out.size; omega : w.heap.size ≤ wq.heap.size))
        clear hown4 hb4 hg4
        go_wp2_with fail
        go_ret
        refine ⟨_, rfl, ?_, HB4.out⟩
        rw [withOne_pos HW.out HPS.out]
        have h := HO4.out
        have e1 : (W.take k ++ (n.data.toList, f) :: W.drop k).length = k + 1 + (W.length - k) := by simp; omega
        have e2 : (W.take k ++ (n.data.toList, f) :: W.drop k).flatMap entV = ((W.take k).flatMap entV ++ [.string n, .int .i64 f]) ++ (W.drop k).flatMap entV := by
          rw [List.flatMap_append, List.flatMap_cons, List.append_assoc]
          rfl
        rw [e1, e2]
        simpa using h
end Go.Proofs.Ytlhnjdoicolkkaa
