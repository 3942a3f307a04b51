/- Scan, and the document's model of it: the walks. -/
import Derived.Test.YtlhnjdoicolkkaaGreatDoorNext
set_option maxRecDepth 100000
namespace Go.Jnl
theorem cut_head_length (d : Dsk.Bs) : (cut d).1.length ≤ d.length := by
  unfold cut
  split
  · exact Nat.zero_le _
  · split
    · exact Nat.zero_le _
    · rw [List.length_take, List.length_drop]
      omega
end Go.Jnl
namespace Go.Proofs.YtlhnjdoicolkkaaGreatDoor
open Go.RowKit Go.Dsk Go.Maps Go.WideMaps
set_option maxHeartbeats 2000000

def strSize : Value → Nat
  | .string s => s.size
  | _ => 0
def strV (x : Bs) : Value := .string ⟨x.toArray⟩
theorem infoStr : (Tryz.prog.info? 9).map (fun i => (i.zero, i.size, i.bytes)) = some (some (.string ⟨#[]⟩), 1, 16) := by kernel_rfl
theorem strClone_any (s : ByteArray) (hs : s.size ≤ 1099511627776) (w : World) : Calls Tryz.prog 45 #[.string s] w fun e w' => e = .returned (.string s) ∧ Below w.heap.size w w' := by
  go_enter Tryz.func45, Tryz.ntmps45
  go_wp2_with fail
  refine (Tryz.stringslite_Clone s w (by omega)).mono ?_
  rintro e w1 ⟨rfl, hb1⟩
  go_wp2_with fail
  go_ret
  exact ⟨rfl, hb1⟩
/-- Atoi, whatever it finds. -/
theorem Atoi_any (s : ByteArray) (hs : s.size ≤ 1099511627776) {w : World} (hg : Glob w) :
    Calls Tryz.prog 44 #[.string s] w fun e w' => ∃ n er, e = .returned (.tuple #[.int .i64 n, er]) ∧ Below w.heap.size w w' := by
  by_cases hok : ∃ v, Lib.atoiAll s.data.toList = .ok v
  · obtain ⟨v, hv⟩ := hok
    exact (Atoi_ok s hs hv w).mono fun _ _ ⟨a, b⟩ => ⟨_, _, a, b⟩
  · exact (Atoi_bad s hs (fun v h => hok ⟨v, h⟩) hg).mono fun _ _ ⟨_, _, _, a, b⟩ => ⟨_, _, a, b⟩
/-- A list of strings that a call has made: a row of its own. -/
def StrRow (base : Nat) (w : World) (v : Value) (l : List Bs) : Prop := w.ownsRow base 9 1 v l.length (l.map strV) ∧ (l = [] → v = .slice none 0 0)
theorem strRow_nil (base : Nat) (w : World) : StrRow base w (.slice none 0 0) [] := ⟨World.ownsRow_nil _ _ _ _, fun _ => rfl⟩
theorem Scan_none {s : ByteArray} (_hs : s.size ≤ 1099511627776) {w : World} (hg : Glob w) {x y : ByteArray} {ok : Bool} (hc : ∀ w : World, Calls Tryz.prog 43 #[.string s] w fun e w' => e = .returned (.tuple #[.string x, .string y, .bool ok]) ∧ Below w.heap.size w w') (hxs : x.size ≤ 1099511627776) (hbad : ok = false ∨ Jnl.headOf x.data.toList = 0) :
    Calls Tryz.prog 15 #[.string s] w fun e w' => e = .returned (.tuple #[.int .i64 1, .slice none 0 0, .int .i64 0]) ∧ Below w.heap.size w w' := by
  have HG := Lib.hid hg
  cases ok with
  | false =>
    go_enter Tryz.func15, Tryz.ntmps15
    go_wp2_with fail
    refine (hc _).mono ?_
    rintro e w1 ⟨rfl, hb1⟩
    have HB1 := Lib.hid hb1
    clear hb1
    go_wp2_with fail
    refine (Atoi_any x hxs (HG.out.below HB1.out)).mono ?_
    rintro e w2 ⟨n, er, rfl, hb2⟩
    have HB2 := Lib.hid hb2
    clear hb2
    go_wp2_with fail
    go_ret3
    exact ⟨rfl, HB1.out.trans (HB2.out.mono HB1.out.size)⟩
  | true =>
    have hh : Jnl.headOf x.data.toList = 0 := by simpa using hbad
    by_cases hok : ∃ v, Lib.atoiAll x.data.toList = .ok v
    · obtain ⟨v, hv⟩ := hok
      rw [headOf_ok hv] at hh
      have hvb := Lib.atoiAll_bounds hv
      by_cases h1 : v < 1
      · have h1' : (v < 1) = True := by simp; omega
        go_enter Tryz.func15, Tryz.ntmps15
        go_wp2_with fail
        refine (hc _).mono ?_
        rintro e w1 ⟨rfl, hb1⟩
        go_wp2_with fail
        refine (Atoi_ok x hxs hv _).mono ?_
        rintro e w2 ⟨rfl, hb2⟩
        go_wp2_with fail
        go_ret3
        exact ⟨rfl, hb1.trans (hb2.mono hb1.size)⟩
      · have h1' : (v < 1) = False := by simp; omega
        by_cases h2 : 1099511627776 < v
        · have h2' : (1099511627776 < v) = True := by simp; omega
          go_enter Tryz.func15, Tryz.ntmps15
          go_wp2_with fail
          refine (hc _).mono ?_
          rintro e w1 ⟨rfl, hb1⟩
          go_wp2_with fail
          refine (Atoi_ok x hxs hv _).mono ?_
          rintro e w2 ⟨rfl, hb2⟩
          go_wp2_with fail
          go_ret3
          exact ⟨rfl, hb1.trans (hb2.mono hb1.size)⟩
        · have h2' : (1099511627776 < v) = False := by simp; omega
          have h3 : Lib.itoa v ≠ x.data.toList := fun h => by
            rw [if_pos ⟨by omega, by omega, h⟩] at hh
            omega
          have h3' : (!(Lib.itoa v == x.toList)) = true := by rw [ByteArray.toList_eq]; simp [h3]
          go_enter Tryz.func15, Tryz.ntmps15
          go_wp2_with fail
          refine (hc _).mono ?_
          rintro e w1 ⟨rfl, hb1⟩
          go_wp2_with fail
          refine (Atoi_ok x hxs hv _).mono ?_
          rintro e w2 ⟨rfl, hb2⟩
          have HB2 := Lib.hid (hb1.trans (hb2.mono hb1.size))
          clear hb1 hb2
          go_wp2_with fail
          refine (Itoa_any hvb.1 hvb.2 (HG.out.below HB2.out)).mono ?_
          rintro e w3 ⟨rfl, hb3⟩
          go_wp2_with fail
          go_ret3
          exact ⟨rfl, HB2.out.trans (hb3.mono HB2.out.size)⟩
    · have hb : ∀ v, Lib.atoiAll x.data.toList ≠ .ok v := fun v h => hok ⟨v, h⟩
      go_enter Tryz.func15, Tryz.ntmps15
      go_wp2_with fail
      refine (hc _).mono ?_
      rintro e w1 ⟨rfl, hb1⟩
      have HB1 := Lib.hid hb1
      clear hb1
      go_wp2_with fail
      refine (Atoi_bad x hxs hb (HG.out.below HB1.out)).mono ?_
      rintro e w2 ⟨n, t, p, rfl, hb2⟩
      go_wp2_with fail
      go_ret3
      exact ⟨rfl, HB1.out.trans (hb2.mono HB1.out.size)⟩
theorem Scan_some {s : ByteArray} (hs : s.size ≤ 1099511627776) {w : World} (hg : Glob w) {x y : ByteArray} (hc : ∀ w : World, Calls Tryz.prog 43 #[.string s] w fun e w' => e = .returned (.tuple #[.string x, .string y, .bool true]) ∧ Below w.heap.size w w') (hxs : x.size ≤ 1099511627776) (hys : y.size ≤ s.size) {f : Nat} (hf : Jnl.headOf x.data.toList = f) (hf0 : f ≠ 0) :
    Calls Tryz.prog 15 #[.string s] w fun e w' => ∃ v, e = .returned (.tuple #[.int .i64 f, v, .int .i64 (s.size - (Jnl.recs y.data.toList).2.length)]) ∧ StrRow w.heap.size w' v (Jnl.recs y.data.toList).1 ∧ Below w.heap.size w w' := by
  have HG := Lib.hid hg
  obtain ⟨v, hv⟩ : ∃ v, Lib.atoiAll x.data.toList = .ok v := by
    by_cases hok : ∃ v, Lib.atoiAll x.data.toList = .ok v
    · exact hok
    · exact absurd ((headOf_bad fun v h => hok ⟨v, h⟩).symm.trans hf).symm hf0
  rw [headOf_ok hv] at hf
  have hvb := Lib.atoiAll_bounds hv
  have hcond : 1 ≤ v ∧ v ≤ 1099511627776 ∧ Lib.itoa v = x.data.toList := by
    by_cases h : 1 ≤ v ∧ v ≤ 1099511627776 ∧ Lib.itoa v = x.data.toList
    · exact h
    · rw [if_neg h] at hf; exact absurd hf.symm hf0
  rw [if_pos hcond] at hf
  obtain ⟨g1, g2, g3⟩ := hcond
  have h1' : (v < 1) = False := by simp; omega
  have h2' : (1099511627776 < v) = False := by simp; omega
  have h3' : (!(Lib.itoa v == x.toList)) = false := by rw [ByteArray.toList_eq]; simp [g3]
  have hvf : v = (f : Int) := by omega
  have HX := Lib.hid (And.intro hvb (And.intro g3 hvf))
  clear hf g3 hvb hvf
  obtain ⟨i0, hi, hz0, hz1, hz2⟩ := info_parts infoStr
  have HINF := Lib.hid (And.intro hi (And.intro hz0 (And.intro hz1 hz2)))
  clear hi hz0 hz1 hz2
  go_enter Tryz.func15, Tryz.ntmps15
  go_wp2_with fail
  refine (hc _).mono ?_
  rintro e w1 ⟨rfl, hb1⟩
  go_wp2_with fail
  refine (Atoi_ok x hxs hv _).mono ?_
  rintro e w2 ⟨rfl, hb2⟩
  have HB2 := Lib.hid (hb1.trans (hb2.mono hb1.size))
  clear hb1 hb2
  go_wp2_with fail
  refine (Itoa_any HX.out.1.1 HX.out.1.2 (HG.out.below HB2.out)).mono ?_
  rintro e w3 ⟨rfl, hb3⟩
  have HB3 := Lib.hid (HB2.out.trans (hb3.mono HB2.out.size))
  clear hb3 HB2
  go_wp2_with fail
  go_loopw [3, 6] (fun vv rr wr => ∃ (v : Value) (r : ByteArray) (l : List Bs), v = vv ∧ rr = .string r ∧ r.size ≤ s.size ∧ l.length + r.size ≤ s.size ∧ Jnl.recs y.data.toList = (l ++ (Jnl.recs r.data.toList).1, (Jnl.recs r.data.toList).2) ∧ StrRow w.heap.size wr v l ∧ Below w.heap.size w wr) (fun _ rr _ => strSize rr)
  case atStart => exact ⟨_, y, [], rfl, rfl, hys, by simpa using hys, rfl, strRow_nil _ _, HB3.out⟩
  case round =>
    obtain ⟨v3, r, l, rfl, rfl, hr, hlr, hrec, hrow, hb⟩ := hrel
    obtain ⟨x2, y2, ok2, hcut, hcall⟩ := jcut_any r (by omega) wr
    have HROW := Lib.hid hrow
    have HB := Lib.hid hb
    have HREC := Lib.hid hrec
    have HCUT := Lib.hid hcut
    clear hrow hb HB3 hrec hcut
    go_wp2_with fail
    refine hcall.mono ?_
    rintro e w4 ⟨rfl, hb4⟩
    have HB4 := Lib.hid hb4
    clear hb4 hcall
    cases ok2 with
    | false =>
      have hst : Jnl.recs r.data.toList = ([], r.data.toList) := Jnl.recs_stop (by rw [HCUT.out])
      have hrec := HREC.out
      rw [hst, List.append_nil] at hrec
      have hw : wrap64 ((s.size : Int) - (r.size : Int)) = (s.size : Int) - (r.size : Int) := IntWalk.wrap64_in _ (by omega)
      have hv3 : ∃ ao c, v3 = .slice ao l.length c := by
        obtain ⟨⟨_, ⟨rfl, h2⟩ | ⟨g, cap, cur, rfl, _⟩⟩, _⟩ := HROW.out
        · exact ⟨none, 0, by rw [h2]⟩
        · exact ⟨_, _, rfl⟩
      have HREC2 := Lib.hid hrec
      clear hrec hst HREC
      go_wp2_with fail
      go_ret3
      rw [HREC2.out, HX.out.2.2]
      exact ⟨v3, rfl, ⟨row_same HROW.out.1 fun j hj => HB4.out.block j (HROW.out.1.lt j hj).2, HROW.out.2⟩, HB.out.trans (HB4.out.mono HB.out.size)⟩
    | true =>
      have hcr : (Jnl.cut r.data.toList).2.2 = true := by rw [HCUT.out]
      have hst := Jnl.recs_step hcr
      have hys2 := Jnl.cut_rest_length hcr
      rw [HCUT.out] at hst hys2
      simp only at hst hys2
      have hyl : y2.data.toList.length = y2.size := rfl
      have hrl : r.data.toList.length = r.size := rfl
      have hx2 : x2.size ≤ 1099511627776 := by
        have h1 := Jnl.cut_head_length r.data.toList
        rw [HCUT.out] at h1
        have h2 : x2.data.toList.length = x2.size := rfl
        simp only at h1
        omega
      have hrec := HREC.out
      rw [hst] at hrec
      simp only at hrec
      have HREC2 := Lib.hid hrec
      clear hrec hst HREC hcr
      go_wp2_with fail
      refine (strClone_any x2 hx2 _).mono ?_
      rintro e w5 ⟨rfl, hb5⟩
      have hb45 := HB4.out.trans (hb5.mono HB4.out.size)
      have hrow5 : w5.ownsRow w.heap.size 9 1 v3 l.length (l.map strV) := row_same HROW.out.1 fun j hj => hb45.block j (HROW.out.1.lt j hj).2
      have hB5 := HB.out.trans (hb45.mono HB.out.size)
      have HROW5 := Lib.hid hrow5
      have HB5 := Lib.hid hB5
      clear hb5 hb45 hrow5 hB5 HB4 HROW HB
      go_wp2_with (at_builtin; refine wpList_append_lies _ rfl _ _ 25 rfl w.heap.size 9 i0 _ 1 16 Tryz.underlying25 HINF.out.1 HINF.out.2.1 HINF.out.2.2.1 HINF.out.2.2.2 rfl (by decide) _ _ _ rfl (HROW5.out.alloc _) ⟨w5.heap.size, 0, none⟩ 1 1 [.string x2] rfl rfl ?c1 ?c2 (by decide) ?c3 ?c4 ?c5 _ rfl ?_)
      case c1 => exact World.news_of_block (heap_alloc_new w5 _)
      case c2 => simp [Value.oneCell']
      case c3 => unfold maxLen; omega
      case c4 => omega
      case c5 => have := HB5.out.size; simp; omega
      intro g cap w6 hown hgrow hat hlt
      have hB6 := (HB5.out.alloc (by have := HB5.out.size; omega) (.cells #[.string x2] 9)).grown hgrow (by have := HB5.out.size; simp; omega) (fun q e => (HROW5.out.lt q e).1)
      have HX6 := Lib.hid (And.intro hown hB6)
      clear hown hgrow hat hlt hB6
      go_wp2_with fail
      go_roundw
      case rel =>
        refine ⟨_, y2, l ++ [x2.data.toList], rfl, rfl, by omega, by simp; omega, by rw [HREC2.out]; simp, ⟨?_, by simp⟩, HX6.out.2⟩
        have := HX6.out.1
        rw [List.length_append, List.map_append]
        have e : strV x2.data.toList = .string x2 := congrArg Value.string (ba_self x2)
        simpa [e] using this
      case measure => simp [strSize]; omega
/-- What Scan gives of some bytes. -/
theorem Scan_any (s : ByteArray) (hs : s.size ≤ 1099511627776) {w : World} (hg : Glob w) :
    Calls Tryz.prog 15 #[.string s] w fun e w' => ∃ v, e = .returned (.tuple #[.int .i64 (Jnl.scan s.data.toList).1, v, .int .i64 (Jnl.scan s.data.toList).2.2]) ∧ StrRow w.heap.size w' v (Jnl.scan s.data.toList).2.1 ∧ Below w.heap.size w w' := by
  obtain ⟨x, y, ok, hcut, _⟩ := jcut_any s hs w
  have hc : ∀ w : World, Calls Tryz.prog 43 #[.string s] w fun e w' => e = .returned (.tuple #[.string x, .string y, .bool ok]) ∧ Below w.heap.size w w' := fun w => by
    obtain ⟨x', y', ok', hcut', h⟩ := jcut_any s hs w
    rw [hcut] at hcut'
    simp only [Prod.mk.injEq] at hcut'
    obtain ⟨e1, e2, rfl⟩ := hcut'
    have ex : x' = x := by rw [← ba_self x', ← e1, ba_self]
    have ey : y' = y := by rw [← ba_self y', ← e2, ba_self]
    rw [← ex, ← ey]
    exact h
  have hsl : s.data.toList.length = s.size := rfl
  have hx := Jnl.cut_head_length s.data.toList
  have hy := Jnl.cut_le s.data.toList
  rw [hcut, hsl] at hx hy
  have hx' : x.size ≤ s.size := hx
  have hy' : y.size ≤ s.size := hy
  by_cases hh : ok = true ∧ Jnl.headOf x.data.toList ≠ 0
  · obtain ⟨rfl, hh⟩ := hh
    have e : Jnl.scan s.data.toList = (Jnl.headOf x.data.toList, (Jnl.recs y.data.toList).1, s.size - (Jnl.recs y.data.toList).2.length) := by
      unfold Jnl.scan
      rw [hcut, if_pos ⟨rfl, hh⟩]
      rfl
    have hle := (Jnl.recs_le y.data.toList).1
    have hyl : y.data.toList.length = y.size := rfl
    refine (Scan_some hs hg hc (by omega) hy' rfl hh).mono ?_
    rintro e' w' ⟨v, rfl, h1, h2⟩
    rw [e]
    refine ⟨v, ?_, h1, h2⟩
    have e3 : ((s.size : Int) - ((Jnl.recs y.data.toList).2.length : Int)) = ((s.size - (Jnl.recs y.data.toList).2.length : Nat) : Int) := by
      rw [Int.ofNat_sub (by rw [hyl] at hle; omega)]
    rw [e3]
  · have e : Jnl.scan s.data.toList = (1, [], 0) := by
      unfold Jnl.scan
      rw [hcut, if_neg hh]
    refine (Scan_none hs hg hc (by omega) (by
      cases ok with
      | false => exact .inl rfl
      | true => exact .inr (by simpa using hh))).mono ?_
    rintro e' w' ⟨rfl, h2⟩
    rw [e]
    exact ⟨_, rfl, strRow_nil _ _, h2⟩
end Go.Proofs.YtlhnjdoicolkkaaGreatDoor

/- Readable lists of strings; the document's model: same, begins. -/
set_option maxRecDepth 100000
namespace Go.Proofs.YtlhnjdoicolkkaaGreatDoor
open Go.RowKit Go.Dsk Go.Maps Go.WideMaps
set_option maxHeartbeats 2000000

/-- The slice v can be read: its strings are l. -/
def StrsIn (w : World) (v : Value) (l : List Bs) : Prop := ∃ ao c, v = .slice ao l.length c ∧ l.length ≤ c ∧ c ≤ maxLen ∧ (0 < l.length → ∃ b off, ao = some ⟨b, off, none⟩ ∧ b < w.heap.size ∧ ∀ j, j < l.length → w.cell? ⟨b, off + j, none⟩ = some (strV (l.getD j [])))
theorem StrsIn.below {w w' : World} {v : Value} {l : List Bs} (h : StrsIn w v l) (hb : Below w.heap.size w w') : StrsIn w' v l := by
  obtain ⟨ao, c, e, h1, h2, h3⟩ := h
  refine ⟨ao, c, e, h1, h2, fun h0 => ?_⟩
  obtain ⟨b, off, e2, hlt, hc⟩ := h3 h0
  exact ⟨b, off, e2, Nat.lt_of_lt_of_le hlt hb.size, fun j hj => (hb.cell (p := ⟨b, off + j, none⟩) hlt).trans (hc j hj)⟩
theorem StrRow.reads {base : Nat} {w : World} {v : Value} {l : List Bs} (h : StrRow base w v l) : StrsIn w v l := by
  obtain ⟨⟨h1, ⟨rfl, h2⟩ | ⟨g, cap, cur, rfl, hg, hh, h3, h4, h5, h6⟩⟩, hn⟩ := h
  · exact ⟨none, 0, by rw [h2], by omega, by unfold maxLen; omega, fun h => by omega⟩
  · refine ⟨_, cap, rfl, h3, h4, fun h0 => ⟨g, 0, rfl, lt_of_block hh, fun j hj => ?_⟩⟩
    have e : cur[j]? = some (strV (l.getD j [])) := by
      have e1 : (cur.toList.take (l.length * 1))[j]? = (l.map strV)[j]? := by rw [h6]
      rw [List.getElem?_take_of_lt (by omega)] at e1
      rw [← Array.getElem?_toList, e1]
      simp [List.getD_eq_getElem?_getD, List.getElem?_eq_getElem hj]
    rw [Nat.zero_add, block_cell hh]
    exact e
theorem getD_ext {la lb : List Bs} (hl : la.length = lb.length) (h : ∀ j, j < la.length → la.getD j [] = lb.getD j []) : la = lb := by
  refine List.ext_getElem hl fun j h1 h2 => ?_
  have := h j h1
  rwa [List.getD_eq_getElem?_getD, List.getD_eq_getElem?_getD, List.getElem?_eq_getElem h1, List.getElem?_eq_getElem h2] at this
theorem same_other {w : World} {va vb : Value} {la lb : List Bs} (ha : StrsIn w va la) (hb : StrsIn w vb lb) (hl : la.length ≠ lb.length) :
    Calls Tryz.prog 40 #[va, vb] w fun e w' => e = .returned (.bool false) ∧ w' = w := by
  obtain ⟨ao, ca, rfl, -⟩ := ha
  obtain ⟨bo, cb, rfl, -⟩ := hb
  have hl' : ((la.length : Int) != (lb.length : Int)) = true := by simp; omega
  go_enter Tryz.func40, Tryz.ntmps40
  go_wp2_with fail
  go_ret
  exact ⟨rfl, rfl⟩
theorem same_long {w : World} {va vb : Value} {la lb : List Bs} (ha : StrsIn w va la) (hb : StrsIn w vb lb) (hl : la.length = lb.length) :
    Calls Tryz.prog 40 #[va, vb] w fun e w' => e = .returned (.bool (decide (la = lb))) ∧ ∃ n, w' = w.drewN n := by
  have HA := Lib.hid ha
  have HB := Lib.hid hb
  obtain ⟨ao, ca, rfl, ha1, ha2, -⟩ := ha
  obtain ⟨bo, cb, rfl, hb1, hb2, -⟩ := hb
  rw [← hl] at hb1 HB ⊢
  have hl' : ((la.length : Int) != (la.length : Int)) = false := by simp
  have HL := Lib.hid hl
  clear hl
  unfold maxLen at ha2 hb2
  go_enter Tryz.func40, Tryz.ntmps40
  go_wp2_with fail
  go_loopw [5] (fun i wr => ∃ k : Nat, k ≤ la.length ∧ i = .int .i64 k ∧ (∀ j, j < k → la.getD j [] = lb.getD j []) ∧ ∃ q, wr = w.drewN q) (fun i _ => la.length - (intOf i).toNat)
  case atStart => exact ⟨0, Nat.zero_le _, rfl, fun j hj => absurd hj (Nat.not_lt_zero _), 0, rfl⟩
  case round =>
    obtain ⟨k, hk, rfl, heq, q, rfl⟩ := hrel
    have HEQ := Lib.hid heq
    clear heq
    by_cases hlt : k < la.length
    · obtain ⟨ga, oa, rfl, hga, hca⟩ : ∃ b off, ao = some ⟨b, off, none⟩ ∧ b < w.heap.size ∧ ∀ j, j < la.length → w.cell? ⟨b, off + j, none⟩ = some (strV (la.getD j [])) := by
        obtain ⟨_, _, e, _, _, h⟩ := HA.out
        simp only [Value.slice.injEq] at e
        obtain ⟨rfl, _, rfl⟩ := e
        exact h (Nat.lt_of_le_of_lt (Nat.zero_le _) hlt)
      obtain ⟨gb, ob, rfl, hgb, hcb⟩ : ∃ b off, bo = some ⟨b, off, none⟩ ∧ b < w.heap.size ∧ ∀ j, j < la.length → w.cell? ⟨b, off + j, none⟩ = some (strV (lb.getD j [])) := by
        obtain ⟨_, _, e, _, _, h⟩ := HB.out
        have hl := HL.out
        simp only [Value.slice.injEq] at e
        obtain ⟨rfl, _, rfl⟩ := e
        obtain ⟨b, off, e1, e2, e3⟩ := h (Nat.lt_of_lt_of_eq (Nat.lt_of_le_of_lt (Nat.zero_le _) hlt) hl)
        exact ⟨b, off, e1, e2, fun j hj => e3 j (Nat.lt_of_lt_of_eq hj hl)⟩
      have x0 := hca k hlt
      have y0 := hcb k hlt
      have hk0 : (0 : Int) ≤ (k : Int) := by omega
      have hk1 : (k : Int) < (la.length : Int) := by omega
      unfold strV at x0 y0
      by_cases he : la.getD k [] = lb.getD k []
      · have he' : (!((⟨(la.getD k []).toArray⟩ : ByteArray).toList == (⟨(lb.getD k []).toArray⟩ : ByteArray).toList)) = false := by rw [he]; simp
        generalize (⟨(la.getD k []).toArray⟩ : ByteArray) = xa at *
        generalize (⟨(lb.getD k []).toArray⟩ : ByteArray) = xb at *
        have HE := Lib.hid he
        clear he hca hcb
        go_upto_region 6 with fail
        go_quiet (fail)
        go_wp2_with fail
        go_roundw
        case rel =>
          refine ⟨k + 1, by omega, by go_num, fun j hj => ?_, _, rfl⟩
          by_cases e : j = k
          · subst e; exact HE.out
          · exact HEQ.out j (by omega)
        case measure => simp [intOf]; omega
      · have he' : (!((⟨(la.getD k []).toArray⟩ : ByteArray).toList == (⟨(lb.getD k []).toArray⟩ : ByteArray).toList)) = true := by rw [ByteArray.toList_eq, ByteArray.toList_eq]; simpa using he
        have hne : decide (la = lb) = false := by
          rw [decide_eq_false_iff_not]
          rintro rfl
          exact he rfl
        have HNE := Lib.hid hne
        clear hne
        generalize (⟨(la.getD k []).toArray⟩ : ByteArray) = xa at *
        generalize (⟨(lb.getD k []).toArray⟩ : ByteArray) = xb at *
        clear he hca hcb
        go_upto_region 6 with fail
        go_quiet (fail)
        go_wp2_with fail
        go_ret
        rw [HNE.out]
        exact ⟨rfl, q + nq, by first | rfl | simp⟩
    · have hd : decide (la = lb) = true := by
        rw [decide_eq_true_iff]
        exact getD_ext HL.out fun j hj => HEQ.out j (by omega)
      have HD := Lib.hid hd
      clear hd
      go_wp2_with fail
      go_ret
      rw [HD.out]
      exact ⟨rfl, q, rfl⟩
theorem same_any {w : World} {va vb : Value} {la lb : List Bs} (ha : StrsIn w va la) (hb : StrsIn w vb lb) :
    Calls Tryz.prog 40 #[va, vb] w fun e w' => e = .returned (.bool (decide (la = lb))) ∧ ∃ n, w' = w.drewN n := by
  by_cases hl : la.length = lb.length
  · exact same_long ha hb hl
  · have hd : decide (la = lb) = false := by
      rw [decide_eq_false_iff_not]
      rintro rfl
      exact hl rfl
    rw [hd]
    exact (same_other ha hb hl).mono fun _ _ ⟨a, b⟩ => ⟨a, 0, b⟩
end Go.Proofs.YtlhnjdoicolkkaaGreatDoor
