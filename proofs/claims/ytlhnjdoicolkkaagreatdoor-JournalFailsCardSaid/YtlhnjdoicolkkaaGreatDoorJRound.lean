/- A round of a law upon a journal and its model: act, and agree. -/
import Derived.Test.YtlhnjdoicolkkaaGreatDoorJAct
import Derived.Test.YtlhnjdoicolkkaaGreatDoorJActRec
import Derived.Test.YtlhnjdoicolkkaaGreatDoorJAgree
set_option maxRecDepth 100000
namespace Go.Proofs.YtlhnjdoicolkkaaGreatDoor
open Go.RowKit Go.Dsk Go.Maps Go.WideMaps
set_option maxHeartbeats 2000000
open Jnl (J)

section
variable {w0 w : World} {bp bj bm bd bo : Nat} {d m : M} {j : J} {R : SP}
theorem pact_any {k q : Int} {l : List Bs} {va : Value} {r : ByteArray} (hR : Nice R) (hg : Glob w0) (h : Duo R w0 w bp bj bm bd bo d m j j) (hs : SimE m d) (hi : Jnl.Inv logB.data.toList j m) (hl : StrsIn w va l)
    (hk0 : 0 ≤ k) (hk1 : k ≤ 255) (hq0 : -128 ≤ q) (hq1 : q ≤ 127) (hr : RecIs l q r) (hw : m.wt < 1073741000) (hrl : j.recs.length ≤ 260000) :
    Calls Tryz.prog 34 #[.pointer (some ⟨bp, 0, none⟩), va, .agg #[.int .u8 k, .int .i8 q]] w fun e w' => e = .returned (.bool true) ∧ ∃ bj' bm', Duo R w0 w' bp bj' bm' bd bo (actJ logB.data.toList r.data.toList k q j d).2 (actJ logB.data.toList r.data.toList k q j m).2 (actJ logB.data.toList r.data.toList k q j m).1 (actJ logB.data.toList r.data.toList k q j m).1 := by
  by_cases h3 : k % 8 = 3
  · exact pact_com hR hg h hs hi hl hk0 hk1 hq0 hq1 hr hw hrl h3
  by_cases h4 : k % 8 = 4
  · exact pact_dis hR hg h hs hi.ok hl hk0 hk1 hq0 hq1 hr hw hrl h4
  by_cases h5 : k % 8 = 5
  · exact pact_cut hR hg h hs hi.ok hl hk0 hk1 hq0 hq1 hr hw hrl h5
  by_cases h6 : k % 8 = 6
  · exact pact_rec hR hg h hs hi.ok hl hk0 hk1 hq0 hq1 hr hw hrl h6
  by_cases h7 : k % 8 = 7
  · exact pact_ope hR hg h hs hi.ok hl hk0 hk1 hq0 hq1 hr hw hrl h7
  · exact pact_app hR hg h hs hi.ok hl hk0 hk1 hq0 hq1 hr hw hrl (by omega)
theorem agree_any (hR : Nice R) (h : Duo R w0 w bp bj bm bd bo d m j j) (hs : SimE m d) :
    Calls Tryz.prog 35 #[.pointer (some ⟨bp, 0, none⟩)] w fun e w' => e = .returned (.bool true) ∧ Duo R w0 w' bp bj bm bd bo d m j j := by
  cases hb : j.broken with
  | true => exact agree_broken hR h hs hb
  | false => exact agree_well hR h hs hb
/-- What holds after k acts, on disks of at most c bytes. -/
def Rnd (c k : Nat) (R : SP) (w0 w : World) (bp bd bo : Nat) : Prop :=
  ∃ bj bm d m j, Duo R w0 w bp bj bm bd bo d m j j ∧ SimE m d ∧ Jnl.Inv logB.data.toList j m ∧ m.wt ≤ 5 * k ∧ m.cap ≤ c ∧ j.recs.length ≤ c + 64 * k
theorem Rnd.below {c k : Nat} (h : Rnd c k R w0 w bp bd bo) : Below w0.heap.size w0 w := by
  obtain ⟨_, _, _, _, _, h, _⟩ := h
  exact h.below
theorem rnd_rest {c k : Nat} (h : Rnd c k R w0 w bp bd bo) : Has w0 w R := by
  obtain ⟨_, _, _, _, _, h, _⟩ := h
  exact duo_rest h
theorem rnd_act {c n : Nat} {k q : Int} {l : List Bs} {va : Value} (hR : Nice R) (hg : Glob w0) (h : Rnd c n R w0 w bp bd bo) (hn : n ≤ 100) (hc : c ≤ 100000) (hl : StrsIn w va l) (hk0 : 0 ≤ k) (hk1 : k ≤ 255) (hq0 : -128 ≤ q) (hq1 : q ≤ 127) :
    Calls Tryz.prog 34 #[.pointer (some ⟨bp, 0, none⟩), va, .agg #[.int .u8 k, .int .i8 q]] w fun e w' => e = .returned (.bool true) ∧ Rnd c (n + 1) R w0 w' bp bd bo := by
  obtain ⟨bj, bm, d, m, j, hd, hs, hi, hw, hm, hr⟩ := h
  obtain ⟨r, hre⟩ := rec_is l q
  refine (pact_any hR hg hd hs hi hl hk0 hk1 hq0 hq1 hre (by omega) (by omega)).mono ?_
  rintro e w' ⟨rfl, bj', bm', hd'⟩
  have h1 := actJ_sim (n := logB.data.toList) (r := r.data.toList) (k := k) (q := q) (j := j) hs hi.ok
  have h2 := actJ_inv (n := logB.data.toList) (r := r.data.toList) (k := k) (q := q) (by decide) hi
  have h3 := actJ_wt (n := logB.data.toList) (r := r.data.toList) (k := k) (q := q) (j := j) hi.ok
  have h4 : (actJ logB.data.toList r.data.toList k q j m).2.cap = m.cap := actJ_cap
  have h5 := actJ_recs (n := logB.data.toList) (r := r.data.toList) (k := k) (q := q) (j := j) (by decide) hi.ok (duo_fit hd).pend (B := c + 64 * n) hr (by omega)
  exact ⟨rfl, bj', bm', _, _, _, hd', h1.2, h2, by omega, by omega, by omega⟩
theorem rnd_agree {c n : Nat} (hR : Nice R) (h : Rnd c n R w0 w bp bd bo) : Calls Tryz.prog 35 #[.pointer (some ⟨bp, 0, none⟩)] w fun e w' => e = .returned (.bool true) ∧ Rnd c n R w0 w' bp bd bo := by
  obtain ⟨bj, bm, d, m, j, hd, hs, hi⟩ := h
  refine (agree_any hR hd hs).mono ?_
  rintro e w' ⟨rfl, hd'⟩
  exact ⟨rfl, bj, bm, d, m, j, hd', hs, hi⟩
/-- A row of short records beside a pair. -/
theorem rnd_rows {c : Nat} {v : Value} {l : List Bs} {w' : World} (hR : Nice R) (h : Duo R w0 w bp bj bm bd bo d m Jnl.J.new Jnl.J.new) (hs : SimE m d) (ho : m.Ok) (hd : d = M.new c) (hv : StrRow w.heap.size w' v l) (hb : Below w.heap.size w w') :
    Rnd c 0 (Star (RdP v l) R) w0 w' bp bd bo := by
  subst hd
  obtain ⟨h1, h2⟩ := row_rd hv
  refine ⟨bj, bm, _, m, _, duo_more (h.new (nice_duo hR) hb h2 h1), hs, ⟨ho, fun _ _ => ?_, fun h => absurd rfl h⟩, ?_, ?_, by simp [Jnl.J.new]⟩
  · obtain ⟨r, hr⟩ := hs
    have : m.names = [] := by
      have := hr.names
      simpa [M.new, mapDir] using this
    rw [this]
    rfl
  · rw [← sim_wt hs]; simp [M.wt, M.new]
  · obtain ⟨r, hr⟩ := hs
    rw [← hr.cap]
    exact Int.le_refl _
/-- The records can be read. -/
theorem rd_reads {v : Value} {l : List Bs} {T : SP} (h : Has w0 w (Star (RdP v l) T)) : StrsIn w v l := h.quiet fun _ hS => hS.2
end
end Go.Proofs.YtlhnjdoicolkkaaGreatDoor
