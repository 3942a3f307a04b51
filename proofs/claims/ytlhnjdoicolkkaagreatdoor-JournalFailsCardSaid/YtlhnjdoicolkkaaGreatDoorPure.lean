/- The disk as a plain value: its operations, as the chapter defines them, and what stays true of it. No program stands here. -/
import Derived.Maps.Views
import Derived.Maps.Ext
import Derived.Sort.KeysCollected
namespace Go.Dsk
abbrev Bs := List UInt8

/-- A file: its bytes, and how many of them are durable. -/
structure Fl where
  bytes : Bs
  dur : Nat
deriving DecidableEq

/-- A pending change: the file gets the name dst (if not empty), and the name src is taken away (if not empty). -/
structure Ch where
  src : Bs
  dst : Bs
  file : Nat
deriving DecidableEq

abbrev Dir := List (Bs × Nat)

structure M where
  cap : Int
  limit : Int
  down : Bool
  files : List Fl
  names : Dir
  durable : Dir
  pending : List Ch

def M.new (c : Int) : M := ⟨c, -1, false, [], [], [], []⟩

def badByte (c : UInt8) : Bool := (c < 97 || 122 < c) && (c < 48 || 57 < c) && c != 46 && c != 45
def isName (s : Bs) : Bool := !s.any badByte && (decide (0 < s.length) && decide (s.length ≤ 40))

def find (l : Dir) (n : Bs) : Option Nat := (l.find? (fun p => p.1 == n)).map (·.2)
def without (l : Dir) (n : Bs) : Dir := l.filter (fun p => !(p.1 == n))
def ins (x : Bs × Nat) : Dir → Dir
  | [] => [x]
  | y :: r => if bytesBefore x.1 y.1 then x :: y :: r else y :: ins x r
def withOne (l : Dir) (x : Bs × Nat) : Dir := ins x (without l x.1)
def changed (l : Dir) (c : Ch) : Dir :=
  let l1 := if c.src = [] then l else without l c.src
  if c.dst = [] then l1 else withOne l1 (c.dst, c.file)
def all (l : Dir) (cs : List Ch) : Dir := cs.foldl changed l

def M.len (m : M) (k : Nat) : Nat := (m.files.getD k ⟨[], 0⟩).bytes.length
def M.used (m : M) : Nat := (m.names.map fun p => m.len p.2).sum
def M.failing (m : M) : Bool := decide (m.limit = 0)
def M.counted (m : M) : M := if m.limit = 0 then { m with down := true } else if 0 < m.limit then { m with limit := m.limit - 1 } else m
def M.apply (m : M) (c : Ch) : M := { m with names := changed m.names c, pending := m.pending ++ [c] }
def outcome (b : Bool) : Int := if b then 32 else 0

def setFile (l : List Fl) (k : Nat) (f : Fl → Fl) : List Fl := l.set k (f (l.getD k ⟨[], 0⟩))
def addTo (d : Bs) (f : Fl) : Fl := { f with bytes := f.bytes ++ d }
def M.added (m : M) (k : Nat) (d : Bs) : M := { m with files := setFile m.files k (addTo d) }
def M.fresh (m : M) (n : Bs) : M := ({ m with files := m.files ++ [⟨[], 0⟩] } : M).apply ⟨[], n, m.files.length⟩

def M.append (m : M) (n d : Bs) : Int × M :=
  if m.down then (18, m)
  else if !isName n then (11, m)
  else if (find m.names n).isNone && decide (64 ≤ m.names.length) then (6, m)
  else if m.cap < (m.used : Int) + d.length then (33, m)
  else match find m.names n with
    | some k => (outcome m.failing, m.counted.added k d)
    | none => (outcome m.failing, (m.counted.fresh n).added m.files.length d)

def synced (f : Fl) : Fl := { f with dur := f.bytes.length }
def M.sync (m : M) (n : Bs) : Int × M :=
  if m.down then (18, m)
  else match find m.names n with
    | none => (10, m)
    | some k => if m.failing then (32, m.counted) else (0, { m.counted with files := setFile m.files k synced })

def M.rename (m : M) (a b : Bs) : Int × M :=
  if m.down then (18, m)
  else match find m.names a with
    | none => (10, m)
    | some k => if !isName b then (11, m) else (outcome m.failing, m.counted.apply ⟨a, b, k⟩)

def M.remove (m : M) (a : Bs) : Int × M :=
  if m.down then (18, m)
  else match find m.names a with
    | none => (10, m)
    | some _ => (outcome m.failing, m.counted.apply ⟨a, [], 0⟩)

def M.publish (m : M) : Int × M :=
  if m.down then (18, m)
  else if m.failing then (32, m.counted)
  else (0, { m.counted with durable := m.names, pending := [] })

def M.setLimit (m : M) (n : Int) : Int × M := if m.down then (18, m) else (0, { m with limit := max n (-1) })
def M.crash (m : M) : M := { m with down := true }

/-- A choice from 0 to most: the next number of the script. -/
def pick (sc : List Int) (most : Nat) : Nat × List Int :=
  match sc with
  | [] => (0, [])
  | n :: r => ((max 0 (n.tmod ((most : Int) + 1))).toNat, r)

def damaged (t : Bs) : Bs := t.dropLast ++ [~~~ (t.getLastD 0)]
def startFile (f : Fl) (sc : List Int) : Fl × List Int :=
  let p := pick sc (f.bytes.length - f.dur)
  let t := f.bytes.take (f.dur + p.1)
  if 0 < p.1 then
    let q := pick p.2 1
    if q.1 = 1 then (⟨damaged t, t.length⟩, q.2) else (⟨t, t.length⟩, q.2)
  else (⟨t, t.length⟩, p.2)
def startOne (a : List Fl × List Int) (p : Bs × Nat) : List Fl × List Int :=
  let r := startFile (a.1.getD p.2 ⟨[], 0⟩) a.2
  (a.1.set p.2 r.1, r.2)
def startAll (fs : List Fl) (sc : List Int) (l : Dir) : List Fl × List Int := l.foldl startOne (fs, sc)

def M.start (m : M) (sc : List Int) : M :=
  if !m.down then m
  else
    let p := pick sc m.pending.length
    let d := all m.durable (m.pending.take p.1)
    { m with down := false, limit := -1, names := d, durable := d, pending := [], files := (startAll m.files p.2 d).1 }

def M.read (m : M) (n : Bs) : Bs × Int :=
  if m.down then ([], 18)
  else match find m.names n with
    | none => ([], 10)
    | some k => ((m.files.getD k ⟨[], 0⟩).bytes, 0)
def M.list (m : M) : List Bs := if m.down then [] else m.names.map (·.1)
def M.free (m : M) : Int := if m.down then 0 else max 0 (m.cap - m.used)

/-! ### what stays true -/
def Sorted (l : Dir) : Prop := l.Pairwise (fun p q => bytesBefore p.1 q.1 = true)
def Good (n : Nat) (l : Dir) : Prop := Sorted l ∧ ∀ p ∈ l, isName p.1 = true ∧ p.2 < n
def ChOk (n : Nat) (l : Dir) (c : Ch) : Prop :=
  (c.src = [] ∨ isName c.src = true) ∧ (c.dst = [] ∨ isName c.dst = true) ∧ (c.src = [] → c.dst ≠ []) ∧ (c.dst ≠ [] → c.file < n) ∧ (c.src ≠ [] → c.dst ≠ [] → find l c.src = some c.file)
/-- Each change fits the names as they are when its turn comes. -/
def Chain (n : Nat) : Dir → List Ch → Prop
  | _, [] => True
  | l, c :: r => ChOk n l c ∧ Chain n (changed l c) r

structure M.Ok (m : M) : Prop where
  names : Good m.files.length m.names
  durable : Good m.files.length m.durable
  chain : Chain m.files.length m.durable m.pending
  now : m.names = all m.durable m.pending
  sizes : ∀ f ∈ m.files, (f.bytes.length : Int) ≤ m.cap ∧ f.dur ≤ f.bytes.length
  cap0 : 0 ≤ m.cap
  cap1 : m.cap ≤ 16777216
  lim0 : -1 ≤ m.limit
  lim1 : m.limit ≤ 9223372036854775807

def M.wt (m : M) : Nat := m.durable.length + m.pending.length

/-! ### the order of the names -/
theorem bytesBefore_irrefl : ∀ a : Bs, bytesBefore a a = false
  | [] => rfl
  | a :: r => by simp [bytesBefore, bytesBefore_irrefl r]
theorem bytesBefore_iff : ∀ a b : Bs, bytesBefore a b = true ↔ a < b
  | [], [] => by simp [bytesBefore]
  | [], _ :: _ => by simp [bytesBefore]
  | _ :: _, [] => by simp [bytesBefore]
  | a :: r, b :: s => by
    simp only [bytesBefore, Bool.or_eq_true, decide_eq_true_eq, Bool.and_eq_true, beq_iff_eq, bytesBefore_iff r s, List.cons_lt_cons_iff]
theorem bytesBefore_trans {a b c : Bs} (h : bytesBefore a b = true) (k : bytesBefore b c = true) : bytesBefore a c = true := by
  rw [bytesBefore_iff] at *; exact List.lt_trans h k
theorem bytesBefore_total : ∀ {a b : Bs}, a ≠ b → bytesBefore a b = true ∨ bytesBefore b a = true
  | [], [], h => absurd rfl h
  | [], _ :: _, _ => by simp [bytesBefore]
  | _ :: _, [], _ => by simp [bytesBefore]
  | a :: r, b :: s, h => by
    simp only [bytesBefore, Bool.or_eq_true, decide_eq_true_eq, Bool.and_eq_true, beq_iff_eq]
    by_cases hab : a = b
    · subst hab
      have hrs : r ≠ s := fun e => h (by rw [e])
      rcases bytesBefore_total hrs with h1 | h1
      · left; right; exact ⟨rfl, h1⟩
      · right; right; exact ⟨rfl, h1⟩
    · rcases UInt8.lt_or_lt_of_ne hab with h1 | h1
      · left; left; exact h1
      · right; left; exact h1
theorem bytesBefore_asymm {a b : Bs} (h : bytesBefore a b = true) : bytesBefore b a = false := by
  cases hb : bytesBefore b a with
  | false => rfl
  | true => have := bytesBefore_trans h hb; rw [bytesBefore_irrefl] at this; cases this
theorem bytesBefore_ne {a b : Bs} (h : bytesBefore a b = true) : a ≠ b := by
  rintro rfl; rw [bytesBefore_irrefl] at h; cases h

theorem mem_ins {x p : Bs × Nat} : ∀ {l : Dir}, p ∈ ins x l ↔ p = x ∨ p ∈ l
  | [] => by simp [ins]
  | y :: r => by
    unfold ins
    split
    · simp
    · simp only [List.mem_cons, mem_ins (l := r)]
      constructor
      · rintro (h | h | h) <;> simp [h]
      · rintro (h | h | h) <;> simp [h]
theorem length_ins (x : Bs × Nat) : ∀ l : Dir, (ins x l).length = l.length + 1
  | [] => rfl
  | y :: r => by
    unfold ins; split
    · simp
    · simp [length_ins x r]
theorem mem_without {n : Bs} {p : Bs × Nat} {l : Dir} : p ∈ without l n ↔ p ∈ l ∧ p.1 ≠ n := by simp [without]
theorem length_without (l : Dir) (n : Bs) : (without l n).length ≤ l.length := List.length_filter_le _ _
theorem sorted_without {l : Dir} (h : Sorted l) (n : Bs) : Sorted (without l n) := List.Pairwise.filter _ h
theorem sorted_ins {x : Bs × Nat} : ∀ {l : Dir}, Sorted l → (∀ p ∈ l, p.1 ≠ x.1) → Sorted (ins x l)
  | [], _, _ => by simp [ins, Sorted]
  | y :: r, h, hx => by
    obtain ⟨h1, h2⟩ := List.pairwise_cons.1 h
    unfold ins
    split
    · rename_i hb
      refine List.pairwise_cons.2 ⟨fun q hq => ?_, h⟩
      rcases List.mem_cons.1 hq with rfl | hq
      · exact hb
      · exact bytesBefore_trans hb (h1 q hq)
    · rename_i hb
      have hyx : bytesBefore y.1 x.1 = true := (bytesBefore_total (hx y (by simp))).resolve_right hb
      refine List.pairwise_cons.2 ⟨fun q hq => ?_, sorted_ins h2 (fun p hp => hx p (by simp [hp]))⟩
      rcases mem_ins.1 hq with rfl | hq
      · exact hyx
      · exact h1 q hq
theorem good_without {k : Nat} {l : Dir} (h : Good k l) (n : Bs) : Good k (without l n) := ⟨sorted_without h.1 n, fun p hp => h.2 p (mem_without.1 hp).1⟩
theorem good_withOne {k : Nat} {l : Dir} (h : Good k l) {x : Bs × Nat} (hx : isName x.1 = true) (hk : x.2 < k) : Good k (withOne l x) := by
  refine ⟨sorted_ins (sorted_without h.1 _) (fun p hp => (mem_without.1 hp).2), fun p hp => ?_⟩
  rcases mem_ins.1 hp with rfl | hp
  · exact ⟨hx, hk⟩
  · exact h.2 p (mem_without.1 hp).1
theorem good_changed {k : Nat} {l : Dir} (h : Good k l) {c : Ch} (hc : ChOk k l c) : Good k (changed l c) := by
  obtain ⟨h1, h2, h3, h4, _⟩ := hc
  have g : Good k (if c.src = [] then l else without l c.src) := by split; exact h; exact good_without h _
  unfold changed
  by_cases hd : c.dst = []
  · simp only [hd, if_true]; exact g
  · simp only [hd, if_false]; exact good_withOne g (h2.resolve_left hd) (h4 hd)
theorem length_changed (l : Dir) (c : Ch) : (changed l c).length ≤ l.length + 1 := by
  have g : (if c.src = [] then l else without l c.src).length ≤ l.length := by split; exact Nat.le_refl _; exact length_without _ _
  unfold changed
  by_cases hd : c.dst = []
  · simp only [hd, if_true]; omega
  · simp only [hd, if_false, withOne, length_ins]
    have := length_without (if c.src = [] then l else without l c.src) c.dst
    omega
theorem length_all : ∀ (cs : List Ch) (l : Dir), (all l cs).length ≤ l.length + cs.length
  | [], l => by simp [all]
  | c :: r, l => by
    have h1 := length_all r (changed l c)
    have h2 := length_changed l c
    simp only [all, List.foldl_cons, List.length_cons] at *
    omega
theorem all_snoc (l : Dir) (cs : List Ch) (c : Ch) : all l (cs ++ [c]) = changed (all l cs) c := by simp [all]
theorem chain_mono {n n' : Nat} (h : n ≤ n') : ∀ {l : Dir} {cs : List Ch}, Chain n l cs → Chain n' l cs
  | _, [], _ => trivial
  | _, _ :: _, hc => ⟨⟨hc.1.1, hc.1.2.1, hc.1.2.2.1, fun hd => Nat.lt_of_lt_of_le (hc.1.2.2.2.1 hd) h, hc.1.2.2.2.2⟩, chain_mono h hc.2⟩
theorem chain_snoc {n : Nat} : ∀ {l : Dir} {cs : List Ch} {c : Ch}, Chain n l cs → ChOk n (all l cs) c → Chain n l (cs ++ [c])
  | l, [], c, _, hc => ⟨hc, trivial⟩
  | l, d :: r, c, h, hc => ⟨h.1, chain_snoc h.2 (by simpa [all] using hc)⟩
theorem good_all {n : Nat} : ∀ {l : Dir} {cs : List Ch}, Good n l → Chain n l cs → Good n (all l cs)
  | l, [], h, _ => h
  | l, c :: r, h, hc => by simpa [all] using good_all (good_changed h hc.1) hc.2
theorem chain_take {n : Nat} : ∀ {l : Dir} {cs : List Ch} (k : Nat), Chain n l cs → Chain n l (cs.take k)
  | _, _, 0, _ => by simp [Chain]
  | _, [], _ + 1, _ => by simp [Chain]
  | l, c :: r, k + 1, h => by simpa [Chain] using ⟨h.1, chain_take k h.2⟩
theorem chain_at {n : Nat} : ∀ {l : Dir} {cs : List Ch} (k : Nat) (hk : k < cs.length), Chain n l cs → ChOk n (all l (cs.take k)) cs[k]
  | l, c :: r, 0, _, h => by simpa [all] using h.1
  | l, c :: r, k + 1, hk, h => by simpa [all] using chain_at k (by simpa using hk) h.2

theorem find_mem {l : Dir} {n : Bs} {k : Nat} (h : find l n = some k) : (n, k) ∈ l := by
  unfold find at h
  cases hf : l.find? (fun p => p.1 == n) with
  | none => rw [hf] at h; cases h
  | some p =>
    rw [hf] at h
    have hm := List.mem_of_find?_eq_some hf
    have hp := List.find?_some hf
    simp only [Option.map_some, Option.some.injEq] at h
    have : p = (n, k) := by
      obtain ⟨a, b⟩ := p
      simp at hp h
      rw [hp, h]
    rwa [this] at hm
theorem find_none {l : Dir} {n : Bs} (h : find l n = none) : ∀ p ∈ l, p.1 ≠ n := by
  unfold find at h
  simp only [Option.map_eq_none_iff, List.find?_eq_none] at h
  intro p hp
  simpa using h p hp
theorem find_good {n k : Nat} {l : Dir} {a : Bs} (h : Good n l) (hf : find l a = some k) : isName a = true ∧ k < n := h.2 _ (find_mem hf)
theorem isName_ne {a : Bs} (h : isName a = true) : a ≠ [] := by
  rintro rfl; simp [isName] at h
theorem isName_len {a : Bs} (h : isName a = true) : a.length ≤ 40 := by
  simp [isName] at h; exact h.2.2

theorem Good.mono {n n' : Nat} {l : Dir} (h : Good n l) (hn : n ≤ n') : Good n' l := ⟨h.1, fun p hp => ⟨(h.2 p hp).1, Nat.lt_of_lt_of_le (h.2 p hp).2 hn⟩⟩

theorem new_ok {c : Int} (h0 : 0 ≤ c) (h1 : c ≤ 16777216) : (M.new c).Ok :=
  ⟨⟨by simp [Sorted, M.new], by simp [M.new]⟩, ⟨by simp [Sorted, M.new], by simp [M.new]⟩, trivial, rfl, by simp [M.new], h0, h1, by simp [M.new], by simp [M.new]⟩

theorem counted_names (m : M) : m.counted.names = m.names := by unfold M.counted; split; rfl; split <;> rfl
theorem counted_durable (m : M) : m.counted.durable = m.durable := by unfold M.counted; split; rfl; split <;> rfl
theorem counted_pending (m : M) : m.counted.pending = m.pending := by unfold M.counted; split; rfl; split <;> rfl
theorem counted_files (m : M) : m.counted.files = m.files := by unfold M.counted; split; rfl; split <;> rfl
theorem counted_cap (m : M) : m.counted.cap = m.cap := by unfold M.counted; split; rfl; split <;> rfl
theorem counted_limit (m : M) (h : -1 ≤ m.limit) : -1 ≤ m.counted.limit ∧ m.counted.limit ≤ max m.limit 0 := by
  unfold M.counted
  split
  · simp only; omega
  · split
    · simp only; omega
    · omega
theorem counted_ok {m : M} (h : m.Ok) : m.counted.Ok := by
  have hl := counted_limit m h.lim0
  have := h.lim1
  refine ⟨?_, ?_, ?_, ?_, ?_, ?_, ?_, hl.1, by omega⟩
  all_goals simp only [counted_names, counted_durable, counted_pending, counted_files, counted_cap]
  · exact h.names
  · exact h.durable
  · exact h.chain
  · exact h.now
  · exact h.sizes
  · exact h.cap0
  · exact h.cap1

theorem apply_ok {m : M} (h : m.Ok) {c : Ch} (hc : ChOk m.files.length m.names c) : (m.apply c).Ok :=
  ⟨good_changed h.names hc, h.durable, chain_snoc h.chain (h.now ▸ hc), by simp only [M.apply]; rw [all_snoc, ← h.now], h.sizes, h.cap0, h.cap1, h.lim0, h.lim1⟩

theorem grow_ok {m : M} (h : m.Ok) : ({ m with files := m.files ++ [⟨[], 0⟩] } : M).Ok := by
  have hn : m.files.length ≤ (m.files ++ [(⟨[], 0⟩ : Fl)]).length := by simp
  refine ⟨h.names.mono hn, h.durable.mono hn, chain_mono hn h.chain, h.now, ?_, h.cap0, h.cap1, h.lim0, h.lim1⟩
  intro f hf
  rcases List.mem_append.1 hf with hf | hf
  · exact h.sizes f hf
  · simp at hf; subst hf; simpa using h.cap0
theorem fresh_ok {m : M} (h : m.Ok) {n : Bs} (hn : isName n = true) : (m.fresh n).Ok :=
  apply_ok (grow_ok h) ⟨.inl rfl, .inr hn, fun _ => isName_ne hn, fun _ => by simp, fun h => absurd rfl h⟩

theorem files_ok {m : M} (h : m.Ok) {fs : List Fl} (hl : fs.length = m.files.length) (hs : ∀ f ∈ fs, (f.bytes.length : Int) ≤ m.cap ∧ f.dur ≤ f.bytes.length) : ({ m with files := fs } : M).Ok :=
  ⟨by simpa only [hl] using h.names, by simpa only [hl] using h.durable, by simpa only [hl] using h.chain, h.now, hs, h.cap0, h.cap1, h.lim0, h.lim1⟩

theorem getD_size {m : M} (h : m.Ok) (k : Nat) : ((m.files.getD k ⟨[], 0⟩).bytes.length : Int) ≤ m.cap ∧ (m.files.getD k ⟨[], 0⟩).dur ≤ (m.files.getD k ⟨[], 0⟩).bytes.length := by
  by_cases hk : k < m.files.length
  · have : m.files.getD k ⟨[], 0⟩ ∈ m.files := by
      rw [List.getD_eq_getElem?_getD, List.getElem?_eq_getElem hk]; exact List.getElem_mem hk
    exact h.sizes _ this
  · have : m.files.getD k ⟨[], 0⟩ = ⟨[], 0⟩ := by simp [List.getD_eq_getElem?_getD, List.getElem?_eq_none (by omega : m.files.length ≤ k)]
    rw [this]; simpa using h.cap0

theorem setFile_ok {m : M} (h : m.Ok) (k : Nat) (f : Fl → Fl) (hf : ((f (m.files.getD k ⟨[], 0⟩)).bytes.length : Int) ≤ m.cap ∧ (f (m.files.getD k ⟨[], 0⟩)).dur ≤ (f (m.files.getD k ⟨[], 0⟩)).bytes.length) : ({ m with files := setFile m.files k f } : M).Ok := by
  refine files_ok h (by simp [setFile]) (fun g hg => ?_)
  unfold setFile at hg
  rcases List.mem_or_eq_of_mem_set hg with hg | rfl
  · exact h.sizes g hg
  · exact hf

theorem len_le_sum : ∀ {l : List Nat} {n : Nat}, n ∈ l → n ≤ l.sum
  | a :: r, n, h => by
    rcases List.mem_cons.1 h with rfl | h
    · simp
    · have := len_le_sum h; simp; omega
theorem len_le_used {m : M} {n : Bs} {k : Nat} (h : find m.names n = some k) : m.len k ≤ m.used := by
  unfold M.used
  exact len_le_sum (List.mem_map.2 ⟨(n, k), find_mem h, rfl⟩)

theorem used_le {m : M} (h : m.Ok) : (m.used : Int) ≤ m.names.length * m.cap := by
  unfold M.used
  have hh : ∀ l : Dir, (((l.map fun p => m.len p.2).sum : Nat) : Int) ≤ l.length * m.cap := by
    intro l
    induction l with
    | nil => simp
    | cons p r ih =>
      have := (getD_size h p.2).1
      simp only [List.map_cons, List.sum_cons, List.length_cons]
      have e : ((r.length + 1 : Nat) : Int) * m.cap = r.length * m.cap + m.cap := by rw [Int.natCast_add, Int.add_mul]; simp
      rw [e]
      unfold M.len at *
      omega
  exact hh _

theorem names_length {m : M} (h : m.Ok) : m.names.length ≤ m.wt := by
  rw [h.now]; exact length_all _ _

end Go.Dsk
