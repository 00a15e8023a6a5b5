/- The data of programs and events, and what the functions of lex, check, act, mercy and audit come to, in plain Lean; no condition. -/
namespace Go.Proofs.Ytglilmcfhkedbaa
/-- Two strings are the same bytes. -/
def seq (a b : ByteArray) : Bool := a.toList == b.toList
/-- The empty string. -/
abbrev e0 : ByteArray := ⟨#[]⟩
def byteAt (s : ByteArray) (i : Nat) : Int := match s[i]? with | some b => b.toNat | none => 0

structure Eff where
  act : Int
  ref : ByteArray
  slot : ByteArray
  name : ByteArray
  value : Int
  n : Int
  delay : Int
structure Rw where
  tag : ByteArray
  only : Bool
  n : Int
  effs : List Eff
structure Stt where
  name : ByteArray
  rows : List Rw
structure Cas where
  reason : ByteArray
  act : Int
structure Knd where
  name : ByteArray
  limit : Int
  within : Int
  cases : List Cas
  states : List Stt
abbrev Prg := List Knd
structure Ev where
  kind : Int
  actor : Int
  id : Int
  frm : Int
  to : Int
  name : ByteArray
  n : Int
  why : Int
  timed : Bool

/-! ### lex -/
def letterB (c : Int) : Bool := decide (97 ≤ c) && decide (c ≤ 122)
def digitB (c : Int) : Bool := decide (48 ≤ c) && decide (c ≤ 57)
def innerB (c : Int) : Bool := (letterB c || digitB c) || decide (c = 95)
/-- How many bytes from place i on are inner ones. -/
def spanF (s : ByteArray) : Nat → Nat → Nat
  | 0, i => i
  | f + 1, i => bif decide (i < s.size) && innerB (byteAt s i) then spanF s f (i + 1) else i
def spanN (s : ByteArray) : Nat := spanF s s.size 0
def nameOk (s : ByteArray) : Bool := ((!seq s e0 && decide ((s.size : Int) ≤ 16)) && letterB (byteAt s 0)) && decide ((spanN s : Int) = (s.size : Int))
def named (s : ByteArray) : Bool := seq s e0 || nameOk s

/-! ### lists -/
def idxOf {α : Type} (g : α → Bool) (xs : List α) : Int := match xs.findIdx? g with | some i => (i : Int) | none => -1
def firstR : List (Bool × Int) → Int
  | [] => 0
  | (b, c) :: r => bif b then c else firstR r
def brokenR : List (Int × Bool) → Int
  | [] => 0
  | (c, b) :: r => bif b then brokenR r else c

theorem spanF_le (s : ByteArray) : ∀ (f i : Nat), i + f = s.size → spanF s f i ≤ s.size
  | 0, i, h => by simp [spanF]; omega
  | f + 1, i, h => by
    unfold spanF
    cases (decide (i < s.size) && innerB (byteAt s i)) with
    | true => exact spanF_le s f (i + 1) (by omega)
    | false => simp; omega
theorem spanF_step (s : ByteArray) (i : Nat) (h : (decide ((i : Int) < (s.size : Int)) && innerB (byteAt s i)) = true) : i < s.size ∧ spanF s (s.size - i) i = spanF s (s.size - (i + 1)) (i + 1) := by
  simp only [Bool.and_eq_true, decide_eq_true_eq] at h
  have hi : i < s.size := by omega
  refine ⟨hi, ?_⟩
  obtain ⟨f, hf⟩ : ∃ f, s.size - i = f + 1 := ⟨s.size - i - 1, by omega⟩
  rw [hf, show s.size - (i + 1) = f by omega]
  conv => lhs; unfold spanF
  simp [hi, h.2]
theorem spanF_stop (s : ByteArray) (i : Nat) (h : (decide ((i : Int) < (s.size : Int)) && innerB (byteAt s i)) = false) : spanF s (s.size - i) i = i := by
  cases hf : s.size - i with
  | zero => rfl
  | succ f =>
    have hi : i < s.size := by omega
    unfold spanF
    have : (decide ((i : Int) < (s.size : Int))) = true := by simp; omega
    rw [this] at h
    simp only [Bool.true_and] at h
    simp [hi, h]

/-- A list gone through from its head: what is left. -/
theorem firstR_step {l : List (Bool × Int)} {i : Nat} {b : Bool} {c : Int} (h : l[i]? = some (b, c)) : firstR (l.drop i) = bif b then c else firstR (l.drop (i + 1)) := by
  obtain ⟨hlt, he⟩ := List.getElem?_eq_some_iff.1 h
  rw [List.drop_eq_getElem_cons hlt, he]
  rfl
theorem brokenR_step {l : List (Int × Bool)} {i : Nat} {b : Bool} {c : Int} (h : l[i]? = some (c, b)) : brokenR (l.drop i) = bif b then brokenR (l.drop (i + 1)) else c := by
  obtain ⟨hlt, he⟩ := List.getElem?_eq_some_iff.1 h
  rw [List.drop_eq_getElem_cons hlt, he]
  rfl
/-- 'g' holds of none of the first i. -/
theorem idxOf_hit {α : Type} {g : α → Bool} {xs : List α} {i : Nat} {x : α} (hx : xs[i]? = some x) (hn : ∀ j y, j < i → xs[j]? = some y → g y = false) (hg : g x = true) : idxOf g xs = (i : Int) := by
  have : xs.findIdx? g = some i := by
    rw [List.findIdx?_eq_some_iff_getElem]
    obtain ⟨hlt, he⟩ := List.getElem?_eq_some_iff.1 hx
    refine ⟨hlt, by rw [he]; exact hg, fun j hj => ?_⟩
    have := hn j xs[j] hj (by simp [Nat.lt_trans hj hlt])
    simp [this]
  simp [idxOf, this]
theorem idxOf_none {α : Type} {g : α → Bool} {xs : List α} (hn : ∀ j y, j < xs.length → xs[j]? = some y → g y = false) : idxOf g xs = -1 := by
  have : xs.findIdx? g = none := by
    rw [List.findIdx?_eq_none_iff]
    intro x hx
    obtain ⟨j, hj, he⟩ := List.mem_iff_getElem.1 hx
    exact hn j x hj (by simp [hj, he])
  simp [idxOf, this]
theorem idxOf_any {α : Type} (g : α → Bool) (xs : List α) : decide (0 ≤ idxOf g xs) = xs.any g := by
  unfold idxOf
  cases h : xs.findIdx? g with
  | none =>
    have h1 := List.findIdx?_eq_none_iff.1 h
    have : xs.any g = false := by rw [List.any_eq_false]; intro x hx; simp [h1 x hx]
    rw [this]; rfl
  | some i =>
    obtain ⟨hlt, h1, _⟩ := List.findIdx?_eq_some_iff_getElem.1 h
    have : xs.any g = true := List.any_eq_true.2 ⟨xs[i], List.getElem_mem hlt, h1⟩
    rw [this]; simp
/-! ### check -/
def pRef (d : Int) : Bool := decide (d = 1) || decide (d = 6) || decide (d = 7)
def pSlot (d : Int) : Bool := decide (d = 2) || decide (d = 10)
def pName (d : Int) : Bool := decide (d = 8) || decide (d = 1) || decide (d = 2) || decide (d = 3) || decide (d = 9) || decide (d = 12)
def pValue (d : Int) : Bool := decide (d = 8) || decide (d = 1)
def pDelay (d : Int) : Bool := decide (d = 8)
def refs : List ByteArray := [⟨#[115, 101, 108, 102]⟩, ⟨#[115, 101, 110, 100, 101, 114]⟩, ⟨#[112, 97, 114, 101, 110, 116]⟩, ⟨#[97]⟩, ⟨#[98]⟩, ⟨#[99]⟩, ⟨#[100]⟩]
def slots : List ByteArray := [⟨#[97]⟩, ⟨#[98]⟩, ⟨#[99]⟩, ⟨#[100]⟩]
def hasS (l : List ByteArray) (s : ByteArray) : Bool := l.any fun x => seq s x
def effectRules (p : Prg) (k : Knd) (e : Eff) (last : Bool) : List (Bool × Int) := [
    (decide (e.act < 1) || decide (12 < e.act), 43),
    ((pRef e.act && !hasS refs e.ref) || (!pRef e.act && !seq e.ref e0), 43),
    ((pSlot e.act && !hasS slots e.slot) || (!pSlot e.act && !seq e.slot e0), 43),
    ((pName e.act && !nameOk e.name) || (!pName e.act && !seq e.name e0), 43),
    ((pDelay e.act && (decide (e.delay < 1) || decide (4095 < e.delay))) || (!pDelay e.act && !decide (e.delay = 0)), 43),
    ((decide (e.value < 0) || decide (2 < e.value)) || (!pValue e.act && !decide (e.value = 0)), 43),
    ((decide (e.n < 0) || decide (255 < e.n)) || (!decide (e.value = 2) && !decide (e.n = 0)), 43),
    ((decide (e.act = 2) && !p.any (fun o => seq o.name e.name)) || (decide (e.act = 3) && !k.states.any (fun o => seq o.name e.name)), 42),
    ((decide (e.act = 11) || decide (e.act = 12)) && !last, 44)]
def effectE (p : Prg) (k : Knd) (e : Eff) (last : Bool) : Int := firstR (effectRules p k e last)
/-- The parts of a thing are right. -/
def withinOk (own : Int) (n : Nat) (part : Nat → Bool) : Bool := decide (own = 0) && (List.range n).all part
def sameRow (r o : Rw) : Bool := (seq o.tag r.tag && (o.only == r.only)) && decide (o.n = r.n)
def rowRules (s : Stt) (i : Nat) (r : Rw) : List (Bool × Int) := [
    ((((!named r.tag || (r.only && seq r.tag e0)) || decide (r.n < 0)) || decide (255 < r.n)) || (!r.only && !decide (r.n = 0)), 43),
    ((s.rows.take i).any (sameRow r), 41),
    (decide (8 < (r.effs.length : Int)), 40),
    (r.effs.any (fun e => decide (e.act = 4)) && decide (1 < (r.effs.length : Int)), 45)]
def rowOwn (s : Stt) (i : Nat) (r : Rw) : Int := firstR (rowRules s i r)
def effOk (p : Prg) (k : Knd) (r : Rw) (j : Nat) : Bool := match r.effs[j]? with
  | some e => decide (effectE p k e (decide ((j : Int) = (r.effs.length : Int) - 1)) = 0)
  | none => false
def rowOk (p : Prg) (k : Knd) (s : Stt) (i : Nat) : Bool := match s.rows[i]? with
  | some r => withinOk (rowOwn s i r) r.effs.length (effOk p k r)
  | none => false
def stateRules (k : Knd) (i : Nat) (s : Stt) : List (Bool × Int) := [(!nameOk s.name, 43), ((k.states.take i).any (fun o => seq o.name s.name), 41), (decide (16 < (s.rows.length : Int)), 40)]
def stateOwn (k : Knd) (i : Nat) (s : Stt) : Int := firstR (stateRules k i s)
def stateOk (p : Prg) (k : Knd) (i : Nat) : Bool := match k.states[i]? with
  | some s => withinOk (stateOwn k i s) s.rows.length (rowOk p k s)
  | none => false
def oddCase (c : Cas) : Bool := (!named c.reason || decide (c.act < 1)) || decide (4 < c.act)
/-- Some case from the first ones on has the reason of one ahead of it. -/
def twiceTo (k : Knd) : Nat → Bool
  | 0 => false
  | j + 1 => twiceTo k j || (match k.cases[j]? with | some c => (k.cases.take j).any (fun d => seq d.reason c.reason) | none => false)
def kindRules (p : Prg) (i : Nat) (k : Knd) : List (Bool × Int) := [
    ((((!nameOk k.name || decide (k.limit < 0)) || decide (100 < k.limit)) || decide (k.within < 1)) || decide (4095 < k.within), 43),
    ((p.take i).any (fun o => seq o.name k.name), 41),
    ((decide (8 < (k.cases.length : Int)) || decide ((k.states.length : Int) < 1)) || decide (8 < (k.states.length : Int)), 40),
    (k.cases.any oddCase, 43),
    (twiceTo k k.cases.length, 41)]
def kindOwn (p : Prg) (i : Nat) (k : Knd) : Int := firstR (kindRules p i k)
def kindOk (p : Prg) (i : Nat) : Bool := match p[i]? with
  | some k => withinOk (kindOwn p i k) k.states.length (stateOk p k)
  | none => false
def progRules (p : Prg) : List (Bool × Int) := [(decide ((p.length : Int) < 1) || decide (8 < (p.length : Int)), 40)]
def progOwn (p : Prg) : Int := firstR (progRules p)
def progOk (p : Prg) : Bool := withinOk (progOwn p) p.length (kindOk p)

/-! ### act, mercy -/
def findKnd (p : Prg) (name : ByteArray) : Option Knd := p.find? fun k => seq k.name name
def meets (tag : ByteArray) (n : Int) (r : Rw) : Bool := seq r.tag e0 || (seq r.tag tag && (!r.only || decide (r.n = n)))
def findRow (k : Knd) (state tag : ByteArray) (n : Int) : Option Rw := (k.states.find? fun s => seq s.name state).bind fun s => s.rows.find? (meets tag n)
/-- Is it put aside, and the state behind it: from effect number i on. -/
def planF (state : ByteArray) : Nat → List Eff → ByteArray → Bool × ByteArray
  | _, [], s => (false, s)
  | i, e :: r, s =>
    if e.act = 4 then (if i = 0 then (true, state) else planF state (i + 1) r s)
    else if e.act = 3 then planF state (i + 1) r e.name
    else if e.act = 11 then (false, s)
    else if e.act = 12 then (false, s)
    else planF state (i + 1) r s
def planOf (k : Knd) (state tag : ByteArray) (n : Int) : Bool × ByteArray := match findRow k state tag n with
  | some r => planF state 0 r.effs state
  | none => (false, state)
def directive (k : Knd) (reason : ByteArray) : Int := match k.cases.find? (fun c => seq c.reason reason) with
  | some c => c.act
  | none => match k.cases.find? (fun c => seq c.reason e0) with
    | some c => c.act
    | none => 3

/-! ### audit -/
structure Actr where
  id : Int
  parent : Int
  kind : Knd
  state : ByteArray
  mode : Int
  work : Option Nat
  pstate : ByteArray
  opn : ByteArray
  failed : Bool
  told : Int
structure Ltr where
  ev : Ev
  notice : Bool
  arrived : Bool
  held : Bool
structure Bk where
  prog : Prg
  actors : List Actr
  letters : List Ltr
  ticks : Int
def goneB : ByteArray := ⟨#[103, 111, 110, 101]⟩
/-- The place of an actor, of a message. -/
def atI (n : Nat) (id : Int) : Option Nat := if id < 1 then none else if (n : Int) < id then none else some (id.toNat - 1)
def Bk.act (b : Bk) (id : Int) : Option Actr := (atI b.actors.length id).bind (b.actors[·]?)
def Bk.ltr (b : Bk) (id : Int) : Option Ltr := (atI b.letters.length id).bind (b.letters[·]?)
def worksB : Option Actr → Bool
  | some a => a.work.isSome
  | none => false
def isB (l : List Int) : Option Actr → Bool
  | some a => l.any fun m => decide (a.mode = m)
  | none => false
end Go.Proofs.Ytglilmcfhkedbaa
