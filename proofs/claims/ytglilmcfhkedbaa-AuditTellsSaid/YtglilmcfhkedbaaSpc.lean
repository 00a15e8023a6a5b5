/- What audit.Check comes to, rule by rule, in plain Lean; no condition. -/
import Derived.Test.YtglilmcfhkedbaaWJ
namespace Go.Proofs.Ytglilmcfhkedbaa

def optB {α : Type} (f : α → Bool) : Option α → Bool
  | none => false
  | some a => f a
def setA (b : Bk) (id : Int) (a : Actr) : Bk := { b with actors := b.actors.set (id.toNat - 1) a }
def setL (b : Bk) (id : Int) (l : Ltr) : Bk := { b with letters := b.letters.set (id.toNat - 1) l }
def aloneB (b : Bk) (id : Int) : Bool := !(b.actors.any fun a => decide (a.parent = id) && !decide (a.mode = 5))
def handB (e : Ev) : Bool := decide (e.frm < 0) && !e.timed
def ownB (b : Bk) (e : Ev) : Bool := worksB (b.act e.frm) && (!e.timed || decide (e.to = e.frm))
def noticeB (b : Bk) (e : Ev) : Bool := ((isB [5] (b.act e.frm) && seq e.name goneB) && decide (e.n = 0)) && !e.timed
def sentRules (b : Bk) (e : Ev) : List (Int × Bool) := [
  (2, decide (e.id = (b.letters.length : Int) + 1)),
  (2, decide (e.to = 0) || (b.act e.to).isSome),
  (2, (handB e || ownB b e) || noticeB b e)]
def stSent (b : Bk) (e : Ev) : Int × Bk :=
  if brokenR (sentRules b e) = 0 then (0, { b with letters := b.letters ++ [⟨e, isB [5] (b.act e.frm), false, true⟩] }) else (brokenR (sentRules b e), b)
def startRules (b : Bk) (e : Ev) : List (Int × Bool) := [
  (3, isB [1] (b.act e.actor) && !worksB (b.act e.actor)),
  (3, optB (fun l => l.held && decide (l.ev.to = e.actor)) (b.ltr e.id))]
/-- A message that is in the way of m. -/
def ahead (m o : Ltr) : Bool := ((((decide (o.ev.frm = m.ev.frm) && decide (o.ev.to = m.ev.to)) && o.held) && !o.ev.timed) && !o.notice) && !o.arrived
def fresh (m : Ltr) : Bool := (!m.ev.timed && !m.notice) && !m.arrived
def stStart (b : Bk) (e : Ev) : Int × Bk :=
  if brokenR (startRules b e) = 0 then
    match b.act e.actor, b.ltr e.id with
    | some a, some m =>
      if (planOf a.kind a.state m.ev.name m.ev.n).1 = decide (e.kind = 5) then
        if fresh m && (b.letters.take (e.id.toNat - 1)).any (ahead m) then (4, b)
        else if e.kind = 3 then
          (0, setA (setL b e.id { m with arrived := true, held := false }) e.actor { a with work := some (e.id.toNat - 1), pstate := (planOf a.kind a.state m.ev.name m.ev.n).2 })
        else (0, setL b e.id { m with arrived := true })
      else (3, b)
    | _, _ => (0, b)
  else (brokenR (startRules b e), b)
def workId (b : Bk) (a : Actr) (id : Int) : Bool := match a.work with
  | some x => match b.letters[x]? with
    | some l => decide (l.ev.id = id)
    | none => false
  | none => false
def endRules (b : Bk) (e : Ev) : List (Int × Bool) := [(5, optB (fun a => workId b a e.id && seq a.pstate e.name) (b.act e.actor))]
def stEnd (b : Bk) (e : Ev) : Int × Bk :=
  if brokenR (endRules b e) = 0 then
    match b.act e.actor with
    | some a => (0, setA b e.actor { a with work := none, state := e.name })
    | none => (0, b)
  else (brokenR (endRules b e), b)
def deadRules (b : Bk) (e : Ev) : List (Int × Bool) := [
  (6, optB (fun l => l.held && decide (l.ev.to = e.to)) (b.ltr e.id)),
  (6, (decide (1 ≤ e.why) && decide (e.why ≤ 5)) && (decide (e.why = 3) == decide (e.to = 0))),
  (6, !decide (e.why = 2) || isB [4, 5] (b.act e.to)),
  (6, !optB (fun l => !((!decide (e.why = 4) || l.ev.timed) && (!decide (e.why = 5) || l.notice))) (b.ltr e.id))]
def stDead (b : Bk) (e : Ev) : Int × Bk :=
  if brokenR (deadRules b e) = 0 then
    match b.ltr e.id with
    | some m => (0, setL b e.id { m with held := false })
    | none => (0, b)
  else (brokenR (deadRules b e), b)
def rootB (b : Bk) (e : Ev) : Bool := (decide (e.actor = 1) && decide (e.frm = 0)) && (match b.prog[0]? with | some k => seq e.name k.name | none => false)
def spawnedRules (b : Bk) (e : Ev) : List (Int × Bool) := [
  (1, (decide ((b.actors.length : Int) = 0) == decide (e.frm = 0)) && (!decide ((b.actors.length : Int) = 0) || rootB b e)),
  (7, decide ((b.actors.length : Int) = 0) || (decide (e.actor = (b.actors.length : Int) + 1) && worksB (b.act e.frm))),
  (7, (findKnd b.prog e.name).isSome)]
def stSpawned (b : Bk) (e : Ev) : Int × Bk :=
  if brokenR (spawnedRules b e) = 0 then
    match findKnd b.prog e.name with
    | some k => match k.states[0]? with
      | some s => (0, { b with actors := b.actors ++ [⟨e.actor, e.frm, k, s.name, 1, none, e0, e0, false, 0⟩] })
      | none => (0, b)
    | none => (0, b)
  else (brokenR (spawnedRules b e), b)
def noRoomRules (b : Bk) (e : Ev) : List (Int × Bool) := [(7, (findKnd b.prog e.name).isSome && worksB (b.act e.actor))]
def stNoRoom (b : Bk) (e : Ev) : Int × Bk := (brokenR (noRoomRules b e), b)
def stFailed (b : Bk) (e : Ev) : Int × Bk := match b.act e.actor with
  | some a => if isB [1] (some a) && !worksB (some a) then (0, setA b e.actor { a with mode := 2, opn := e.name, failed := true }) else (8, b)
  | none => (8, b)
def stTold (b : Bk) (e : Ev) : Int × Bk := match b.act e.actor, b.act e.frm with
  | some a, some up =>
    if (((decide (a.parent = e.frm)) && isB [1, 2] (some up)) && a.failed) && seq a.opn e.name then
      if e.why = directive up.kind e.name ∨ (directive up.kind e.name = 2 ∧ e.why = 3) then (0, setA b e.actor { a with failed := false, told := e.why }) else (9, b)
    else (9, b)
  | _, _ => (9, b)
def stResumed (b : Bk) (e : Ev) : Int × Bk := match b.act e.actor with
  | some a => if isB [2] (some a) && (decide (a.told = 1) || decide (a.told = 4)) then (0, setA b e.actor { a with mode := 1, told := 0 }) else (10, b)
  | none => (10, b)
def stRestarted (b : Bk) (e : Ev) : Int × Bk := match b.act e.actor with
  | some a => if (isB [2] (some a) && decide (a.told = 2)) && aloneB b e.actor then
      match a.kind.states[0]? with
      | some s => (0, setA b e.actor { a with mode := 1, told := 0, state := s.name })
      | none => (11, b)
    else (11, b)
  | none => (11, b)
def stStopping (b : Bk) (e : Ev) : Int × Bk := match b.act e.actor with
  | some a => if isB [1, 2] (some a) && !worksB (some a) then (0, setA b e.actor { a with mode := 4 }) else (12, b)
  | none => (12, b)
def stEnded (b : Bk) (e : Ev) : Int × Bk := match b.act e.actor with
  | some a => if isB [4] (some a) && aloneB b e.actor then (0, setA b e.actor { a with mode := 5 }) else (13, b)
  | none => (13, b)
def stTick (b : Bk) (e : Ev) : Int × Bk := if e.n = b.ticks + 1 then (0, { b with ticks := b.ticks + 1 }) else (14, b)
/-- What an event comes to, whose kind is one of the fifteen. -/
def stepB (b : Bk) (e : Ev) : Int × Bk :=
  if e.kind = 1 then (0, b) else if e.kind = 2 then stSent b e else if e.kind = 3 then stStart b e else if e.kind = 4 then stEnd b e
  else if e.kind = 5 then stStart b e else if e.kind = 6 then stDead b e else if e.kind = 7 then stSpawned b e else if e.kind = 8 then stNoRoom b e
  else if e.kind = 9 then stFailed b e else if e.kind = 10 then stTold b e else if e.kind = 11 then stResumed b e else if e.kind = 12 then stRestarted b e
  else if e.kind = 13 then stStopping b e else if e.kind = 14 then stEnded b e else stTick b e
def badB (i : Nat) (e : Ev) : Bool := (decide (e.kind < 1) || decide (15 < e.kind)) || (decide ((i : Int) = 0) && !decide (e.kind = 7))
/-- The events from number i on. -/
def goB : Bk → Nat → List Ev → Int × Int
  | _, i, [] => (0, i)
  | b, i, e :: l => if badB i e then (1, i) else if (stepB b e).1 = 0 then goB (stepB b e).2 (i + 1) l else ((stepB b e).1, i)
def checkB (p : Prg) (l : List Ev) : Int × Int := if progOk p then goB ⟨p, [], [], 0⟩ 0 l else (1, 0)
end Go.Proofs.Ytglilmcfhkedbaa
