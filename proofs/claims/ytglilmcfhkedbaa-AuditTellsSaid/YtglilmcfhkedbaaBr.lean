/- How the book of audit.Check lies in memory, and what a store into it turns; no condition. -/
import Derived.Test.YtglilmcfhkedbaaSpc
namespace Go.Proofs.Ytglilmcfhkedbaa
open Go Go.RowKit

/-- What is read of programs and kinds: blocks older than the book, and copies. -/
def GB (B0 : Nat) : Good := fun w b => (b < B0 ∧ b < w.heap.size) ∨ GTy B0 pK w b
/-- Blocks of the book. -/
abbrev pM : Nat → Bool := fun T => T == 49 || T == 76 || T == 82 || T == 84 || T == 90
section
variable {w w' w0 : World} {B0 N bb x : Nat} {c : List Value} {T0 : TypeId}
theorem GB.le (h : Le w w') : Stays (GB B0) w w' := fun b hb => by
  rcases hb with ⟨h1, h2⟩ | hb
  · exact ⟨.inl ⟨h1, Nat.lt_of_lt_of_le h2 h.size⟩, h.block b h2⟩
  · exact ⟨.inr (GTy.le h b hb).1, (GTy.le h b hb).2⟩
theorem GB.but (h : But x w w') (h0 : B0 ≤ x) (hx : Blk w x c T0) (hp : pK T0 = false) : Stays (GB B0) w w' := fun b hb => by
  rcases hb with ⟨h1, h2⟩ | hb
  · exact ⟨.inl ⟨h1, Nat.lt_of_lt_of_le h2 h.size⟩, h.block b h2 (by omega)⟩
  · exact ⟨.inr (GTy.but h hx hp b hb).1, (GTy.but h hx hp b hb).2⟩
abbrev ptrV (x : Nat) : Value := .pointer (some ⟨x, 0, none⟩)
abbrev Actr.cells (a : Actr) (kv ku wv ev : Value) (st : Bool) (f : ByteArray) (ps : Bool) : List Value :=
  [.int .i64 a.id, .int .i64 a.parent, .string a.kind.name, .int .i64 a.kind.limit, .int .i64 a.kind.within, kv, ku, .string a.state, .int .i64 a.mode, wv, .bool ps, ev, .string a.pstate, .bool st, .string f, .string a.opn, .bool a.failed, .int .i64 a.told]
abbrev Ltr.cells (l : Ltr) : List Value :=
  [.int .i64 l.ev.kind, .int .i64 l.ev.actor, .int .u64 l.ev.id, .int .i64 l.ev.frm, .int .i64 l.ev.to, .string l.ev.name, .int .i64 l.ev.n, .int .i64 l.ev.why, .bool l.ev.timed, .bool l.notice, .bool l.arrived, .bool l.held]
/-- The message that an actor works on, as a pointer. -/
def WorkV (lb : List Nat) (a : Actr) (wv : Value) : Prop := match a.work with
  | none => wv = .pointer none
  | some i => ∃ y, lb[i]? = some y ∧ wv = ptrV y
/-- An actor in its block. -/
structure ActR (B0 : Nat) (w : World) (lb : List Nat) (a : Actr) (x : Nat) (kv ku wv ev : Value) (st : Bool) (f : ByteArray) (ps : Bool) : Prop where
  blk : Blk w x (a.cells kv ku wv ev st f ps) 90
  cases : SlOf (GB B0) 2 CasR w kv a.kind.cases
  states : SlOf (GB B0) 2 (SttR (GB B0)) w ku a.kind.states
  small : SmallK a.kind
  work : WorkV lb a wv
  ev1 : ∃ p m c, ev = .slice p m c
def ActE (B0 : Nat) (w : World) (lb : List Nat) (a : Actr) (x : Nat) : Prop := ∃ kv ku wv ev st f ps, ActR B0 w lb a x kv ku wv ev st f ps
/-- The book. -/
structure BR (B0 N : Nat) (w : World) (bb : Nat) (b : Bk) (pv av lv : Value) (ab lb : List Nat) : Prop where
  lo : B0 ≤ bb
  loa : ∀ x ∈ ab, B0 ≤ x
  lol : ∀ x ∈ lb, B0 ≤ x
  losa : ∀ p m c, av = .slice (some p) m c → B0 ≤ p.block
  losl : ∀ p m c, lv = .slice (some p) m c → B0 ≤ p.block
  hB : B0 ≤ w.heap.size
  book : Blk w bb [pv, av, lv, .int .i64 b.ticks] 49
  prg : PrgR (GB B0) w pv b.prog
  asl : Sl w av 76 1 b.actors.length (ab.map ptrV)
  lsl : Sl w lv 82 1 b.letters.length (lb.map ptrV)
  alen : ab.length = b.actors.length
  llen : lb.length = b.letters.length
  acts : ∀ (i : Nat) a x, b.actors[i]? = some a → ab[i]? = some x → ActE B0 w lb a x
  ltrs : ∀ (i : Nat) l x, b.letters[i]? = some l → lb[i]? = some x → Blk w x l.cells 84
  nda : ab.Nodup
  ndl : lb.Nodup
  na : b.actors.length ≤ N
  nl : b.letters.length ≤ N
  nt : 0 ≤ b.ticks ∧ b.ticks ≤ N
  small : ∀ k ∈ b.prog, SmallK k
  prog1 : 1 ≤ b.prog.length
/-- The book, wherever its parts lie. -/
def BR' (B0 N : Nat) (w : World) (bb : Nat) (b : Bk) : Prop := ∃ pv av lv ab lb, BR B0 N w bb b pv av lv ab lb
variable {b : Bk} {pv av lv : Value} {ab lb : List Nat} {a : Actr}
theorem ActR.stays {kv ku wv ev : Value} {st ps : Bool} {f : ByteArray} (h : ActR B0 w lb a x kv ku wv ev st f ps) (hs : Stays (GB B0) w w') (hb : Blk w' x (a.cells kv ku wv ev st f ps) 90) : ActR B0 w' lb a x kv ku wv ev st f ps :=
  ⟨hb, h.cases.stays hs fun _ _ _ h => h, h.states.stays hs fun _ _ _ h => h.stays hs, h.small, h.work, h.ev1⟩
theorem ActE.le (h : ActE B0 w lb a x) (hl : Le w w') : ActE B0 w' lb a x := by
  obtain ⟨kv, ku, wv, ev, st, f, ps, h⟩ := h
  exact ⟨kv, ku, wv, ev, st, f, ps, h.stays (GB.le hl) (h.blk.le hl)⟩
theorem ActE.but {y : Nat} (h : ActE B0 w lb a x) (hb : But y w w') (h0 : B0 ≤ y) (hy : Blk w y c T0) (hp : pK T0 = false) (hne : x ≠ y) : ActE B0 w' lb a x := by
  obtain ⟨kv, ku, wv, ev, st, f, ps, h⟩ := h
  exact ⟨kv, ku, wv, ev, st, f, ps, h.stays (GB.but hb h0 hy hp) (h.blk.but hb hne)⟩
theorem BR.le (h : BR B0 N w bb b pv av lv ab lb) (hl : Le w w') : BR B0 N w' bb b pv av lv ab lb :=
  { h with
    hB := Nat.le_trans h.hB hl.size
    book := h.book.le hl
    prg := h.prg.stays (GB.le hl)
    asl := h.asl.le hl
    lsl := h.lsl.le hl
    acts := fun i a x h1 h2 => (h.acts i a x h1 h2).le hl
    ltrs := fun i l x h1 h2 => (h.ltrs i l x h1 h2).le hl }
theorem BR.mono {N' : Nat} (h : BR B0 N w bb b pv av lv ab lb) (hN : N ≤ N') : BR B0 N' w bb b pv av lv ab lb :=
  { h with na := Nat.le_trans h.na hN, nl := Nat.le_trans h.nl hN, nt := ⟨h.nt.1, by have := h.nt.2; omega⟩ }
/-- The block of a slice of the book has its elements' type. -/
theorem Sl.blkT {v : Value} {E k n : Nat} {xs : List Value} (h : Sl w v E k n xs) {p : Addr} {m cp : Nat} (e : v = .slice (some p) m cp) : ∃ cs, Blk w p.block cs E := by
  rcases h with ⟨h, _⟩ | ⟨b, cap, cs, h, hb, _⟩
  · rw [h] at e; cases e
  · rw [h] at e; cases e; exact ⟨cs, hb⟩
theorem Blk.ne {y : Nat} {cs ds : List Value} {T T' : TypeId} (h : Blk w x cs T) (k : Blk w y ds T') (ht : (T == T') = false) : x ≠ y := by
  rintro rfl
  unfold Blk at h k
  rw [h] at k
  cases k
  simp at ht
/-- A store into a block of another kind of the book, or into none of the book. -/
theorem BR.other (h : BR B0 N w bb b pv av lv ab lb) (hb : But x w w') (h0 : B0 ≤ x) (hx : Blk w x c T0) (hp : pK T0 = false) (hm : pM T0 = false) : BR B0 N w' bb b pv av lv ab lb := by
  have hne : ∀ {y : Nat} {cs : List Value} {T : TypeId}, Blk w y cs T → pM T = true → y ≠ x := fun hy hT => hy.ne_type hT hx hm
  exact { h with
    hB := Nat.le_trans h.hB hb.size
    book := h.book.but hb (hne h.book rfl)
    prg := h.prg.stays (GB.but hb h0 hx hp)
    asl := h.asl.but hb fun p m cp e => by obtain ⟨cs, h1⟩ := h.asl.blkT e; exact hne h1 rfl
    lsl := h.lsl.but hb fun p m cp e => by obtain ⟨cs, h1⟩ := h.lsl.blkT e; exact hne h1 rfl
    acts := fun i a y h1 h2 => (h.acts i a y h1 h2).but hb h0 hx hp (by obtain ⟨_, _, _, _, _, _, _, h3⟩ := h.acts i a y h1 h2; exact hne h3.blk rfl)
    ltrs := fun i l y h1 h2 => (h.ltrs i l y h1 h2).but hb (hne (h.ltrs i l y h1 h2) rfl) }
theorem nodup_get {l : List Nat} (hn : l.Nodup) {i j : Nat} {y : Nat} (hi : l[i]? = some y) (hj : l[j]? = some y) : i = j := by
  obtain ⟨hi, e⟩ := List.getElem?_eq_some_iff.1 hi
  obtain ⟨hj, e'⟩ := List.getElem?_eq_some_iff.1 hj
  rcases Nat.lt_trichotomy i j with h | h | h
  · exact absurd (e.trans e'.symm) (List.pairwise_iff_getElem.1 hn i j hi hj h)
  · exact h
  · exact absurd (e'.trans e.symm) (List.pairwise_iff_getElem.1 hn j i hj hi h)
/-- A store into an actor's block. -/
theorem BR.setA {i : Nat} {a' : Actr} (h : BR B0 N w bb b pv av lv ab lb) (hb : But x w w') (hi : ab[i]? = some x) (hx : Blk w x c 90) (ha' : ActE B0 w' lb a' x) : BR B0 N w' bb { b with actors := b.actors.set i a' } pv av lv ab lb := by
  have h0 := h.loa x (List.mem_of_getElem? hi)
  exact { h with
    hB := Nat.le_trans h.hB hb.size
    book := h.book.but hb (h.book.ne hx rfl)
    prg := h.prg.stays (GB.but hb h0 hx rfl)
    asl := by
      show Sl w' av 76 1 (b.actors.set i a').length _
      rw [List.length_set]
      exact h.asl.but hb fun p m cp e => by obtain ⟨cs, h1⟩ := h.asl.blkT e; exact h1.ne hx rfl
    lsl := h.lsl.but hb fun p m cp e => by obtain ⟨cs, h1⟩ := h.lsl.blkT e; exact h1.ne hx rfl
    alen := by rw [h.alen]; exact (List.length_set ..).symm
    na := by show (b.actors.set i a').length ≤ N; rw [List.length_set]; exact h.na
    acts := fun j a y h1 h2 => by
      have h1 : (b.actors.set i a')[j]? = some a := h1
      by_cases e : i = j
      · subst e
        rw [hi] at h2; cases h2
        rw [List.getElem?_set_self (by have := (List.getElem?_eq_some_iff.1 hi).1; rw [← h.alen]; exact this)] at h1
        cases h1
        exact ha'
      · rw [List.getElem?_set_ne e] at h1
        refine (h.acts j a y h1 h2).but hb h0 hx rfl fun e' => e ?_
        subst e'
        exact nodup_get h.nda hi h2
    ltrs := fun j l y h1 h2 => (h.ltrs j l y h1 h2).but hb ((h.ltrs j l y h1 h2).ne hx rfl) }
/-- A store into a message's block. -/
theorem BR.setL {i : Nat} {l' : Ltr} (h : BR B0 N w bb b pv av lv ab lb) (hb : But x w w') (hi : lb[i]? = some x) (hx : Blk w x c 84) (hl' : Blk w' x l'.cells 84) : BR B0 N w' bb { b with letters := b.letters.set i l' } pv av lv ab lb := by
  have h0 := h.lol x (List.mem_of_getElem? hi)
  exact { h with
    hB := Nat.le_trans h.hB hb.size
    book := h.book.but hb (h.book.ne hx rfl)
    prg := h.prg.stays (GB.but hb h0 hx rfl)
    asl := h.asl.but hb fun p m cp e => by obtain ⟨cs, h1⟩ := h.asl.blkT e; exact h1.ne hx rfl
    lsl := by
      show Sl w' lv 82 1 (b.letters.set i l').length _
      rw [List.length_set]
      exact h.lsl.but hb fun p m cp e => by obtain ⟨cs, h1⟩ := h.lsl.blkT e; exact h1.ne hx rfl
    llen := by rw [h.llen]; exact (List.length_set ..).symm
    nl := by show (b.letters.set i l').length ≤ N; rw [List.length_set]; exact h.nl
    acts := fun j a y h1 h2 => (h.acts j a y h1 h2).but hb h0 hx rfl (by obtain ⟨_, _, _, _, _, _, _, h3⟩ := h.acts j a y h1 h2; exact h3.blk.ne hx rfl)
    ltrs := fun j l y h1 h2 => by
      have h1 : (b.letters.set i l')[j]? = some l := h1
      by_cases e : i = j
      · subst e
        rw [hi] at h2; cases h2
        rw [List.getElem?_set_self (by have := (List.getElem?_eq_some_iff.1 hi).1; rw [← h.llen]; exact this)] at h1
        cases h1
        exact hl'
      · rw [List.getElem?_set_ne e] at h1
        refine (h.ltrs j l y h1 h2).but hb fun e' => e ?_
        subst e'
        exact nodup_get h.ndl hi h2 }
end
end Go.Proofs.Ytglilmcfhkedbaa
