/- How programs and events lie in memory; no condition. -/
import Derived.Test.YtglilmcfhkedbaaSli
namespace Go.Proofs.Ytglilmcfhkedbaa
open Go Go.RowKit

/-- Which blocks may be read: in every world. -/
abbrev Good := World → Nat → Prop
def G0 : Good := fun _ _ => True
/-- A slice that reads as these, k cells each. -/
def SlOf {α : Type} (G : Good) (k : Nat) (R : World → α → List Value → Prop) (w : World) (v : Value) (xs : List α) : Prop :=
  (∃ a, v = .slice a 0 0 ∧ xs = []) ∨ ∃ b off cap, v = .slice (some ⟨b, off, none⟩) xs.length cap ∧ xs.length ≤ cap ∧ xs.length ≤ 9223372036854775807 ∧
    ∀ i x, xs[i]? = some x → ∃ cs, cs.length = k ∧ R w x cs ∧ Row w b (off + i * k) cs ∧ G w b
abbrev Eff.cells (x : Eff) : List Value := [.int .i64 x.act, .string x.ref, .string x.slot, .string x.name, .int .i64 x.value, .int .i64 x.n, .int .i64 x.delay]
abbrev Rw.cells (x : Rw) (v : Value) : List Value := [.string x.tag, .bool x.only, .int .i64 x.n, v]
abbrev Stt.cells (x : Stt) (v : Value) : List Value := [.string x.name, v]
abbrev Cas.cells (x : Cas) : List Value := [.string x.reason, .int .i64 x.act]
abbrev Knd.cells (x : Knd) (v u : Value) : List Value := [.string x.name, .int .i64 x.limit, .int .i64 x.within, v, u]
def EffR (_w : World) (x : Eff) (cs : List Value) : Prop := cs = x.cells
def RwR (G : Good) (w : World) (x : Rw) (cs : List Value) : Prop := ∃ v, cs = x.cells v ∧ SlOf G 7 EffR w v x.effs
def SttR (G : Good) (w : World) (x : Stt) (cs : List Value) : Prop := ∃ v, cs = x.cells v ∧ SlOf G 4 (RwR G) w v x.rows
def CasR (_w : World) (x : Cas) (cs : List Value) : Prop := cs = x.cells
def KndR (G : Good) (w : World) (x : Knd) (cs : List Value) : Prop :=
  ∃ v u, cs = x.cells v u ∧ SlOf G 2 CasR w v x.cases ∧ SlOf G 2 (SttR G) w u x.states
def PrgR (G : Good) (w : World) (v : Value) (p : Prg) : Prop := SlOf G 5 (KndR G) w v p
abbrev Ev.cells (e : Ev) : List Value := [.int .i64 e.kind, .int .i64 e.actor, .int .u64 e.id, .int .i64 e.frm, .int .i64 e.to, .string e.name, .int .i64 e.n, .int .i64 e.why, .bool e.timed]
def EvR (_w : World) (x : Ev) (cs : List Value) : Prop := cs = x.cells
def EvsR (G : Good) (w : World) (v : Value) (l : List Ev) : Prop := SlOf G 9 EvR w v l

/-- What is good stays so, and its cells stay. -/
def Stays (G : Good) (w w' : World) : Prop := ∀ b, G w b → G w' b ∧ w'.heap[b]? = w.heap[b]?
theorem Stays.row {G : Good} {w w' : World} (h : Stays G w w') {b off : Nat} {cs : List Value} (hb : G w b) (hr : Row w b off cs) : Row w' b off cs := fun i v hv => by
  rw [World.cell?_of_block (w := w) ((h b hb).2)]; exact hr i v hv
theorem SlOf.stays {α : Type} {G : Good} {k : Nat} {R R' : World → α → List Value → Prop} {w w' : World} {v : Value} {xs : List α} (h : SlOf G k R w v xs) (hs : Stays G w w') (hR : ∀ x cs, x ∈ xs → R w x cs → R' w' x cs) : SlOf G k R' w' v xs := by
  rcases h with h | ⟨b, off, cap, h1, h2, hcap, h3⟩
  · exact .inl h
  · refine .inr ⟨b, off, cap, h1, h2, hcap, fun i x hx => ?_⟩
    obtain ⟨cs, h4, h5, h6, h7⟩ := h3 i x hx
    exact ⟨cs, h4, hR x cs (List.mem_of_getElem? hx) h5, hs.row h7 h6, (hs b h7).1⟩
theorem RwR.stays {G : Good} {w w' : World} {x : Rw} {cs : List Value} (h : RwR G w x cs) (hs : Stays G w w') : RwR G w' x cs := by
  obtain ⟨v, h1, h2⟩ := h; exact ⟨v, h1, h2.stays hs fun _ _ _ h => h⟩
theorem SttR.stays {G : Good} {w w' : World} {x : Stt} {cs : List Value} (h : SttR G w x cs) (hs : Stays G w w') : SttR G w' x cs := by
  obtain ⟨v, h1, h2⟩ := h; exact ⟨v, h1, h2.stays hs fun _ _ _ h => h.stays hs⟩
theorem KndR.stays {G : Good} {w w' : World} {x : Knd} {cs : List Value} (h : KndR G w x cs) (hs : Stays G w w') : KndR G w' x cs := by
  obtain ⟨v, u, h1, h2, h3⟩ := h; exact ⟨v, u, h1, h2.stays hs fun _ _ _ h => h, h3.stays hs fun _ _ _ h => h.stays hs⟩
theorem PrgR.stays {G : Good} {w w' : World} {v : Value} {p : Prg} (h : PrgR G w v p) (hs : Stays G w w') : PrgR G w' v p := SlOf.stays h hs fun _ _ _ h => h.stays hs

/-- Under Le a cell that is read stays. -/
theorem SlOf.le {α : Type} {k : Nat} {R R' : World → α → List Value → Prop} {w w' : World} {v : Value} {xs : List α} (h : SlOf G0 k R w v xs) (hs : Le w w') (hR : ∀ x cs, x ∈ xs → R w x cs → R' w' x cs) : SlOf G0 k R' w' v xs := by
  rcases h with h | ⟨b, off, cap, h1, h2, hcap, h3⟩
  · exact .inl h
  · refine .inr ⟨b, off, cap, h1, h2, hcap, fun i x hx => ?_⟩
    obtain ⟨cs, h4, h5, h6, h7⟩ := h3 i x hx
    exact ⟨cs, h4, hR x cs (List.mem_of_getElem? hx) h5, h6.le hs, trivial⟩
theorem SlOf.any {α : Type} {G : Good} {k : Nat} {R R' : World → α → List Value → Prop} {w : World} {v : Value} {xs : List α} (h : SlOf G k R w v xs) (hR : ∀ x cs, x ∈ xs → R w x cs → R' w x cs) : SlOf G0 k R' w v xs := by
  rcases h with h | ⟨b, off, cap, h1, h2, hcap, h3⟩
  · exact .inl h
  · refine .inr ⟨b, off, cap, h1, h2, hcap, fun i x hx => ?_⟩
    obtain ⟨cs, h4, h5, h6, _⟩ := h3 i x hx
    exact ⟨cs, h4, hR x cs (List.mem_of_getElem? hx) h5, h6, trivial⟩
theorem RwR.any {G : Good} {w : World} {x : Rw} {cs : List Value} (h : RwR G w x cs) : RwR G0 w x cs := by
  obtain ⟨v, h1, h2⟩ := h; exact ⟨v, h1, h2.any fun _ _ _ h => h⟩
theorem SttR.any {G : Good} {w : World} {x : Stt} {cs : List Value} (h : SttR G w x cs) : SttR G0 w x cs := by
  obtain ⟨v, h1, h2⟩ := h; exact ⟨v, h1, h2.any fun _ _ _ h => h.any⟩
theorem KndR.any {G : Good} {w : World} {x : Knd} {cs : List Value} (h : KndR G w x cs) : KndR G0 w x cs := by
  obtain ⟨v, u, h1, h2, h3⟩ := h; exact ⟨v, u, h1, h2.any fun _ _ _ h => h, h3.any fun _ _ _ h => h.any⟩
theorem PrgR.any {G : Good} {w : World} {v : Value} {p : Prg} (h : PrgR G w v p) : PrgR G0 w v p := SlOf.any h fun _ _ _ h => h.any
theorem RwR.le {w w' : World} {x : Rw} {cs : List Value} (h : RwR G0 w x cs) (hs : Le w w') : RwR G0 w' x cs := by
  obtain ⟨v, h1, h2⟩ := h; exact ⟨v, h1, h2.le hs fun _ _ _ h => h⟩
theorem SttR.le {w w' : World} {x : Stt} {cs : List Value} (h : SttR G0 w x cs) (hs : Le w w') : SttR G0 w' x cs := by
  obtain ⟨v, h1, h2⟩ := h; exact ⟨v, h1, h2.le hs fun _ _ _ h => h.le hs⟩
theorem KndR.le {w w' : World} {x : Knd} {cs : List Value} (h : KndR G0 w x cs) (hs : Le w w') : KndR G0 w' x cs := by
  obtain ⟨v, u, h1, h2, h3⟩ := h; exact ⟨v, u, h1, h2.le hs fun _ _ _ h => h, h3.le hs fun _ _ _ h => h.le hs⟩
theorem PrgR.le {w w' : World} {v : Value} {p : Prg} (h : PrgR G0 w v p) (hs : Le w w') : PrgR G0 w' v p := SlOf.le h hs fun _ _ _ h => h.le hs
theorem EvsR.le {w w' : World} {v : Value} {l : List Ev} (h : EvsR G0 w v l) (hs : Le w w') : EvsR G0 w' v l := SlOf.le h hs fun _ _ _ h => h

/-- The value of such a slice is a slice of this length. -/
theorem SlOf.val {α : Type} {G : Good} {k : Nat} {R : World → α → List Value → Prop} {w : World} {v : Value} {xs : List α} (h : SlOf G k R w v xs) : ∃ a cap, v = .slice a xs.length cap ∧ xs.length ≤ cap ∧ xs.length ≤ 9223372036854775807 := by
  rcases h with ⟨a, rfl, rfl⟩ | ⟨b, off, cap, h1, h2, hcap, _⟩
  · exact ⟨a, 0, rfl, Nat.le_refl _, Nat.zero_le _⟩
  · exact ⟨_, cap, h1, h2, hcap⟩
/-- Where there is an element, the slice lies somewhere, and the element can be read. -/
theorem SlOf.at {α : Type} {G : Good} {k : Nat} {R : World → α → List Value → Prop} {w : World} {v : Value} {xs : List α} (h : SlOf G k R w v xs) {i : Nat} {x : α} (hx : xs[i]? = some x) :
    ∃ b off cap cs, v = .slice (some ⟨b, off, none⟩) xs.length cap ∧ xs.length ≤ cap ∧ cs.length = k ∧ R w x cs ∧ Row w b (off + i * k) cs := by
  rcases h with ⟨_, _, rfl⟩ | ⟨b, off, cap, h1, h2, hcap, h3⟩
  · cases hx
  · obtain ⟨cs, h4, h5, h6, _⟩ := h3 i x hx
    exact ⟨b, off, cap, cs, h1, h2, h4, h5, h6⟩
theorem Row.cell {w : World} {b off i : Nat} {cs : List Value} {v : Value} (h : Row w b off cs) (hv : cs[i]? = some v) : w.cell? ⟨b, off + i, none⟩ = some v := h i v hv
/-- The first j of them. -/
theorem SlOf.take {α : Type} {G : Good} {k : Nat} {R : World → α → List Value → Prop} {w : World} {a : Option Addr} {n cap : Nat} {xs : List α} (h : SlOf G k R w (.slice a n cap) xs) {j : Nat} (hj : j ≤ xs.length) : SlOf G k R w (.slice a j cap) (xs.take j) := by
  rcases h with ⟨_, h1, rfl⟩ | ⟨b, off, cap', h1, h2, hcap, h3⟩
  · cases h1
    have : j = 0 := by simpa using hj
    subst this
    exact .inl ⟨_, rfl, rfl⟩
  · cases h1
    have e : (xs.take j).length = j := by simp; omega
    refine .inr ⟨b, off, cap, by rw [e], by rw [e]; omega, by rw [e]; omega, fun i x hx => ?_⟩
    rw [List.getElem?_take] at hx
    split at hx
    · exact h3 i x hx
    · cases hx

/-! ### what check's parts come to -/
/-- An *Bad of the call's own: no older than the block number B; its Where is at most d long. -/
def BadV (d B : Nat) (w : World) (a : Addr) : Prop :=
  ∃ bb code wv, a = ⟨bb, 0, none⟩ ∧ B ≤ bb ∧ Blk w bb [.int .i64 code, wv] 99 ∧
    ∃ n xs, n ≤ d ∧ Sl w wv 3 1 n xs ∧ xs.all (·.oneCell') = true ∧ ∀ b m c, wv = .slice (some b) m c → B ≤ b.block ∧ b.block ≠ bb
/-- No fault, if ok; else one. -/
def PartP (ok : Bool) (d : Nat) (w : World) (v : Value) (w' : World) : Prop :=
  ∃ p, v = .pointer p ∧ p.isNone = ok ∧ Le w w' ∧ ∀ a, p = some a → BadV d w.heap.size w' a
theorem BadV.mono {d d' B B' : Nat} {w : World} {a : Addr} (h : BadV d B w a) (hd : d ≤ d') (hB : B' ≤ B) : BadV d' B' w a := by
  obtain ⟨bb, code, wv, h1, h2, h3, n, xs, h4, h5, h6, h7⟩ := h
  exact ⟨bb, code, wv, h1, by omega, h3, n, xs, by omega, h5, h6, fun b m c e => ⟨by have := (h7 b m c e).1; omega, (h7 b m c e).2⟩⟩
theorem Own.of {w0 w : World} (h : Le w0 w) : Own w0 [] w := ⟨h, (fun _ h => by cases h), (fun _ h => by cases h), List.nodup_nil⟩
/-- Another reading of the same cells. -/
theorem SlOf.mono {α : Type} {G G' : Good} {k : Nat} {R R' : World → α → List Value → Prop} {w : World} {v : Value} {xs : List α} (h : SlOf G k R w v xs) (hG : ∀ b, G w b → G' w b) (hR : ∀ x cs, x ∈ xs → R w x cs → R' w x cs) : SlOf G' k R' w v xs := by
  rcases h with h | ⟨b, off, cap, h1, h2, hcap, h3⟩
  · exact .inl h
  · refine .inr ⟨b, off, cap, h1, h2, hcap, fun i x hx => ?_⟩
    obtain ⟨cs, h4, h5, h6, h7⟩ := h3 i x hx
    exact ⟨cs, h4, hR x cs (List.mem_of_getElem? hx) h5, h6, hG b h7⟩
/-- All cells of such a slice in a row. -/
theorem rowsOf {α : Type} {k : Nat} {R : World → α → List Value → Prop} {w : World} {b off : Nat} : ∀ (xs : List α), (∀ i x, xs[i]? = some x → ∃ cs, cs.length = k ∧ R w x cs ∧ Row w b (off + i * k) cs) →
    ∃ ys : List Value, ys.length = xs.length * k ∧ Row w b off ys ∧ (∀ i x, xs[i]? = some x → ∃ cs, cs.length = k ∧ R w x cs ∧ (ys.drop (i * k)).take k = cs) ∧ (∀ v ∈ ys, ∃ x cs, x ∈ xs ∧ R w x cs ∧ v ∈ cs)
  | [], _ => ⟨[], by simp, (fun i v h => by cases h), (fun i x h => by cases h), (fun v h => by cases h)⟩
  | x :: xs, h => by
    obtain ⟨cs, h1, h2, h3⟩ := h 0 x rfl
    obtain ⟨ys, g1, g2, g3, g4⟩ := rowsOf (R := R) (off := off + k) xs (fun i y hy => by
      obtain ⟨ds, e1, e2, e3⟩ := h (i + 1) y (by simpa using hy)
      exact ⟨ds, e1, e2, by rw [show off + k + i * k = off + (i + 1) * k by rw [Nat.add_mul]; omega]; exact e3⟩)
    refine ⟨cs ++ ys, by rw [List.length_append, h1, g1, List.length_cons, Nat.add_mul]; omega, ?_, ?_, ?_⟩
    · intro i v hv
      rcases Nat.lt_or_ge i cs.length with hi | hi
      · rw [List.getElem?_append_left hi] at hv
        have := h3 i v hv
        simpa using this
      · rw [List.getElem?_append_right hi] at hv
        have := g2 _ v hv
        rw [h1] at this
        rw [show off + i = off + k + (i - k) by omega]
        exact this
    · intro i y hy
      cases i with
      | zero =>
        have : x = y := by simpa using hy
        subst this
        exact ⟨cs, h1, h2, by simp [← h1]⟩
      | succ i =>
        obtain ⟨ds, e1, e2, e3⟩ := g3 i y (by simpa using hy)
        refine ⟨ds, e1, e2, ?_⟩
        rw [← e3, List.drop_append, List.drop_eq_nil_of_le (by rw [h1, Nat.add_mul]; omega), List.nil_append, h1]
        congr 2
        rw [Nat.add_mul]; omega
    · intro v hv
      rcases List.mem_append.1 hv with hv | hv
      · exact ⟨x, cs, List.mem_cons_self, h2, hv⟩
      · obtain ⟨y, ds, e1, e2, e3⟩ := g4 v hv
        exact ⟨y, ds, List.mem_cons_of_mem _ e1, e2, e3⟩
theorem Src.le {w w' : World} {v : Value} {m : Nat} {ys : List Value} (h : Src w v m ys) (hl : Le w w') : Src w' v m ys := by
  obtain ⟨a, mc, rfl, h⟩ := h
  rcases h with rfl | ⟨b, o, e, h⟩
  · exact ⟨a, mc, rfl, .inl rfl⟩
  · exact ⟨a, mc, rfl, .inr ⟨b, o, e, h.le hl⟩⟩
/-- All cells of such a slice, as append takes them. -/
theorem SlOf.src {α : Type} {G : Good} {k : Nat} {R : World → α → List Value → Prop} {w : World} {v : Value} {xs : List α} (h : SlOf G k R w v xs) :
    ∃ ys : List Value, ys.length = xs.length * k ∧ Src w v xs.length ys ∧ (∀ i x, xs[i]? = some x → ∃ cs, cs.length = k ∧ R w x cs ∧ (ys.drop (i * k)).take k = cs) ∧ (∀ v ∈ ys, ∃ x cs, x ∈ xs ∧ R w x cs ∧ v ∈ cs) := by
  rcases h with ⟨a, rfl, rfl⟩ | ⟨b, off, cap, rfl, _, _, h3⟩
  · exact ⟨[], by simp, ⟨a, 0, rfl, .inl rfl⟩, (fun i x h => by cases h), (fun v h => by cases h)⟩
  · obtain ⟨ys, h1, h2, h4, h5⟩ := rowsOf (R := R) (w := w) (b := b) (off := off) xs fun i x hx => by
      obtain ⟨cs, e1, e2, e3, _⟩ := h3 i x hx
      exact ⟨cs, e1, e2, e3⟩
    exact ⟨ys, h1, ⟨_, cap, rfl, .inr ⟨b, off, rfl, h2⟩⟩, h4, h5⟩
/-- A slice that was made anew, all of its block known: these elements lie in it. -/
def NewOf {α : Type} (E k : Nat) (R : World → α → List Value → Prop) (w w' : World) (u : Value) (xs : List α) : Prop :=
  (u = .slice none 0 0 ∧ xs = []) ∨ ∃ b cap cs, u = .slice (some ⟨b, 0, none⟩) xs.length cap ∧ xs.length ≤ cap ∧ w.heap.size ≤ b ∧ Blk w' b cs E ∧ cs.length = cap * k ∧
    ∀ i x, xs[i]? = some x → ∃ ds, ds.length = k ∧ R w x ds ∧ (cs.drop (i * k)).take k = ds
theorem NewOf.slOf {α : Type} {E k : Nat} {R R' : World → α → List Value → Prop} {G : Good} {w w' : World} {u : Value} {xs : List α} (h : NewOf E k R w w' u xs) (hm : xs.length ≤ 9223372036854775807) (hG : ∀ b cs, w.heap.size ≤ b → Blk w' b cs E → G w' b) (hR : ∀ x cs, x ∈ xs → R w x cs → R' w' x cs) : SlOf G k R' w' u xs := by
  rcases h with h | ⟨b, cap, cs, h1, h2, hb, h3, h4, h5⟩
  · exact .inl ⟨none, h⟩
  · refine .inr ⟨b, 0, cap, h1, h2, hm, fun i x hx => ?_⟩
    obtain ⟨ds, e1, e2, e3⟩ := h5 i x hx
    exact ⟨ds, e1, hR x ds (List.mem_of_getElem? hx) e2, by rw [Nat.zero_add]; exact h3.rowAt (by rw [e1]; exact e3), hG b cs hb h3⟩
end Go.Proofs.Ytglilmcfhkedbaa
