/- What holds while a kind is copied, part by part; no condition. -/
import Derived.Test.YtglilmcfhkedbaaWH
namespace Go.Proofs.Ytglilmcfhkedbaa
open Go Go.RowKit

/-- New blocks whose type is one of some. -/
def GTy (B : Nat) (p : Nat → Bool) : Good := fun w b => B ≤ b ∧ ∃ cs T, Blk w b cs T ∧ p T = true
/-- The same, and from before lim. -/
def GTl (B lim : Nat) (p : Nat → Bool) : Good := fun w b => b < lim ∧ GTy B p w b
section
variable {w w' w0 : World} {B lim x : Nat} {p q : Nat → Bool} {c : List Value} {T0 : TypeId}
theorem Blk.ne_type {y : Nat} {cs : List Value} {T : TypeId} (h : Blk w y cs T) (hp : p T = true) (hx : Blk w x c T0) (hq : p T0 = false) : y ≠ x := by
  rintro rfl
  unfold Blk at h hx
  rw [hx] at h
  cases h
  rw [hq] at hp; cases hp
theorem GTy.le (h : Le w w') : Stays (GTy B p) w w' := fun b hb => by
  obtain ⟨h1, cs, T, h2, h3⟩ := hb
  exact ⟨⟨h1, cs, T, h2.le h, h3⟩, h.block b h2.lt⟩
theorem GTy.but (h : But x w w') (hx : Blk w x c T0) (hp : p T0 = false) : Stays (GTy B p) w w' := fun b hb => by
  obtain ⟨h1, cs, T, h2, h3⟩ := hb
  have hne := h2.ne_type h3 hx hp
  exact ⟨⟨h1, cs, T, h2.but h hne, h3⟩, h.block b h2.lt hne⟩
theorem GTl.le (h : Le w w') : Stays (GTl B lim p) w w' := fun b hb => ⟨⟨hb.1, (GTy.le h b hb.2).1⟩, (GTy.le h b hb.2).2⟩
theorem GTl.but (h : But x w w') (hx : Blk w x c T0) (hp : p T0 = false) : Stays (GTl B lim p) w w' := fun b hb => ⟨⟨hb.1, (GTy.but h hx hp b hb.2).1⟩, (GTy.but h hx hp b hb.2).2⟩
theorem GTl.butl (h : But x w w') (hx : lim ≤ x) : Stays (GTl B lim p) w w' := fun b hb => by
  obtain ⟨h0, h1, cs, T, h2, h3⟩ := hb
  have hne : b ≠ x := by omega
  exact ⟨⟨h0, h1, cs, T, h2.but h hne, h3⟩, h.block b h2.lt hne⟩
theorem GTy.below {b : Nat} (h : GTy B p w b) : GTl B w.heap.size p w b := by
  obtain ⟨h1, cs, T, h2, h3⟩ := h
  exact ⟨h2.lt, h1, cs, T, h2, h3⟩
theorem GTy.mono {b B' : Nat} (h : GTy B p w b) (hB : B' ≤ B) (hp : ∀ T, p T = true → q T = true) : GTy B' q w b := by
  obtain ⟨h1, cs, T, h2, h3⟩ := h
  exact ⟨Nat.le_trans hB h1, cs, T, h2, hp T h3⟩
theorem RwR.mono {G G' : Good} {r : Rw} {cs : List Value} (h : RwR G w r cs) (hG : ∀ b, G w b → G' w b) : RwR G' w r cs := by
  obtain ⟨v, h1, h2⟩ := h; exact ⟨v, h1, h2.mono hG fun _ _ _ h => h⟩
theorem SttR.mono {G G' : Good} {s : Stt} {cs : List Value} (h : SttR G w s cs) (hG : ∀ b, G w b → G' w b) : SttR G' w s cs := by
  obtain ⟨v, h1, h2⟩ := h; exact ⟨v, h1, h2.mono hG fun _ _ _ h => h.mono hG⟩
theorem Own.butx {H : Heap} (h : Own w0 H w) (hb : But x w w') (h0 : w0.heap.size ≤ x) (hx : ∀ y ∈ H, y.1 ≠ x) : Own w0 H w' :=
  ⟨hb.le h.le h0, fun y hy => (h.blk y hy).but hb (hx y hy), h.new, h.nd⟩
end
section
variable {cs ds : List Value} {k i x j : Nat} {v : Value}
theorem set_take (hj : j < k) (hx : x ≠ i) : ((cs.set (i * k + j) v).drop (x * k)).take k = (cs.drop (x * k)).take k := by
  apply List.ext_getElem?
  intro y
  rw [List.getElem?_take, List.getElem?_take]
  split
  · rw [List.getElem?_drop, List.getElem?_drop, List.getElem?_set_ne]
    intro e
    rcases Nat.lt_or_gt_of_ne hx with h | h
    · have := Nat.mul_le_mul_right k h
      rw [Nat.succ_mul] at this; omega
    · have := Nat.mul_le_mul_right k h
      rw [Nat.succ_mul] at this; omega
  · rfl
theorem set_take_same : ((cs.set (i * k + j) v).drop (i * k)).take k = ((cs.drop (i * k)).take k).set j v := by
  rw [List.drop_set, if_neg (by omega), List.take_set, Nat.add_sub_cancel_left]
theorem set_eq {n : Nat} (h : n < cs.length) : cs.take n ++ [v] ++ cs.drop (n + 1) = cs.set n v := by
  rw [List.set_eq_take_append_cons_drop, if_pos h]; simp
theorem getAt (h : (cs.drop (i * k)).take k = ds) (hv : ds[j]? = some v) : cs[0 + i * k + j]? = some v := by
  rw [← h, List.getElem?_take] at hv
  split at hv
  · rw [List.getElem?_drop] at hv; rw [Nat.zero_add]; exact hv
  · cases hv
end
abbrev pE : Nat → Bool := fun T => T == 57
abbrev pR : Nat → Bool := fun T => T == 57 || T == 60
abbrev pC : Nat → Bool := fun T => T == 103
abbrev pK : Nat → Bool := fun T => T == 57 || T == 60 || T == 63 || T == 103
/-- The states' cells: done up to lo, as they were from hi on. -/
def StsIn (G : Good) (w0 : World) (sts : List Stt) (lo hi : Nat) (w : World) (scs : List Value) : Prop :=
  ∀ (x : Nat) s, sts[x]? = some s → ∃ ds, ds.length = 2 ∧ (scs.drop (x * 2)).take 2 = ds ∧ (x < lo → SttR G w s ds) ∧ (hi ≤ x → SttR G0 w0 s ds)
def RowsIn (lim : Nat) (w0 : World) (rows : List Rw) (j : Nat) (w : World) (rcs : List Value) : Prop :=
  ∀ (x : Nat) r, rows[x]? = some r → ∃ ds, ds.length = 4 ∧ (rcs.drop (x * 4)).take 4 = ds ∧ (x < j → RwR (GTy lim pE) w r ds) ∧ (j ≤ x → RwR G0 w0 r ds)
def RowsAt (lim : Nat) (w0 : World) (rows : List Rw) (j : Nat) (w : World) (rv : Value) : Prop :=
  (rv = .slice none 0 0 ∧ rows = []) ∨ ∃ rb cap rcs, rv = .slice (some ⟨rb, 0, none⟩) rows.length cap ∧ rows.length ≤ cap ∧ lim ≤ rb ∧ Blk w rb rcs 60 ∧ rcs.length = cap * 4 ∧ RowsIn lim w0 rows j w rcs
section
variable {G G' : Good} {w w' w0 : World} {sts : List Stt} {rows : List Rw} {lo hi i j lim B x : Nat} {scs rcs c : List Value} {rv : Value} {T0 : TypeId}
theorem StsIn.stays (h : StsIn G w0 sts lo hi w scs) (hs : Stays G w w') : StsIn G w0 sts lo hi w' scs := fun x s hx => by
  obtain ⟨ds, h1, h2, h3, h4⟩ := h x s hx
  exact ⟨ds, h1, h2, fun h => (h3 h).stays hs, h4⟩
theorem StsIn.mono {hi' : Nat} (h : StsIn G w0 sts lo hi w scs) (hG : ∀ b, G w b → G' w b) (hh : hi ≤ hi') : StsIn G' w0 sts lo hi' w scs := fun x s hx => by
  obtain ⟨ds, h1, h2, h3, h4⟩ := h x s hx
  exact ⟨ds, h1, h2, fun h => (h3 h).mono hG, fun h => h4 (Nat.le_trans hh h)⟩
theorem StsIn.set (h : StsIn G w0 sts i (i + 1) w scs) : StsIn G w0 sts i (i + 1) w (scs.set (i * 2 + 1) rv) := fun x s hx => by
  obtain ⟨ds, h1, h2, h3, h4⟩ := h x s hx
  by_cases e : x = i
  · subst e
    exact ⟨ds.set 1 rv, by simpa using h1, by rw [set_take_same, h2], fun h => absurd h (Nat.lt_irrefl _), fun h => absurd h (Nat.not_succ_le_self _)⟩
  · exact ⟨ds, h1, by rw [set_take (by omega) e]; exact h2, h3, h4⟩
theorem StsIn.done {s : Stt} (h : StsIn G w0 sts i (i + 1) w scs) (hs : sts[i]? = some s) (he : (scs.drop (i * 2)).take 2 = s.cells rv) (hr : SlOf G 4 (RwR G) w rv s.rows) : StsIn G w0 sts (i + 1) (i + 1) w scs := fun x s' hx => by
  obtain ⟨ds, h1, h2, h3, h4⟩ := h x s' hx
  refine ⟨ds, h1, h2, fun hlt => ?_, h4⟩
  by_cases e : x = i
  · subst e
    rw [hs] at hx; cases hx
    exact ⟨rv, by rw [← h2, he], hr⟩
  · exact h3 (by omega)
theorem RowsIn.stays (h : RowsIn lim w0 rows j w rcs) (hs : Stays (GTy lim pE) w w') : RowsIn lim w0 rows j w' rcs := fun x s hx => by
  obtain ⟨ds, h1, h2, h3, h4⟩ := h x s hx
  exact ⟨ds, h1, h2, fun h => (h3 h).stays hs, h4⟩
theorem RowsAt.le (h : RowsAt lim w0 rows j w rv) (hl : Le w w') : RowsAt lim w0 rows j w' rv := by
  rcases h with h | ⟨rb, cap, rcs, h1, h2, h3, h4, h5, h6⟩
  · exact .inl h
  · exact .inr ⟨rb, cap, rcs, h1, h2, h3, h4.le hl, h5, h6.stays (GTy.le hl)⟩
theorem RowsAt.but (h : RowsAt lim w0 rows j w rv) (hb : But x w w') (hx : x < lim) (hx2 : Blk w x c T0) (hT : pE T0 = false) : RowsAt lim w0 rows j w' rv := by
  rcases h with h | ⟨rb, cap, rcs, h1, h2, h3, h4, h5, h6⟩
  · exact .inl h
  · exact .inr ⟨rb, cap, rcs, h1, h2, h3, h4.but hb (by omega), h5, h6.stays (GTy.but hb hx2 hT)⟩
theorem RowsIn.step {r : Rw} {ev ev2 : Value} (h : RowsIn lim w0 rows j w rcs) (hs : Stays (GTy lim pE) w w') (hj : rows[j]? = some r) (hd : (rcs.drop (j * 4)).take 4 = r.cells ev) (hE : SlOf (GTy lim pE) 7 EffR w' ev2 r.effs) : RowsIn lim w0 rows (j + 1) w' (rcs.set (j * 4 + 3) ev2) := fun x r' hx => by
  obtain ⟨ds, h1, h2, h3, h4⟩ := h x r' hx
  by_cases e : x = j
  · subst e
    rw [hj] at hx; cases hx
    refine ⟨r.cells ev2, rfl, by rw [set_take_same, hd]; rfl, fun _ => ⟨ev2, rfl, hE⟩, fun h => absurd h (Nat.not_succ_le_self _)⟩
  · exact ⟨ds, h1, by rw [set_take (by omega) e]; exact h2, fun h => (h3 (by omega)).stays hs, fun h => h4 (by omega)⟩
theorem RowsAt.start (h : NewOf 60 4 (fun _ => RwR G0 w0) w w' rv rows) : RowsAt w.heap.size w0 rows 0 w' rv := by
  rcases h with h | ⟨b, cap, cs, h1, h2, hb, h3, h4, h5⟩
  · exact .inl h
  · refine .inr ⟨b, cap, cs, h1, h2, hb, h3, h4, fun x r hx => ?_⟩
    obtain ⟨ds, e1, e2, e3⟩ := h5 x r hx
    exact ⟨ds, e1, e3, fun h => absurd h (Nat.not_lt_zero _), fun _ => e2⟩
theorem RowsAt.done (h : RowsAt lim w0 rows rows.length w rv) (hB : B ≤ lim) (hm : rows.length ≤ 16) : SlOf (GTy B pR) 4 (RwR (GTy B pR)) w rv rows := by
  rcases h with h | ⟨rb, cap, rcs, h1, h2, h3, h4, h5, h6⟩
  · exact .inl ⟨none, h⟩
  · refine .inr ⟨rb, 0, cap, h1, h2, by omega, fun x r hx => ?_⟩
    obtain ⟨ds, e1, e2, e3, _⟩ := h6 x r hx
    refine ⟨ds, e1, (e3 (List.getElem?_eq_some_iff.1 hx).1).mono fun b hb => hb.mono hB (fun T h => by simp [pR, pE] at h ⊢; exact .inl h), by rw [Nat.zero_add]; exact h4.rowAt (by rw [e1]; exact e2), Nat.le_trans hB h3, rcs, 60, h4, rfl⟩
end
end Go.Proofs.Ytglilmcfhkedbaa
