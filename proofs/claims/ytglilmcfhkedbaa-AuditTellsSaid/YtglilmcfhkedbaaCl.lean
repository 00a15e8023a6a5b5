/- Small laws on found places, on slices made anew, and on readings that outlast the growth of a list of one's own; no condition. -/
import Derived.Test.YtglilmcfhkedbaaWF
namespace Go.Proofs.Ytglilmcfhkedbaa
open Go Go.RowKit

theorem idxOf_cases {α : Type} (g : α → Bool) (xs : List α) : (idxOf g xs = -1 ∧ xs.find? g = none) ∨ ∃ (i : Nat) (x : α), idxOf g xs = (i : Int) ∧ xs[i]? = some x ∧ xs.find? g = some x := by
  unfold idxOf
  cases h : xs.findIdx? g with
  | none =>
    refine .inl ⟨rfl, ?_⟩
    rw [List.findIdx?_eq_none_iff] at h
    rw [List.find?_eq_none]
    intro x hx
    simp [h x hx]
  | some i =>
    rw [List.findIdx?_eq_some_iff_getElem] at h
    obtain ⟨hi, hg, hn⟩ := h
    refine .inr ⟨i, xs[i], rfl, by simp [hi], ?_⟩
    rw [List.find?_eq_some_iff_getElem]
    exact ⟨hg, i, hi, rfl, fun j hj => by simpa using hn j hj⟩

section
variable {α : Type} {E k : Nat} {R R' : World → α → List Value → Prop} {w w' w2 w0 : World} {u v : Value} {xs : List α}
theorem NewOf.base (h : NewOf E k R w w' u xs) (hl : w0.heap.size ≤ w.heap.size) (hR : ∀ x cs, x ∈ xs → R w x cs → R' w0 x cs) : NewOf E k R' w0 w' u xs := by
  rcases h with h | ⟨b, cap, cs, h1, h2, hb, h3, h4, h5⟩
  · exact .inl h
  · refine .inr ⟨b, cap, cs, h1, h2, Nat.le_trans hl hb, h3, h4, fun i x hx => ?_⟩
    obtain ⟨ds, e1, e2, e3⟩ := h5 i x hx
    exact ⟨ds, e1, hR x ds (List.mem_of_getElem? hx) e2, e3⟩
theorem NewOf.le (h : NewOf E k R w w' u xs) (hl : Le w' w2) : NewOf E k R w w2 u xs := by
  rcases h with h | ⟨b, cap, cs, h1, h2, hb, h3, h4⟩
  · exact .inl h
  · exact .inr ⟨b, cap, cs, h1, h2, hb, h3.le hl, h4⟩
theorem NewOf.but {c : Nat} (h : NewOf E k R w w' u xs) (hl : But c w' w2) (hc : c < w.heap.size) : NewOf E k R w w2 u xs := by
  rcases h with h | ⟨b, cap, cs, h1, h2, hb, h3, h4⟩
  · exact .inl h
  · exact .inr ⟨b, cap, cs, h1, h2, hb, h3.but hl (by omega), h4⟩
theorem take_drop_take {cs : List Value} {i n k : Nat} (h : i < n) : (cs.drop (i * k)).take k = ((cs.take (n * k)).drop (i * k)).take k := by
  have : (i + 1) * k ≤ n * k := Nat.mul_le_mul_right _ h
  rw [Nat.add_mul] at this
  rw [List.drop_take, List.take_take, Nat.min_eq_left (by omega)]
theorem NewOf.ofSl {ys : List Value} (hs : Sl w' u E k xs.length ys) (hf : Fresh w u) (hR : ∀ i x, xs[i]? = some x → ∃ ds, ds.length = k ∧ R w x ds ∧ (ys.drop (i * k)).take k = ds) : NewOf E k R w w' u xs := by
  rcases hs with ⟨h, hn, _⟩ | ⟨b, cap, cs, h1, h2, h3, h4, h5⟩
  · exact .inl ⟨h, List.eq_nil_of_length_eq_zero hn⟩
  · have hb : w.heap.size ≤ b := by
      rcases hf with h | ⟨b', m', c', h, hb⟩
      · rw [h1] at h; cases h
      · rw [h1] at h; cases h; exact hb
    refine .inr ⟨b, cap, cs, h1, h4, hb, h2, h3, fun i x hx => ?_⟩
    obtain ⟨ds, e1, e2, e3⟩ := hR i x hx
    refine ⟨ds, e1, e2, ?_⟩
    rw [take_drop_take (List.getElem?_eq_some_iff.1 hx).1, h5]
    exact e3
theorem NewOf.val (h : NewOf E k R w w' u xs) : ∃ a cap, u = .slice a xs.length cap := by
  rcases h with ⟨rfl, rfl⟩ | ⟨b, cap, cs, h1, _⟩
  · exact ⟨none, 0, rfl⟩
  · exact ⟨_, cap, h1⟩
end
/-- Blocks from before B, but for c. -/
def GA (B c : Nat) : Good := fun w b => b < B ∧ b ≠ c ∧ b < w.heap.size
theorem GA.but {B c x : Nat} {w w' : World} (h : But x w w') (hx : x = c ∨ B ≤ x) : Stays (GA B c) w w' := fun b hb => by
  obtain ⟨h1, h2, h3⟩ := hb
  exact ⟨⟨h1, h2, Nat.lt_of_lt_of_le h3 h.size⟩, h.block b h3 (by omega)⟩
theorem GA.le {B c : Nat} {w w' : World} (h : Le w w') : Stays (GA B c) w w' := fun b hb => by
  obtain ⟨h1, h2, h3⟩ := hb
  exact ⟨⟨h1, h2, Nat.lt_of_lt_of_le h3 h.size⟩, h.block b h3⟩
/-- A list that grows lies apart from one's own blocks. -/
def Apart (B : Nat) (bs : List Nat) (w : World) (v : Value) : Prop := ∀ a m c, v = .slice (some a) m c → B ≤ a.block ∧ a.block < w.heap.size ∧ ∀ x ∈ bs, x ≠ a.block
section
variable {w w' w0 : World} {s v : Value} {H : Heap} {bs : List Nat} {B : Nat}
theorem Apart.nil : Apart B bs w (.slice none 0 0) := fun _ _ _ h => by cases h
theorem Apart.grow (h : Apart B bs w v) (hl : w.heap.size ≤ w'.heap.size) : Apart B bs w' v := fun a m c e => ⟨(h a m c e).1, Nat.lt_of_lt_of_le (h a m c e).2.1 hl, (h a m c e).2.2⟩
theorem Apart.add {b : Nat} (h : Apart B bs w v) (hb : w.heap.size ≤ b) : Apart B (b :: bs) w v := fun a m c e => ⟨(h a m c e).1, (h a m c e).2.1, fun x hx => by
  rcases List.mem_cons.1 hx with rfl | hx
  · have := (h a m c e).2.1; omega
  · exact (h a m c e).2.2 x hx⟩
theorem Apart.drop {x : Nat} (h : Apart B (x :: bs) w v) : Apart B bs w v := fun a m c e => ⟨(h a m c e).1, (h a m c e).2.1, fun y hy => (h a m c e).2.2 y (List.mem_cons_of_mem _ hy)⟩
theorem Moved.size (h : Moved w w' s v) : w.heap.size ≤ w'.heap.size := by
  cases h with
  | same h e => subst e; exact Nat.le_refl _
  | here h h' e => exact e.size
  | new h hb e => exact e.size
theorem Own.moved (h : Own w0 H w) (hM : Moved w w' s v) (ha : Apart B (H.map (·.1)) w s) (hB : w0.heap.size ≤ B) : Own w0 H w' := by
  cases hM with
  | same h1 e => subst e; exact h
  | @here b m m' cap h1 h' e =>
    have hb := ha _ _ _ h1
    exact ⟨e.le h.le (Nat.le_trans hB hb.1), fun x hx => (h.blk x hx).but e (hb.2.2 x.1 (List.mem_map.2 ⟨x, hx, rfl⟩)), h.new, h.nd⟩
  | new h1 hb e => exact h.on e
/-- Where the list lies now: its block is of this world. -/
theorem Apart.moved {E k m : Nat} {ys : List Value} (ha : Apart B (H.map (·.1)) w s) (hM : Moved w w' s v) (hO : Own w0 H w) (hB : B ≤ w.heap.size) (hS : Sl w' v E k m ys) : Apart B (H.map (·.1)) w' v := fun a m c e => by
  have hlt : a.block < w'.heap.size := by
    rcases hS with ⟨h, _⟩ | ⟨b, cap, cs, h, hb, _⟩
    · rw [h] at e; cases e
    · rw [h] at e; cases e; exact hb.lt
  cases hM with
  | same h1 e1 => subst e1; subst h1; exact ⟨(ha a m c e).1, hlt, (ha a m c e).2.2⟩
  | @here b m m' cap h1 h' e1 =>
    rw [h'] at e; cases e
    have hb := ha _ _ _ h1
    exact ⟨hb.1, hlt, hb.2.2⟩
  | @new b m cap h1 hb e1 =>
    rw [h1] at e; cases e
    refine ⟨Nat.le_trans hB hb, hlt, fun x hx => ?_⟩
    obtain ⟨y, hy, rfl⟩ := List.mem_map.1 hx
    have := (hO.blk y hy).lt
    have hb : w.heap.size ≤ b := hb
    show y.1 ≠ b; omega
theorem GA.moved {c : Nat} (hM : Moved w w' s v) (ha : Apart B bs w s) : Stays (GA B c) w w' := by
  cases hM with
  | same h e => subst e; exact GA.le (Le.rfl' _)
  | here h h' e => exact GA.but e (.inr (ha _ _ _ h).1)
  | new h hb e => exact GA.le e
/-- A list of effects that grows, beside others that are read. -/
def Gr (B c : Nat) (bs : List Nat) (w : World) (ev : Value) (m : Nat) (rv : Value) (effs : List Eff) : Prop :=
  ∃ ys, Sl w ev 57 7 m ys ∧ Apart B bs w ev ∧ B ≤ w.heap.size ∧ SlOf (GA B c) 7 EffR w rv effs
variable {c m : Nat} {ev rv : Value} {effs : List Eff}
theorem Gr.le (h : Gr B c bs w ev m rv effs) (hl : Le w w') : Gr B c bs w' ev m rv effs := by
  obtain ⟨ys, h1, h2, h3, h4⟩ := h
  exact ⟨ys, h1.le hl, h2.grow hl.size, Nat.le_trans h3 hl.size, h4.stays (GA.le hl) fun _ _ _ h => h⟩
theorem Gr.add {b : Nat} (h : Gr B c bs w ev m rv effs) (hl : Le w w') (hb : w.heap.size ≤ b) : Gr B c (b :: bs) w' ev m rv effs := by
  obtain ⟨ys, h1, h2, h3, h4⟩ := h
  exact ⟨ys, h1.le hl, (h2.add hb).grow hl.size, Nat.le_trans h3 hl.size, h4.stays (GA.le hl) fun _ _ _ h => h⟩
theorem Gr.drop {b : Nat} (h : Gr B c (b :: bs) w ev m rv effs) : Gr B c bs w ev m rv effs := by
  obtain ⟨ys, h1, h2, h3, h4⟩ := h
  exact ⟨ys, h1, h2.drop, h3, h4⟩
theorem Gr.but {x i : Nat} (h : Gr B c bs w ev m rv effs) (hb : But x w w') (hx : bs[i]? = some x) (hx2 : x = c ∨ B ≤ x) : Gr B c bs w' ev m rv effs := by
  obtain ⟨ys, h1, h2, h3, h4⟩ := h
  exact ⟨ys, h1.but hb (fun a m c e => ((h2 a m c e).2.2 x (List.mem_of_getElem? hx)).symm), h2.grow hb.size, Nat.le_trans h3 hb.size, h4.stays (GA.but hb hx2) fun _ _ _ h => h⟩
theorem Sl.val {E k : Nat} {ys : List Value} (h : Sl w v E k m ys) : ∃ a c, v = .slice a m c := by
  rcases h with ⟨rfl, rfl, _⟩ | ⟨b, cap, cs, rfl, _⟩ <;> exact ⟨_, _, rfl⟩
end
end Go.Proofs.Ytglilmcfhkedbaa
