/- Events in a row, in slices of one's own and in parts of slices; no condition. -/
import Derived.Test.YtglilmcfhkedbaaWV
import Derived.Test.YtglilmcfhkedbaaLf
namespace Go.Proofs.Ytglilmcfhkedbaa
open Go Go.RowKit

def flatE : List Ev → List Value
  | [] => []
  | e :: l => e.cells ++ flatE l
theorem flatE_len : ∀ (l : List Ev), (flatE l).length = l.length * 9
  | [] => rfl
  | e :: l => by
    show (e.cells ++ flatE l).length = (l.length + 1) * 9
    rw [List.length_append, flatE_len l, Nat.add_mul]
    show 9 + _ = _; omega
theorem flatE_app : ∀ (l m : List Ev), flatE (l ++ m) = flatE l ++ flatE m
  | [], m => rfl
  | e :: l, m => by
    show e.cells ++ flatE (l ++ m) = (e.cells ++ flatE l) ++ flatE m
    rw [flatE_app l m, List.append_assoc]
theorem flatE_one : ∀ (l : List Ev), (flatE l).all (·.oneCell') = true
  | [] => rfl
  | e :: l => by
    show (e.cells ++ flatE l).all (·.oneCell') = true
    rw [List.all_append, flatE_one l]; rfl
theorem flatE_at : ∀ {l : List Ev} {i : Nat} {e : Ev}, l[i]? = some e → ((flatE l).drop (i * 9)).take 9 = e.cells
  | e :: l, 0, x, h => by cases h; rfl
  | e :: l, i + 1, x, h => by
    rw [List.getElem?_cons_succ] at h
    show ((e.cells ++ flatE l).drop ((i + 1) * 9)).take 9 = _
    rw [show (i + 1) * 9 = e.cells.length + i * 9 by show _ = 9 + i * 9; omega, ← List.drop_drop, List.drop_left]
    exact flatE_at h
theorem EvsR.ofRow {w : World} {b off cap : Nat} {l : List Ev} (h : Row w b off (flatE l)) (hc : l.length ≤ cap) (hm : l.length ≤ 9223372036854775807) : EvsR G0 w (.slice (some ⟨b, off, none⟩) l.length cap) l := by
  refine .inr ⟨b, off, cap, rfl, hc, hm, fun i x hx => ⟨x.cells, rfl, rfl, fun j v hv => ?_, trivial⟩⟩
  have hj : j < 9 := (List.getElem?_eq_some_iff.1 hv).1
  rw [← flatE_at hx, List.getElem?_take, if_pos hj, List.getElem?_drop] at hv
  have := h _ v hv
  rw [Nat.add_assoc]; exact this
theorem EvsR.ofBlk {w : World} {b n : Nat} {l : List Ev} (h : Blk w b (flatE l) 32) (hn : n = l.length) (hm : l.length ≤ 9223372036854775807) : EvsR G0 w (.slice (some ⟨b, 0, none⟩) n n) l := by
  subst hn; exact EvsR.ofRow h.row (Nat.le_refl _) hm
theorem EvsR.ofSl {w : World} {v : Value} {l : List Ev} {n : Nat} {xs : List Value} (h : Sl w v 32 9 n xs) (hx : xs = flatE l) (hn : n = l.length) (hm : l.length ≤ 9223372036854775807) : EvsR G0 w v l := by
  subst hx
  subst hn
  rcases h with ⟨rfl, hn, _⟩ | ⟨b, cap, cs, rfl, hb, hl, hc, ht⟩
  · exact .inl ⟨_, rfl, List.eq_nil_of_length_eq_zero hn⟩
  · refine EvsR.ofRow (hb.rowAt ?_) hc hm
    rw [List.drop_zero, flatE_len, ht]
theorem flatE_of : ∀ {l : List Ev} {ys : List Value}, ys.length = l.length * 9 → (∀ i x, l[i]? = some x → ∃ cs, cs.length = 9 ∧ cs = x.cells ∧ (ys.drop (i * 9)).take 9 = cs) → ys = flatE l
  | [], ys, h, _ => by
    have : ys.length = 0 := by simpa using h
    exact List.eq_nil_of_length_eq_zero this
  | e :: l, ys, h, hx => by
    rw [List.length_cons, Nat.add_mul] at h
    obtain ⟨cs, _, rfl, h3⟩ := hx 0 e rfl
    have : ys.drop 9 = flatE l := flatE_of (by rw [List.length_drop]; omega) fun i x hi => by
      obtain ⟨ds, e1, e2, e3⟩ := hx (i + 1) x hi
      refine ⟨ds, e1, e2, ?_⟩
      rw [List.drop_drop, show 9 + i * 9 = (i + 1) * 9 by omega]; exact e3
    show ys = e.cells ++ flatE l
    rw [← this, ← h3, Nat.zero_mul, List.drop_zero, List.take_append_drop]
theorem EvsR.src {w : World} {v : Value} {l : List Ev} (h : EvsR G0 w v l) : Src w v l.length (flatE l) := by
  rcases h with ⟨_, rfl, rfl⟩ | ⟨b, off, cap, rfl, _, _, h3⟩
  · exact ⟨_, _, rfl, .inl rfl⟩
  · obtain ⟨ys, h1, h2, h4, _⟩ := rowsOf (R := EvR) (w := w) (b := b) (off := off) l fun i x hx => by
      obtain ⟨cs, e1, e2, e3, _⟩ := h3 i x hx
      exact ⟨cs, e1, e2, e3⟩
    have := flatE_of h1 h4
    subst this
    exact ⟨_, _, rfl, .inr ⟨b, off, rfl, h2⟩⟩
/-- What lies behind the first j of them. -/
theorem SlOf.tail {α : Type} {G : Good} {k : Nat} {R : World → α → List Value → Prop} {w : World} {a : Option Addr} {n cap j : Nat} {xs : List α} (h : SlOf G k R w (.slice a n cap) xs) (hj : j ≤ n) :
    SlOf G k R w (.slice (if cap = j then a else a.map (·.add (j * k))) (n - j) (cap - j)) (xs.drop j) := by
  rcases h with ⟨_, h1, rfl⟩ | ⟨b, off, cap', h1, h2, hcap, h3⟩
  · cases h1
    have : j = 0 := by omega
    subst this
    exact .inl ⟨_, rfl, rfl⟩
  · cases h1
    have e : (xs.drop j).length = xs.length - j := List.length_drop
    by_cases hc : cap = j
    · rw [if_pos hc]
      refine .inr ⟨b, off, cap - j, by rw [e], by rw [e]; omega, by rw [e]; omega, fun i x hx => ?_⟩
      have := (List.getElem?_eq_some_iff.1 hx).1
      omega
    · rw [if_neg hc]
      refine .inr ⟨b, off + j * k, cap - j, by rw [e]; simp [addr_add], by rw [e]; omega, by rw [e]; omega, fun i x hx => ?_⟩
      rw [List.getElem?_drop] at hx
      obtain ⟨cs, h4, h5, h6, h7⟩ := h3 _ x hx
      exact ⟨cs, h4, h5, by rw [show off + j * k + i * k = off + (j + i) * k by rw [Nat.add_mul]; omega]; exact h6, h7⟩
/-! ### the document's example -/
def nX : ByteArray := ⟨#[120]⟩
def nS : ByteArray := ⟨#[115]⟩
def nA : ByteArray := ⟨#[97]⟩
def nT : ByteArray := ⟨#[116]⟩
def exEff : Eff := ⟨11, e0, e0, e0, 0, 0, 0⟩
def exRw : Rw := ⟨nX, false, 0, [exEff]⟩
def exSt : Stt := ⟨nS, [exRw]⟩
def exK : Knd := ⟨nA, 0, 1, [], [exSt]⟩
def exP : Prg := [exK]
def ex0 : Ev := ⟨7, 1, 0, 0, 0, nA, 0, 0, false⟩
def ex1 : Ev := ⟨2, 0, 1, -1, 1, nX, 0, 0, false⟩
def ex2 : Ev := ⟨3, 1, 1, 0, 0, e0, 0, 0, false⟩
def ex3 : Ev := ⟨4, 1, 1, 0, 0, nS, 0, 0, false⟩
def ex3t : Ev := ⟨4, 1, 1, 0, 0, nT, 0, 0, false⟩
def ex4 : Ev := ⟨13, 1, 0, 0, 0, e0, 0, 0, false⟩
def ex5 : Ev := ⟨14, 1, 0, 0, 0, e0, 0, 0, false⟩
def exL : List Ev := [ex0, ex1, ex2, ex3, ex4, ex5]
theorem ex_a : checkB exP exL = (0, 6) := by kernel_rfl
theorem ex_b : checkB exP [ex0, ex2, ex3, ex4, ex5] = (3, 1) := by kernel_rfl
theorem ex_c : checkB exP [ex0, ex1, ex2, ex4, ex3, ex5] = (12, 3) := by kernel_rfl
theorem ex_d : checkB exP [ex0, ex1, ex2, ex3t, ex4, ex5] = (5, 3) := by kernel_rfl
/-- The rows of the example's program lie so. -/
theorem one_slice {α : Type} {k b : Nat} {R : World → α → List Value → Prop} {w : World} {x : α} {cs : List Value} {T : TypeId} (hb : Blk w b cs T) (hk : cs.length = k) (hR : R w x cs) : SlOf G0 k R w (.slice (some ⟨b, 0, none⟩) 1 1) [x] := by
  refine .inr ⟨b, 0, 1, rfl, Nat.le_refl _, (by show 1 ≤ _; decide), fun i y hy => ?_⟩
  cases i with
  | zero => cases hy; exact ⟨cs, hk, hR, by rw [Nat.zero_mul]; exact hb.row, trivial⟩
  | succ i => rw [List.getElem?_cons_succ] at hy; cases hy
theorem ex_prg {w : World} {b1 b2 b3 b4 : Nat} (h1 : Blk w b1 exEff.cells 57) (h2 : Blk w b2 (exRw.cells (.slice (some ⟨b1, 0, none⟩) 1 1)) 60) (h3 : Blk w b3 (exSt.cells (.slice (some ⟨b2, 0, none⟩) 1 1)) 63)
    (h4 : Blk w b4 (exK.cells (.slice none 0 0) (.slice (some ⟨b3, 0, none⟩) 1 1)) 67) : PrgR G0 w (.slice (some ⟨b4, 0, none⟩) 1 1) exP :=
  one_slice h4 rfl ⟨_, _, rfl, .inl ⟨_, rfl, rfl⟩, one_slice h3 rfl ⟨_, rfl, one_slice h2 rfl ⟨_, rfl, one_slice h1 rfl rfl⟩⟩⟩
end Go.Proofs.Ytglilmcfhkedbaa
