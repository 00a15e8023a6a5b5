/- The plain law of AuditRefused: what was refused may stand anywhere behind the beginning; no condition. -/
import Derived.Test.YtglilmcfhkedbaaLa
namespace Go.Proofs.Ytglilmcfhkedbaa

theorem badB_shift {i j : Nat} (hi : 1 ≤ i) (hj : 1 ≤ j) (e : Ev) : badB i e = badB j e := by
  unfold badB
  have h1 : decide ((i : Int) = 0) = false := decide_eq_false (by omega)
  have h2 : decide ((j : Int) = 0) = false := decide_eq_false (by omega)
  rw [h1, h2]
theorem goB_shift : ∀ (l : List Ev) (b : Bk) (i : Nat), 1 ≤ i → goB b (i + 1) l = ((goB b i l).1, (goB b i l).2 + 1)
  | [], b, i, _ => by simp [goB]
  | e :: l, b, i, hi => by
    rw [goB_cons, goB_cons, badB_shift (i := i + 1) (j := i) (by omega) hi]
    split
    · simp
    · split
      · exact goB_shift l _ (i + 1) (by omega)
      · simp
theorem goB_ge : ∀ (l : List Ev) (b : Bk) (i : Nat), (i : Int) ≤ (goB b i l).2
  | [], b, i => by simp [goB]
  | e :: l, b, i => by
    rw [goB_cons]
    split
    · exact Int.le_refl _
    · split
      · have := goB_ge l (stepB b e).2 (i + 1); omega
      · exact Int.le_refl _
theorem goB_insert (r : Ev) (hr : r.kind = 1) : ∀ (l1 l2 : List Ev) (b : Bk) (i : Nat), 1 ≤ i + l1.length →
    goB b i (l1 ++ r :: l2) = ((goB b i (l1 ++ l2)).1, if ((i + l1.length : Nat) : Int) ≤ (goB b i (l1 ++ l2)).2 then (goB b i (l1 ++ l2)).2 + 1 else (goB b i (l1 ++ l2)).2)
  | [], l2, b, i, hi => by
    have hi : 1 ≤ i := by simpa using hi
    have hb : badB i r = false := by
      unfold badB; rw [hr, show decide ((i : Int) = 0) = false from decide_eq_false (by omega)]; rfl
    have hs : stepB b r = (0, b) := by unfold stepB; rw [if_pos hr]
    rw [List.nil_append, List.nil_append, goB_cons, hb, hs, if_neg Bool.false_ne_true, if_pos rfl, goB_shift l2 b i hi, if_pos]
    have := goB_ge l2 b i
    simpa using this
  | e :: l1, l2, b, i, hi => by
    rw [List.cons_append, List.cons_append, goB_cons, goB_cons]
    by_cases hb : badB i e = true
    · rw [if_pos hb, if_pos hb, if_neg]
      rw [List.length_cons]; show ¬ ((i + (l1.length + 1) : Nat) : Int) ≤ (i : Int); omega
    · rw [if_neg hb, if_neg hb]
      by_cases hs : (stepB b e).1 = 0
      · rw [if_pos hs, if_pos hs, goB_insert r hr l1 l2 _ (i + 1) (by omega), List.length_cons, show i + 1 + l1.length = i + (l1.length + 1) by omega]
      · rw [if_neg hs, if_neg hs, if_neg]
        rw [List.length_cons]; show ¬ ((i + (l1.length + 1) : Nat) : Int) ≤ (i : Int); omega
/-- AuditRefused. -/
theorem check_insert (p : Prg) (l : List Ev) (k : Nat) (h1 : 1 ≤ k) (h2 : k ≤ l.length) (r : Ev) (hr : r.kind = 1) :
    checkB p (l.take k ++ r :: l.drop k) = ((checkB p l).1, if (k : Int) ≤ (checkB p l).2 then (checkB p l).2 + 1 else (checkB p l).2) := by
  unfold checkB
  split
  · have hl : (l.take k).length = k := by rw [List.length_take]; omega
    rw [goB_insert r hr _ _ _ 0 (by rw [hl]; omega), List.take_append_drop, hl, Nat.zero_add]
  · rw [if_neg (by show ¬ (k : Int) ≤ 0; omega)]
end Go.Proofs.Ytglilmcfhkedbaa
