/- The plain laws of three statements, in the form in which the walks use them; no condition. -/
import Derived.Test.YtglilmcfhkedbaaLe
namespace Go.Proofs.Ytglilmcfhkedbaa

theorem begins_law (p : Prg) (l : List Ev) : checkB p l = (0, (l.length : Int)) ∨ ∃ (n : Int) (k : Nat), checkB p l = (n, (k : Int)) ∧ 1 ≤ n ∧ n ≤ 14 ∧ (k < l.length ∨ (k = 0 ∧ l.length = 0)) ∧
    (checkB p (l.take k) = (0, (k : Int)) ∨ (n = 1 ∧ k = 0)) ∧ ∀ more, checkB p (l.take (k + 1) ++ more) = (n, (k : Int)) := by
  unfold checkB
  cases hp : progOk p with
  | true =>
    simp only [if_pos]
    rcases goB_ends l ⟨p, [], [], 0⟩ 0 with h | ⟨n, k, h1, h2, h3, h4, h5, h6⟩
    · rw [Nat.zero_add] at h; exact .inl h
    · rw [Nat.zero_add] at h1 h5 h6
      exact .inr ⟨n, k, h1, h3, h4, .inl h2, .inl h5, h6⟩
  | false =>
    refine .inr ⟨1, 0, by simp, by decide, by decide, by omega, .inr ⟨rfl, rfl⟩, by simp⟩
theorem checkB_at (p : Prg) (l : List Ev) : ∃ (n : Int) (k : Nat), checkB p l = (n, (k : Int)) ∧ k ≤ l.length := by
  rcases begins_law p l with h | ⟨n, k, h1, _, _, h2, _⟩
  · exact ⟨_, _, h, Nat.le_refl _⟩
  · exact ⟨n, k, h1, by omega⟩
theorem prog_states {p : Prg} (h : progOk p = true) : ∀ k ∈ p, k.states ≠ [] := fun k hk he => by
  have := ((progOk_small h).2.2 k hk).2.2.1
  rw [he] at this
  exact absurd this (by decide)
theorem once_law (p : Prg) (l : List Ev) (j i : Nat) (a b : Ev) (hj : j < i) (ha : l[j]? = some a) (hb : l[i]? = some b) (hi : (i : Int) < (checkB p l).2) : clash1 a b = false ∧ clash2 a b = false := by
  unfold checkB at hi
  cases hp : progOk p with
  | true =>
    rw [hp, if_pos rfl] at hi
    exact (once_go l ⟨p, [], [], 0⟩ 0 (prog_states hp)).2 j i a b hj ha hb (by rw [Nat.zero_add]; exact hi)
  | false =>
    rw [hp, if_neg Bool.false_ne_true] at hi
    have : (i : Int) < 0 := hi
    omega
end Go.Proofs.Ytglilmcfhkedbaa
