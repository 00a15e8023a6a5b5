/- The plain law of AuditOnce: of right events none clashes with an earlier one; no condition. -/
import Derived.Test.YtglilmcfhkedbaaLd
namespace Go.Proofs.Ytglilmcfhkedbaa

theorem failed_once (b : Bk) (e : Ev) : Fwd b (stFailed b e).2 := by
  unfold stFailed
  cases ha : b.act e.actor with
  | none => exact Fwd.rfl' b
  | some a =>
    dsimp only
    split
    · rename_i hc
      refine Fwd.setA ha fun h => ?_
      simp [isB, h] at hc
    · exact Fwd.rfl' b
theorem told_once (b : Bk) (e : Ev) : Fwd b (stTold b e).2 := by
  unfold stTold
  cases ha : b.act e.actor with
  | none => exact Fwd.rfl' b
  | some a =>
    cases hu : b.act e.frm with
    | none => exact Fwd.rfl' b
    | some up =>
      dsimp only
      split
      · split
        · exact Fwd.setA ha fun h => h
        · exact Fwd.rfl' b
      · exact Fwd.rfl' b
theorem resumed_once (b : Bk) (e : Ev) : Fwd b (stResumed b e).2 := by
  unfold stResumed
  cases ha : b.act e.actor with
  | none => exact Fwd.rfl' b
  | some a =>
    dsimp only
    split
    · rename_i hc
      refine Fwd.setA ha fun h => ?_
      simp [isB, h] at hc
    · exact Fwd.rfl' b
theorem restarted_once (b : Bk) (e : Ev) : Fwd b (stRestarted b e).2 := by
  unfold stRestarted
  cases ha : b.act e.actor with
  | none => exact Fwd.rfl' b
  | some a =>
    dsimp only
    split
    · rename_i hc
      split
      · refine Fwd.setA ha fun h => ?_
        simp [isB, h] at hc
      · exact Fwd.rfl' b
    · exact Fwd.rfl' b
theorem stopping_once (b : Bk) (e : Ev) : Fwd b (stStopping b e).2 := by
  unfold stStopping
  cases ha : b.act e.actor with
  | none => exact Fwd.rfl' b
  | some a =>
    dsimp only
    split
    · rename_i hc
      refine Fwd.setA ha fun h => ?_
      simp [isB, h] at hc
    · exact Fwd.rfl' b
theorem tick_once (b : Bk) (e : Ev) : Fwd b (stTick b e).2 := by
  unfold stTick
  split
  · exact ⟨Nat.le_refl _, Nat.le_refl _, fun _ l h k => ⟨l, h, k⟩, fun _ a h k => ⟨a, h, k⟩⟩
  · exact Fwd.rfl' b
theorem Once.of {b : Bk} {e : Ev} {b' : Bk} (h : Fwd b b') (k : ¬ e.kind = 2 ∧ ¬ e.kind = 3 ∧ ¬ e.kind = 6 ∧ ¬ e.kind = 7 ∧ ¬ e.kind = 14) : Once b e b' :=
  ⟨h, fun h => absurd h k.1, fun h => by rcases h with h | h; exact absurd h k.2.1; exact absurd h k.2.2.1, fun h => absurd h k.2.2.2.2, fun h => absurd h k.2.2.2.1⟩
theorem once_step (b : Bk) (e : Ev) (hs : ∀ k ∈ b.prog, k.states ≠ []) (h : (stepB b e).1 = 0) : Once b e (stepB b e).2 := by
  unfold stepB at h ⊢
  by_cases h1 : e.kind = 1
  · rw [if_pos h1]; exact Once.of (Fwd.rfl' b) (by omega)
  rw [if_neg h1] at h ⊢
  by_cases h2 : e.kind = 2
  · rw [if_pos h2] at h ⊢
    have := sent_once b e h
    exact ⟨this.1, fun _ => this.2, fun h => by omega, fun h => by omega, fun h => by omega⟩
  rw [if_neg h2] at h ⊢
  by_cases h3 : e.kind = 3
  · rw [if_pos h3] at h ⊢
    have := start_once b e h
    exact ⟨this.1, fun h => by omega, fun _ => this.2 h3, fun h => by omega, fun h => by omega⟩
  rw [if_neg h3] at h ⊢
  by_cases h4 : e.kind = 4
  · rw [if_pos h4]; exact Once.of (end_once b e) (by omega)
  rw [if_neg h4] at h ⊢
  by_cases h5 : e.kind = 5
  · rw [if_pos h5] at h ⊢; exact Once.of (start_once b e h).1 (by omega)
  rw [if_neg h5] at h ⊢
  by_cases h6 : e.kind = 6
  · rw [if_pos h6] at h ⊢
    have := dead_once b e h
    exact ⟨this.1, fun h => by omega, fun _ => this.2, fun h => by omega, fun h => by omega⟩
  rw [if_neg h6] at h ⊢
  by_cases h7 : e.kind = 7
  · rw [if_pos h7] at h ⊢
    have := spawned_once b e h hs
    exact ⟨this.1, fun h => by omega, fun h => by omega, fun h => by omega, fun _ => this.2⟩
  rw [if_neg h7] at h ⊢
  by_cases h8 : e.kind = 8
  · rw [if_pos h8]; exact Once.of (Fwd.rfl' b) (by omega)
  rw [if_neg h8] at h ⊢
  by_cases h9 : e.kind = 9
  · rw [if_pos h9]; exact Once.of (failed_once b e) (by omega)
  rw [if_neg h9] at h ⊢
  by_cases h10 : e.kind = 10
  · rw [if_pos h10]; exact Once.of (told_once b e) (by omega)
  rw [if_neg h10] at h ⊢
  by_cases h11 : e.kind = 11
  · rw [if_pos h11]; exact Once.of (resumed_once b e) (by omega)
  rw [if_neg h11] at h ⊢
  by_cases h12 : e.kind = 12
  · rw [if_pos h12]; exact Once.of (restarted_once b e) (by omega)
  rw [if_neg h12] at h ⊢
  by_cases h13 : e.kind = 13
  · rw [if_pos h13]; exact Once.of (stopping_once b e) (by omega)
  rw [if_neg h13] at h ⊢
  by_cases h14 : e.kind = 14
  · rw [if_pos h14] at h ⊢
    have := ended_once b e h
    exact ⟨this.1, fun h => by omega, fun h => by omega, fun _ => this.2, fun h => by omega⟩
  rw [if_neg h14]; exact Once.of (tick_once b e) (by omega)
theorem stSent_prog (b : Bk) (e : Ev) : (stSent b e).2.prog = b.prog := by
  unfold stSent
  repeat' split
  all_goals rfl
theorem stStart_prog (b : Bk) (e : Ev) : (stStart b e).2.prog = b.prog := by
  unfold stStart
  repeat' split
  all_goals rfl
theorem stEnd_prog (b : Bk) (e : Ev) : (stEnd b e).2.prog = b.prog := by
  unfold stEnd
  repeat' split
  all_goals rfl
theorem stDead_prog (b : Bk) (e : Ev) : (stDead b e).2.prog = b.prog := by
  unfold stDead
  repeat' split
  all_goals rfl
theorem stSpawned_prog (b : Bk) (e : Ev) : (stSpawned b e).2.prog = b.prog := by
  unfold stSpawned
  repeat' split
  all_goals rfl
theorem stFailed_prog (b : Bk) (e : Ev) : (stFailed b e).2.prog = b.prog := by
  unfold stFailed
  repeat' split
  all_goals rfl
theorem stTold_prog (b : Bk) (e : Ev) : (stTold b e).2.prog = b.prog := by
  unfold stTold
  repeat' split
  all_goals rfl
theorem stResumed_prog (b : Bk) (e : Ev) : (stResumed b e).2.prog = b.prog := by
  unfold stResumed
  repeat' split
  all_goals rfl
theorem stRestarted_prog (b : Bk) (e : Ev) : (stRestarted b e).2.prog = b.prog := by
  unfold stRestarted
  repeat' split
  all_goals rfl
theorem stStopping_prog (b : Bk) (e : Ev) : (stStopping b e).2.prog = b.prog := by
  unfold stStopping
  repeat' split
  all_goals rfl
theorem stEnded_prog (b : Bk) (e : Ev) : (stEnded b e).2.prog = b.prog := by
  unfold stEnded
  repeat' split
  all_goals rfl
theorem stTick_prog (b : Bk) (e : Ev) : (stTick b e).2.prog = b.prog := by
  unfold stTick
  repeat' split
  all_goals rfl
theorem stepB_prog (b : Bk) (e : Ev) : (stepB b e).2.prog = b.prog := by
  unfold stepB
  by_cases h1 : e.kind = 1
  · rw [if_pos h1]
  rw [if_neg h1]
  by_cases h2 : e.kind = 2
  · rw [if_pos h2]; exact stSent_prog b e
  rw [if_neg h2]
  by_cases h3 : e.kind = 3
  · rw [if_pos h3]; exact stStart_prog b e
  rw [if_neg h3]
  by_cases h4 : e.kind = 4
  · rw [if_pos h4]; exact stEnd_prog b e
  rw [if_neg h4]
  by_cases h5 : e.kind = 5
  · rw [if_pos h5]; exact stStart_prog b e
  rw [if_neg h5]
  by_cases h6 : e.kind = 6
  · rw [if_pos h6]; exact stDead_prog b e
  rw [if_neg h6]
  by_cases h7 : e.kind = 7
  · rw [if_pos h7]; exact stSpawned_prog b e
  rw [if_neg h7]
  by_cases h8 : e.kind = 8
  · rw [if_pos h8]; exact rfl
  rw [if_neg h8]
  by_cases h9 : e.kind = 9
  · rw [if_pos h9]; exact stFailed_prog b e
  rw [if_neg h9]
  by_cases h10 : e.kind = 10
  · rw [if_pos h10]; exact stTold_prog b e
  rw [if_neg h10]
  by_cases h11 : e.kind = 11
  · rw [if_pos h11]; exact stResumed_prog b e
  rw [if_neg h11]
  by_cases h12 : e.kind = 12
  · rw [if_pos h12]; exact stRestarted_prog b e
  rw [if_neg h12]
  by_cases h13 : e.kind = 13
  · rw [if_pos h13]; exact stStopping_prog b e
  rw [if_neg h13]
  by_cases h14 : e.kind = 14
  · rw [if_pos h14]; exact stEnded_prog b e
  rw [if_neg h14]
  exact stTick_prog b e
/-- What the book holds of an event that is past. -/
structure Past (b : Bk) (a : Ev) : Prop where
  sent : a.kind = 2 → a.id ≤ b.letters.length
  ends : a.kind = 3 ∨ a.kind = 6 → ∃ l, b.ltr a.id = some l ∧ l.held = false
  over : a.kind = 14 → ∃ x, b.act a.actor = some x ∧ x.mode = 5
  born : a.kind = 7 → a.actor ≤ b.actors.length
theorem Past.fwd {b b' : Bk} {a : Ev} (h : Past b a) (k : Fwd b b') : Past b' a := by
  refine ⟨fun h1 => by have := h.sent h1; have := k.ll; omega, fun h1 => ?_, fun h1 => ?_, fun h1 => by have := h.born h1; have := k.la; omega⟩
  · obtain ⟨l, h2, h3⟩ := h.ends h1
    obtain ⟨h4, h5, h6⟩ := ltr_some h2
    obtain ⟨l', h7, h8⟩ := k.held _ l h6 h3
    exact ⟨l', ltr_of h4 (by have := k.ll; omega) h7, h8⟩
  · obtain ⟨l, h2, h3⟩ := h.over h1
    obtain ⟨h4, h5, h6⟩ := act_some h2
    obtain ⟨l', h7, h8⟩ := k.over _ l h6 h3
    exact ⟨l', act_of h4 (by have := k.la; omega) h7, h8⟩
theorem Once.past {b : Bk} {e : Ev} {b' : Bk} (h : Once b e b') : Past b' e := by
  refine ⟨fun h1 => by have := h.sent h1; omega, fun h1 => ?_, fun h1 => ?_, fun h1 => by have := h.born h1; omega⟩
  · obtain ⟨l, l', h2, h3, h4, h5⟩ := h.ends h1; exact ⟨l', h4, h5⟩
  · obtain ⟨l, l', h2, h3, h4, h5⟩ := h.over h1; exact ⟨l', h4, h5⟩
def endsB (a b : Ev) : Bool := (decide (a.kind = 3) || decide (a.kind = 6)) && (decide (b.kind = 3) || decide (b.kind = 6))
def clash1 (a b : Ev) : Bool := decide (a.id = b.id) && (endsB a b || (decide (a.kind = 2) && decide (b.kind = 2)))
def clash2 (a b : Ev) : Bool := decide (a.actor = b.actor) && ((decide (a.kind = 14) && decide (b.kind = 14)) || (decide (a.kind = 7) && decide (b.kind = 7)))
theorem no_clash {b : Bk} {a e : Ev} {b' : Bk} (p : Past b a) (h : Once b e b') : clash1 a e = false ∧ clash2 a e = false := by
  constructor
  · rw [Bool.eq_false_iff]; intro hc
    simp only [clash1, endsB, Bool.and_eq_true, Bool.or_eq_true, decide_eq_true_eq] at hc
    obtain ⟨hi, hc⟩ := hc
    rcases hc with ⟨ha, he⟩ | ⟨ha, he⟩
    · obtain ⟨l, h1, h2⟩ := p.ends ha
      obtain ⟨m, _, h3, h4, _⟩ := h.ends he
      rw [hi] at h1; rw [h1] at h3; cases h3; rw [h2] at h4; cases h4
    · have := p.sent ha
      have := h.sent he
      omega
  · rw [Bool.eq_false_iff]; intro hc
    simp only [clash2, Bool.and_eq_true, Bool.or_eq_true, decide_eq_true_eq] at hc
    obtain ⟨hi, hc⟩ := hc
    rcases hc with ⟨ha, he⟩ | ⟨ha, he⟩
    · obtain ⟨l, h1, h2⟩ := p.over ha
      obtain ⟨m, _, h3, h4, _⟩ := h.over he
      rw [hi] at h1; rw [h1] at h3; cases h3; omega
    · have := p.born ha
      have := h.born he
      omega
theorem once_go : ∀ (l : List Ev) (b : Bk) (i : Nat), (∀ k ∈ b.prog, k.states ≠ []) →
    (∀ (k : Nat) (e a : Ev), l[k]? = some e → ((i + k : Nat) : Int) < (goB b i l).2 → Past b a → clash1 a e = false ∧ clash2 a e = false) ∧
    (∀ (j k : Nat) (a e : Ev), j < k → l[j]? = some a → l[k]? = some e → ((i + k : Nat) : Int) < (goB b i l).2 → clash1 a e = false ∧ clash2 a e = false)
  | [], b, i, _ => ⟨fun k e a h => by simp at h, fun j k a e _ h => by simp at h⟩
  | x :: l, b, i, hs => by
    rw [goB]
    by_cases hb : badB i x = true
    · rw [if_pos hb]
      exact ⟨fun k e a _ h => absurd h (by dsimp only; omega), fun j k a e _ _ _ h => absurd h (by dsimp only; omega)⟩
    rw [if_neg hb]
    by_cases hz : (stepB b x).1 = 0
    · rw [if_pos hz]
      have ho := once_step b x hs hz
      have ih := once_go l (stepB b x).2 (i + 1) (by rw [stepB_prog]; exact hs)
      refine ⟨fun k e a h1 h2 h3 => ?_, fun j k a e hjk h1 h2 h3 => ?_⟩
      · cases k with
        | zero => rw [List.getElem?_cons_zero] at h1; cases h1; exact no_clash h3 ho
        | succ k =>
          rw [List.getElem?_cons_succ] at h1
          exact ih.1 k e a h1 (by rw [show i + 1 + k = i + (k + 1) by omega]; exact h2) (h3.fwd ho.fwd)
      · cases k with
        | zero => exact absurd hjk (Nat.not_lt_zero _)
        | succ k =>
          rw [List.getElem?_cons_succ] at h2
          have h3' : ((i + 1 + k : Nat) : Int) < (goB (stepB b x).2 (i + 1) l).2 := by rw [show i + 1 + k = i + (k + 1) by omega]; exact h3
          cases j with
          | zero => rw [List.getElem?_cons_zero] at h1; cases h1; exact ih.1 k e x h2 h3' ho.past
          | succ j => rw [List.getElem?_cons_succ] at h1; exact ih.2 j k a e (by omega) h1 h2 h3'
    · rw [if_neg hz]
      exact ⟨fun k e a _ h => absurd h (by dsimp only; omega), fun j k a e _ _ _ h => absurd h (by dsimp only; omega)⟩
end Go.Proofs.Ytglilmcfhkedbaa
