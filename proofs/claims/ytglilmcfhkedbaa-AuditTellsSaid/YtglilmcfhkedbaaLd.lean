/- The plain law of AuditOnce: each step; no condition. -/
import Derived.Test.YtglilmcfhkedbaaLc
namespace Go.Proofs.Ytglilmcfhkedbaa

theorem ltr_setL {b : Bk} {id : Int} {l l' : Ltr} (h : b.ltr id = some l) : (setL b id l').ltr id = some l' := by
  obtain ⟨h1, h2, h3⟩ := ltr_some h
  refine ltr_of h1 (by show id ≤ ((b.letters.set _ _).length : Int); rw [List.length_set]; exact h2) ?_
  exact List.getElem?_set_self (List.getElem?_eq_some_iff.1 h3).1
theorem act_setA {b : Bk} {id : Int} {a a' : Actr} (h : b.act id = some a) : (setA b id a').act id = some a' := by
  obtain ⟨h1, h2, h3⟩ := act_some h
  refine act_of h1 (by show id ≤ ((b.actors.set _ _).length : Int); rw [List.length_set]; exact h2) ?_
  exact List.getElem?_set_self (List.getElem?_eq_some_iff.1 h3).1
theorem sent_once (b : Bk) (e : Ev) (h : (stSent b e).1 = 0) : Fwd b (stSent b e).2 ∧ e.id = (b.letters.length : Int) + 1 ∧ (stSent b e).2.letters.length = b.letters.length + 1 := by
  unfold stSent at h ⊢
  by_cases hb : brokenR (sentRules b e) = 0
  · rw [if_pos hb] at h ⊢
    have h1 := brokenR_ok (rs := sentRules b e) rfl hb (2, decide (e.id = (b.letters.length : Int) + 1)) (by simp [sentRules])
    refine ⟨⟨Nat.le_refl _, ?_, fun i l h3 h4 => ⟨l, get_snoc h3, h4⟩, fun _ a h k => ⟨a, h, k⟩⟩, of_decide_eq_true h1, ?_⟩
    · show _ ≤ (b.letters ++ [_]).length
      rw [List.length_append]; omega
    · show (b.letters ++ [_]).length = _
      rw [List.length_append]; rfl
  · rw [if_neg hb] at h; exact absurd h hb
theorem start_once (b : Bk) (e : Ev) (h : (stStart b e).1 = 0) : Fwd b (stStart b e).2 ∧ (e.kind = 3 → ∃ l l', b.ltr e.id = some l ∧ l.held = true ∧ (stStart b e).2.ltr e.id = some l' ∧ l'.held = false) := by
  unfold stStart at h ⊢
  by_cases hb : brokenR (startRules b e) = 0
  · rw [if_pos hb] at h ⊢
    have h1 := brokenR_ok (rs := startRules b e) rfl hb (3, isB [1] (b.act e.actor) && !worksB (b.act e.actor)) (by simp [startRules])
    have h2 := brokenR_ok (rs := startRules b e) rfl hb (3, optB (fun l => l.held && decide (l.ev.to = e.actor)) (b.ltr e.id)) (by simp [startRules])
    cases ha : b.act e.actor with
    | none => rw [ha] at h1; simp [isB] at h1
    | some a =>
      cases hm : b.ltr e.id with
      | none => rw [hm] at h2; simp [optB] at h2
      | some m =>
        rw [hm] at h2
        have hh : m.held = true := by simp [optB] at h2; exact h2.1
        simp only [ha, hm] at h ⊢
        by_cases hp : (planOf a.kind a.state m.ev.name m.ev.n).1 = decide (e.kind = 5)
        · rw [if_pos hp] at h ⊢
          by_cases hf : (fresh m && (b.letters.take (e.id.toNat - 1)).any (ahead m)) = true
          · rw [if_pos hf] at h; exact absurd (show (4 : Int) = 0 from h) (by decide)
          · rw [if_neg hf] at h ⊢
            by_cases hk : e.kind = 3
            · rw [if_pos hk]
              have f1 : Fwd b (setL b e.id { m with arrived := true, held := false }) := Fwd.setL hm fun _ => rfl
              have ha2 : (setL b e.id { m with arrived := true, held := false }).act e.actor = some a := ha
              exact ⟨f1.trans (Fwd.setA ha2 fun h => h), fun _ => ⟨m, _, rfl, hh, ltr_setL hm, rfl⟩⟩
            · rw [if_neg hk]
              exact ⟨Fwd.setL hm fun h => h, fun h => absurd h hk⟩
        · rw [if_neg hp] at h; exact absurd (show (3 : Int) = 0 from h) (by decide)
  · rw [if_neg hb] at h; exact absurd h hb
theorem dead_once (b : Bk) (e : Ev) (h : (stDead b e).1 = 0) : Fwd b (stDead b e).2 ∧ ∃ l l', b.ltr e.id = some l ∧ l.held = true ∧ (stDead b e).2.ltr e.id = some l' ∧ l'.held = false := by
  unfold stDead at h ⊢
  by_cases hb : brokenR (deadRules b e) = 0
  · rw [if_pos hb] at h ⊢
    have h2 := brokenR_ok (rs := deadRules b e) rfl hb (6, optB (fun l => l.held && decide (l.ev.to = e.to)) (b.ltr e.id)) (by simp [deadRules])
    cases hm : b.ltr e.id with
    | none => rw [hm] at h2; simp [optB] at h2
    | some m =>
      rw [hm] at h2
      have hh : m.held = true := by simp [optB] at h2; exact h2.1
      exact ⟨Fwd.setL hm fun _ => rfl, m, _, rfl, hh, ltr_setL hm, rfl⟩
  · rw [if_neg hb] at h; exact absurd h hb
theorem end_once (b : Bk) (e : Ev) : Fwd b (stEnd b e).2 := by
  unfold stEnd
  split
  · cases ha : b.act e.actor with
    | none => exact Fwd.rfl' b
    | some a => exact Fwd.setA ha fun h => h
  · exact Fwd.rfl' b
theorem spawned_once (b : Bk) (e : Ev) (h : (stSpawned b e).1 = 0) (hs : ∀ k ∈ b.prog, k.states ≠ []) : Fwd b (stSpawned b e).2 ∧ e.actor = (b.actors.length : Int) + 1 ∧ (stSpawned b e).2.actors.length = b.actors.length + 1 := by
  unfold stSpawned at h ⊢
  by_cases hb : brokenR (spawnedRules b e) = 0
  · rw [if_pos hb] at h ⊢
    have h1 := brokenR_ok (rs := spawnedRules b e) rfl hb (1, (decide ((b.actors.length : Int) = 0) == decide (e.frm = 0)) && (!decide ((b.actors.length : Int) = 0) || rootB b e)) (by simp [spawnedRules])
    have h2 := brokenR_ok (rs := spawnedRules b e) rfl hb (7, decide ((b.actors.length : Int) = 0) || (decide (e.actor = (b.actors.length : Int) + 1) && worksB (b.act e.frm))) (by simp [spawnedRules])
    have h3 := brokenR_ok (rs := spawnedRules b e) rfl hb (7, (findKnd b.prog e.name).isSome) (by simp [spawnedRules])
    have hid : e.actor = (b.actors.length : Int) + 1 := by
      by_cases h0 : (b.actors.length : Int) = 0
      · rw [decide_eq_true h0] at h1
        have : e.actor = 1 := by
          simp [rootB] at h1
          exact h1.2.1.1
        omega
      · rw [decide_eq_false h0] at h2
        simp at h2
        exact h2.1
    cases hf : findKnd b.prog e.name with
    | none => rw [hf] at h3; cases h3
    | some k =>
      have hk := hs k (List.mem_of_find?_eq_some hf)
      cases hst : k.states[0]? with
      | none => exact absurd (by cases hh : k.states with | nil => rfl | cons x y => rw [hh] at hst; cases hst) hk
      | some s =>
        dsimp only
        rw [hst]
        refine ⟨⟨?_, Nat.le_refl _, fun _ l h k => ⟨l, h, k⟩, fun i a h3 h4 => ⟨a, get_snoc h3, h4⟩⟩, hid, ?_⟩
        · show _ ≤ (b.actors ++ [_]).length
          rw [List.length_append]; omega
        · show (b.actors ++ [_]).length = _
          rw [List.length_append]; rfl
  · rw [if_neg hb] at h; exact absurd h hb
theorem ended_once (b : Bk) (e : Ev) (h : (stEnded b e).1 = 0) : Fwd b (stEnded b e).2 ∧ ∃ a a', b.act e.actor = some a ∧ a.mode = 4 ∧ (stEnded b e).2.act e.actor = some a' ∧ a'.mode = 5 := by
  unfold stEnded at h ⊢
  cases ha : b.act e.actor with
  | none => rw [ha] at h; exact absurd (show (13 : Int) = 0 from h) (by decide)
  | some a =>
    simp only [ha] at h ⊢
    by_cases hc : (isB [4] (some a) && aloneB b e.actor) = true
    · rw [if_pos hc] at h ⊢
      have hm : a.mode = 4 := by simp [isB] at hc; exact hc.1
      exact ⟨Fwd.setA ha fun _ => rfl, a, _, rfl, hm, act_setA ha, rfl⟩
    · rw [if_neg hc] at h; exact absurd (show (13 : Int) = 0 from h) (by decide)
end Go.Proofs.Ytglilmcfhkedbaa
