/- The plain law of AuditOnce: what a step of the book keeps, and what events of four kinds ask of it; no condition. -/
import Derived.Test.YtglilmcfhkedbaaLb
namespace Go.Proofs.Ytglilmcfhkedbaa

theorem brokenR_ok : ∀ {rs : List (Int × Bool)}, rs.all (fun r => !decide (r.1 = 0)) = true → brokenR rs = 0 → ∀ r ∈ rs, r.2 = true
  | (c, b) :: rs, ha, h, r, hr => by
    rw [List.all_cons, Bool.and_eq_true] at ha
    cases b with
    | false =>
      have h0 : c = 0 := by simpa [brokenR] using h
      have := ha.1
      simp [h0] at this
    | true =>
      have h' : brokenR rs = 0 := by simpa [brokenR] using h
      rcases List.mem_cons.1 hr with rfl | hr
      · rfl
      · exact brokenR_ok ha.2 h' r hr
theorem act_some {b : Bk} {id : Int} {a : Actr} (h : b.act id = some a) : 1 ≤ id ∧ id ≤ b.actors.length ∧ b.actors[id.toNat - 1]? = some a := by
  unfold Bk.act atI at h
  split at h
  · cases h
  · split at h
    · cases h
    · exact ⟨by omega, by omega, h⟩
theorem act_of {b : Bk} {id : Int} {a : Actr} (h1 : 1 ≤ id) (h2 : id ≤ b.actors.length) (h3 : b.actors[id.toNat - 1]? = some a) : b.act id = some a := by
  unfold Bk.act atI
  rw [if_neg (by omega), if_neg (by omega)]; exact h3
theorem ltr_some {b : Bk} {id : Int} {l : Ltr} (h : b.ltr id = some l) : 1 ≤ id ∧ id ≤ b.letters.length ∧ b.letters[id.toNat - 1]? = some l := by
  unfold Bk.ltr atI at h
  split at h
  · cases h
  · split at h
    · cases h
    · exact ⟨by omega, by omega, h⟩
theorem ltr_of {b : Bk} {id : Int} {l : Ltr} (h1 : 1 ≤ id) (h2 : id ≤ b.letters.length) (h3 : b.letters[id.toNat - 1]? = some l) : b.ltr id = some l := by
  unfold Bk.ltr atI
  rw [if_neg (by omega), if_neg (by omega)]; exact h3
/-- What no step takes back. -/
structure Fwd (b b' : Bk) : Prop where
  la : b.actors.length ≤ b'.actors.length
  ll : b.letters.length ≤ b'.letters.length
  held : ∀ (i : Nat) l, b.letters[i]? = some l → l.held = false → ∃ l', b'.letters[i]? = some l' ∧ l'.held = false
  over : ∀ (i : Nat) a, b.actors[i]? = some a → a.mode = 5 → ∃ a', b'.actors[i]? = some a' ∧ a'.mode = 5
theorem Fwd.rfl' (b : Bk) : Fwd b b := ⟨Nat.le_refl _, Nat.le_refl _, fun _ l h k => ⟨l, h, k⟩, fun _ a h k => ⟨a, h, k⟩⟩
theorem Fwd.trans {a b c : Bk} (h : Fwd a b) (k : Fwd b c) : Fwd a c :=
  ⟨Nat.le_trans h.la k.la, Nat.le_trans h.ll k.ll, fun i l h1 h2 => by obtain ⟨l', h3, h4⟩ := h.held i l h1 h2; exact k.held i l' h3 h4,
    fun i l h1 h2 => by obtain ⟨l', h3, h4⟩ := h.over i l h1 h2; exact k.over i l' h3 h4⟩
theorem Fwd.setA {b : Bk} {id : Int} {a a' : Actr} (h : b.act id = some a) (hm : a.mode = 5 → a'.mode = 5) : Fwd b (setA b id a') := by
  obtain ⟨_, _, h3⟩ := act_some h
  refine ⟨by show _ ≤ (b.actors.set _ _).length; rw [List.length_set]; exact Nat.le_refl _, Nat.le_refl _, fun _ l h k => ⟨l, h, k⟩, fun i c h4 h5 => ?_⟩
  show ∃ a'', (b.actors.set (id.toNat - 1) a')[i]? = some a'' ∧ _
  by_cases e : id.toNat - 1 = i
  · subst e
    rw [h3] at h4; cases h4
    exact ⟨a', List.getElem?_set_self (List.getElem?_eq_some_iff.1 h3).1, hm h5⟩
  · exact ⟨c, by rw [List.getElem?_set_ne e]; exact h4, h5⟩
theorem Fwd.setL {b : Bk} {id : Int} {l l' : Ltr} (h : b.ltr id = some l) (hm : l.held = false → l'.held = false) : Fwd b (setL b id l') := by
  obtain ⟨_, _, h3⟩ := ltr_some h
  refine ⟨Nat.le_refl _, by show _ ≤ (b.letters.set _ _).length; rw [List.length_set]; exact Nat.le_refl _, fun i c h4 h5 => ?_, fun _ l h k => ⟨l, h, k⟩⟩
  show ∃ a'', (b.letters.set (id.toNat - 1) l')[i]? = some a'' ∧ _
  by_cases e : id.toNat - 1 = i
  · subst e
    rw [h3] at h4; cases h4
    exact ⟨l', List.getElem?_set_self (List.getElem?_eq_some_iff.1 h3).1, hm h5⟩
  · exact ⟨c, by rw [List.getElem?_set_ne e]; exact h4, h5⟩
theorem get_snoc {α : Type} {xs : List α} {y : α} {i : Nat} {x : α} (h : xs[i]? = some x) : (xs ++ [y])[i]? = some x := by
  rw [List.getElem?_append_left (List.getElem?_eq_some_iff.1 h).1]; exact h
/-- What a right event says of the book ahead of it and behind it. -/
structure Once (b : Bk) (e : Ev) (b' : Bk) : Prop where
  fwd : Fwd b b'
  sent : e.kind = 2 → e.id = (b.letters.length : Int) + 1 ∧ b'.letters.length = b.letters.length + 1
  ends : e.kind = 3 ∨ e.kind = 6 → ∃ l l', b.ltr e.id = some l ∧ l.held = true ∧ b'.ltr e.id = some l' ∧ l'.held = false
  over : e.kind = 14 → ∃ a a', b.act e.actor = some a ∧ a.mode = 4 ∧ b'.act e.actor = some a' ∧ a'.mode = 5
  born : e.kind = 7 → e.actor = (b.actors.length : Int) + 1 ∧ b'.actors.length = b.actors.length + 1
end Go.Proofs.Ytglilmcfhkedbaa
