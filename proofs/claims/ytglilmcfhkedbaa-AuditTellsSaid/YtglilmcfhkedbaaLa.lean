/- The plain laws on what audit.Check comes to: where it ends, what is ahead of that, what may stand between; no condition. -/
import Derived.Test.YtglilmcfhkedbaaSpc
namespace Go.Proofs.Ytglilmcfhkedbaa

theorem brokenR_mem : ∀ (rs : List (Int × Bool)), brokenR rs = 0 ∨ ∃ r ∈ rs, brokenR rs = r.1
  | [] => .inl rfl
  | (c, true) :: rs => by
    rcases brokenR_mem rs with h | ⟨r, h1, h2⟩
    · exact .inl (by simpa [brokenR] using h)
    · exact .inr ⟨r, List.mem_cons_of_mem _ h1, by simpa [brokenR] using h2⟩
  | (c, false) :: rs => .inr ⟨(c, false), List.mem_cons_self, by simp [brokenR]⟩
/-- The numbers of rules. -/
def InR (n : Int) : Prop := 0 ≤ n ∧ n ≤ 14
theorem brokenR_in {rs : List (Int × Bool)} (h : rs.all (fun r => decide (0 ≤ r.1) && decide (r.1 ≤ 14)) = true) : InR (brokenR rs) := by
  rcases brokenR_mem rs with h1 | ⟨r, h1, h2⟩
  · rw [h1]; exact ⟨by decide, by decide⟩
  · have := List.all_eq_true.1 h r h1
    simp at this
    rw [h2]; exact this
theorem inr (n : Int) (h : (decide (0 ≤ n) && decide (n ≤ 14)) = true) : InR n := by simp at h; exact h
theorem stSent_in (b : Bk) (e : Ev) : InR (stSent b e).1 := by
  unfold stSent
  repeat' split
  all_goals first | exact inr _ rfl | exact brokenR_in rfl
theorem stStart_in (b : Bk) (e : Ev) : InR (stStart b e).1 := by
  unfold stStart
  repeat' split
  all_goals first | exact inr _ rfl | exact brokenR_in rfl
theorem stEnd_in (b : Bk) (e : Ev) : InR (stEnd b e).1 := by
  unfold stEnd
  repeat' split
  all_goals first | exact inr _ rfl | exact brokenR_in rfl
theorem stDead_in (b : Bk) (e : Ev) : InR (stDead b e).1 := by
  unfold stDead
  repeat' split
  all_goals first | exact inr _ rfl | exact brokenR_in rfl
theorem stSpawned_in (b : Bk) (e : Ev) : InR (stSpawned b e).1 := by
  unfold stSpawned
  repeat' split
  all_goals first | exact inr _ rfl | exact brokenR_in rfl
theorem stFailed_in (b : Bk) (e : Ev) : InR (stFailed b e).1 := by
  unfold stFailed
  repeat' split
  all_goals first | exact inr _ rfl | exact brokenR_in rfl
theorem stTold_in (b : Bk) (e : Ev) : InR (stTold b e).1 := by
  unfold stTold
  repeat' split
  all_goals first | exact inr _ rfl | exact brokenR_in rfl
theorem stResumed_in (b : Bk) (e : Ev) : InR (stResumed b e).1 := by
  unfold stResumed
  repeat' split
  all_goals first | exact inr _ rfl | exact brokenR_in rfl
theorem stRestarted_in (b : Bk) (e : Ev) : InR (stRestarted b e).1 := by
  unfold stRestarted
  repeat' split
  all_goals first | exact inr _ rfl | exact brokenR_in rfl
theorem stStopping_in (b : Bk) (e : Ev) : InR (stStopping b e).1 := by
  unfold stStopping
  repeat' split
  all_goals first | exact inr _ rfl | exact brokenR_in rfl
theorem stEnded_in (b : Bk) (e : Ev) : InR (stEnded b e).1 := by
  unfold stEnded
  repeat' split
  all_goals first | exact inr _ rfl | exact brokenR_in rfl
theorem stTick_in (b : Bk) (e : Ev) : InR (stTick b e).1 := by
  unfold stTick
  repeat' split
  all_goals first | exact inr _ rfl | exact brokenR_in rfl
theorem stNoRoom_in (b : Bk) (e : Ev) : InR (stNoRoom b e).1 := brokenR_in (rs := noRoomRules b e) rfl
theorem stepB_in (b : Bk) (e : Ev) : InR (stepB b e).1 := by
  unfold stepB
  by_cases h1 : e.kind = 1
  · rw [if_pos h1]; exact inr _ rfl
  rw [if_neg h1]
  by_cases h2 : e.kind = 2
  · rw [if_pos h2]; exact stSent_in b e
  rw [if_neg h2]
  by_cases h3 : e.kind = 3
  · rw [if_pos h3]; exact stStart_in b e
  rw [if_neg h3]
  by_cases h4 : e.kind = 4
  · rw [if_pos h4]; exact stEnd_in b e
  rw [if_neg h4]
  by_cases h5 : e.kind = 5
  · rw [if_pos h5]; exact stStart_in b e
  rw [if_neg h5]
  by_cases h6 : e.kind = 6
  · rw [if_pos h6]; exact stDead_in b e
  rw [if_neg h6]
  by_cases h7 : e.kind = 7
  · rw [if_pos h7]; exact stSpawned_in b e
  rw [if_neg h7]
  by_cases h8 : e.kind = 8
  · rw [if_pos h8]; exact stNoRoom_in b e
  rw [if_neg h8]
  by_cases h9 : e.kind = 9
  · rw [if_pos h9]; exact stFailed_in b e
  rw [if_neg h9]
  by_cases h10 : e.kind = 10
  · rw [if_pos h10]; exact stTold_in b e
  rw [if_neg h10]
  by_cases h11 : e.kind = 11
  · rw [if_pos h11]; exact stResumed_in b e
  rw [if_neg h11]
  by_cases h12 : e.kind = 12
  · rw [if_pos h12]; exact stRestarted_in b e
  rw [if_neg h12]
  by_cases h13 : e.kind = 13
  · rw [if_pos h13]; exact stStopping_in b e
  rw [if_neg h13]
  by_cases h14 : e.kind = 14
  · rw [if_pos h14]; exact stEnded_in b e
  rw [if_neg h14]
  exact stTick_in b e
theorem goB_cons (b : Bk) (i : Nat) (e : Ev) (l : List Ev) : goB b i (e :: l) = if badB i e then (1, (i : Int)) else if (stepB b e).1 = 0 then goB (stepB b e).2 (i + 1) l else ((stepB b e).1, (i : Int)) := rfl
/-- Where it ends: behind all, or at an event that is wrong there whatever follows, and all ahead of which is right. -/
theorem goB_ends : ∀ (l : List Ev) (b : Bk) (i : Nat), goB b i l = (0, ((i + l.length : Nat) : Int)) ∨
    ∃ n k, goB b i l = (n, ((i + k : Nat) : Int)) ∧ k < l.length ∧ 1 ≤ n ∧ n ≤ 14 ∧ goB b i (l.take k) = (0, ((i + k : Nat) : Int)) ∧ ∀ more, goB b i (l.take (k + 1) ++ more) = (n, ((i + k : Nat) : Int))
  | [], b, i => .inl (by simp [goB])
  | e :: l, b, i => by
    rw [goB_cons]
    by_cases hb : badB i e = true
    · rw [if_pos hb]
      exact .inr ⟨1, 0, rfl, by simp, by decide, by decide, rfl, fun more => by
        show goB b i (e :: (l.take 0 ++ more)) = _
        rw [goB_cons, if_pos hb]; rfl⟩
    · rw [if_neg hb]
      by_cases hs : (stepB b e).1 = 0
      · rw [if_pos hs]
        rcases goB_ends l (stepB b e).2 (i + 1) with h | ⟨n, k, h1, h2, h3, h4, h5, h6⟩
        · refine .inl ?_
          rw [h, List.length_cons]
          congr 2; omega
        · refine .inr ⟨n, k + 1, ?_, by rw [List.length_cons]; omega, h3, h4, ?_, fun more => ?_⟩
          · rw [h1]; congr 2; omega
          · rw [List.take_succ_cons, goB_cons, if_neg hb, if_pos hs, h5]; congr 2; omega
          · rw [List.take_succ_cons, List.cons_append, goB_cons, if_neg hb, if_pos hs, h6]; congr 2; omega
      · rw [if_neg hs]
        have hr := stepB_in b e
        unfold InR at hr
        exact .inr ⟨_, 0, rfl, by simp, by omega, hr.2, rfl, fun more => by
          show goB b i (e :: (l.take 0 ++ more)) = _
          rw [goB_cons, if_neg hb, if_neg hs]; rfl⟩
end Go.Proofs.Ytglilmcfhkedbaa
