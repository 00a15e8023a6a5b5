/- The walks of the small functions of lex and slices: what each comes to; no condition. -/
import Derived.Test.YtglilmcfhkedbaaTab
namespace Go.Proofs.Ytglilmcfhkedbaa
open Go Go.RowKit

theorem ct3 : cellT Try.prog 3 = true := by kernel_rfl
theorem ct9 : cellT Try.prog 9 = true := by kernel_rfl
theorem isl116 : islT Try.prog 116 = true := by kernel_rfl
theorem isl97 : islT Try.prog 97 = true := by kernel_rfl
theorem pf50 : plainFn Try.prog 50 = true := by kernel_rfl
theorem pf66 : plainFn Try.prog 66 = true := by kernel_rfl
theorem pf67 : plainFn Try.prog 67 = true := by kernel_rfl
theorem pf68 : plainFn Try.prog 68 = true := by kernel_rfl
theorem pf73 : plainFn Try.prog 73 = true := by kernel_rfl
theorem pf85 : plainFn Try.prog 85 = true := by kernel_rfl
theorem pf99 : plainFn Try.prog 99 = true := by kernel_rfl
theorem st116_9_1 : sliceT Try.prog 116 9 1 = true := by kernel_rfl
theorem st97_3_1 : sliceT Try.prog 97 3 1 = true := by kernel_rfl
theorem strT9 : strT Try.prog 9 = true := by kernel_rfl

theorem letter_c (c : Int) (w : World) :
    Ret Try.prog 66 [.int .u8 c] w fun v w' => v = .bool (letterB c) ∧ w' = w := by
  refine Ret.enter Try.func66 rfl Try.ntmps66 rfl rfl ?_
  have hO := Own.start w
  refine At.seq (At.reg ?_)
  refine At.v (RunV.assign rfl) rfl ?_
  refine At.nil (At.keep (.cons (t := 0) rfl <| .nil) ?_)
  refine At.seq (At.reg ?_)
  refine At.v (RunV.move rfl) rfl ?_
  refine At.v (RunV.geI rfl rfl) rfl ?_
  refine At.v (RunV.move rfl) rfl ?_
  refine At.g (Guard.t rfl rfl rfl) (fun hc => RunV.move rfl) rfl ?_
  refine At.g (Guard.t rfl rfl rfl) (fun hc => RunV.leI (gvE rfl hc) rfl) rfl ?_
  refine At.v (RunV.pickAnd rfl rfl) rfl ?_
  refine At.v (RunV.assign rfl) rfl ?_
  refine At.nil (At.keep (.cons (t := 2) rfl <| .nil) ?_)
  refine At.ret ?_
  refine At.result1 rfl rfl ?_
  exact ⟨rfl, rfl⟩

theorem digit_c (c : Int) (w : World) :
    Ret Try.prog 85 [.int .u8 c] w fun v w' => v = .bool (digitB c) ∧ w' = w := by
  refine Ret.enter Try.func85 rfl Try.ntmps85 rfl rfl ?_
  have hO := Own.start w
  refine At.seq (At.reg ?_)
  refine At.v (RunV.assign rfl) rfl ?_
  refine At.nil (At.keep (.cons (t := 0) rfl <| .nil) ?_)
  refine At.seq (At.reg ?_)
  refine At.v (RunV.move rfl) rfl ?_
  refine At.v (RunV.geI rfl rfl) rfl ?_
  refine At.v (RunV.move rfl) rfl ?_
  refine At.g (Guard.t rfl rfl rfl) (fun hc => RunV.move rfl) rfl ?_
  refine At.g (Guard.t rfl rfl rfl) (fun hc => RunV.leI (gvE rfl hc) rfl) rfl ?_
  refine At.v (RunV.pickAnd rfl rfl) rfl ?_
  refine At.v (RunV.assign rfl) rfl ?_
  refine At.nil (At.keep (.cons (t := 2) rfl <| .nil) ?_)
  refine At.ret ?_
  refine At.result1 rfl rfl ?_
  exact ⟨rfl, rfl⟩

theorem inner_c (c : Int) (w : World) :
    Ret Try.prog 68 [.int .u8 c] w fun v w' => v = .bool (innerB c) ∧ w' = w := by
  refine Ret.enter Try.func68 rfl Try.ntmps68 rfl rfl ?_
  have hO := Own.start w
  refine At.seq (At.reg ?_)
  refine At.v (RunV.assign rfl) rfl ?_
  refine At.nil (At.keep (.cons (t := 0) rfl <| .nil) ?_)
  refine At.seq (At.reg ?_)
  refine At.v (RunV.move rfl) rfl ?_
  refine At.callS rfl pf66 rfl (letter_c _ _) rfl ?_
  refine At.v (RunV.move rfl) rfl ?_
  refine At.g (Guard.f rfl rfl rfl) (fun hc => RunV.move rfl) rfl ?_
  refine At.gcallS (Guard.f rfl rfl rfl) (fun hc => rfl) pf85 (fun hc => (evL1 (gvE rfl hc))) (fun hc => digit_c _ _) rfl ?_
  refine At.v (RunV.pickOr rfl rfl) rfl ?_
  refine At.v (RunV.move rfl) rfl ?_
  refine At.g (Guard.f rfl rfl rfl) (fun hc => RunV.move rfl) rfl ?_
  refine At.g (Guard.f rfl rfl rfl) (fun hc => RunV.eqI (gvE rfl hc) rfl) rfl ?_
  refine At.v (RunV.pickOr rfl rfl) rfl ?_
  refine At.v (RunV.assign rfl) rfl ?_
  refine At.nil (At.keep (.cons (t := 2) rfl <| .nil) ?_)
  refine At.ret ?_
  refine At.result1 rfl rfl ?_
  exact ⟨rfl, rfl⟩

theorem span_c (s : ByteArray) (hs : s.size ≤ 4611686018427387904) (w : World) :
    Ret Try.prog 67 [.string s, .func (.func 68) #[] #[]] w fun v w' => v = .int .i64 (spanN s : Int) ∧ w' = w := by
  refine Ret.enter Try.func67 rfl Try.ntmps67 rfl rfl ?_
  have hO := Own.start w
  refine At.seq (At.reg ?_)
  refine At.v (RunV.assign rfl) rfl ?_
  refine At.nil (At.keep (.cons (t := 0) rfl <| .cons (t := 1) rfl <| .nil) ?_)
  refine At.seq (At.reg ?_)
  refine At.v (RunV.assign rfl) rfl ?_
  refine At.nil (At.keep (.cons (t := 0) rfl <| .cons (t := 1) rfl <| .cons (t := 5) rfl <| .nil) ?_)
  refine At.seq ?_
  refine At.block ?_
  refine At.loopC (σ := Nat) (.cons (t := 0) rfl <| .cons (t := 1) rfl <| .nil) (fun i => [(5, .int .i64 (i : Int))]) (fun i wl => i ≤ s.size ∧ wl = w ∧ spanF s (s.size - i) i = spanN s) (fun i => s.size - i) 0 (.cons (t := 5) rfl <| .nil) ⟨Nat.zero_le _, rfl, rfl⟩ ?_
  intro i w1 hinv
  refine At.keep (.cons (t := 0) rfl <| .cons (t := 1) rfl <| .cons (t := 5) rfl <| .nil) ?_
  have hw := hinv.2.1
  have hO : Own w [] w1 := by rw [hw]; exact Own.start w
  have hi := hinv.1
  refine At.seq ?_
  refine At.seq (At.reg ?_)
  refine At.v (RunV.move rfl) rfl ?_
  refine At.v (RunV.move rfl) rfl ?_
  refine At.v (RunV.lenStr rfl strT9) rfl ?_
  refine At.v (RunV.ltI rfl rfl) rfl ?_
  refine At.v (RunV.move rfl) rfl ?_
  refine At.g (Guard.t rfl rfl rfl) (fun hc => RunV.move rfl) rfl ?_
  refine At.g (Guard.t rfl rfl rfl) (fun hc => RunV.move rfl) rfl ?_
  refine At.g (Guard.t rfl rfl rfl) (fun hc => RunV.move rfl) rfl ?_
  refine At.g (Guard.t rfl rfl rfl) (fun hc => RunV.indexStr strT9 (gvE rfl hc) (gvE rfl hc) rfl (by have := of_decide_eq_true hc; omega)) rfl ?_
  refine At.gcallS (Guard.t rfl rfl rfl) (fun hc => (gvE rfl hc)) pf68 (fun hc => (evL1 (gvE rfl hc))) (fun hc => inner_c _ _) rfl ?_
  refine At.v (RunV.pickAnd rfl rfl) rfl ?_
  refine At.nil (At.keep (.cons (t := 0) rfl <| .cons (t := 1) rfl <| .cons (t := 5) rfl <| .cons (t := 16) rfl <| .nil) ?_)
  refine At.cond rfl (fun h1 => ?_) (fun h1 => ?_)
  · refine At.skip ?_
    refine At.block ?_
    refine At.reg ?_
    refine At.v (RunV.move rfl) rfl ?_
    refine At.v (RunV.inc rfl rfl (by omega)) rfl ?_
    refine At.v (RunV.assign rfl) rfl ?_
    refine At.nil (At.keep (.cons (t := 0) rfl <| .cons (t := 1) rfl <| .cons (t := 5) rfl <| .nil) ?_)
    have hst := spanF_step s i h1
    exact At.againC (.cons (t := 0) rfl <| .cons (t := 1) rfl <| .nil) (i + 1) (.cons (t := 5) rfl <| .nil) ⟨hst.1, hw, by rw [← hst.2]; exact hinv.2.2⟩ (by have := hst.1; omega)
  · refine At.exit rfl ?_
    refine At.seq (At.reg ?_)
    refine At.v (RunV.move rfl) rfl ?_
    refine At.v (RunV.assign rfl) rfl ?_
    refine At.nil (At.keep (.cons (t := 4) rfl <| .nil) ?_)
    refine At.ret ?_
    refine At.result1 rfl rfl ?_
    exact ⟨by rw [← hinv.2.2, spanF_stop s i h1], hw⟩

theorem pos_of_ne {s : ByteArray} (h : (!seq s e0) = true) : 0 < s.size := by
  rcases Nat.eq_zero_or_pos s.size with h0 | h0
  · exfalso
    have : s = e0 := by
      cases s with
      | mk d =>
        have : d = #[] := Array.eq_empty_of_size_eq_zero h0
        rw [this]
    rw [this] at h
    simp [seq] at h
  · exact h0

theorem name_c (s : ByteArray) (w : World) :
    Ret Try.prog 50 [.string s] w fun v w' => v = .bool (nameOk s) ∧ w' = w := by
  refine Ret.enter Try.func50 rfl Try.ntmps50 rfl rfl ?_
  have hO := Own.start w
  refine At.seq (At.reg ?_)
  refine At.v (RunV.assign rfl) rfl ?_
  refine At.nil (At.keep (.cons (t := 0) rfl <| .nil) ?_)
  refine At.seq (At.reg ?_)
  refine At.v (RunV.move rfl) rfl ?_
  refine At.v (RunV.neS rfl rfl) rfl ?_
  refine At.v (RunV.move rfl) rfl ?_
  refine At.g (Guard.t rfl rfl rfl) (fun hc => RunV.move rfl) rfl ?_
  refine At.g (Guard.t rfl rfl rfl) (fun hc => RunV.lenStr (gvE rfl hc) strT9) rfl ?_
  refine At.g (Guard.t rfl rfl rfl) (fun hc => RunV.leI (gvE rfl hc) rfl) rfl ?_
  refine At.v (RunV.pickAnd rfl rfl) rfl ?_
  refine At.v (RunV.move rfl) rfl ?_
  refine At.g (Guard.t rfl rfl rfl) (fun hc => RunV.move rfl) rfl ?_
  refine At.g (Guard.t rfl rfl rfl) (fun hc => RunV.indexStr strT9 (gvE rfl hc) rfl rfl (pos_of_ne (land1 hc))) rfl ?_
  refine At.keep (.cons (t := 0) rfl <| .cons (t := 10) rfl <| .cons (t := 12) rfl <| .nil) ?_
  refine At.gcallS (Guard.t rfl rfl rfl) (fun hc => rfl) pf66 (fun hc => (evL1 (gvE rfl hc))) (fun hc => letter_c _ _) rfl ?_
  refine At.v (RunV.pickAnd rfl rfl) rfl ?_
  refine At.v (RunV.move rfl) rfl ?_
  refine At.g (Guard.t rfl rfl rfl) (fun hc => RunV.move rfl) rfl ?_
  refine At.gcallS (Guard.t rfl rfl rfl) (fun hc => rfl) pf67 (fun hc => (evL2 (gvE rfl hc) rfl)) (fun hc => span_c _ (by have := of_decide_eq_true (land2 (land1 hc)); omega) _) rfl ?_
  refine At.g (Guard.t rfl rfl rfl) (fun hc => RunV.move rfl) rfl ?_
  refine At.g (Guard.t rfl rfl rfl) (fun hc => RunV.lenStr (gvE rfl hc) strT9) rfl ?_
  refine At.g (Guard.t rfl rfl rfl) (fun hc => RunV.eqI (gvE rfl hc) (gvE rfl hc)) rfl ?_
  refine At.v (RunV.pickAnd rfl rfl) rfl ?_
  refine At.v (RunV.assign rfl) rfl ?_
  refine At.nil (At.keep (.cons (t := 2) rfl <| .nil) ?_)
  refine At.ret ?_
  refine At.result1 rfl rfl ?_
  exact ⟨rfl, rfl⟩

theorem named_c (s : ByteArray) (w : World) :
    Ret Try.prog 48 [.string s] w fun v w' => v = .bool (named s) ∧ w' = w := by
  refine Ret.enter Try.func48 rfl Try.ntmps48 rfl rfl ?_
  have hO := Own.start w
  refine At.seq (At.reg ?_)
  refine At.v (RunV.assign rfl) rfl ?_
  refine At.nil (At.keep (.cons (t := 0) rfl <| .nil) ?_)
  refine At.seq (At.reg ?_)
  refine At.v (RunV.move rfl) rfl ?_
  refine At.v (RunV.eqS rfl rfl) rfl ?_
  refine At.v (RunV.move rfl) rfl ?_
  refine At.g (Guard.f rfl rfl rfl) (fun hc => RunV.move rfl) rfl ?_
  refine At.gcallS (Guard.f rfl rfl rfl) (fun hc => rfl) pf50 (fun hc => (evL1 (gvE rfl hc))) (fun hc => name_c _ _) rfl ?_
  refine At.v (RunV.pickOr rfl rfl) rfl ?_
  refine At.v (RunV.assign rfl) rfl ?_
  refine At.nil (At.keep (.cons (t := 2) rfl <| .nil) ?_)
  refine At.ret ?_
  refine At.result1 rfl rfl ?_
  exact ⟨rfl, rfl⟩

theorem indexI_c (b cap : Nat) (xs : List Int) (x : Int) (hl : xs.length ≤ 1048576) (w : World) (hr : Row w b 0 (xs.map fun y => .int .i64 y)) :
    Ret Try.prog 73 [.slice (some ⟨b, 0, none⟩) xs.length cap, .int .i64 x] w fun v w' => v = .int .i64 (idxOf (fun y => decide (y = x)) xs) ∧ w' = w := by
  refine Ret.enter Try.func73 rfl Try.ntmps73 rfl rfl ?_
  have hO := Own.start w
  refine At.seq (At.reg ?_)
  refine At.v (RunV.assign rfl) rfl ?_
  refine At.nil (At.keep (.cons (t := 0) rfl <| .cons (t := 1) rfl <| .nil) ?_)
  refine At.seq ?_
  refine At.seq (At.reg ?_)
  refine At.v (RunV.move rfl) rfl ?_
  refine At.v (RunV.lenSl rfl isl97) rfl ?_
  refine At.v (RunV.move rfl) rfl ?_
  refine At.nil (At.keep (.cons (t := 0) rfl <| .cons (t := 1) rfl <| .cons (t := 7) rfl <| .cons (t := 8) rfl <| .nil) ?_)
  refine At.block ?_
  refine At.loopC (σ := Nat) (.cons (t := 0) rfl <| .cons (t := 1) rfl <| .cons (t := 7) rfl <| .nil) (fun i => [(8, .int .i64 (i : Int))]) (fun i wl => i ≤ xs.length ∧ wl = w ∧ ∀ j y, j < i → xs[j]? = some y → (decide (y = x)) = false) (fun i => xs.length - i) 0 (.cons (t := 8) rfl <| .nil) ⟨Nat.zero_le _, rfl, fun j y hj => absurd hj (Nat.not_lt_zero _)⟩ ?_
  intro i w1 hinv
  refine At.keep (.cons (t := 0) rfl <| .cons (t := 1) rfl <| .cons (t := 7) rfl <| .cons (t := 8) rfl <| .nil) ?_
  have hi := hinv.1
  have hO : Own w [] w1 := by rw [hinv.2.1]; exact Own.start w
  refine At.seq (At.reg ?_)
  refine At.v (RunV.ltI rfl rfl) rfl ?_
  refine At.nil (At.keep (.cons (t := 0) rfl <| .cons (t := 1) rfl <| .cons (t := 7) rfl <| .cons (t := 8) rfl <| .cons (t := 9) rfl <| .nil) ?_)
  refine At.seq ?_
  refine At.cond rfl (fun h1 => ?_) (fun h1 => ?_)
  · refine At.skip ?_
    refine At.seq ?_
    refine At.block ?_
    refine At.seq (At.reg ?_)
    refine At.v (RunV.move rfl) rfl ?_
    refine At.v (RunV.assign rfl) rfl ?_
    refine At.nil (At.keep (.cons (t := 0) rfl <| .cons (t := 1) rfl <| .cons (t := 5) rfl <| .cons (t := 7) rfl <| .cons (t := 8) rfl <| .nil) ?_)
    have hk : i < xs.length := by have := of_decide_eq_true h1; omega
    obtain ⟨y, hx⟩ : ∃ y, xs[i]? = some y := ⟨xs[i], by simp [hk]⟩
    have hcell := hr i (.int .i64 y) (by simp [hx])
    refine At.seq (At.reg ?_)
    refine At.v (RunV.move rfl) rfl ?_
    refine At.v (RunV.move rfl) rfl ?_
    refine At.v (RunV.move rfl) rfl ?_
    refine At.v (RunV.index st97_3_1 rfl rfl rfl hk rfl) rfl ?_
    refine At.v (RunV.load ct3 rfl (by rw [hinv.2.1]; simpa using hcell)) rfl ?_
    refine At.v (RunV.eqI rfl rfl) rfl ?_
    refine At.nil (At.keep (.cons (t := 0) rfl <| .cons (t := 1) rfl <| .cons (t := 5) rfl <| .cons (t := 7) rfl <| .cons (t := 8) rfl <| .cons (t := 16) rfl <| .nil) ?_)
    refine At.cond rfl (fun h2 => ?_) (fun h2 => ?_)
    · refine At.seq (At.reg ?_)
      refine At.v (RunV.move rfl) rfl ?_
      refine At.v (RunV.assign rfl) rfl ?_
      refine At.nil (At.keep (.cons (t := 4) rfl <| .nil) ?_)
      refine At.ret ?_
      refine At.result1 rfl rfl ?_
      exact ⟨congrArg _ (idxOf_hit hx (fun j y hj hy => hinv.2.2 j y hj hy) (by simpa [eq_comm] using h2)).symm, hinv.2.1⟩
    · refine At.skip ?_
      refine At.reg ?_
      refine At.v (RunV.inc rfl rfl (by omega)) rfl ?_
      refine At.v (RunV.move rfl) rfl ?_
      refine At.nil (At.keep (.cons (t := 0) rfl <| .cons (t := 1) rfl <| .cons (t := 7) rfl <| .cons (t := 8) rfl <| .nil) ?_)
      exact At.againC (.cons (t := 0) rfl <| .cons (t := 1) rfl <| .cons (t := 7) rfl <| .nil) (i + 1) (.cons (t := 8) rfl <| .nil) ⟨hk, hinv.2.1, fun j y hj hy => by
            rcases Nat.lt_succ_iff_lt_or_eq.1 hj with hj | rfl
            · exact hinv.2.2 j y hj hy
            · rw [hx] at hy; cases hy; simpa [eq_comm] using h2⟩ (by omega)
  · refine At.exit rfl ?_
    refine At.seq (At.reg ?_)
    refine At.v (RunV.assign rfl) rfl ?_
    refine At.nil (At.keep (.cons (t := 4) rfl <| .nil) ?_)
    refine At.ret ?_
    refine At.result1 rfl rfl ?_
    exact ⟨congrArg _ (idxOf_none (fun j y hj hy => hinv.2.2 j y (by have := of_decide_eq_false h1; omega) hy)).symm, hinv.2.1⟩

theorem indexS_c (b cap : Nat) (xs : List ByteArray) (x : ByteArray) (hl : xs.length ≤ 1048576) (w : World) (hr : Row w b 0 (xs.map fun y => .string y)) :
    Ret Try.prog 99 [.slice (some ⟨b, 0, none⟩) xs.length cap, .string x] w fun v w' => v = .int .i64 (idxOf (fun y => seq x y) xs) ∧ w' = w := by
  refine Ret.enter Try.func99 rfl Try.ntmps99 rfl rfl ?_
  have hO := Own.start w
  refine At.seq (At.reg ?_)
  refine At.v (RunV.assign rfl) rfl ?_
  refine At.nil (At.keep (.cons (t := 0) rfl <| .cons (t := 1) rfl <| .nil) ?_)
  refine At.seq ?_
  refine At.seq (At.reg ?_)
  refine At.v (RunV.move rfl) rfl ?_
  refine At.v (RunV.lenSl rfl isl116) rfl ?_
  refine At.v (RunV.move rfl) rfl ?_
  refine At.nil (At.keep (.cons (t := 0) rfl <| .cons (t := 1) rfl <| .cons (t := 7) rfl <| .cons (t := 8) rfl <| .nil) ?_)
  refine At.block ?_
  refine At.loopC (σ := Nat) (.cons (t := 0) rfl <| .cons (t := 1) rfl <| .cons (t := 7) rfl <| .nil) (fun i => [(8, .int .i64 (i : Int))]) (fun i wl => i ≤ xs.length ∧ wl = w ∧ ∀ j y, j < i → xs[j]? = some y → (seq x y) = false) (fun i => xs.length - i) 0 (.cons (t := 8) rfl <| .nil) ⟨Nat.zero_le _, rfl, fun j y hj => absurd hj (Nat.not_lt_zero _)⟩ ?_
  intro i w1 hinv
  refine At.keep (.cons (t := 0) rfl <| .cons (t := 1) rfl <| .cons (t := 7) rfl <| .cons (t := 8) rfl <| .nil) ?_
  have hi := hinv.1
  have hO : Own w [] w1 := by rw [hinv.2.1]; exact Own.start w
  refine At.seq (At.reg ?_)
  refine At.v (RunV.ltI rfl rfl) rfl ?_
  refine At.nil (At.keep (.cons (t := 0) rfl <| .cons (t := 1) rfl <| .cons (t := 7) rfl <| .cons (t := 8) rfl <| .cons (t := 9) rfl <| .nil) ?_)
  refine At.seq ?_
  refine At.cond rfl (fun h1 => ?_) (fun h1 => ?_)
  · refine At.skip ?_
    refine At.seq ?_
    refine At.block ?_
    refine At.seq (At.reg ?_)
    refine At.v (RunV.move rfl) rfl ?_
    refine At.v (RunV.assign rfl) rfl ?_
    refine At.nil (At.keep (.cons (t := 0) rfl <| .cons (t := 1) rfl <| .cons (t := 5) rfl <| .cons (t := 7) rfl <| .cons (t := 8) rfl <| .nil) ?_)
    have hk : i < xs.length := by have := of_decide_eq_true h1; omega
    obtain ⟨y, hx⟩ : ∃ y, xs[i]? = some y := ⟨xs[i], by simp [hk]⟩
    have hcell := hr i (.string y) (by simp [hx])
    refine At.seq (At.reg ?_)
    refine At.v (RunV.move rfl) rfl ?_
    refine At.v (RunV.move rfl) rfl ?_
    refine At.v (RunV.move rfl) rfl ?_
    refine At.v (RunV.index st116_9_1 rfl rfl rfl hk rfl) rfl ?_
    refine At.v (RunV.load ct9 rfl (by rw [hinv.2.1]; simpa using hcell)) rfl ?_
    refine At.v (RunV.eqS rfl rfl) rfl ?_
    refine At.nil (At.keep (.cons (t := 0) rfl <| .cons (t := 1) rfl <| .cons (t := 5) rfl <| .cons (t := 7) rfl <| .cons (t := 8) rfl <| .cons (t := 16) rfl <| .nil) ?_)
    refine At.cond rfl (fun h2 => ?_) (fun h2 => ?_)
    · refine At.seq (At.reg ?_)
      refine At.v (RunV.move rfl) rfl ?_
      refine At.v (RunV.assign rfl) rfl ?_
      refine At.nil (At.keep (.cons (t := 4) rfl <| .nil) ?_)
      refine At.ret ?_
      refine At.result1 rfl rfl ?_
      exact ⟨congrArg _ (idxOf_hit hx (fun j y hj hy => hinv.2.2 j y hj hy) (by exact h2)).symm, hinv.2.1⟩
    · refine At.skip ?_
      refine At.reg ?_
      refine At.v (RunV.inc rfl rfl (by omega)) rfl ?_
      refine At.v (RunV.move rfl) rfl ?_
      refine At.nil (At.keep (.cons (t := 0) rfl <| .cons (t := 1) rfl <| .cons (t := 7) rfl <| .cons (t := 8) rfl <| .nil) ?_)
      exact At.againC (.cons (t := 0) rfl <| .cons (t := 1) rfl <| .cons (t := 7) rfl <| .nil) (i + 1) (.cons (t := 8) rfl <| .nil) ⟨hk, hinv.2.1, fun j y hj hy => by
            rcases Nat.lt_succ_iff_lt_or_eq.1 hj with hj | rfl
            · exact hinv.2.2 j y hj hy
            · rw [hx] at hy; cases hy; exact h2⟩ (by omega)
  · refine At.exit rfl ?_
    refine At.seq (At.reg ?_)
    refine At.v (RunV.assign rfl) rfl ?_
    refine At.nil (At.keep (.cons (t := 4) rfl <| .nil) ?_)
    refine At.ret ?_
    refine At.result1 rfl rfl ?_
    exact ⟨congrArg _ (idxOf_none (fun j y hj hy => hinv.2.2 j y (by have := of_decide_eq_false h1; omega) hy)).symm, hinv.2.1⟩

theorem containsI_c (b cap : Nat) (xs : List Int) (x : Int) (hl : xs.length ≤ 1048576) (w : World) (hr : Row w b 0 (xs.map fun y => .int .i64 y)) :
    Ret Try.prog 55 [.slice (some ⟨b, 0, none⟩) xs.length cap, .int .i64 x] w fun v w' => v = .bool (xs.any fun y => decide (y = x)) ∧ w' = w := by
  refine Ret.enter Try.func55 rfl Try.ntmps55 rfl rfl ?_
  have hO := Own.start w
  refine At.seq (At.reg ?_)
  refine At.v (RunV.assign rfl) rfl ?_
  refine At.nil (At.keep (.cons (t := 0) rfl <| .cons (t := 1) rfl <| .nil) ?_)
  refine At.seq (At.reg ?_)
  refine At.v (RunV.move rfl) rfl ?_
  refine At.v (RunV.move rfl) rfl ?_
  refine At.callS rfl pf73 rfl (indexI_c _ _ _ _ hl _ hr) rfl ?_
  refine At.v (RunV.geI rfl rfl) rfl ?_
  refine At.v (RunV.assign rfl) rfl ?_
  refine At.nil (At.keep (.cons (t := 4) rfl <| .nil) ?_)
  refine At.ret ?_
  refine At.result1 rfl rfl ?_
  exact ⟨congrArg _ (idxOf_any _ _), rfl⟩

theorem containsS_c (b cap : Nat) (xs : List ByteArray) (x : ByteArray) (hl : xs.length ≤ 1048576) (w : World) (hr : Row w b 0 (xs.map fun y => .string y)) :
    Ret Try.prog 97 [.slice (some ⟨b, 0, none⟩) xs.length cap, .string x] w fun v w' => v = .bool (xs.any fun y => seq x y) ∧ w' = w := by
  refine Ret.enter Try.func97 rfl Try.ntmps97 rfl rfl ?_
  have hO := Own.start w
  refine At.seq (At.reg ?_)
  refine At.v (RunV.assign rfl) rfl ?_
  refine At.nil (At.keep (.cons (t := 0) rfl <| .cons (t := 1) rfl <| .nil) ?_)
  refine At.seq (At.reg ?_)
  refine At.v (RunV.move rfl) rfl ?_
  refine At.v (RunV.move rfl) rfl ?_
  refine At.callS rfl pf99 rfl (indexS_c _ _ _ _ hl _ hr) rfl ?_
  refine At.v (RunV.geI rfl rfl) rfl ?_
  refine At.v (RunV.assign rfl) rfl ?_
  refine At.nil (At.keep (.cons (t := 4) rfl <| .nil) ?_)
  refine At.ret ?_
  refine At.result1 rfl rfl ?_
  exact ⟨congrArg _ (idxOf_any _ _), rfl⟩

end Go.Proofs.Ytglilmcfhkedbaa
