/- The walks of the functions that go through a list, and of check.parts; no condition. -/
import Derived.Test.YtglilmcfhkedbaaWA
namespace Go.Proofs.Ytglilmcfhkedbaa
open Go Go.RowKit

theorem ag103_2 : aggT Try.prog 103 2 = true := by kernel_rfl
theorem ag57_7 : aggT Try.prog 57 7 = true := by kernel_rfl
theorem ag60_4 : aggT Try.prog 60 4 = true := by kernel_rfl
theorem ag63_2 : aggT Try.prog 63 2 = true := by kernel_rfl
theorem ag67_5 : aggT Try.prog 67 5 = true := by kernel_rfl
theorem ag71_2 : aggT Try.prog 71 2 = true := by kernel_rfl
theorem ag81_2 : aggT Try.prog 81 2 = true := by kernel_rfl
theorem ct4 : cellT Try.prog 4 = true := by kernel_rfl
theorem ct68 : cellT Try.prog 68 = true := by kernel_rfl
theorem ct76 : cellT Try.prog 76 = true := by kernel_rfl
theorem ft71_0_0 : fieldT Try.prog 71 0 0 = true := by kernel_rfl
theorem ft71_1_1 : fieldT Try.prog 71 1 1 = true := by kernel_rfl
theorem ft81_0_0 : fieldT Try.prog 81 0 0 = true := by kernel_rfl
theorem ft81_1_1 : fieldT Try.prog 81 1 1 = true := by kernel_rfl
theorem isl110 : islT Try.prog 110 = true := by kernel_rfl
theorem isl22 : islT Try.prog 22 = true := by kernel_rfl
theorem isl46 : islT Try.prog 46 = true := by kernel_rfl
theorem isl58 : islT Try.prog 58 = true := by kernel_rfl
theorem isl61 : islT Try.prog 61 = true := by kernel_rfl
theorem isl64 : islT Try.prog 64 = true := by kernel_rfl
theorem isl65 : islT Try.prog 65 = true := by kernel_rfl
theorem isl96 : islT Try.prog 96 = true := by kernel_rfl
theorem pf58 : plainFn Try.prog 58 = true := by kernel_rfl
theorem pf61 : plainFn Try.prog 61 = true := by kernel_rfl
theorem pf74 : plainFn Try.prog 74 = true := by kernel_rfl
theorem pf76 : plainFn Try.prog 76 = true := by kernel_rfl
theorem pf82 : plainFn Try.prog 82 = true := by kernel_rfl
theorem pf93 : plainFn Try.prog 93 = true := by kernel_rfl
theorem st110_81_2 : sliceT Try.prog 110 81 2 = true := by kernel_rfl
theorem st22_67_5 : sliceT Try.prog 22 67 5 = true := by kernel_rfl
theorem st46_76_1 : sliceT Try.prog 46 76 1 = true := by kernel_rfl
theorem st58_57_7 : sliceT Try.prog 58 57 7 = true := by kernel_rfl
theorem st61_60_4 : sliceT Try.prog 61 60 4 = true := by kernel_rfl
theorem st64_63_2 : sliceT Try.prog 64 63 2 = true := by kernel_rfl
theorem st65_103_2 : sliceT Try.prog 65 103 2 = true := by kernel_rfl
theorem st96_71_2 : sliceT Try.prog 96 71 2 = true := by kernel_rfl
theorem sz71_2 : sizeT Try.prog 71 2 = true := by kernel_rfl
theorem sz81_2 : sizeT Try.prog 81 2 = true := by kernel_rfl
theorem zt71 : zeroT Try.prog 71 [.bool false, .int .i64 0] := by unfold zeroT; kernel_rfl
theorem zt81 : zeroT Try.prog 81 [.int .i64 0, .bool false] := by unfold zeroT; kernel_rfl

theorem flat_at {α : Type} {f : α → List Value} {k : Nat} (hf : ∀ x, (f x).length = k) : ∀ (xs : List α) (i : Nat) (x : α), xs[i]? = some x → ∀ j v, (f x)[j]? = some v → (xs.flatMap f)[i * k + j]? = some v
  | [], i, x, h => by cases h
  | y :: r, 0, x, h => fun j v hv => by
    have : y = x := by simpa using h
    subst this
    have hj : j < (f y).length := (List.getElem?_eq_some_iff.1 hv).1
    rw [List.flatMap_cons, Nat.zero_mul, Nat.zero_add, List.getElem?_append_left hj]
    exact hv
  | y :: r, i + 1, x, h => fun j v hv => by
    have := flat_at hf r i x (by simpa using h) j v hv
    rw [List.flatMap_cons, List.getElem?_append_right (by rw [hf, Nat.add_mul]; omega), hf]
    rw [show (i + 1) * k + j - k = i * k + j by rw [Nat.add_mul]; omega]
    exact this
theorem flat_row {α : Type} {f : α → List Value} {k : Nat} (hf : ∀ x, (f x).length = k) {xs : List α} {w : World} {b off : Nat} (h : Row w b off (xs.flatMap f)) {i : Nat} {x : α} (hx : xs[i]? = some x) : Row w b (off + i * k) (f x) := fun j v hv => by
  have := h _ v (flat_at hf xs i x hx j v hv)
  rwa [← Nat.add_assoc] at this

theorem first_c (b cap : Nat) (rs : List (Bool × Int)) (hl : rs.length ≤ 1048576) (w : World) (hr : Row w b 0 (rs.flatMap fun r => [.bool r.1, .int .i64 r.2])) :
    Ret Try.prog 31 [.slice (some ⟨b, 0, none⟩) rs.length cap] w fun v w' => v = .int .i64 (firstR rs) ∧ Le w w' := by
  refine Ret.enter Try.func31 rfl Try.ntmps31 rfl rfl ?_
  have hO := Own.start w
  refine At.seq (At.reg ?_)
  refine At.v (RunV.assign rfl) rfl ?_
  refine At.nil (At.keep (.cons (t := 0) rfl <| .nil) ?_)
  refine At.seq ?_
  refine At.seq (At.reg ?_)
  refine At.v (RunV.move rfl) rfl ?_
  refine At.v (RunV.lenSl rfl isl96) rfl ?_
  refine At.v (RunV.move rfl) rfl ?_
  refine At.nil (At.keep (.cons (t := 5) rfl <| .cons (t := 6) rfl <| .cons (t := 7) rfl <| .nil) ?_)
  refine At.block ?_
  refine At.loopC (σ := Nat) (.cons (t := 5) rfl <| .cons (t := 6) rfl <| .nil) (fun i => [(7, .int .i64 (i : Int))]) (fun i wl => Own w [] wl ∧ i ≤ rs.length ∧ firstR (rs.drop i) = firstR rs) (fun i => rs.length - i) 0 (.cons (t := 7) rfl <| .nil) ⟨hO, Nat.zero_le _, rfl⟩ ?_
  intro i w1 hinv
  refine At.keep (.cons (t := 5) rfl <| .cons (t := 6) rfl <| .cons (t := 7) rfl <| .nil) ?_
  have hO := hinv.1
  have hi := hinv.2.1
  refine At.seq (At.reg ?_)
  refine At.v (RunV.ltI rfl rfl) rfl ?_
  refine At.nil (At.keep (.cons (t := 5) rfl <| .cons (t := 6) rfl <| .cons (t := 7) rfl <| .cons (t := 8) rfl <| .nil) ?_)
  refine At.seq ?_
  refine At.cond rfl (fun h1 => ?_) (fun h1 => ?_)
  · refine At.skip ?_
    refine At.seq ?_
    refine At.block ?_
    have hk : i < rs.length := by have := of_decide_eq_true h1; omega
    obtain ⟨⟨bo, co⟩, hx⟩ : ∃ x, rs[i]? = some x := ⟨rs[i], by simp [hk]⟩
    have helem := flat_row (k := 2) (fun _ => rfl) hr hx
    have hstep := firstR_step hx
    refine At.seq (At.reg ?_)
    refine At.v (RunV.index st96_71_2 rfl rfl rfl hk rfl) rfl ?_
    refine At.v (RunV.loadAgg ag71_2 rfl (Row.le helem hO.le) rfl) rfl ?_
    refine At.step rfl (Step.alloc hO zt71 ?_)
    intro b4 w2 hO hlb4 hnb4
    refine At.step_ (Step.storeAll hO rfl rfl rfl sz71_2 .here rfl rfl ?_)
    intro w3 hO hbut
    refine At.nil (At.keep (.cons (t := 4) rfl <| .cons (t := 5) rfl <| .cons (t := 6) rfl <| .cons (t := 7) rfl <| .nil) ?_)
    refine At.seq (At.reg ?_)
    refine At.v (RunV.field ft71_0_0 rfl rfl) rfl ?_
    refine At.v (RunV.load ct4 rfl ((hO.at (i := 0) rfl).cell rfl)) rfl ?_
    refine At.nil (At.keep (.cons (t := 4) rfl <| .cons (t := 5) rfl <| .cons (t := 6) rfl <| .cons (t := 7) rfl <| .cons (t := 12) rfl <| .nil) ?_)
    refine At.cond rfl (fun h2 => ?_) (fun h2 => ?_)
    · have h2 : bo = true := h2
      have hret := hinv.2.2
      rw [hstep, h2] at hret
      simp only [cond_true] at hret
      refine At.seq (At.reg ?_)
      refine At.v (RunV.field ft71_1_1 rfl rfl) rfl ?_
      refine At.v (RunV.load ct68 rfl ((hO.at (i := 0) rfl).cell rfl)) rfl ?_
      refine At.v (RunV.assign rfl) rfl ?_
      refine At.nil (At.keep (.cons (t := 2) rfl <| .nil) ?_)
      refine At.ret ?_
      refine At.result1 rfl rfl ?_
      exact ⟨congrArg _ hret, hO.le⟩
    · have h2 : bo = false := h2
      have hgo := hinv.2.2
      rw [hstep, h2] at hgo
      simp only [cond_false] at hgo
      refine At.skip ?_
      refine At.reg ?_
      refine At.v (RunV.inc rfl rfl (by omega)) rfl ?_
      refine At.v (RunV.move rfl) rfl ?_
      refine At.nil (At.keep (.cons (t := 5) rfl <| .cons (t := 6) rfl <| .cons (t := 7) rfl <| .nil) ?_)
      replace hO := hO.drop
      exact At.againC (.cons (t := 5) rfl <| .cons (t := 6) rfl <| .nil) (i + 1) (.cons (t := 7) rfl <| .nil) ⟨hO, hk, hgo⟩ (by omega)
  · have hend := hinv.2.2
    rw [List.drop_eq_nil_of_le (by have := of_decide_eq_false h1; omega)] at hend
    refine At.exit rfl ?_
    refine At.seq (At.reg ?_)
    refine At.v (RunV.assign rfl) rfl ?_
    refine At.nil (At.keep (.cons (t := 2) rfl <| .nil) ?_)
    refine At.ret ?_
    refine At.result1 rfl rfl ?_
    exact ⟨congrArg _ hend, hinv.1.le⟩

theorem broken_c (b cap : Nat) (rs : List (Int × Bool)) (hl : rs.length ≤ 1048576) (w : World) (hr : Row w b 0 (rs.flatMap fun r => [.int .i64 r.1, .bool r.2])) :
    Ret Try.prog 38 [.slice (some ⟨b, 0, none⟩) rs.length cap] w fun v w' => v = .int .i64 (brokenR rs) ∧ Le w w' := by
  refine Ret.enter Try.func38 rfl Try.ntmps38 rfl rfl ?_
  have hO := Own.start w
  refine At.seq (At.reg ?_)
  refine At.v (RunV.assign rfl) rfl ?_
  refine At.nil (At.keep (.cons (t := 0) rfl <| .nil) ?_)
  refine At.seq ?_
  refine At.seq (At.reg ?_)
  refine At.v (RunV.move rfl) rfl ?_
  refine At.v (RunV.lenSl rfl isl110) rfl ?_
  refine At.v (RunV.move rfl) rfl ?_
  refine At.nil (At.keep (.cons (t := 5) rfl <| .cons (t := 6) rfl <| .cons (t := 7) rfl <| .nil) ?_)
  refine At.block ?_
  refine At.loopC (σ := Nat) (.cons (t := 5) rfl <| .cons (t := 6) rfl <| .nil) (fun i => [(7, .int .i64 (i : Int))]) (fun i wl => Own w [] wl ∧ i ≤ rs.length ∧ brokenR (rs.drop i) = brokenR rs) (fun i => rs.length - i) 0 (.cons (t := 7) rfl <| .nil) ⟨hO, Nat.zero_le _, rfl⟩ ?_
  intro i w1 hinv
  refine At.keep (.cons (t := 5) rfl <| .cons (t := 6) rfl <| .cons (t := 7) rfl <| .nil) ?_
  have hO := hinv.1
  have hi := hinv.2.1
  refine At.seq (At.reg ?_)
  refine At.v (RunV.ltI rfl rfl) rfl ?_
  refine At.nil (At.keep (.cons (t := 5) rfl <| .cons (t := 6) rfl <| .cons (t := 7) rfl <| .cons (t := 8) rfl <| .nil) ?_)
  refine At.seq ?_
  refine At.cond rfl (fun h1 => ?_) (fun h1 => ?_)
  · refine At.skip ?_
    refine At.seq ?_
    refine At.block ?_
    have hk : i < rs.length := by have := of_decide_eq_true h1; omega
    obtain ⟨⟨co, bo⟩, hx⟩ : ∃ x, rs[i]? = some x := ⟨rs[i], by simp [hk]⟩
    have helem := flat_row (k := 2) (fun _ => rfl) hr hx
    have hstep := brokenR_step hx
    refine At.seq (At.reg ?_)
    refine At.v (RunV.index st110_81_2 rfl rfl rfl hk rfl) rfl ?_
    refine At.v (RunV.loadAgg ag81_2 rfl (Row.le helem hO.le) rfl) rfl ?_
    refine At.step rfl (Step.alloc hO zt81 ?_)
    intro b4 w2 hO hlb4 hnb4
    refine At.step_ (Step.storeAll hO rfl rfl rfl sz81_2 .here rfl rfl ?_)
    intro w3 hO hbut
    refine At.nil (At.keep (.cons (t := 4) rfl <| .cons (t := 5) rfl <| .cons (t := 6) rfl <| .cons (t := 7) rfl <| .nil) ?_)
    refine At.seq (At.reg ?_)
    refine At.v (RunV.field ft81_1_1 rfl rfl) rfl ?_
    refine At.v (RunV.load ct4 rfl ((hO.at (i := 0) rfl).cell rfl)) rfl ?_
    refine At.v (RunV.not rfl) rfl ?_
    refine At.nil (At.keep (.cons (t := 4) rfl <| .cons (t := 5) rfl <| .cons (t := 6) rfl <| .cons (t := 7) rfl <| .cons (t := 13) rfl <| .nil) ?_)
    refine At.cond rfl (fun h2 => ?_) (fun h2 => ?_)
    · have h2 : bo = false := by simpa using h2
      have hret := hinv.2.2
      rw [hstep, h2] at hret
      simp only [cond_false] at hret
      refine At.seq (At.reg ?_)
      refine At.v (RunV.field ft81_0_0 rfl rfl) rfl ?_
      refine At.v (RunV.load ct3 rfl ((hO.at (i := 0) rfl).cell rfl)) rfl ?_
      refine At.v (RunV.assign rfl) rfl ?_
      refine At.nil (At.keep (.cons (t := 2) rfl <| .nil) ?_)
      refine At.ret ?_
      refine At.result1 rfl rfl ?_
      exact ⟨congrArg _ hret, hO.le⟩
    · have h2 : bo = true := by simpa using h2
      have hgo := hinv.2.2
      rw [hstep, h2] at hgo
      simp only [cond_true] at hgo
      refine At.skip ?_
      refine At.reg ?_
      refine At.v (RunV.inc rfl rfl (by omega)) rfl ?_
      refine At.v (RunV.move rfl) rfl ?_
      refine At.nil (At.keep (.cons (t := 5) rfl <| .cons (t := 6) rfl <| .cons (t := 7) rfl <| .nil) ?_)
      replace hO := hO.drop
      exact At.againC (.cons (t := 5) rfl <| .cons (t := 6) rfl <| .nil) (i + 1) (.cons (t := 7) rfl <| .nil) ⟨hO, hk, hgo⟩ (by omega)
  · have hend := hinv.2.2
    rw [List.drop_eq_nil_of_le (by have := of_decide_eq_false h1; omega)] at hend
    refine At.exit rfl ?_
    refine At.seq (At.reg ?_)
    refine At.v (RunV.assign rfl) rfl ?_
    refine At.nil (At.keep (.cons (t := 2) rfl <| .nil) ?_)
    refine At.ret ?_
    refine At.result1 rfl rfl ?_
    exact ⟨congrArg _ hend, hinv.1.le⟩

theorem idxfK_c {R : World → Knd → List Value → Prop} (g : Knd → Bool) (xs : List Knd) (v : Value) (K : FuncId) (cap : List Value) (hp : plainFn Try.prog K = true) (w : World) (hs : SlOf G0 5 R w v xs)
    (hg : ∀ (i : Nat) x cs w', xs[i]? = some x → cs.length = 5 → Le w w' → R w x cs → Ret Try.prog K (.agg cs.toArray :: cap) w' fun v w'' => v = .bool (g x) ∧ Le w' w'') :
    Ret Try.prog 58 [v, .func (.func K) #[] cap.toArray] w fun v w' => v = .int .i64 (idxOf g xs) ∧ Le w w' := by
  refine Ret.enter Try.func58 rfl Try.ntmps58 rfl rfl ?_
  have hO := Own.start w
  refine At.seq (At.reg ?_)
  refine At.v (RunV.assign rfl) rfl ?_
  refine At.nil (At.keep (.cons (t := 0) rfl <| .cons (t := 1) rfl <| .nil) ?_)
  refine At.seq ?_
  obtain ⟨a, cp, rfl, hle, hcp⟩ := hs.val
  refine At.seq (At.reg ?_)
  refine At.v (RunV.move rfl) rfl ?_
  refine At.v (RunV.lenSl rfl isl22) rfl ?_
  refine At.v (RunV.move rfl) rfl ?_
  refine At.nil (At.keep (.cons (t := 0) rfl <| .cons (t := 1) rfl <| .cons (t := 7) rfl <| .cons (t := 8) rfl <| .nil) ?_)
  refine At.block ?_
  refine At.loopC (σ := Nat) (.cons (t := 0) rfl <| .cons (t := 1) rfl <| .cons (t := 7) rfl <| .nil) (fun i => [(8, .int .i64 (i : Int))]) (fun i wl => Own w [] wl ∧ i ≤ xs.length ∧ ∀ j y, j < i → xs[j]? = some y → g y = false) (fun i => xs.length - i) 0 (.cons (t := 8) rfl <| .nil) ⟨hO, Nat.zero_le _, fun j y hj => absurd hj (Nat.not_lt_zero _)⟩ ?_
  intro i w1 hinv
  refine At.keep (.cons (t := 0) rfl <| .cons (t := 1) rfl <| .cons (t := 7) rfl <| .cons (t := 8) rfl <| .nil) ?_
  have hO := hinv.1
  have hi := hinv.2.1
  refine At.seq (At.reg ?_)
  refine At.v (RunV.ltI rfl rfl) rfl ?_
  refine At.nil (At.keep (.cons (t := 0) rfl <| .cons (t := 1) rfl <| .cons (t := 7) rfl <| .cons (t := 8) rfl <| .cons (t := 9) rfl <| .nil) ?_)
  refine At.seq ?_
  refine At.cond rfl (fun h1 => ?_) (fun h1 => ?_)
  · refine At.skip ?_
    refine At.seq ?_
    refine At.block ?_
    refine At.seq (At.reg ?_)
    refine At.v (RunV.move rfl) rfl ?_
    refine At.v (RunV.assign rfl) rfl ?_
    refine At.nil (At.keep (.cons (t := 0) rfl <| .cons (t := 1) rfl <| .cons (t := 5) rfl <| .cons (t := 7) rfl <| .cons (t := 8) rfl <| .nil) ?_)
    have hk : i < xs.length := by have := of_decide_eq_true h1; omega
    obtain ⟨x, hx⟩ : ∃ x, xs[i]? = some x := ⟨xs[i], by simp [hk]⟩
    obtain ⟨b, off, cp', cs, hv, _, hcl, hR, hrow⟩ := hs.at hx
    cases hv
    refine At.seq (At.reg ?_)
    refine At.v (RunV.move rfl) rfl ?_
    refine At.v (RunV.move rfl) rfl ?_
    refine At.v (RunV.move rfl) rfl ?_
    refine At.v (RunV.index st22_67_5 rfl rfl rfl hk rfl) rfl ?_
    refine At.v (RunV.loadAgg ag67_5 rfl (Row.le hrow hO.le) hcl) rfl ?_
    refine At.callE hO rfl hp rfl (hg i x cs _ hx hcl hO.le hR) rfl ?_
    intro w2 hO hl
    refine At.nil (At.keep (.cons (t := 0) rfl <| .cons (t := 1) rfl <| .cons (t := 5) rfl <| .cons (t := 7) rfl <| .cons (t := 8) rfl <| .cons (t := 16) rfl <| .nil) ?_)
    refine At.cond rfl (fun h2 => ?_) (fun h2 => ?_)
    · refine At.seq (At.reg ?_)
      refine At.v (RunV.move rfl) rfl ?_
      refine At.v (RunV.assign rfl) rfl ?_
      refine At.nil (At.keep (.cons (t := 4) rfl <| .nil) ?_)
      refine At.ret ?_
      refine At.result1 rfl rfl ?_
      exact ⟨congrArg _ (idxOf_hit hx (fun j y hj hy => hinv.2.2 j y hj hy) h2).symm, hO.le⟩
    · refine At.skip ?_
      refine At.reg ?_
      refine At.v (RunV.inc rfl rfl (by omega)) rfl ?_
      refine At.v (RunV.move rfl) rfl ?_
      refine At.nil (At.keep (.cons (t := 0) rfl <| .cons (t := 1) rfl <| .cons (t := 7) rfl <| .cons (t := 8) rfl <| .nil) ?_)
      exact At.againC (.cons (t := 0) rfl <| .cons (t := 1) rfl <| .cons (t := 7) rfl <| .nil) (i + 1) (.cons (t := 8) rfl <| .nil) ⟨hO, hk, fun j y hj hy => by
            rcases Nat.lt_succ_iff_lt_or_eq.1 hj with hj | rfl
            · exact hinv.2.2 j y hj hy
            · rw [hx] at hy; cases hy; exact h2⟩ (by omega)
  · refine At.exit rfl ?_
    refine At.seq (At.reg ?_)
    refine At.v (RunV.assign rfl) rfl ?_
    refine At.nil (At.keep (.cons (t := 4) rfl <| .nil) ?_)
    refine At.ret ?_
    refine At.result1 rfl rfl ?_
    exact ⟨congrArg _ (idxOf_none (fun j y hj hy => hinv.2.2 j y (by have := of_decide_eq_false h1; omega) hy)).symm, hinv.1.le⟩

theorem contfK_c {R : World → Knd → List Value → Prop} (g : Knd → Bool) (xs : List Knd) (v : Value) (K : FuncId) (cap : List Value) (hp : plainFn Try.prog K = true) (w : World) (hs : SlOf G0 5 R w v xs)
    (hg : ∀ (i : Nat) x cs w', xs[i]? = some x → cs.length = 5 → Le w w' → R w x cs → Ret Try.prog K (.agg cs.toArray :: cap) w' fun v w'' => v = .bool (g x) ∧ Le w' w'') :
    Ret Try.prog 51 [v, .func (.func K) #[] cap.toArray] w fun v w' => v = .bool (xs.any g) ∧ Le w w' := by
  refine Ret.enter Try.func51 rfl Try.ntmps51 rfl rfl ?_
  have hO := Own.start w
  refine At.seq (At.reg ?_)
  refine At.v (RunV.assign rfl) rfl ?_
  refine At.nil (At.keep (.cons (t := 0) rfl <| .cons (t := 1) rfl <| .nil) ?_)
  refine At.seq (At.reg ?_)
  refine At.v (RunV.move rfl) rfl ?_
  refine At.v (RunV.move rfl) rfl ?_
  refine At.callE hO rfl pf58 rfl (idxfK_c g xs v K cap hp _ hs hg) rfl ?_
  intro w1 hO hl
  refine At.v (RunV.geI rfl rfl) rfl ?_
  refine At.v (RunV.assign rfl) rfl ?_
  refine At.nil (At.keep (.cons (t := 4) rfl <| .nil) ?_)
  refine At.ret ?_
  refine At.result1 rfl rfl ?_
  exact ⟨congrArg _ (idxOf_any _ _), hO.le⟩

theorem idxfC_c {R : World → Cas → List Value → Prop} (g : Cas → Bool) (xs : List Cas) (v : Value) (K : FuncId) (cap : List Value) (hp : plainFn Try.prog K = true) (w : World) (hs : SlOf G0 2 R w v xs)
    (hg : ∀ (i : Nat) x cs w', xs[i]? = some x → cs.length = 2 → Le w w' → R w x cs → Ret Try.prog K (.agg cs.toArray :: cap) w' fun v w'' => v = .bool (g x) ∧ Le w' w'') :
    Ret Try.prog 61 [v, .func (.func K) #[] cap.toArray] w fun v w' => v = .int .i64 (idxOf g xs) ∧ Le w w' := by
  refine Ret.enter Try.func61 rfl Try.ntmps61 rfl rfl ?_
  have hO := Own.start w
  refine At.seq (At.reg ?_)
  refine At.v (RunV.assign rfl) rfl ?_
  refine At.nil (At.keep (.cons (t := 0) rfl <| .cons (t := 1) rfl <| .nil) ?_)
  refine At.seq ?_
  obtain ⟨a, cp, rfl, hle, hcp⟩ := hs.val
  refine At.seq (At.reg ?_)
  refine At.v (RunV.move rfl) rfl ?_
  refine At.v (RunV.lenSl rfl isl65) rfl ?_
  refine At.v (RunV.move rfl) rfl ?_
  refine At.nil (At.keep (.cons (t := 0) rfl <| .cons (t := 1) rfl <| .cons (t := 7) rfl <| .cons (t := 8) rfl <| .nil) ?_)
  refine At.block ?_
  refine At.loopC (σ := Nat) (.cons (t := 0) rfl <| .cons (t := 1) rfl <| .cons (t := 7) rfl <| .nil) (fun i => [(8, .int .i64 (i : Int))]) (fun i wl => Own w [] wl ∧ i ≤ xs.length ∧ ∀ j y, j < i → xs[j]? = some y → g y = false) (fun i => xs.length - i) 0 (.cons (t := 8) rfl <| .nil) ⟨hO, Nat.zero_le _, fun j y hj => absurd hj (Nat.not_lt_zero _)⟩ ?_
  intro i w1 hinv
  refine At.keep (.cons (t := 0) rfl <| .cons (t := 1) rfl <| .cons (t := 7) rfl <| .cons (t := 8) rfl <| .nil) ?_
  have hO := hinv.1
  have hi := hinv.2.1
  refine At.seq (At.reg ?_)
  refine At.v (RunV.ltI rfl rfl) rfl ?_
  refine At.nil (At.keep (.cons (t := 0) rfl <| .cons (t := 1) rfl <| .cons (t := 7) rfl <| .cons (t := 8) rfl <| .cons (t := 9) rfl <| .nil) ?_)
  refine At.seq ?_
  refine At.cond rfl (fun h1 => ?_) (fun h1 => ?_)
  · refine At.skip ?_
    refine At.seq ?_
    refine At.block ?_
    refine At.seq (At.reg ?_)
    refine At.v (RunV.move rfl) rfl ?_
    refine At.v (RunV.assign rfl) rfl ?_
    refine At.nil (At.keep (.cons (t := 0) rfl <| .cons (t := 1) rfl <| .cons (t := 5) rfl <| .cons (t := 7) rfl <| .cons (t := 8) rfl <| .nil) ?_)
    have hk : i < xs.length := by have := of_decide_eq_true h1; omega
    obtain ⟨x, hx⟩ : ∃ x, xs[i]? = some x := ⟨xs[i], by simp [hk]⟩
    obtain ⟨b, off, cp', cs, hv, _, hcl, hR, hrow⟩ := hs.at hx
    cases hv
    refine At.seq (At.reg ?_)
    refine At.v (RunV.move rfl) rfl ?_
    refine At.v (RunV.move rfl) rfl ?_
    refine At.v (RunV.move rfl) rfl ?_
    refine At.v (RunV.index st65_103_2 rfl rfl rfl hk rfl) rfl ?_
    refine At.v (RunV.loadAgg ag103_2 rfl (Row.le hrow hO.le) hcl) rfl ?_
    refine At.callE hO rfl hp rfl (hg i x cs _ hx hcl hO.le hR) rfl ?_
    intro w2 hO hl
    refine At.nil (At.keep (.cons (t := 0) rfl <| .cons (t := 1) rfl <| .cons (t := 5) rfl <| .cons (t := 7) rfl <| .cons (t := 8) rfl <| .cons (t := 16) rfl <| .nil) ?_)
    refine At.cond rfl (fun h2 => ?_) (fun h2 => ?_)
    · refine At.seq (At.reg ?_)
      refine At.v (RunV.move rfl) rfl ?_
      refine At.v (RunV.assign rfl) rfl ?_
      refine At.nil (At.keep (.cons (t := 4) rfl <| .nil) ?_)
      refine At.ret ?_
      refine At.result1 rfl rfl ?_
      exact ⟨congrArg _ (idxOf_hit hx (fun j y hj hy => hinv.2.2 j y hj hy) h2).symm, hO.le⟩
    · refine At.skip ?_
      refine At.reg ?_
      refine At.v (RunV.inc rfl rfl (by omega)) rfl ?_
      refine At.v (RunV.move rfl) rfl ?_
      refine At.nil (At.keep (.cons (t := 0) rfl <| .cons (t := 1) rfl <| .cons (t := 7) rfl <| .cons (t := 8) rfl <| .nil) ?_)
      exact At.againC (.cons (t := 0) rfl <| .cons (t := 1) rfl <| .cons (t := 7) rfl <| .nil) (i + 1) (.cons (t := 8) rfl <| .nil) ⟨hO, hk, fun j y hj hy => by
            rcases Nat.lt_succ_iff_lt_or_eq.1 hj with hj | rfl
            · exact hinv.2.2 j y hj hy
            · rw [hx] at hy; cases hy; exact h2⟩ (by omega)
  · refine At.exit rfl ?_
    refine At.seq (At.reg ?_)
    refine At.v (RunV.assign rfl) rfl ?_
    refine At.nil (At.keep (.cons (t := 4) rfl <| .nil) ?_)
    refine At.ret ?_
    refine At.result1 rfl rfl ?_
    exact ⟨congrArg _ (idxOf_none (fun j y hj hy => hinv.2.2 j y (by have := of_decide_eq_false h1; omega) hy)).symm, hinv.1.le⟩

theorem contfC_c {R : World → Cas → List Value → Prop} (g : Cas → Bool) (xs : List Cas) (v : Value) (K : FuncId) (cap : List Value) (hp : plainFn Try.prog K = true) (w : World) (hs : SlOf G0 2 R w v xs)
    (hg : ∀ (i : Nat) x cs w', xs[i]? = some x → cs.length = 2 → Le w w' → R w x cs → Ret Try.prog K (.agg cs.toArray :: cap) w' fun v w'' => v = .bool (g x) ∧ Le w' w'') :
    Ret Try.prog 46 [v, .func (.func K) #[] cap.toArray] w fun v w' => v = .bool (xs.any g) ∧ Le w w' := by
  refine Ret.enter Try.func46 rfl Try.ntmps46 rfl rfl ?_
  have hO := Own.start w
  refine At.seq (At.reg ?_)
  refine At.v (RunV.assign rfl) rfl ?_
  refine At.nil (At.keep (.cons (t := 0) rfl <| .cons (t := 1) rfl <| .nil) ?_)
  refine At.seq (At.reg ?_)
  refine At.v (RunV.move rfl) rfl ?_
  refine At.v (RunV.move rfl) rfl ?_
  refine At.callE hO rfl pf61 rfl (idxfC_c g xs v K cap hp _ hs hg) rfl ?_
  intro w1 hO hl
  refine At.v (RunV.geI rfl rfl) rfl ?_
  refine At.v (RunV.assign rfl) rfl ?_
  refine At.nil (At.keep (.cons (t := 4) rfl <| .nil) ?_)
  refine At.ret ?_
  refine At.result1 rfl rfl ?_
  exact ⟨congrArg _ (idxOf_any _ _), hO.le⟩

theorem idxfS_c {R : World → Stt → List Value → Prop} (g : Stt → Bool) (xs : List Stt) (v : Value) (K : FuncId) (cap : List Value) (hp : plainFn Try.prog K = true) (w : World) (hs : SlOf G0 2 R w v xs)
    (hg : ∀ (i : Nat) x cs w', xs[i]? = some x → cs.length = 2 → Le w w' → R w x cs → Ret Try.prog K (.agg cs.toArray :: cap) w' fun v w'' => v = .bool (g x) ∧ Le w' w'') :
    Ret Try.prog 74 [v, .func (.func K) #[] cap.toArray] w fun v w' => v = .int .i64 (idxOf g xs) ∧ Le w w' := by
  refine Ret.enter Try.func74 rfl Try.ntmps74 rfl rfl ?_
  have hO := Own.start w
  refine At.seq (At.reg ?_)
  refine At.v (RunV.assign rfl) rfl ?_
  refine At.nil (At.keep (.cons (t := 0) rfl <| .cons (t := 1) rfl <| .nil) ?_)
  refine At.seq ?_
  obtain ⟨a, cp, rfl, hle, hcp⟩ := hs.val
  refine At.seq (At.reg ?_)
  refine At.v (RunV.move rfl) rfl ?_
  refine At.v (RunV.lenSl rfl isl64) rfl ?_
  refine At.v (RunV.move rfl) rfl ?_
  refine At.nil (At.keep (.cons (t := 0) rfl <| .cons (t := 1) rfl <| .cons (t := 7) rfl <| .cons (t := 8) rfl <| .nil) ?_)
  refine At.block ?_
  refine At.loopC (σ := Nat) (.cons (t := 0) rfl <| .cons (t := 1) rfl <| .cons (t := 7) rfl <| .nil) (fun i => [(8, .int .i64 (i : Int))]) (fun i wl => Own w [] wl ∧ i ≤ xs.length ∧ ∀ j y, j < i → xs[j]? = some y → g y = false) (fun i => xs.length - i) 0 (.cons (t := 8) rfl <| .nil) ⟨hO, Nat.zero_le _, fun j y hj => absurd hj (Nat.not_lt_zero _)⟩ ?_
  intro i w1 hinv
  refine At.keep (.cons (t := 0) rfl <| .cons (t := 1) rfl <| .cons (t := 7) rfl <| .cons (t := 8) rfl <| .nil) ?_
  have hO := hinv.1
  have hi := hinv.2.1
  refine At.seq (At.reg ?_)
  refine At.v (RunV.ltI rfl rfl) rfl ?_
  refine At.nil (At.keep (.cons (t := 0) rfl <| .cons (t := 1) rfl <| .cons (t := 7) rfl <| .cons (t := 8) rfl <| .cons (t := 9) rfl <| .nil) ?_)
  refine At.seq ?_
  refine At.cond rfl (fun h1 => ?_) (fun h1 => ?_)
  · refine At.skip ?_
    refine At.seq ?_
    refine At.block ?_
    refine At.seq (At.reg ?_)
    refine At.v (RunV.move rfl) rfl ?_
    refine At.v (RunV.assign rfl) rfl ?_
    refine At.nil (At.keep (.cons (t := 0) rfl <| .cons (t := 1) rfl <| .cons (t := 5) rfl <| .cons (t := 7) rfl <| .cons (t := 8) rfl <| .nil) ?_)
    have hk : i < xs.length := by have := of_decide_eq_true h1; omega
    obtain ⟨x, hx⟩ : ∃ x, xs[i]? = some x := ⟨xs[i], by simp [hk]⟩
    obtain ⟨b, off, cp', cs, hv, _, hcl, hR, hrow⟩ := hs.at hx
    cases hv
    refine At.seq (At.reg ?_)
    refine At.v (RunV.move rfl) rfl ?_
    refine At.v (RunV.move rfl) rfl ?_
    refine At.v (RunV.move rfl) rfl ?_
    refine At.v (RunV.index st64_63_2 rfl rfl rfl hk rfl) rfl ?_
    refine At.v (RunV.loadAgg ag63_2 rfl (Row.le hrow hO.le) hcl) rfl ?_
    refine At.callE hO rfl hp rfl (hg i x cs _ hx hcl hO.le hR) rfl ?_
    intro w2 hO hl
    refine At.nil (At.keep (.cons (t := 0) rfl <| .cons (t := 1) rfl <| .cons (t := 5) rfl <| .cons (t := 7) rfl <| .cons (t := 8) rfl <| .cons (t := 16) rfl <| .nil) ?_)
    refine At.cond rfl (fun h2 => ?_) (fun h2 => ?_)
    · refine At.seq (At.reg ?_)
      refine At.v (RunV.move rfl) rfl ?_
      refine At.v (RunV.assign rfl) rfl ?_
      refine At.nil (At.keep (.cons (t := 4) rfl <| .nil) ?_)
      refine At.ret ?_
      refine At.result1 rfl rfl ?_
      exact ⟨congrArg _ (idxOf_hit hx (fun j y hj hy => hinv.2.2 j y hj hy) h2).symm, hO.le⟩
    · refine At.skip ?_
      refine At.reg ?_
      refine At.v (RunV.inc rfl rfl (by omega)) rfl ?_
      refine At.v (RunV.move rfl) rfl ?_
      refine At.nil (At.keep (.cons (t := 0) rfl <| .cons (t := 1) rfl <| .cons (t := 7) rfl <| .cons (t := 8) rfl <| .nil) ?_)
      exact At.againC (.cons (t := 0) rfl <| .cons (t := 1) rfl <| .cons (t := 7) rfl <| .nil) (i + 1) (.cons (t := 8) rfl <| .nil) ⟨hO, hk, fun j y hj hy => by
            rcases Nat.lt_succ_iff_lt_or_eq.1 hj with hj | rfl
            · exact hinv.2.2 j y hj hy
            · rw [hx] at hy; cases hy; exact h2⟩ (by omega)
  · refine At.exit rfl ?_
    refine At.seq (At.reg ?_)
    refine At.v (RunV.assign rfl) rfl ?_
    refine At.nil (At.keep (.cons (t := 4) rfl <| .nil) ?_)
    refine At.ret ?_
    refine At.result1 rfl rfl ?_
    exact ⟨congrArg _ (idxOf_none (fun j y hj hy => hinv.2.2 j y (by have := of_decide_eq_false h1; omega) hy)).symm, hinv.1.le⟩

theorem contfS_c {R : World → Stt → List Value → Prop} (g : Stt → Bool) (xs : List Stt) (v : Value) (K : FuncId) (cap : List Value) (hp : plainFn Try.prog K = true) (w : World) (hs : SlOf G0 2 R w v xs)
    (hg : ∀ (i : Nat) x cs w', xs[i]? = some x → cs.length = 2 → Le w w' → R w x cs → Ret Try.prog K (.agg cs.toArray :: cap) w' fun v w'' => v = .bool (g x) ∧ Le w' w'') :
    Ret Try.prog 69 [v, .func (.func K) #[] cap.toArray] w fun v w' => v = .bool (xs.any g) ∧ Le w w' := by
  refine Ret.enter Try.func69 rfl Try.ntmps69 rfl rfl ?_
  have hO := Own.start w
  refine At.seq (At.reg ?_)
  refine At.v (RunV.assign rfl) rfl ?_
  refine At.nil (At.keep (.cons (t := 0) rfl <| .cons (t := 1) rfl <| .nil) ?_)
  refine At.seq (At.reg ?_)
  refine At.v (RunV.move rfl) rfl ?_
  refine At.v (RunV.move rfl) rfl ?_
  refine At.callE hO rfl pf74 rfl (idxfS_c g xs v K cap hp _ hs hg) rfl ?_
  intro w1 hO hl
  refine At.v (RunV.geI rfl rfl) rfl ?_
  refine At.v (RunV.assign rfl) rfl ?_
  refine At.nil (At.keep (.cons (t := 4) rfl <| .nil) ?_)
  refine At.ret ?_
  refine At.result1 rfl rfl ?_
  exact ⟨congrArg _ (idxOf_any _ _), hO.le⟩

theorem idxfR_c {R : World → Rw → List Value → Prop} (g : Rw → Bool) (xs : List Rw) (v : Value) (K : FuncId) (cap : List Value) (hp : plainFn Try.prog K = true) (w : World) (hs : SlOf G0 4 R w v xs)
    (hg : ∀ (i : Nat) x cs w', xs[i]? = some x → cs.length = 4 → Le w w' → R w x cs → Ret Try.prog K (.agg cs.toArray :: cap) w' fun v w'' => v = .bool (g x) ∧ Le w' w'') :
    Ret Try.prog 76 [v, .func (.func K) #[] cap.toArray] w fun v w' => v = .int .i64 (idxOf g xs) ∧ Le w w' := by
  refine Ret.enter Try.func76 rfl Try.ntmps76 rfl rfl ?_
  have hO := Own.start w
  refine At.seq (At.reg ?_)
  refine At.v (RunV.assign rfl) rfl ?_
  refine At.nil (At.keep (.cons (t := 0) rfl <| .cons (t := 1) rfl <| .nil) ?_)
  refine At.seq ?_
  obtain ⟨a, cp, rfl, hle, hcp⟩ := hs.val
  refine At.seq (At.reg ?_)
  refine At.v (RunV.move rfl) rfl ?_
  refine At.v (RunV.lenSl rfl isl61) rfl ?_
  refine At.v (RunV.move rfl) rfl ?_
  refine At.nil (At.keep (.cons (t := 0) rfl <| .cons (t := 1) rfl <| .cons (t := 7) rfl <| .cons (t := 8) rfl <| .nil) ?_)
  refine At.block ?_
  refine At.loopC (σ := Nat) (.cons (t := 0) rfl <| .cons (t := 1) rfl <| .cons (t := 7) rfl <| .nil) (fun i => [(8, .int .i64 (i : Int))]) (fun i wl => Own w [] wl ∧ i ≤ xs.length ∧ ∀ j y, j < i → xs[j]? = some y → g y = false) (fun i => xs.length - i) 0 (.cons (t := 8) rfl <| .nil) ⟨hO, Nat.zero_le _, fun j y hj => absurd hj (Nat.not_lt_zero _)⟩ ?_
  intro i w1 hinv
  refine At.keep (.cons (t := 0) rfl <| .cons (t := 1) rfl <| .cons (t := 7) rfl <| .cons (t := 8) rfl <| .nil) ?_
  have hO := hinv.1
  have hi := hinv.2.1
  refine At.seq (At.reg ?_)
  refine At.v (RunV.ltI rfl rfl) rfl ?_
  refine At.nil (At.keep (.cons (t := 0) rfl <| .cons (t := 1) rfl <| .cons (t := 7) rfl <| .cons (t := 8) rfl <| .cons (t := 9) rfl <| .nil) ?_)
  refine At.seq ?_
  refine At.cond rfl (fun h1 => ?_) (fun h1 => ?_)
  · refine At.skip ?_
    refine At.seq ?_
    refine At.block ?_
    refine At.seq (At.reg ?_)
    refine At.v (RunV.move rfl) rfl ?_
    refine At.v (RunV.assign rfl) rfl ?_
    refine At.nil (At.keep (.cons (t := 0) rfl <| .cons (t := 1) rfl <| .cons (t := 5) rfl <| .cons (t := 7) rfl <| .cons (t := 8) rfl <| .nil) ?_)
    have hk : i < xs.length := by have := of_decide_eq_true h1; omega
    obtain ⟨x, hx⟩ : ∃ x, xs[i]? = some x := ⟨xs[i], by simp [hk]⟩
    obtain ⟨b, off, cp', cs, hv, _, hcl, hR, hrow⟩ := hs.at hx
    cases hv
    refine At.seq (At.reg ?_)
    refine At.v (RunV.move rfl) rfl ?_
    refine At.v (RunV.move rfl) rfl ?_
    refine At.v (RunV.move rfl) rfl ?_
    refine At.v (RunV.index st61_60_4 rfl rfl rfl hk rfl) rfl ?_
    refine At.v (RunV.loadAgg ag60_4 rfl (Row.le hrow hO.le) hcl) rfl ?_
    refine At.callE hO rfl hp rfl (hg i x cs _ hx hcl hO.le hR) rfl ?_
    intro w2 hO hl
    refine At.nil (At.keep (.cons (t := 0) rfl <| .cons (t := 1) rfl <| .cons (t := 5) rfl <| .cons (t := 7) rfl <| .cons (t := 8) rfl <| .cons (t := 16) rfl <| .nil) ?_)
    refine At.cond rfl (fun h2 => ?_) (fun h2 => ?_)
    · refine At.seq (At.reg ?_)
      refine At.v (RunV.move rfl) rfl ?_
      refine At.v (RunV.assign rfl) rfl ?_
      refine At.nil (At.keep (.cons (t := 4) rfl <| .nil) ?_)
      refine At.ret ?_
      refine At.result1 rfl rfl ?_
      exact ⟨congrArg _ (idxOf_hit hx (fun j y hj hy => hinv.2.2 j y hj hy) h2).symm, hO.le⟩
    · refine At.skip ?_
      refine At.reg ?_
      refine At.v (RunV.inc rfl rfl (by omega)) rfl ?_
      refine At.v (RunV.move rfl) rfl ?_
      refine At.nil (At.keep (.cons (t := 0) rfl <| .cons (t := 1) rfl <| .cons (t := 7) rfl <| .cons (t := 8) rfl <| .nil) ?_)
      exact At.againC (.cons (t := 0) rfl <| .cons (t := 1) rfl <| .cons (t := 7) rfl <| .nil) (i + 1) (.cons (t := 8) rfl <| .nil) ⟨hO, hk, fun j y hj hy => by
            rcases Nat.lt_succ_iff_lt_or_eq.1 hj with hj | rfl
            · exact hinv.2.2 j y hj hy
            · rw [hx] at hy; cases hy; exact h2⟩ (by omega)
  · refine At.exit rfl ?_
    refine At.seq (At.reg ?_)
    refine At.v (RunV.assign rfl) rfl ?_
    refine At.nil (At.keep (.cons (t := 4) rfl <| .nil) ?_)
    refine At.ret ?_
    refine At.result1 rfl rfl ?_
    exact ⟨congrArg _ (idxOf_none (fun j y hj hy => hinv.2.2 j y (by have := of_decide_eq_false h1; omega) hy)).symm, hinv.1.le⟩

theorem contfR_c {R : World → Rw → List Value → Prop} (g : Rw → Bool) (xs : List Rw) (v : Value) (K : FuncId) (cap : List Value) (hp : plainFn Try.prog K = true) (w : World) (hs : SlOf G0 4 R w v xs)
    (hg : ∀ (i : Nat) x cs w', xs[i]? = some x → cs.length = 4 → Le w w' → R w x cs → Ret Try.prog K (.agg cs.toArray :: cap) w' fun v w'' => v = .bool (g x) ∧ Le w' w'') :
    Ret Try.prog 88 [v, .func (.func K) #[] cap.toArray] w fun v w' => v = .bool (xs.any g) ∧ Le w w' := by
  refine Ret.enter Try.func88 rfl Try.ntmps88 rfl rfl ?_
  have hO := Own.start w
  refine At.seq (At.reg ?_)
  refine At.v (RunV.assign rfl) rfl ?_
  refine At.nil (At.keep (.cons (t := 0) rfl <| .cons (t := 1) rfl <| .nil) ?_)
  refine At.seq (At.reg ?_)
  refine At.v (RunV.move rfl) rfl ?_
  refine At.v (RunV.move rfl) rfl ?_
  refine At.callE hO rfl pf76 rfl (idxfR_c g xs v K cap hp _ hs hg) rfl ?_
  intro w1 hO hl
  refine At.v (RunV.geI rfl rfl) rfl ?_
  refine At.v (RunV.assign rfl) rfl ?_
  refine At.nil (At.keep (.cons (t := 4) rfl <| .nil) ?_)
  refine At.ret ?_
  refine At.result1 rfl rfl ?_
  exact ⟨congrArg _ (idxOf_any _ _), hO.le⟩

theorem idxfE_c {R : World → Eff → List Value → Prop} (g : Eff → Bool) (xs : List Eff) (v : Value) (K : FuncId) (cap : List Value) (hp : plainFn Try.prog K = true) (w : World) (hs : SlOf G0 7 R w v xs)
    (hg : ∀ (i : Nat) x cs w', xs[i]? = some x → cs.length = 7 → Le w w' → R w x cs → Ret Try.prog K (.agg cs.toArray :: cap) w' fun v w'' => v = .bool (g x) ∧ Le w' w'') :
    Ret Try.prog 93 [v, .func (.func K) #[] cap.toArray] w fun v w' => v = .int .i64 (idxOf g xs) ∧ Le w w' := by
  refine Ret.enter Try.func93 rfl Try.ntmps93 rfl rfl ?_
  have hO := Own.start w
  refine At.seq (At.reg ?_)
  refine At.v (RunV.assign rfl) rfl ?_
  refine At.nil (At.keep (.cons (t := 0) rfl <| .cons (t := 1) rfl <| .nil) ?_)
  refine At.seq ?_
  obtain ⟨a, cp, rfl, hle, hcp⟩ := hs.val
  refine At.seq (At.reg ?_)
  refine At.v (RunV.move rfl) rfl ?_
  refine At.v (RunV.lenSl rfl isl58) rfl ?_
  refine At.v (RunV.move rfl) rfl ?_
  refine At.nil (At.keep (.cons (t := 0) rfl <| .cons (t := 1) rfl <| .cons (t := 7) rfl <| .cons (t := 8) rfl <| .nil) ?_)
  refine At.block ?_
  refine At.loopC (σ := Nat) (.cons (t := 0) rfl <| .cons (t := 1) rfl <| .cons (t := 7) rfl <| .nil) (fun i => [(8, .int .i64 (i : Int))]) (fun i wl => Own w [] wl ∧ i ≤ xs.length ∧ ∀ j y, j < i → xs[j]? = some y → g y = false) (fun i => xs.length - i) 0 (.cons (t := 8) rfl <| .nil) ⟨hO, Nat.zero_le _, fun j y hj => absurd hj (Nat.not_lt_zero _)⟩ ?_
  intro i w1 hinv
  refine At.keep (.cons (t := 0) rfl <| .cons (t := 1) rfl <| .cons (t := 7) rfl <| .cons (t := 8) rfl <| .nil) ?_
  have hO := hinv.1
  have hi := hinv.2.1
  refine At.seq (At.reg ?_)
  refine At.v (RunV.ltI rfl rfl) rfl ?_
  refine At.nil (At.keep (.cons (t := 0) rfl <| .cons (t := 1) rfl <| .cons (t := 7) rfl <| .cons (t := 8) rfl <| .cons (t := 9) rfl <| .nil) ?_)
  refine At.seq ?_
  refine At.cond rfl (fun h1 => ?_) (fun h1 => ?_)
  · refine At.skip ?_
    refine At.seq ?_
    refine At.block ?_
    refine At.seq (At.reg ?_)
    refine At.v (RunV.move rfl) rfl ?_
    refine At.v (RunV.assign rfl) rfl ?_
    refine At.nil (At.keep (.cons (t := 0) rfl <| .cons (t := 1) rfl <| .cons (t := 5) rfl <| .cons (t := 7) rfl <| .cons (t := 8) rfl <| .nil) ?_)
    have hk : i < xs.length := by have := of_decide_eq_true h1; omega
    obtain ⟨x, hx⟩ : ∃ x, xs[i]? = some x := ⟨xs[i], by simp [hk]⟩
    obtain ⟨b, off, cp', cs, hv, _, hcl, hR, hrow⟩ := hs.at hx
    cases hv
    refine At.seq (At.reg ?_)
    refine At.v (RunV.move rfl) rfl ?_
    refine At.v (RunV.move rfl) rfl ?_
    refine At.v (RunV.move rfl) rfl ?_
    refine At.v (RunV.index st58_57_7 rfl rfl rfl hk rfl) rfl ?_
    refine At.v (RunV.loadAgg ag57_7 rfl (Row.le hrow hO.le) hcl) rfl ?_
    refine At.callE hO rfl hp rfl (hg i x cs _ hx hcl hO.le hR) rfl ?_
    intro w2 hO hl
    refine At.nil (At.keep (.cons (t := 0) rfl <| .cons (t := 1) rfl <| .cons (t := 5) rfl <| .cons (t := 7) rfl <| .cons (t := 8) rfl <| .cons (t := 16) rfl <| .nil) ?_)
    refine At.cond rfl (fun h2 => ?_) (fun h2 => ?_)
    · refine At.seq (At.reg ?_)
      refine At.v (RunV.move rfl) rfl ?_
      refine At.v (RunV.assign rfl) rfl ?_
      refine At.nil (At.keep (.cons (t := 4) rfl <| .nil) ?_)
      refine At.ret ?_
      refine At.result1 rfl rfl ?_
      exact ⟨congrArg _ (idxOf_hit hx (fun j y hj hy => hinv.2.2 j y hj hy) h2).symm, hO.le⟩
    · refine At.skip ?_
      refine At.reg ?_
      refine At.v (RunV.inc rfl rfl (by omega)) rfl ?_
      refine At.v (RunV.move rfl) rfl ?_
      refine At.nil (At.keep (.cons (t := 0) rfl <| .cons (t := 1) rfl <| .cons (t := 7) rfl <| .cons (t := 8) rfl <| .nil) ?_)
      exact At.againC (.cons (t := 0) rfl <| .cons (t := 1) rfl <| .cons (t := 7) rfl <| .nil) (i + 1) (.cons (t := 8) rfl <| .nil) ⟨hO, hk, fun j y hj hy => by
            rcases Nat.lt_succ_iff_lt_or_eq.1 hj with hj | rfl
            · exact hinv.2.2 j y hj hy
            · rw [hx] at hy; cases hy; exact h2⟩ (by omega)
  · refine At.exit rfl ?_
    refine At.seq (At.reg ?_)
    refine At.v (RunV.assign rfl) rfl ?_
    refine At.nil (At.keep (.cons (t := 4) rfl <| .nil) ?_)
    refine At.ret ?_
    refine At.result1 rfl rfl ?_
    exact ⟨congrArg _ (idxOf_none (fun j y hj hy => hinv.2.2 j y (by have := of_decide_eq_false h1; omega) hy)).symm, hinv.1.le⟩

theorem contfE_c {R : World → Eff → List Value → Prop} (g : Eff → Bool) (xs : List Eff) (v : Value) (K : FuncId) (cap : List Value) (hp : plainFn Try.prog K = true) (w : World) (hs : SlOf G0 7 R w v xs)
    (hg : ∀ (i : Nat) x cs w', xs[i]? = some x → cs.length = 7 → Le w w' → R w x cs → Ret Try.prog K (.agg cs.toArray :: cap) w' fun v w'' => v = .bool (g x) ∧ Le w' w'') :
    Ret Try.prog 86 [v, .func (.func K) #[] cap.toArray] w fun v w' => v = .bool (xs.any g) ∧ Le w w' := by
  refine Ret.enter Try.func86 rfl Try.ntmps86 rfl rfl ?_
  have hO := Own.start w
  refine At.seq (At.reg ?_)
  refine At.v (RunV.assign rfl) rfl ?_
  refine At.nil (At.keep (.cons (t := 0) rfl <| .cons (t := 1) rfl <| .nil) ?_)
  refine At.seq (At.reg ?_)
  refine At.v (RunV.move rfl) rfl ?_
  refine At.v (RunV.move rfl) rfl ?_
  refine At.callE hO rfl pf93 rfl (idxfE_c g xs v K cap hp _ hs hg) rfl ?_
  intro w1 hO hl
  refine At.v (RunV.geI rfl rfl) rfl ?_
  refine At.v (RunV.assign rfl) rfl ?_
  refine At.nil (At.keep (.cons (t := 4) rfl <| .nil) ?_)
  refine At.ret ?_
  refine At.result1 rfl rfl ?_
  exact ⟨congrArg _ (idxOf_any _ _), hO.le⟩

theorem idxfA_c {α : Type} (f : α → Value) (g : α → Bool) (xs : List α) (b cp : Nat) (K : FuncId) (cap : List Value) (hp : plainFn Try.prog K = true) (w : World) (hl : xs.length ≤ 1048576) (hr : Row w b 0 (xs.map f))
    (hg : ∀ (i : Nat) x w', xs[i]? = some x → Le w w' → Ret Try.prog K (f x :: cap) w' fun v w'' => v = .bool (g x) ∧ Le w' w'') :
    Ret Try.prog 82 [.slice (some ⟨b, 0, none⟩) xs.length cp, .func (.func K) #[] cap.toArray] w fun v w' => v = .int .i64 (idxOf g xs) ∧ Le w w' := by
  refine Ret.enter Try.func82 rfl Try.ntmps82 rfl rfl ?_
  have hO := Own.start w
  refine At.seq (At.reg ?_)
  refine At.v (RunV.assign rfl) rfl ?_
  refine At.nil (At.keep (.cons (t := 0) rfl <| .cons (t := 1) rfl <| .nil) ?_)
  refine At.seq ?_
  refine At.seq (At.reg ?_)
  refine At.v (RunV.move rfl) rfl ?_
  refine At.v (RunV.lenSl rfl isl46) rfl ?_
  refine At.v (RunV.move rfl) rfl ?_
  refine At.nil (At.keep (.cons (t := 0) rfl <| .cons (t := 1) rfl <| .cons (t := 7) rfl <| .cons (t := 8) rfl <| .nil) ?_)
  refine At.block ?_
  refine At.loopC (σ := Nat) (.cons (t := 0) rfl <| .cons (t := 1) rfl <| .cons (t := 7) rfl <| .nil) (fun i => [(8, .int .i64 (i : Int))]) (fun i wl => Own w [] wl ∧ i ≤ xs.length ∧ ∀ j y, j < i → xs[j]? = some y → g y = false) (fun i => xs.length - i) 0 (.cons (t := 8) rfl <| .nil) ⟨hO, Nat.zero_le _, fun j y hj => absurd hj (Nat.not_lt_zero _)⟩ ?_
  intro i w1 hinv
  refine At.keep (.cons (t := 0) rfl <| .cons (t := 1) rfl <| .cons (t := 7) rfl <| .cons (t := 8) rfl <| .nil) ?_
  have hO := hinv.1
  have hi := hinv.2.1
  refine At.seq (At.reg ?_)
  refine At.v (RunV.ltI rfl rfl) rfl ?_
  refine At.nil (At.keep (.cons (t := 0) rfl <| .cons (t := 1) rfl <| .cons (t := 7) rfl <| .cons (t := 8) rfl <| .cons (t := 9) rfl <| .nil) ?_)
  refine At.seq ?_
  refine At.cond rfl (fun h1 => ?_) (fun h1 => ?_)
  · refine At.skip ?_
    refine At.seq ?_
    refine At.block ?_
    refine At.seq (At.reg ?_)
    refine At.v (RunV.move rfl) rfl ?_
    refine At.v (RunV.assign rfl) rfl ?_
    refine At.nil (At.keep (.cons (t := 0) rfl <| .cons (t := 1) rfl <| .cons (t := 5) rfl <| .cons (t := 7) rfl <| .cons (t := 8) rfl <| .nil) ?_)
    have hk : i < xs.length := by have := of_decide_eq_true h1; omega
    obtain ⟨x, hx⟩ : ∃ x, xs[i]? = some x := ⟨xs[i], by simp [hk]⟩
    have hrow : w.cell? ⟨b, 0 + i * 1, none⟩ = some (f x) := by have := hr i (f x) (by simp [hx]); simpa using this
    refine At.seq (At.reg ?_)
    refine At.v (RunV.move rfl) rfl ?_
    refine At.v (RunV.move rfl) rfl ?_
    refine At.v (RunV.move rfl) rfl ?_
    refine At.v (RunV.index st46_76_1 rfl rfl rfl hk rfl) rfl ?_
    refine At.v (RunV.load ct76 rfl (cell_le hrow hO.le)) rfl ?_
    refine At.callE hO rfl hp rfl (hg i x _ hx hO.le) rfl ?_
    intro w2 hO hl
    refine At.nil (At.keep (.cons (t := 0) rfl <| .cons (t := 1) rfl <| .cons (t := 5) rfl <| .cons (t := 7) rfl <| .cons (t := 8) rfl <| .cons (t := 16) rfl <| .nil) ?_)
    refine At.cond rfl (fun h2 => ?_) (fun h2 => ?_)
    · refine At.seq (At.reg ?_)
      refine At.v (RunV.move rfl) rfl ?_
      refine At.v (RunV.assign rfl) rfl ?_
      refine At.nil (At.keep (.cons (t := 4) rfl <| .nil) ?_)
      refine At.ret ?_
      refine At.result1 rfl rfl ?_
      exact ⟨congrArg _ (idxOf_hit hx (fun j y hj hy => hinv.2.2 j y hj hy) h2).symm, hO.le⟩
    · refine At.skip ?_
      refine At.reg ?_
      refine At.v (RunV.inc rfl rfl (by omega)) rfl ?_
      refine At.v (RunV.move rfl) rfl ?_
      refine At.nil (At.keep (.cons (t := 0) rfl <| .cons (t := 1) rfl <| .cons (t := 7) rfl <| .cons (t := 8) rfl <| .nil) ?_)
      exact At.againC (.cons (t := 0) rfl <| .cons (t := 1) rfl <| .cons (t := 7) rfl <| .nil) (i + 1) (.cons (t := 8) rfl <| .nil) ⟨hO, hk, fun j y hj hy => by
            rcases Nat.lt_succ_iff_lt_or_eq.1 hj with hj | rfl
            · exact hinv.2.2 j y hj hy
            · rw [hx] at hy; cases hy; exact h2⟩ (by omega)
  · refine At.exit rfl ?_
    refine At.seq (At.reg ?_)
    refine At.v (RunV.assign rfl) rfl ?_
    refine At.nil (At.keep (.cons (t := 4) rfl <| .nil) ?_)
    refine At.ret ?_
    refine At.result1 rfl rfl ?_
    exact ⟨congrArg _ (idxOf_none (fun j y hj hy => hinv.2.2 j y (by have := of_decide_eq_false h1; omega) hy)).symm, hinv.1.le⟩

theorem contfA_c {α : Type} (f : α → Value) (g : α → Bool) (xs : List α) (b cp : Nat) (K : FuncId) (cap : List Value) (hp : plainFn Try.prog K = true) (w : World) (hl : xs.length ≤ 1048576) (hr : Row w b 0 (xs.map f))
    (hg : ∀ (i : Nat) x w', xs[i]? = some x → Le w w' → Ret Try.prog K (f x :: cap) w' fun v w'' => v = .bool (g x) ∧ Le w' w'') :
    Ret Try.prog 63 [.slice (some ⟨b, 0, none⟩) xs.length cp, .func (.func K) #[] cap.toArray] w fun v w' => v = .bool (xs.any g) ∧ Le w w' := by
  refine Ret.enter Try.func63 rfl Try.ntmps63 rfl rfl ?_
  have hO := Own.start w
  refine At.seq (At.reg ?_)
  refine At.v (RunV.assign rfl) rfl ?_
  refine At.nil (At.keep (.cons (t := 0) rfl <| .cons (t := 1) rfl <| .nil) ?_)
  refine At.seq (At.reg ?_)
  refine At.v (RunV.move rfl) rfl ?_
  refine At.v (RunV.move rfl) rfl ?_
  refine At.callE hO rfl pf82 rfl (idxfA_c f g xs b cp K cap hp _ hl hr hg) rfl ?_
  intro w1 hO hl
  refine At.v (RunV.geI rfl rfl) rfl ?_
  refine At.v (RunV.assign rfl) rfl ?_
  refine At.nil (At.keep (.cons (t := 4) rfl <| .nil) ?_)
  refine At.ret ?_
  refine At.result1 rfl rfl ?_
  exact ⟨congrArg _ (idxOf_any _ _), hO.le⟩

theorem parts_c (d : Int) (w : World) :
    Ret Try.prog 94 [.int .i64 d] w fun v w' => v = .tuple #[.bool (pRef d), .bool (pSlot d), .bool (pName d), .bool (pValue d), .bool (pDelay d)] ∧ w' = w := by
  refine Ret.enter Try.func94 rfl Try.ntmps94 rfl rfl ?_
  have hO := Own.start w
  refine At.seq (At.reg ?_)
  refine At.v (RunV.assign rfl) rfl ?_
  refine At.v (RunV.assign rfl) rfl ?_
  refine At.v (RunV.assign rfl) rfl ?_
  refine At.v (RunV.assign rfl) rfl ?_
  refine At.v (RunV.assign rfl) rfl ?_
  refine At.nil (At.keep (.cons (t := 0) rfl <| .cons (t := 2) rfl <| .cons (t := 3) rfl <| .cons (t := 4) rfl <| .cons (t := 5) rfl <| .cons (t := 6) rfl <| .nil) ?_)
  refine At.seq ?_
  refine At.seq (At.reg ?_)
  refine At.v (RunV.move rfl) rfl ?_
  refine At.nil (At.keep (.cons (t := 2) rfl <| .cons (t := 3) rfl <| .cons (t := 4) rfl <| .cons (t := 5) rfl <| .cons (t := 6) rfl <| .cons (t := 7) rfl <| .nil) ?_)
  refine At.block ?_
  refine At.seq ?_
  refine At.block ?_
  refine At.seq ?_
  refine At.block ?_
  refine At.seq ?_
  refine At.block ?_
  refine At.seq ?_
  refine At.block ?_
  refine At.seq ?_
  refine At.block ?_
  refine At.seq ?_
  refine At.block ?_
  refine At.seq ?_
  refine At.seq ?_
  refine At.seq (At.reg ?_)
  refine At.v (RunV.eqI rfl rfl) rfl ?_
  refine At.v (RunV.assign rfl) rfl ?_
  refine At.nil (At.keep (.cons (t := 2) rfl <| .cons (t := 3) rfl <| .cons (t := 4) rfl <| .cons (t := 5) rfl <| .cons (t := 6) rfl <| .cons (t := 7) rfl <| .cons (t := 8) rfl <| .nil) ?_)
  refine At.cond rfl (fun h1 => ?_) (fun h1 => ?_)
  · refine At.exit rfl ?_
    refine At.seq (At.reg ?_)
    refine At.v (RunV.assign rfl) rfl ?_
    refine At.v (RunV.assign rfl) rfl ?_
    refine At.v (RunV.assign rfl) rfl ?_
    refine At.nil (At.keep (.cons (t := 2) rfl <| .cons (t := 3) rfl <| .cons (t := 4) rfl <| .cons (t := 5) rfl <| .cons (t := 6) rfl <| .nil) ?_)
    refine At.exit rfl ?_
    refine At.ret ?_
    refine At.result5 rfl rfl rfl rfl rfl rfl ?_
    refine ⟨?_, rfl⟩
    unfold pRef pSlot pName pValue pDelay
    simp_all
  · refine At.skip ?_
    refine At.seq ?_
    refine At.seq (At.reg ?_)
    refine At.v (RunV.eqI rfl rfl) rfl ?_
    refine At.v (RunV.assign rfl) rfl ?_
    refine At.nil (At.keep (.cons (t := 2) rfl <| .cons (t := 3) rfl <| .cons (t := 4) rfl <| .cons (t := 5) rfl <| .cons (t := 6) rfl <| .cons (t := 7) rfl <| .cons (t := 10) rfl <| .nil) ?_)
    refine At.cond rfl (fun h2 => ?_) (fun h2 => ?_)
    · refine At.exit rfl ?_
      refine At.reg ?_
      refine At.v (RunV.assign rfl) rfl ?_
      refine At.v (RunV.assign rfl) rfl ?_
      refine At.nil (At.keep (.cons (t := 3) rfl <| .cons (t := 4) rfl <| .cons (t := 5) rfl <| .cons (t := 6) rfl <| .nil) ?_)
      refine At.seq (At.reg ?_)
      refine At.v (RunV.assign rfl) rfl ?_
      refine At.nil (At.keep (.cons (t := 2) rfl <| .cons (t := 3) rfl <| .cons (t := 4) rfl <| .cons (t := 5) rfl <| .cons (t := 6) rfl <| .nil) ?_)
      refine At.exit rfl ?_
      refine At.ret ?_
      refine At.result5 rfl rfl rfl rfl rfl rfl ?_
      refine ⟨?_, rfl⟩
      unfold pRef pSlot pName pValue pDelay
      simp_all
    · refine At.skip ?_
      refine At.seq ?_
      refine At.seq ?_
      refine At.seq (At.reg ?_)
      refine At.v (RunV.eqI rfl rfl) rfl ?_
      refine At.v (RunV.assign rfl) rfl ?_
      refine At.nil (At.keep (.cons (t := 2) rfl <| .cons (t := 3) rfl <| .cons (t := 4) rfl <| .cons (t := 5) rfl <| .cons (t := 6) rfl <| .cons (t := 7) rfl <| .cons (t := 12) rfl <| .nil) ?_)
      refine At.cond rfl (fun h3 => ?_) (fun h3 => ?_)
      · refine At.skip ?_
        refine At.cond rfl (fun h4 => ?_) (fun h4 => ?_)
        · refine At.exit rfl ?_
          refine At.seq (At.reg ?_)
          refine At.v (RunV.assign rfl) rfl ?_
          refine At.nil (At.keep (.cons (t := 2) rfl <| .cons (t := 3) rfl <| .cons (t := 4) rfl <| .cons (t := 5) rfl <| .cons (t := 6) rfl <| .nil) ?_)
          refine At.exit rfl ?_
          refine At.ret ?_
          refine At.result5 rfl rfl rfl rfl rfl rfl ?_
          refine ⟨?_, rfl⟩
          unfold pRef pSlot pName pValue pDelay
          simp_all
        · refine At.skip ?_
          refine At.seq ?_
          refine At.seq (At.reg ?_)
          refine At.v (RunV.eqI rfl rfl) rfl ?_
          refine At.v (RunV.assign rfl) rfl ?_
          refine At.nil (At.keep (.cons (t := 2) rfl <| .cons (t := 3) rfl <| .cons (t := 4) rfl <| .cons (t := 5) rfl <| .cons (t := 6) rfl <| .cons (t := 7) rfl <| .cons (t := 15) rfl <| .nil) ?_)
          refine At.cond rfl (fun h5 => ?_) (fun h5 => ?_)
          · refine At.exit rfl ?_
            refine At.reg ?_
            refine At.v (RunV.assign rfl) rfl ?_
            refine At.nil (At.keep (.cons (t := 2) rfl <| .cons (t := 4) rfl <| .cons (t := 5) rfl <| .cons (t := 6) rfl <| .nil) ?_)
            refine At.seq (At.reg ?_)
            refine At.v (RunV.assign rfl) rfl ?_
            refine At.nil (At.keep (.cons (t := 2) rfl <| .cons (t := 3) rfl <| .cons (t := 4) rfl <| .cons (t := 5) rfl <| .cons (t := 6) rfl <| .nil) ?_)
            refine At.exit rfl ?_
            refine At.ret ?_
            refine At.result5 rfl rfl rfl rfl rfl rfl ?_
            refine ⟨?_, rfl⟩
            unfold pRef pSlot pName pValue pDelay
            simp_all
          · refine At.skip ?_
            refine At.seq ?_
            refine At.seq (At.reg ?_)
            refine At.v (RunV.eqI rfl rfl) rfl ?_
            refine At.v (RunV.assign rfl) rfl ?_
            refine At.nil (At.keep (.cons (t := 2) rfl <| .cons (t := 3) rfl <| .cons (t := 4) rfl <| .cons (t := 5) rfl <| .cons (t := 6) rfl <| .cons (t := 7) rfl <| .cons (t := 17) rfl <| .nil) ?_)
            refine At.cond rfl (fun h6 => ?_) (fun h6 => ?_)
            · refine At.exit rfl ?_
              refine At.seq (At.reg ?_)
              refine At.v (RunV.assign rfl) rfl ?_
              refine At.nil (At.keep (.cons (t := 2) rfl <| .cons (t := 3) rfl <| .cons (t := 4) rfl <| .cons (t := 5) rfl <| .cons (t := 6) rfl <| .nil) ?_)
              refine At.exit rfl ?_
              refine At.ret ?_
              refine At.result5 rfl rfl rfl rfl rfl rfl ?_
              refine ⟨?_, rfl⟩
              unfold pRef pSlot pName pValue pDelay
              simp_all
            · refine At.skip ?_
              refine At.seq ?_
              refine At.seq (At.reg ?_)
              refine At.v (RunV.eqI rfl rfl) rfl ?_
              refine At.v (RunV.assign rfl) rfl ?_
              refine At.nil (At.keep (.cons (t := 2) rfl <| .cons (t := 3) rfl <| .cons (t := 4) rfl <| .cons (t := 5) rfl <| .cons (t := 6) rfl <| .cons (t := 7) rfl <| .cons (t := 19) rfl <| .nil) ?_)
              refine At.cond rfl (fun h7 => ?_) (fun h7 => ?_)
              · refine At.skip ?_
                refine At.cond rfl (fun h8 => ?_) (fun h8 => ?_)
                · refine At.exit rfl ?_
                  refine At.seq (At.reg ?_)
                  refine At.v (RunV.assign rfl) rfl ?_
                  refine At.nil (At.keep (.cons (t := 2) rfl <| .cons (t := 3) rfl <| .cons (t := 4) rfl <| .cons (t := 5) rfl <| .cons (t := 6) rfl <| .nil) ?_)
                  refine At.exit rfl ?_
                  refine At.ret ?_
                  refine At.result5 rfl rfl rfl rfl rfl rfl ?_
                  refine ⟨?_, rfl⟩
                  unfold pRef pSlot pName pValue pDelay
                  simp_all
                · refine At.skip ?_
                  refine At.exit rfl ?_
                  refine At.ret ?_
                  refine At.result5 rfl rfl rfl rfl rfl rfl ?_
                  refine ⟨?_, rfl⟩
                  unfold pRef pSlot pName pValue pDelay
                  simp_all
              · refine At.seq (At.reg ?_)
                refine At.v (RunV.eqI rfl rfl) rfl ?_
                refine At.v (RunV.assign rfl) rfl ?_
                refine At.nil (At.keep (.cons (t := 2) rfl <| .cons (t := 3) rfl <| .cons (t := 4) rfl <| .cons (t := 5) rfl <| .cons (t := 6) rfl <| .cons (t := 7) rfl <| .cons (t := 19) rfl <| .nil) ?_)
                refine At.cond rfl (fun h9 => ?_) (fun h9 => ?_)
                · refine At.skip ?_
                  refine At.cond rfl (fun h10 => ?_) (fun h10 => ?_)
                  · refine At.exit rfl ?_
                    refine At.seq (At.reg ?_)
                    refine At.v (RunV.assign rfl) rfl ?_
                    refine At.nil (At.keep (.cons (t := 2) rfl <| .cons (t := 3) rfl <| .cons (t := 4) rfl <| .cons (t := 5) rfl <| .cons (t := 6) rfl <| .nil) ?_)
                    refine At.exit rfl ?_
                    refine At.ret ?_
                    refine At.result5 rfl rfl rfl rfl rfl rfl ?_
                    refine ⟨?_, rfl⟩
                    unfold pRef pSlot pName pValue pDelay
                    simp_all
                  · refine At.skip ?_
                    refine At.exit rfl ?_
                    refine At.ret ?_
                    refine At.result5 rfl rfl rfl rfl rfl rfl ?_
                    refine ⟨?_, rfl⟩
                    unfold pRef pSlot pName pValue pDelay
                    simp_all
                · refine At.reg ?_
                  refine At.v (RunV.eqI rfl rfl) rfl ?_
                  refine At.v (RunV.assign rfl) rfl ?_
                  refine At.nil (At.keep (.cons (t := 2) rfl <| .cons (t := 3) rfl <| .cons (t := 4) rfl <| .cons (t := 5) rfl <| .cons (t := 6) rfl <| .cons (t := 19) rfl <| .nil) ?_)
                  refine At.cond rfl (fun h11 => ?_) (fun h11 => ?_)
                  · refine At.exit rfl ?_
                    refine At.seq (At.reg ?_)
                    refine At.v (RunV.assign rfl) rfl ?_
                    refine At.nil (At.keep (.cons (t := 2) rfl <| .cons (t := 3) rfl <| .cons (t := 4) rfl <| .cons (t := 5) rfl <| .cons (t := 6) rfl <| .nil) ?_)
                    refine At.exit rfl ?_
                    refine At.ret ?_
                    refine At.result5 rfl rfl rfl rfl rfl rfl ?_
                    refine ⟨?_, rfl⟩
                    unfold pRef pSlot pName pValue pDelay
                    simp_all
                  · refine At.skip ?_
                    refine At.exit rfl ?_
                    refine At.ret ?_
                    refine At.result5 rfl rfl rfl rfl rfl rfl ?_
                    refine ⟨?_, rfl⟩
                    unfold pRef pSlot pName pValue pDelay
                    simp_all
      · refine At.reg ?_
        refine At.v (RunV.eqI rfl rfl) rfl ?_
        refine At.v (RunV.assign rfl) rfl ?_
        refine At.nil (At.keep (.cons (t := 2) rfl <| .cons (t := 3) rfl <| .cons (t := 4) rfl <| .cons (t := 5) rfl <| .cons (t := 6) rfl <| .cons (t := 7) rfl <| .cons (t := 12) rfl <| .nil) ?_)
        refine At.cond rfl (fun h12 => ?_) (fun h12 => ?_)
        · refine At.exit rfl ?_
          refine At.seq (At.reg ?_)
          refine At.v (RunV.assign rfl) rfl ?_
          refine At.nil (At.keep (.cons (t := 2) rfl <| .cons (t := 3) rfl <| .cons (t := 4) rfl <| .cons (t := 5) rfl <| .cons (t := 6) rfl <| .nil) ?_)
          refine At.exit rfl ?_
          refine At.ret ?_
          refine At.result5 rfl rfl rfl rfl rfl rfl ?_
          refine ⟨?_, rfl⟩
          unfold pRef pSlot pName pValue pDelay
          simp_all
        · refine At.skip ?_
          refine At.seq ?_
          refine At.seq (At.reg ?_)
          refine At.v (RunV.eqI rfl rfl) rfl ?_
          refine At.v (RunV.assign rfl) rfl ?_
          refine At.nil (At.keep (.cons (t := 2) rfl <| .cons (t := 3) rfl <| .cons (t := 4) rfl <| .cons (t := 5) rfl <| .cons (t := 6) rfl <| .cons (t := 7) rfl <| .cons (t := 15) rfl <| .nil) ?_)
          refine At.cond rfl (fun h13 => ?_) (fun h13 => ?_)
          · refine At.exit rfl ?_
            refine At.reg ?_
            refine At.v (RunV.assign rfl) rfl ?_
            refine At.nil (At.keep (.cons (t := 2) rfl <| .cons (t := 4) rfl <| .cons (t := 5) rfl <| .cons (t := 6) rfl <| .nil) ?_)
            refine At.seq (At.reg ?_)
            refine At.v (RunV.assign rfl) rfl ?_
            refine At.nil (At.keep (.cons (t := 2) rfl <| .cons (t := 3) rfl <| .cons (t := 4) rfl <| .cons (t := 5) rfl <| .cons (t := 6) rfl <| .nil) ?_)
            refine At.exit rfl ?_
            refine At.ret ?_
            refine At.result5 rfl rfl rfl rfl rfl rfl ?_
            refine ⟨?_, rfl⟩
            unfold pRef pSlot pName pValue pDelay
            simp_all
          · refine At.skip ?_
            refine At.seq ?_
            refine At.seq (At.reg ?_)
            refine At.v (RunV.eqI rfl rfl) rfl ?_
            refine At.v (RunV.assign rfl) rfl ?_
            refine At.nil (At.keep (.cons (t := 2) rfl <| .cons (t := 3) rfl <| .cons (t := 4) rfl <| .cons (t := 5) rfl <| .cons (t := 6) rfl <| .cons (t := 7) rfl <| .cons (t := 17) rfl <| .nil) ?_)
            refine At.cond rfl (fun h14 => ?_) (fun h14 => ?_)
            · refine At.exit rfl ?_
              refine At.seq (At.reg ?_)
              refine At.v (RunV.assign rfl) rfl ?_
              refine At.nil (At.keep (.cons (t := 2) rfl <| .cons (t := 3) rfl <| .cons (t := 4) rfl <| .cons (t := 5) rfl <| .cons (t := 6) rfl <| .nil) ?_)
              refine At.exit rfl ?_
              refine At.ret ?_
              refine At.result5 rfl rfl rfl rfl rfl rfl ?_
              refine ⟨?_, rfl⟩
              unfold pRef pSlot pName pValue pDelay
              simp_all
            · refine At.skip ?_
              refine At.seq ?_
              refine At.seq (At.reg ?_)
              refine At.v (RunV.eqI rfl rfl) rfl ?_
              refine At.v (RunV.assign rfl) rfl ?_
              refine At.nil (At.keep (.cons (t := 2) rfl <| .cons (t := 3) rfl <| .cons (t := 4) rfl <| .cons (t := 5) rfl <| .cons (t := 6) rfl <| .cons (t := 7) rfl <| .cons (t := 19) rfl <| .nil) ?_)
              refine At.cond rfl (fun h15 => ?_) (fun h15 => ?_)
              · refine At.skip ?_
                refine At.cond rfl (fun h16 => ?_) (fun h16 => ?_)
                · refine At.exit rfl ?_
                  refine At.seq (At.reg ?_)
                  refine At.v (RunV.assign rfl) rfl ?_
                  refine At.nil (At.keep (.cons (t := 2) rfl <| .cons (t := 3) rfl <| .cons (t := 4) rfl <| .cons (t := 5) rfl <| .cons (t := 6) rfl <| .nil) ?_)
                  refine At.exit rfl ?_
                  refine At.ret ?_
                  refine At.result5 rfl rfl rfl rfl rfl rfl ?_
                  refine ⟨?_, rfl⟩
                  unfold pRef pSlot pName pValue pDelay
                  simp_all
                · refine At.skip ?_
                  refine At.exit rfl ?_
                  refine At.ret ?_
                  refine At.result5 rfl rfl rfl rfl rfl rfl ?_
                  refine ⟨?_, rfl⟩
                  unfold pRef pSlot pName pValue pDelay
                  simp_all
              · refine At.seq (At.reg ?_)
                refine At.v (RunV.eqI rfl rfl) rfl ?_
                refine At.v (RunV.assign rfl) rfl ?_
                refine At.nil (At.keep (.cons (t := 2) rfl <| .cons (t := 3) rfl <| .cons (t := 4) rfl <| .cons (t := 5) rfl <| .cons (t := 6) rfl <| .cons (t := 7) rfl <| .cons (t := 19) rfl <| .nil) ?_)
                refine At.cond rfl (fun h17 => ?_) (fun h17 => ?_)
                · refine At.skip ?_
                  refine At.cond rfl (fun h18 => ?_) (fun h18 => ?_)
                  · refine At.exit rfl ?_
                    refine At.seq (At.reg ?_)
                    refine At.v (RunV.assign rfl) rfl ?_
                    refine At.nil (At.keep (.cons (t := 2) rfl <| .cons (t := 3) rfl <| .cons (t := 4) rfl <| .cons (t := 5) rfl <| .cons (t := 6) rfl <| .nil) ?_)
                    refine At.exit rfl ?_
                    refine At.ret ?_
                    refine At.result5 rfl rfl rfl rfl rfl rfl ?_
                    refine ⟨?_, rfl⟩
                    unfold pRef pSlot pName pValue pDelay
                    simp_all
                  · refine At.skip ?_
                    refine At.exit rfl ?_
                    refine At.ret ?_
                    refine At.result5 rfl rfl rfl rfl rfl rfl ?_
                    refine ⟨?_, rfl⟩
                    unfold pRef pSlot pName pValue pDelay
                    simp_all
                · refine At.reg ?_
                  refine At.v (RunV.eqI rfl rfl) rfl ?_
                  refine At.v (RunV.assign rfl) rfl ?_
                  refine At.nil (At.keep (.cons (t := 2) rfl <| .cons (t := 3) rfl <| .cons (t := 4) rfl <| .cons (t := 5) rfl <| .cons (t := 6) rfl <| .cons (t := 19) rfl <| .nil) ?_)
                  refine At.cond rfl (fun h19 => ?_) (fun h19 => ?_)
                  · refine At.exit rfl ?_
                    refine At.seq (At.reg ?_)
                    refine At.v (RunV.assign rfl) rfl ?_
                    refine At.nil (At.keep (.cons (t := 2) rfl <| .cons (t := 3) rfl <| .cons (t := 4) rfl <| .cons (t := 5) rfl <| .cons (t := 6) rfl <| .nil) ?_)
                    refine At.exit rfl ?_
                    refine At.ret ?_
                    refine At.result5 rfl rfl rfl rfl rfl rfl ?_
                    refine ⟨?_, rfl⟩
                    unfold pRef pSlot pName pValue pDelay
                    simp_all
                  · refine At.skip ?_
                    refine At.exit rfl ?_
                    refine At.ret ?_
                    refine At.result5 rfl rfl rfl rfl rfl rfl ?_
                    refine ⟨?_, rfl⟩
                    unfold pRef pSlot pName pValue pDelay
                    simp_all

end Go.Proofs.Ytglilmcfhkedbaa
