/- The walks of Worked, of the document's, and of lists that are the same; no condition. -/
import Derived.Test.YtglilmcfhkedbaaWX
import Derived.Test.YtglilmcfhkedbaaMp
namespace Go.Proofs.Ytglilmcfhkedbaa
open Go Go.RowKit

theorem el30_1 : elemT Try.prog 30 1 = true := by kernel_rfl
theorem isl36 : islT Try.prog 36 = true := by kernel_rfl
theorem pf10 : plainFn Try.prog 10 = true := by kernel_rfl
theorem pf11 : plainFn Try.prog 11 = true := by kernel_rfl
theorem pf12 : plainFn Try.prog 12 = true := by kernel_rfl
theorem pf13 : plainFn Try.prog 13 = true := by kernel_rfl
theorem pf30 : plainFn Try.prog 30 = true := by kernel_rfl
theorem pf44 : plainFn Try.prog 44 = true := by kernel_rfl
theorem pf9 : plainFn Try.prog 9 = true := by kernel_rfl
theorem st36_30_1 : sliceT Try.prog 36 30 1 = true := by kernel_rfl
theorem zt30 : zeroT Try.prog 30 [.int .u64 0] := by unfold zeroT; kernel_rfl

theorem idIndex_c (xs : List Int) (q : Int) (v : Value) (w : World) (hs : SlOf G0 1 IR w v xs) :
    Ret Try.prog 44 [v, .int .u64 q] w fun u w' => u = .int .i64 (idxOf (fun y => decide (q = y)) xs) ∧ Le w w' := by
  refine Ret.enter Try.func44 rfl Try.ntmps44 rfl rfl ?_
  have hO := Own.start w
  refine At.seq (At.reg ?_)
  refine At.v (RunV.assign rfl) rfl ?_
  refine At.nil (At.keep (.cons (t := 0) rfl <| .cons (t := 1) rfl <| .nil) ?_)
  refine At.seq ?_
  obtain ⟨a, cp, rfl, hle, hcp⟩ := hs.val
  refine At.seq (At.reg ?_)
  refine At.v (RunV.move rfl) rfl ?_
  refine At.v (RunV.lenSl rfl isl36) rfl ?_
  refine At.v (RunV.move rfl) rfl ?_
  refine At.nil (At.keep (.cons (t := 0) rfl <| .cons (t := 1) rfl <| .cons (t := 7) rfl <| .cons (t := 8) rfl <| .nil) ?_)
  refine At.block ?_
  refine At.loopC (σ := Nat) (.cons (t := 0) rfl <| .cons (t := 1) rfl <| .cons (t := 7) rfl <| .nil) (fun i => [(8, .int .i64 (i : Int))]) (fun i wl => Own w [] wl ∧ i ≤ xs.length ∧ ∀ j y, j < i → xs[j]? = some y → decide (q = y) = false) (fun i => xs.length - i) 0 (.cons (t := 8) rfl <| .nil) ⟨hO, Nat.zero_le _, fun j y hj => absurd hj (Nat.not_lt_zero _)⟩ ?_
  intro i w1 hinv
  refine At.keep (.cons (t := 0) rfl <| .cons (t := 1) rfl <| .cons (t := 7) rfl <| .cons (t := 8) rfl <| .nil) ?_
  have hO := hinv.1
  have hi := hinv.2.1
  refine At.seq (At.reg ?_)
  refine At.v (RunV.ltI rfl rfl) rfl ?_
  refine At.nil (At.keep (.cons (t := 0) rfl <| .cons (t := 1) rfl <| .cons (t := 7) rfl <| .cons (t := 8) rfl <| .cons (t := 9) rfl <| .nil) ?_)
  refine At.seq ?_
  refine At.cond rfl (fun h1 => ?_) (fun h1 => ?_)
  · refine At.skip ?_
    refine At.seq ?_
    refine At.block ?_
    refine At.seq (At.reg ?_)
    refine At.v (RunV.move rfl) rfl ?_
    refine At.v (RunV.assign rfl) rfl ?_
    refine At.nil (At.keep (.cons (t := 0) rfl <| .cons (t := 1) rfl <| .cons (t := 5) rfl <| .cons (t := 7) rfl <| .cons (t := 8) rfl <| .nil) ?_)
    have hk : i < xs.length := by have := of_decide_eq_true h1; omega
    obtain ⟨x, hx⟩ : ∃ x, xs[i]? = some x := ⟨xs[i], by simp [hk]⟩
    obtain ⟨b, off, cp', cs, hv, _, _, hR1, hrow⟩ := SlOf.at hs hx
    cases hv
    cases hR1
    refine At.seq (At.reg ?_)
    refine At.v (RunV.move rfl) rfl ?_
    refine At.v (RunV.move rfl) rfl ?_
    refine At.v (RunV.move rfl) rfl ?_
    refine At.v (RunV.index st36_30_1 rfl rfl rfl hk rfl) rfl ?_
    refine At.v (RunV.load ct30 rfl (cell_le (hrow.cell (i := 0) rfl) hO.le)) rfl ?_
    refine At.v (RunV.eqI rfl rfl) rfl ?_
    refine At.nil (At.keep (.cons (t := 0) rfl <| .cons (t := 1) rfl <| .cons (t := 5) rfl <| .cons (t := 7) rfl <| .cons (t := 8) rfl <| .cons (t := 16) rfl <| .nil) ?_)
    refine At.cond rfl (fun h2 => ?_) (fun h2 => ?_)
    · refine At.seq (At.reg ?_)
      refine At.v (RunV.move rfl) rfl ?_
      refine At.v (RunV.assign rfl) rfl ?_
      refine At.nil (At.keep (.cons (t := 4) rfl <| .nil) ?_)
      refine At.ret ?_
      refine At.result1 rfl rfl ?_
      exact ⟨congrArg _ (idxOf_hit hx (fun j y hj hy => hinv.2.2 j y hj hy) h2).symm, hO.le⟩
    · refine At.skip ?_
      refine At.reg ?_
      refine At.v (RunV.inc rfl rfl (by omega)) rfl ?_
      refine At.v (RunV.move rfl) rfl ?_
      refine At.nil (At.keep (.cons (t := 0) rfl <| .cons (t := 1) rfl <| .cons (t := 7) rfl <| .cons (t := 8) rfl <| .nil) ?_)
      exact At.againC (.cons (t := 0) rfl <| .cons (t := 1) rfl <| .cons (t := 7) rfl <| .nil) (i + 1) (.cons (t := 8) rfl <| .nil) ⟨hO, hk, fun j y hj hy => by
            rcases Nat.lt_succ_iff_lt_or_eq.1 hj with hj | rfl
            · exact hinv.2.2 j y hj hy
            · rw [hx] at hy; cases hy; exact h2⟩ (by omega)
  · refine At.exit rfl ?_
    refine At.seq (At.reg ?_)
    refine At.v (RunV.assign rfl) rfl ?_
    refine At.nil (At.keep (.cons (t := 4) rfl <| .nil) ?_)
    refine At.ret ?_
    refine At.result1 rfl rfl ?_
    exact ⟨congrArg _ (idxOf_none (fun j y hj hy => hinv.2.2 j y (by have := of_decide_eq_false h1; omega) hy)).symm, hinv.1.le⟩

theorem idCont_c (xs : List Int) (q : Int) (v : Value) (w : World) (hs : SlOf G0 1 IR w v xs) :
    Ret Try.prog 30 [v, .int .u64 q] w fun u w' => u = .bool (xs.any fun o => decide (o = q)) ∧ Le w w' := by
  refine Ret.enter Try.func30 rfl Try.ntmps30 rfl rfl ?_
  have hO := Own.start w
  refine At.seq (At.reg ?_)
  refine At.v (RunV.assign rfl) rfl ?_
  refine At.nil (At.keep (.cons (t := 0) rfl <| .cons (t := 1) rfl <| .nil) ?_)
  refine At.seq (At.reg ?_)
  refine At.v (RunV.move rfl) rfl ?_
  refine At.v (RunV.move rfl) rfl ?_
  refine At.callE hO rfl pf44 rfl (idIndex_c xs q v _ (hs.le hO.le fun _ _ _ h => h)) rfl ?_
  intro w1 hO hl
  refine At.v (RunV.geI rfl rfl) rfl ?_
  refine At.v (RunV.assign rfl) rfl ?_
  refine At.nil (At.keep (.cons (t := 4) rfl <| .nil) ?_)
  refine At.ret ?_
  refine At.result1 rfl rfl ?_
  refine ⟨congrArg _ ?_, hO.le⟩
  rw [idxOf_any]
  congr 1; funext y; exact decide_eq_decide.2 eq_comm

theorem same_c (xs : List Int) (v u : Value) (w : World) (hs : SlOf G0 1 IR w v xs) (hs2 : SlOf G0 1 IR w u xs) :
    Ret Try.prog 9 [v, u] w fun r w' => r = .bool true ∧ Le w w' := by
  refine Ret.enter Try.func9 rfl Try.ntmps9 rfl rfl ?_
  have hO := Own.start w
  refine At.seq (At.reg ?_)
  refine At.v (RunV.assign rfl) rfl ?_
  refine At.nil (At.keep (.cons (t := 0) rfl <| .cons (t := 1) rfl <| .nil) ?_)
  refine At.seq ?_
  obtain ⟨a, cp, rfl, hle, hcp⟩ := hs.val
  obtain ⟨a2, cp2, rfl, hle2, hcp2⟩ := hs2.val
  refine At.seq (At.reg ?_)
  refine At.v (RunV.move rfl) rfl ?_
  refine At.v (RunV.lenSl rfl isl36) rfl ?_
  refine At.v (RunV.move rfl) rfl ?_
  refine At.v (RunV.lenSl rfl isl36) rfl ?_
  refine At.v (RunV.neI rfl rfl) rfl ?_
  refine At.nil (At.keep (.cons (t := 0) rfl <| .cons (t := 1) rfl <| .cons (t := 10) rfl <| .nil) ?_)
  refine At.cond rfl (fun h1 => absurd h1 (by simp)) (fun h1 => ?_)
  refine At.skip ?_
  refine At.seq ?_
  refine At.seq (At.reg ?_)
  refine At.v (RunV.assign rfl) rfl ?_
  refine At.nil (At.keep (.cons (t := 0) rfl <| .cons (t := 1) rfl <| .cons (t := 5) rfl <| .nil) ?_)
  refine At.block ?_
  refine At.loopC (σ := Nat) (.cons (t := 0) rfl <| .cons (t := 1) rfl <| .nil) (fun i => [(5, .int .i64 (i : Int))]) (fun i wl => Own w [] wl ∧ i ≤ xs.length) (fun i => xs.length - i) 0 (.cons (t := 5) rfl <| .nil) ⟨hO, Nat.zero_le _⟩ ?_
  intro i w1 hinv
  refine At.keep (.cons (t := 0) rfl <| .cons (t := 1) rfl <| .cons (t := 5) rfl <| .nil) ?_
  have hO := hinv.1
  have hi := hinv.2
  refine At.seq ?_
  refine At.seq (At.reg ?_)
  refine At.v (RunV.move rfl) rfl ?_
  refine At.v (RunV.move rfl) rfl ?_
  refine At.v (RunV.lenSl rfl isl36) rfl ?_
  refine At.v (RunV.ltI rfl rfl) rfl ?_
  refine At.nil (At.keep (.cons (t := 0) rfl <| .cons (t := 1) rfl <| .cons (t := 5) rfl <| .cons (t := 14) rfl <| .nil) ?_)
  refine At.cond rfl (fun h1 => ?_) (fun h1 => ?_)
  · refine At.skip ?_
    refine At.seq ?_
    refine At.block ?_
    have hk : i < xs.length := by have := of_decide_eq_true h1; omega
    obtain ⟨x, hx⟩ : ∃ x, xs[i]? = some x := ⟨xs[i], by simp [hk]⟩
    obtain ⟨b, off, cp', cs, hv, _, _, hR1, hrow⟩ := SlOf.at hs hx
    cases hv
    cases hR1
    obtain ⟨b2, off2, cp2', cs2, hv2, _, _, hR2, hrow2⟩ := SlOf.at hs2 hx
    cases hv2
    cases hR2
    refine At.seq (At.pi hmix (.take 0 (.take 1 (.take 2 (.take 3 (.take 4 (.take 5 (.take 6 (.take 7 (.take 8 .done))))))))) (by kernel_rfl) (by kernel_rfl) ?_)
    intro w2 hs
    have hs0 := hs
    have hR := hO
    replace hO := hO.on hs
    refine At.take rfl (fun w' hs' => RunV.move rfl) rfl ?_
    refine At.take rfl (fun w' hs' => RunV.move rfl) rfl ?_
    refine At.take rfl (fun w' hs' => RunV.index st36_30_1 rfl rfl rfl hk rfl) rfl ?_
    refine At.take rfl (fun w' hs' => RunV.load ct30 rfl (cell_le (hrow.cell (i := 0) rfl) (hR.le.tr hs'))) rfl ?_
    refine At.take rfl (fun w' hs' => RunV.move rfl) rfl ?_
    refine At.take rfl (fun w' hs' => RunV.move rfl) rfl ?_
    refine At.take rfl (fun w' hs' => RunV.index st36_30_1 rfl rfl rfl hk rfl) rfl ?_
    refine At.take rfl (fun w' hs' => RunV.load ct30 rfl (cell_le (hrow2.cell (i := 0) rfl) (hR.le.tr hs'))) rfl ?_
    refine At.take rfl (fun w' hs' => RunV.neI rfl rfl) rfl ?_
    refine At.pdone (At.keep (.cons (t := 0) rfl <| .cons (t := 1) rfl <| .cons (t := 5) rfl <| .cons (t := 25) rfl <| .nil) ?_)
    refine At.cond rfl (fun h2 => absurd h2 (by simp)) (fun h2 => ?_)
    refine At.skip ?_
    refine At.reg ?_
    refine At.v (RunV.move rfl) rfl ?_
    refine At.v (RunV.inc rfl rfl (by omega)) rfl ?_
    refine At.v (RunV.assign rfl) rfl ?_
    refine At.nil (At.keep (.cons (t := 0) rfl <| .cons (t := 1) rfl <| .cons (t := 5) rfl <| .nil) ?_)
    exact At.againC (.cons (t := 0) rfl <| .cons (t := 1) rfl <| .nil) (i + 1) (.cons (t := 5) rfl <| .nil) ⟨hO, hk⟩ (by omega)
  · refine At.exit rfl ?_
    refine At.seq (At.reg ?_)
    refine At.v (RunV.assign rfl) rfl ?_
    refine At.nil (At.keep (.cons (t := 4) rfl <| .nil) ?_)
    refine At.ret ?_
    refine At.result1 rfl rfl ?_
    exact ⟨rfl, hinv.1.le⟩

theorem worked_c (l : List Ev) (a : Int) (ev : Value) (w : World) (hE : EvsR G0 w ev l) (hl : l.length ≤ 300) :
    Ret Try.prog 12 [ev, .int .i64 a] w fun v w' => SlOf G0 1 IR w' v (workB l a) ∧ Le w w' := by
  refine Ret.enter Try.func12 rfl Try.ntmps12 rfl rfl ?_
  have hO := Own.start w
  obtain ⟨ea, ec, rfl, hele, hecap⟩ := SlOf.val hE
  refine At.seq (At.reg ?_)
  refine At.v (RunV.assign rfl) rfl ?_
  refine At.nil (At.keep (.cons (t := 0) rfl <| .cons (t := 1) rfl <| .nil) ?_)
  refine At.seq (At.reg ?_)
  refine At.v (RunV.assign rfl) rfl ?_
  refine At.nil (At.keep (.cons (t := 0) rfl <| .cons (t := 1) rfl <| .cons (t := 5) rfl <| .nil) ?_)
  refine At.seq ?_
  refine At.seq (At.reg ?_)
  refine At.v (RunV.move rfl) rfl ?_
  refine At.v (RunV.lenSl rfl isl25) rfl ?_
  refine At.v (RunV.move rfl) rfl ?_
  refine At.nil (At.keep (.cons (t := 1) rfl <| .cons (t := 5) rfl <| .cons (t := 8) rfl <| .cons (t := 9) rfl <| .cons (t := 10) rfl <| .nil) ?_)
  refine At.block ?_
  refine At.loopC (σ := Nat × Value) (.cons (t := 1) rfl <| .cons (t := 8) rfl <| .cons (t := 9) rfl <| .nil) (fun s => [(5, s.2), (10, .int .i64 (s.1 : Int))]) (fun s wl => Own w [] wl ∧ GrI w.heap.size [] wl s.2 ((l.take s.1).foldl (workStep a) []) ∧ s.1 ≤ l.length) (fun s => l.length - s.1) (0, .slice none 0 0) (.cons (t := 5) rfl <| .cons (t := 10) rfl <| .nil) ⟨hO, GrI.nil, Nat.zero_le _⟩ ?_
  intro s w1 hinv
  obtain ⟨i, v⟩ := s
  refine At.keep (.cons (t := 1) rfl <| .cons (t := 5) (v := v) rfl <| .cons (t := 8) rfl <| .cons (t := 9) rfl <| .cons (t := 10) (v := .int .i64 (i : Int)) rfl <| .nil) ?_
  have hO : Own w [] w1 := hinv.1
  have hG : GrI w.heap.size [] w1 v ((l.take i).foldl (workStep a) []) := hinv.2.1
  have hi : i ≤ l.length := hinv.2.2
  refine At.seq (At.reg ?_)
  refine At.v (RunV.ltI rfl rfl) rfl ?_
  refine At.nil (At.keep (.cons (t := 1) rfl <| .cons (t := 5) rfl <| .cons (t := 8) rfl <| .cons (t := 9) rfl <| .cons (t := 10) rfl <| .cons (t := 11) rfl <| .nil) ?_)
  refine At.seq ?_
  refine At.cond rfl (fun hlt => ?_) (fun hlt => ?_)
  · refine At.skip ?_
    refine At.seq ?_
    refine At.block ?_
    have hk : i < l.length := by have := of_decide_eq_true hlt; omega
    obtain ⟨x, hx⟩ : ∃ x, l[i]? = some x := ⟨_, List.getElem?_eq_getElem hk⟩
    obtain ⟨eb, eoff, ecap, ecs, hv9, _, _, hR9, herow⟩ := SlOf.at (hE.le hO.le) hx
    cases hv9
    cases hR9
    have hlen : ((l.take i).foldl (workStep a) []).length ≤ 300 := by
      have := fold_len (workStep_len a) (l.take i) []
      rw [List.length_take, List.length_nil] at this; omega
    refine At.seq (At.reg ?_)
    refine At.v (RunV.index st25_32_9 rfl rfl rfl hk rfl) rfl ?_
    refine At.v (RunV.loadAgg ag32_9 rfl herow rfl) rfl ?_
    refine At.step rfl (Step.alloc hO zt32 ?_)
    intro b7 w2 hO hlb7 hnb7
    replace hG := hG.add hlb7 hnb7
    refine At.step_ (Step.storeAll hO rfl rfl rfl sz32_9 .here rfl rfl ?_)
    intro w3 hO hbut
    replace hG := hG.but (i := 0) hbut rfl
    refine At.nil (At.keep (.cons (t := 1) rfl <| .cons (t := 5) rfl <| .cons (t := 7) rfl <| .cons (t := 8) rfl <| .cons (t := 9) rfl <| .cons (t := 10) rfl <| .nil) ?_)
    refine At.seq (At.reg ?_)
    refine At.v (RunV.field ft32_0_0 rfl rfl) rfl ?_
    refine At.v (RunV.load ct3 rfl ((hO.at (i := 0) rfl).cell rfl)) rfl ?_
    refine At.v (RunV.eqI rfl rfl) rfl ?_
    refine At.v (RunV.move rfl) rfl ?_
    refine At.g (Guard.t rfl rfl rfl) (fun hc => RunV.field ft32_1_1 rfl rfl) rfl ?_
    refine At.g (Guard.t rfl rfl rfl) (fun hc => RunV.load ct3 (gvE rfl hc) ((hO.at (i := 0) rfl).cell rfl)) rfl ?_
    refine At.g (Guard.t rfl rfl rfl) (fun hc => RunV.move rfl) rfl ?_
    refine At.g (Guard.t rfl rfl rfl) (fun hc => RunV.eqI (gvE rfl hc) (gvE rfl hc)) rfl ?_
    refine At.v (RunV.pickAnd rfl rfl) rfl ?_
    refine At.nil (At.keep (.cons (t := 1) rfl <| .cons (t := 5) rfl <| .cons (t := 7) rfl <| .cons (t := 8) rfl <| .cons (t := 9) rfl <| .cons (t := 10) rfl <| .cons (t := 22) rfl <| .nil) ?_)
    refine At.cond rfl (fun hc => ?_) (fun hc => ?_)
    · have hst : (l.take (i + 1)).foldl (workStep a) [] = (l.take i).foldl (workStep a) [] ++ [x.id] := by
        rw [take_succ_fold _ _ hx]; exact if_pos hc
      refine At.reg ?_
      refine At.v (RunV.move rfl) rfl ?_
      refine At.v (RunV.field ft32_2_2 rfl rfl) rfl ?_
      refine At.v (RunV.load ct30 rfl ((hO.at (i := 0) rfl).cell rfl)) rfl ?_
      refine At.step rfl (Step.buildSlice hO st36_30_1 zt30 rfl rfl rfl rfl (fill_full rfl rfl) ?_)
      intro b26 w4 hO hlb26 hnb26
      replace hG := hG.add hlb26 hnb26
      refine At.step rfl (Step.append st36_30_1 isl36 el30_1 rfl rfl hG.sl ⟨_, _, rfl, .inr ⟨b26, 0, rfl, (hO.at (i := 0) rfl).row⟩⟩ rfl rfl (by omega) ?_)
      intro v2 w5 hS hM
      obtain ⟨hO, hG⟩ := hO.movedI hG hO.le.size (Nat.le_refl _) hM hS
      refine At.v (RunV.assign rfl) rfl ?_
      refine At.nil (At.keep (.cons (t := 1) rfl <| .cons (t := 5) rfl <| .cons (t := 8) rfl <| .cons (t := 9) rfl <| .cons (t := 10) rfl <| .nil) ?_)
      refine At.reg ?_
      refine At.v (RunV.inc rfl rfl (by omega)) rfl ?_
      refine At.v (RunV.move rfl) rfl ?_
      refine At.nil (At.keep (.cons (t := 1) rfl <| .cons (t := 5) rfl <| .cons (t := 8) rfl <| .cons (t := 9) rfl <| .cons (t := 10) rfl <| .nil) ?_)
      replace hO := hO.drop
      replace hO := hO.drop
      exact At.againC (.cons (t := 1) rfl <| .cons (t := 8) rfl <| .cons (t := 9) rfl <| .nil) (i + 1, _) (.cons (t := 5) rfl <| .cons (t := 10) rfl <| .nil) ⟨hO, (by show GrI _ _ _ _ ((l.take (i + 1)).foldl (workStep a) []); rw [hst]; first | exact hG.drop.drop | exact hG.drop | exact hG), hk⟩ (by show l.length - (i + 1) < l.length - i; omega)
    · have hst : (l.take (i + 1)).foldl (workStep a) [] = (l.take i).foldl (workStep a) [] := by
        rw [take_succ_fold _ _ hx]; exact if_neg (by rw [hc]; exact Bool.false_ne_true)
      refine At.skip ?_
      refine At.reg ?_
      refine At.v (RunV.inc rfl rfl (by omega)) rfl ?_
      refine At.v (RunV.move rfl) rfl ?_
      refine At.nil (At.keep (.cons (t := 1) rfl <| .cons (t := 5) rfl <| .cons (t := 8) rfl <| .cons (t := 9) rfl <| .cons (t := 10) rfl <| .nil) ?_)
      replace hO := hO.drop
      exact At.againC (.cons (t := 1) rfl <| .cons (t := 8) rfl <| .cons (t := 9) rfl <| .nil) (i + 1, _) (.cons (t := 5) rfl <| .cons (t := 10) rfl <| .nil) ⟨hO, (by show GrI _ _ _ _ ((l.take (i + 1)).foldl (workStep a) []); rw [hst]; first | exact hG.drop.drop | exact hG.drop | exact hG), hk⟩ (by show l.length - (i + 1) < l.length - i; omega)
  · have hge : l.length ≤ i := by have := of_decide_eq_false hlt; omega
    refine At.exit rfl ?_
    refine At.seq (At.reg ?_)
    refine At.v (RunV.move rfl) rfl ?_
    refine At.v (RunV.assign rfl) rfl ?_
    refine At.nil (At.keep (.cons (t := 4) rfl <| .nil) ?_)
    refine At.ret ?_
    refine At.result1 rfl rfl ?_
    refine ⟨?_, hO.le⟩
    rw [List.take_of_length_le (by omega)] at hG
    exact hG.slOf (by have := fold_len (workStep_len a) l []; rw [List.length_nil] at this; omega)

theorem rworked_c (l : List Ev) (a : Int) (ev : Value) (w : World) (hE : EvsR G0 w ev l) (hl : l.length ≤ 300) :
    Ret Try.prog 13 [ev, .int .i64 a] w fun v w' => SlOf G0 1 IR w' v (workB l a) ∧ Le w w' := by
  refine Ret.enter Try.func13 rfl Try.ntmps13 rfl rfl ?_
  have hO := Own.start w
  obtain ⟨ea, ec, rfl, hele, hecap⟩ := SlOf.val hE
  refine At.seq (At.reg ?_)
  refine At.v (RunV.assign rfl) rfl ?_
  refine At.nil (At.keep (.cons (t := 0) rfl <| .cons (t := 1) rfl <| .nil) ?_)
  refine At.seq (At.reg ?_)
  refine At.v (RunV.assign rfl) rfl ?_
  refine At.nil (At.keep (.cons (t := 0) rfl <| .cons (t := 1) rfl <| .cons (t := 5) rfl <| .nil) ?_)
  refine At.seq ?_
  refine At.seq (At.reg ?_)
  refine At.v (RunV.assign rfl) rfl ?_
  refine At.nil (At.keep (.cons (t := 0) rfl <| .cons (t := 1) rfl <| .cons (t := 5) rfl <| .cons (t := 6) rfl <| .nil) ?_)
  refine At.block ?_
  refine At.loopC (σ := Nat × Value) (.cons (t := 0) rfl <| .cons (t := 1) rfl <| .nil) (fun s => [(5, s.2), (6, .int .i64 (s.1 : Int))]) (fun s wl => Own w [] wl ∧ GrI w.heap.size [] wl s.2 ((l.take s.1).foldl (workStep a) []) ∧ s.1 ≤ l.length) (fun s => l.length - s.1) (0, .slice none 0 0) (.cons (t := 5) rfl <| .cons (t := 6) rfl <| .nil) ⟨hO, GrI.nil, Nat.zero_le _⟩ ?_
  intro s w1 hinv
  obtain ⟨i, v⟩ := s
  refine At.keep (.cons (t := 0) rfl <| .cons (t := 1) rfl <| .cons (t := 5) (v := v) rfl <| .cons (t := 6) (v := .int .i64 (i : Int)) rfl <| .nil) ?_
  have hO : Own w [] w1 := hinv.1
  have hG : GrI w.heap.size [] w1 v ((l.take i).foldl (workStep a) []) := hinv.2.1
  have hi : i ≤ l.length := hinv.2.2
  refine At.seq ?_
  refine At.seq (At.reg ?_)
  refine At.v (RunV.move rfl) rfl ?_
  refine At.v (RunV.move rfl) rfl ?_
  refine At.v (RunV.lenSl rfl isl25) rfl ?_
  refine At.v (RunV.ltI rfl rfl) rfl ?_
  refine At.nil (At.keep (.cons (t := 0) rfl <| .cons (t := 1) rfl <| .cons (t := 5) rfl <| .cons (t := 6) rfl <| .cons (t := 10) rfl <| .nil) ?_)
  refine At.cond rfl (fun hlt => ?_) (fun hlt => ?_)
  · refine At.skip ?_
    refine At.seq ?_
    refine At.block ?_
    have hk : i < l.length := by have := of_decide_eq_true hlt; omega
    obtain ⟨x, hx⟩ : ∃ x, l[i]? = some x := ⟨_, List.getElem?_eq_getElem hk⟩
    obtain ⟨eb, eoff, ecap, ecs, hv9, _, _, hR9, herow⟩ := SlOf.at (hE.le hO.le) hx
    cases hv9
    cases hR9
    have hlen : ((l.take i).foldl (workStep a) []).length ≤ 300 := by
      have := fold_len (workStep_len a) (l.take i) []
      rw [List.length_take, List.length_nil] at this; omega
    refine At.seq (At.reg ?_)
    refine At.v (RunV.move rfl) rfl ?_
    refine At.v (RunV.move rfl) rfl ?_
    refine At.v (RunV.index st25_32_9 rfl rfl rfl hk rfl) rfl ?_
    refine At.v (RunV.field ft32_0_0 rfl rfl) rfl ?_
    refine At.v (RunV.load ct3 rfl (herow.cell (i := 0) rfl)) rfl ?_
    refine At.v (RunV.eqI rfl rfl) rfl ?_
    refine At.v (RunV.move rfl) rfl ?_
    refine At.g (Guard.t rfl rfl rfl) (fun hc => RunV.move rfl) rfl ?_
    refine At.g (Guard.t rfl rfl rfl) (fun hc => RunV.move rfl) rfl ?_
    refine At.g (Guard.t rfl rfl rfl) (fun hc => RunV.index st25_32_9 (gvE rfl hc) (gvE rfl hc) rfl hk rfl) rfl ?_
    refine At.keep (.cons (t := 0) rfl <| .cons (t := 1) rfl <| .cons (t := 5) rfl <| .cons (t := 6) rfl <| .cons (t := 19) rfl <| .cons (t := 22) rfl <| .nil) ?_
    refine At.g (Guard.t rfl rfl rfl) (fun hc => RunV.field ft32_1_1 (gvE rfl hc) rfl) rfl ?_
    refine At.g (Guard.t rfl rfl rfl) (fun hc => RunV.load ct3 (gvE rfl hc) (herow.cell (i := 1) rfl)) rfl ?_
    refine At.g (Guard.t rfl rfl rfl) (fun hc => RunV.move rfl) rfl ?_
    refine At.g (Guard.t rfl rfl rfl) (fun hc => RunV.eqI (gvE rfl hc) (gvE rfl hc)) rfl ?_
    refine At.v (RunV.pickAnd rfl rfl) rfl ?_
    refine At.nil (At.keep (.cons (t := 0) rfl <| .cons (t := 1) rfl <| .cons (t := 5) rfl <| .cons (t := 6) rfl <| .cons (t := 27) rfl <| .nil) ?_)
    refine At.cond rfl (fun hc => ?_) (fun hc => ?_)
    · have hst : (l.take (i + 1)).foldl (workStep a) [] = (l.take i).foldl (workStep a) [] ++ [x.id] := by
        rw [take_succ_fold _ _ hx]; exact if_pos hc
      refine At.reg ?_
      refine At.v (RunV.move rfl) rfl ?_
      refine At.v (RunV.move rfl) rfl ?_
      refine At.v (RunV.move rfl) rfl ?_
      refine At.v (RunV.index st25_32_9 rfl rfl rfl hk rfl) rfl ?_
      refine At.v (RunV.field ft32_2_2 rfl rfl) rfl ?_
      refine At.v (RunV.load ct30 rfl (herow.cell (i := 2) rfl)) rfl ?_
      refine At.step rfl (Step.buildSlice hO st36_30_1 zt30 rfl rfl rfl rfl (fill_full rfl rfl) ?_)
      intro b34 w2 hO hlb34 hnb34
      replace hG := hG.add hlb34 hnb34
      refine At.step rfl (Step.append st36_30_1 isl36 el30_1 rfl rfl hG.sl ⟨_, _, rfl, .inr ⟨b34, 0, rfl, (hO.at (i := 0) rfl).row⟩⟩ rfl rfl (by omega) ?_)
      intro v2 w3 hS hM
      obtain ⟨hO, hG⟩ := hO.movedI hG hO.le.size (Nat.le_refl _) hM hS
      refine At.v (RunV.assign rfl) rfl ?_
      refine At.nil (At.keep (.cons (t := 0) rfl <| .cons (t := 1) rfl <| .cons (t := 5) rfl <| .cons (t := 6) rfl <| .nil) ?_)
      refine At.reg ?_
      refine At.v (RunV.move rfl) rfl ?_
      refine At.v (RunV.inc rfl rfl (by omega)) rfl ?_
      refine At.v (RunV.assign rfl) rfl ?_
      refine At.nil (At.keep (.cons (t := 0) rfl <| .cons (t := 1) rfl <| .cons (t := 5) rfl <| .cons (t := 6) rfl <| .nil) ?_)
      replace hO := hO.drop
      exact At.againC (.cons (t := 0) rfl <| .cons (t := 1) rfl <| .nil) (i + 1, _) (.cons (t := 5) rfl <| .cons (t := 6) rfl <| .nil) ⟨hO, (by show GrI _ _ _ _ ((l.take (i + 1)).foldl (workStep a) []); rw [hst]; first | exact hG.drop.drop | exact hG.drop | exact hG), hk⟩ (by show l.length - (i + 1) < l.length - i; omega)
    · have hst : (l.take (i + 1)).foldl (workStep a) [] = (l.take i).foldl (workStep a) [] := by
        rw [take_succ_fold _ _ hx]; exact if_neg (by rw [hc]; exact Bool.false_ne_true)
      refine At.skip ?_
      refine At.reg ?_
      refine At.v (RunV.move rfl) rfl ?_
      refine At.v (RunV.inc rfl rfl (by omega)) rfl ?_
      refine At.v (RunV.assign rfl) rfl ?_
      refine At.nil (At.keep (.cons (t := 0) rfl <| .cons (t := 1) rfl <| .cons (t := 5) rfl <| .cons (t := 6) rfl <| .nil) ?_)
      exact At.againC (.cons (t := 0) rfl <| .cons (t := 1) rfl <| .nil) (i + 1, _) (.cons (t := 5) rfl <| .cons (t := 6) rfl <| .nil) ⟨hO, (by show GrI _ _ _ _ ((l.take (i + 1)).foldl (workStep a) []); rw [hst]; first | exact hG.drop.drop | exact hG.drop | exact hG), hk⟩ (by show l.length - (i + 1) < l.length - i; omega)
  · have hge : l.length ≤ i := by have := of_decide_eq_false hlt; omega
    refine At.exit rfl ?_
    refine At.seq (At.reg ?_)
    refine At.v (RunV.move rfl) rfl ?_
    refine At.v (RunV.assign rfl) rfl ?_
    refine At.nil (At.keep (.cons (t := 4) rfl <| .nil) ?_)
    refine At.ret ?_
    refine At.result1 rfl rfl ?_
    refine ⟨?_, hO.le⟩
    rw [List.take_of_length_le (by omega)] at hG
    exact hG.slOf (by have := fold_len (workStep_len a) l []; rw [List.length_nil] at this; omega)

end Go.Proofs.Ytglilmcfhkedbaa
