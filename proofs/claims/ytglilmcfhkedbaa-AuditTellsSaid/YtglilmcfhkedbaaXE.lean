/- The walk of AuditTells; no condition. -/
import Derived.Test.YtglilmcfhkedbaaXD
namespace Go.Proofs.Ytglilmcfhkedbaa
open Go Go.RowKit



set_option maxHeartbeats 1600000 in
theorem tells_c (l : List Ev) (f t : Int) (ev : Value) (w : World) (hE : EvsR G0 w ev l) :
    Ret Try.prog 6 [ev, .int .i64 f, .int .i64 t] w fun v w' => v = .bool true ∧ Le w w' := by
  refine Ret.enter Try.func6 rfl Try.ntmps6 rfl rfl ?_
  have hO := Own.start w
  obtain ⟨ea, ec, rfl, hele, hecap⟩ := SlOf.val hE
  refine At.seq (At.reg ?_)
  refine At.v (RunV.assign rfl) rfl ?_
  refine At.nil (At.keep (.cons (t := 0) rfl <| .cons (t := 1) rfl <| .cons (t := 2) rfl <| .nil) ?_)
  refine At.seq ?_
  refine At.seq (At.reg ?_)
  refine At.callE hO rfl pf7 rfl (alive_c _) rfl ?_
  intro w1 hO hl
  refine At.v (RunV.not rfl) rfl ?_
  refine At.nil (At.keep (.cons (t := 0) rfl <| .cons (t := 1) rfl <| .cons (t := 2) rfl <| .cons (t := 8) rfl <| .nil) ?_)
  refine At.cond rfl (fun h1 => absurd h1 Bool.false_ne_true) (fun h1 => ?_)
  refine At.skip ?_
  refine At.seq ?_
  refine At.seq (At.reg ?_)
  refine At.v (RunV.move rfl) rfl ?_
  refine At.v (RunV.lenSl rfl isl25) rfl ?_
  refine At.v (RunV.gtI rfl rfl) rfl ?_
  refine At.nil (At.keep (.cons (t := 0) rfl <| .cons (t := 1) rfl <| .cons (t := 2) rfl <| .cons (t := 11) rfl <| .nil) ?_)
  refine At.cond rfl (fun hg => ?_) (fun hg => ?_)
  · refine At.seq (At.reg ?_)
    refine At.v (RunV.assign rfl) rfl ?_
    refine At.nil (At.keep (.cons (t := 6) rfl <| .nil) ?_)
    refine At.ret ?_
    refine At.result1 rfl rfl ?_
    exact ⟨rfl, hO.le⟩
  · replace hg : l.length ≤ 300 := by simp at hg; omega
    refine At.skip ?_
    refine At.seq (At.reg ?_)
    refine At.v (RunV.move rfl) rfl ?_
    refine At.v (RunV.move rfl) rfl ?_
    refine At.v (RunV.move rfl) rfl ?_
    refine At.step rfl (Step.call rfl pf10 rfl (arrived_c l f t _ _ (hE.le hO.le) hg) ?_)
    intro v15 w2 hr
    obtain ⟨hv15, hl9⟩ := hr
    replace hO := hO.on hl9
    refine At.v (RunV.move rfl) rfl ?_
    refine At.v (RunV.move rfl) rfl ?_
    refine At.v (RunV.move rfl) rfl ?_
    refine At.step rfl (Step.call rfl pf11 rfl (rarrived_c l f t _ _ (hE.le hO.le) hg) ?_)
    intro v19 w3 hr
    obtain ⟨hv19, hl9⟩ := hr
    replace hO := hO.on hl9
    replace hv15 := hv15.le (R' := IR) hl9 fun _ _ _ h => h
    refine At.step rfl (Step.call rfl pf9 rfl (same_c (arrB l f t) _ _ _ hv15 hv19) ?_)
    intro vb w4 hr
    obtain ⟨rfl, hl9⟩ := hr
    replace hO := hO.on hl9
    refine At.v (RunV.move rfl) rfl ?_
    refine At.keep (.cons (t := 0) rfl <| .cons (t := 2) rfl <| .cons (t := 21) rfl <| .nil) ?_
    refine At.g (Guard.t rfl rfl rfl) (fun hc => RunV.move rfl) rfl ?_
    refine At.g (Guard.t rfl rfl rfl) (fun hc => RunV.move rfl) rfl ?_
    refine At.gstep (Guard.t rfl rfl rfl) rfl (fun hc => Step.call rfl pf12 (evL2 (gvE rfl hc) (gvE rfl hc)) (worked_c l t _ _ (hE.le hO.le) hg) ?_) (fun h => by cases h)
    intro v24 w5 hr
    obtain ⟨hv24, hl9⟩ := hr
    replace hO := hO.on hl9
    refine At.g (Guard.t rfl rfl rfl) (fun hc => RunV.move rfl) rfl ?_
    refine At.g (Guard.t rfl rfl rfl) (fun hc => RunV.move rfl) rfl ?_
    refine At.gstep (Guard.t rfl rfl rfl) rfl (fun hc => Step.call rfl pf13 (evL2 (gvE rfl hc) (gvE rfl hc)) (rworked_c l t _ _ (hE.le hO.le) hg) ?_) (fun h => by cases h)
    intro v27 w6 hr
    obtain ⟨hv27, hl9⟩ := hr
    replace hO := hO.on hl9
    replace hv24 := hv24.le (R' := IR) hl9 fun _ _ _ h => h
    refine At.gstep (Guard.t rfl rfl rfl) rfl (fun hc => Step.call rfl pf9 rfl (same_c (workB l t) _ _ _ hv24 hv27) ?_) (fun h => by cases h)
    intro vb w7 hr
    obtain ⟨rfl, hl9⟩ := hr
    replace hO := hO.on hl9
    refine At.v (RunV.pickAnd rfl rfl) rfl ?_
    refine At.v (RunV.assign rfl) rfl ?_
    refine At.nil (At.keep (.cons (t := 6) rfl <| .nil) ?_)
    refine At.ret ?_
    refine At.result1 rfl rfl ?_
    exact ⟨rfl, hO.le⟩

end Go.Proofs.Ytglilmcfhkedbaa
