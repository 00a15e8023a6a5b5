/- The walks of audit's dead and sent; no condition. -/
import Derived.Test.YtglilmcfhkedbaaAd
namespace Go.Proofs.Ytglilmcfhkedbaa
open Go Go.RowKit

theorem ag32_9 : aggT Try.prog 32 9 = true := by kernel_rfl
theorem el82_1 : elemT Try.prog 82 1 = true := by kernel_rfl
theorem ft32_4_4 : fieldT Try.prog 32 4 4 = true := by kernel_rfl
theorem ft32_8_8 : fieldT Try.prog 32 8 8 = true := by kernel_rfl
theorem ft84_1_9 : fieldT Try.prog 84 1 9 = true := by kernel_rfl
theorem ft84_3_11 : fieldT Try.prog 84 3 11 = true := by kernel_rfl
theorem sz47_1 : sizeT Try.prog 47 1 = true := by kernel_rfl
theorem pl84 : placesT Try.prog 84 = some [(0, 9), (9, 1), (10, 1), (11, 1)] := by kernel_rfl
theorem zt82 : zeroT Try.prog 82 [.pointer none] := by unfold zeroT; kernel_rfl
theorem zt84 : zeroT Try.prog 84 [.int .i64 0, .int .i64 0, .int .u64 0, .int .i64 0, .int .i64 0, .string ByteArray.empty, .int .i64 0, .int .i64 0, .bool false, .bool false, .bool false, .bool false] := by unfold zeroT; kernel_rfl

set_option maxHeartbeats 800000 in
theorem dead_c (B0 N bb : Nat) (b : Bk) (pv av lv : Value) (ab lb : List Nat) (e : Ev) (w : World) (hN : N ≤ 100000) (h : BR B0 N w bb b pv av lv ab lb) :
    Ret Try.prog 20 [.pointer (some ⟨bb, 0, none⟩), .agg (e.cells).toArray] w fun v w' => RuleP B0 N w bb (stDead b e) v w' := by
  refine Ret.enter Try.func20 rfl Try.ntmps20 rfl rfl ?_
  have hO := Own.start w
  obtain ⟨om, hom, m, hM, hM2⟩ := h.ltrD e.id
  obtain ⟨ot, hot, t, kv, ku, wx, ep, em, ec, st, ps, f, hT, hT2⟩ := h.actD e.to
  have hrl : [(6, ((ptrO om (axOf lb e.id)).isSome && m.held) && decide (m.ev.to = e.to)), (6, (decide (1 ≤ e.why) && decide (e.why ≤ 5)) && (decide (e.why = 3) == decide (e.to = 0))), (6, !decide (e.why = 2) || isB [4, 5] ot), (6, (ptrO om (axOf lb e.id)).isNone || ((!decide (e.why = 4) || m.ev.timed) && (!decide (e.why = 5) || m.notice)))] = deadRules b e := by
    unfold deadRules; rw [hom, hot]
    cases om with
    | none => rfl
    | some m' =>
      obtain ⟨h9, _⟩ := hM rfl
      cases h9
      simp [ptrO, optB]
  replace h := h
  have hlo := h.loa
  refine At.seq (At.reg ?_)
  refine At.step rfl (Step.box hO rfl rfl ?_)
  intro b3 w1 hO hlb3 hnb3
  refine At.v (RunV.assign rfl) rfl ?_
  refine At.nil (At.keep (.cons (t := 0) rfl <| .cons (t := 3) rfl <| .nil) ?_)
  refine At.seq (At.pi hmix (.take 0 (.take 1 (.take 2 (.take 3 (.take 4 (.take 5 (.take 6 (.take 7 (.take 8 (.take 9 .done)))))))))) (by kernel_rfl) (by kernel_rfl) ?_)
  intro w2 hs
  have hs0 := hs
  have hR := hO
  replace hO := hO.on hs
  refine At.take rfl (fun w' hs' => RunV.move rfl) rfl ?_
  refine At.take rfl (fun w' hs' => RunV.field ft32_2_2 rfl rfl) rfl ?_
  refine At.take rfl (fun w' hs' => RunV.load ct30 rfl (((hR.at (i := 0) rfl).le hs').cell rfl)) rfl ?_
  refine At.takeCall rfl rfl pf39 rfl (fun w' hs' => bltrO_c om e.id hom hN (h.le (hR.le.tr hs'))) rfl ?_
  refine At.take rfl (fun w' hs' => RunV.move rfl) rfl ?_
  refine At.take rfl (fun w' hs' => RunV.field ft32_4_4 rfl rfl) rfl ?_
  refine At.take rfl (fun w' hs' => RunV.load ct3 rfl (((hR.at (i := 0) rfl).le hs').cell rfl)) rfl ?_
  refine At.takeCall rfl rfl pf35 rfl (fun w' hs' => bactO_c ot e.to hot hN (h.le (hR.le.tr hs'))) rfl ?_
  refine At.take rfl (fun w' hs' => RunV.assign rfl) rfl ?_
  refine At.take rfl (fun w' hs' => RunV.assign rfl) rfl ?_
  refine At.pdone (At.keep (.cons (t := 3) rfl <| .cons (t := 5) rfl <| .cons (t := 6) rfl <| .nil) ?_)
  refine At.seq (At.pi hmix (.take 0 (.take 1 (.take 2 (.take 3 (.take 4 (.take 5 (.take 6 (.take 7 (.take 8 (.take 9 (.take 10 (.take 11 (.take 12 (.take 13 (.take 14 (.take 15 (.take 16 (.take 17 (.take 18 (.take 19 (.take 20 (.take 21 (.take 22 (.take 23 (.take 24 (.take 25 (.take 26 (.take 27 (.take 28 (.take 29 (.take 30 (.take 31 (.take 32 (.take 33 (.take 34 (.take 35 (.take 36 (.take 37 (.take 38 (.take 39 (.take 40 (.take 41 (.take 46 (.take 47 (.run 42 (.run 43 (.take 44 (.take 45 (.take 48 (.take 49 (.take 50 (.take 51 (.take 52 (.take 53 (.take 54 (.take 55 (.take 56 (.take 57 (.take 58 (.take 59 (.take 60 (.take 61 (.take 62 (.take 63 (.take 64 (.take 65 (.take 66 (.take 67 (.take 68 (.take 69 (.take 70 (.take 71 (.run 72 (.run 73 (.take 74 .done))))))))))))))))))))))))))))))))))))))))))))))))))))))))))))))))))))))))))) (by kernel_rfl) (by kernel_rfl) ?_)
  intro w3 hs
  have hs0 := hs
  have hR := hO
  replace hO := hO.on hs
  refine At.take rfl (fun w' hs' => RunV.move rfl) rfl ?_
  refine At.take rfl (fun w' hs' => RunV.neNil rfl un82) rfl ?_
  refine At.take rfl (fun w' hs' => RunV.move rfl) rfl ?_
  refine At.takeG rfl (Guard.t rfl rfl rfl) (fun hc w' hs' => RunV.move rfl) rfl ?_
  refine At.takeG rfl (Guard.t rfl rfl rfl) (fun hc w' hs' => RunV.nilCheckO (gvE rfl hc) (by revert hc; cases om <;> simp [ptrO, isB, worksB, optB])) rfl ?_
  refine At.takeG rfl (Guard.t rfl rfl rfl) (fun hc w' hs' => RunV.field ft84_3_11 (gvE rfl hc) rfl) rfl ?_
  refine At.takeG rfl (Guard.t rfl rfl rfl) (fun hc w' hs' => RunV.load ct4 (gvE rfl hc) (cell_le (Blk.cell (hM.blk (by revert hc; cases om <;> simp [ptrO, isB, worksB, optB])) rfl) (hR.le.tr hs'))) rfl ?_
  refine At.take rfl (fun w' hs' => RunV.pickAnd rfl rfl) rfl ?_
  refine At.take rfl (fun w' hs' => RunV.move rfl) rfl ?_
  refine At.takeG rfl (Guard.t rfl rfl rfl) (fun hc w' hs' => RunV.move rfl) rfl ?_
  refine At.keep (.cons (t := 3) rfl <| .cons (t := 5) rfl <| .cons (t := 6) rfl <| .cons (t := 24) rfl <| .cons (t := 25) rfl <| .nil) ?_
  refine At.takeG rfl (Guard.t rfl rfl rfl) (fun hc w' hs' => RunV.nilCheckO (gvE rfl hc) (by revert hc; cases om <;> simp [ptrO, isB, worksB, optB])) rfl ?_
  refine At.takeG rfl (Guard.t rfl rfl rfl) (fun hc w' hs' => RunV.field ft84_0_0 (gvE rfl hc) rfl) rfl ?_
  refine At.takeG rfl (Guard.t rfl rfl rfl) (fun hc w' hs' => RunV.field ft32_4_4 (gvE rfl hc) rfl) rfl ?_
  refine At.takeG rfl (Guard.t rfl rfl rfl) (fun hc w' hs' => RunV.load ct3 (gvE rfl hc) (cell_le (Blk.cell (hM.blk (by revert hc; cases om <;> simp [ptrO, isB, worksB, optB])) rfl) (hR.le.tr hs'))) rfl ?_
  refine At.takeG rfl (Guard.t rfl rfl rfl) (fun hc w' hs' => RunV.field ft32_4_4 rfl rfl) rfl ?_
  refine At.takeG rfl (Guard.t rfl rfl rfl) (fun hc w' hs' => RunV.load ct3 (gvE rfl hc) (((hR.at (i := 0) rfl).le hs').cell rfl)) rfl ?_
  refine At.takeG rfl (Guard.t rfl rfl rfl) (fun hc w' hs' => RunV.eqI (gvE rfl hc) (gvE rfl hc)) rfl ?_
  refine At.take rfl (fun w' hs' => RunV.pickAnd rfl rfl) rfl ?_
  refine At.take rfl (fun w' hs' => RunV.build pl81 zt81 rfl rfl) rfl ?_
  refine At.take rfl (fun w' hs' => RunV.field ft32_7_7 rfl rfl) rfl ?_
  refine At.keep (.cons (t := 3) rfl <| .cons (t := 5) rfl <| .cons (t := 6) rfl <| .cons (t := 34) rfl <| .cons (t := 35) rfl <| .nil) ?_
  refine At.take rfl (fun w' hs' => RunV.load ct3 rfl (((hR.at (i := 0) rfl).le hs').cell rfl)) rfl ?_
  refine At.take rfl (fun w' hs' => RunV.geI rfl rfl) rfl ?_
  refine At.take rfl (fun w' hs' => RunV.move rfl) rfl ?_
  refine At.takeG rfl (Guard.t rfl rfl rfl) (fun hc w' hs' => RunV.field ft32_7_7 rfl rfl) rfl ?_
  refine At.takeG rfl (Guard.t rfl rfl rfl) (fun hc w' hs' => RunV.load ct3 (gvE rfl hc) (((hR.at (i := 0) rfl).le hs').cell rfl)) rfl ?_
  refine At.takeG rfl (Guard.t rfl rfl rfl) (fun hc w' hs' => RunV.leI (gvE rfl hc) rfl) rfl ?_
  refine At.take rfl (fun w' hs' => RunV.pickAnd rfl rfl) rfl ?_
  refine At.take rfl (fun w' hs' => RunV.move rfl) rfl ?_
  refine At.takeG rfl (Guard.t rfl rfl rfl) (fun hc w' hs' => RunV.field ft32_7_7 rfl rfl) rfl ?_
  refine At.takeG rfl (Guard.t rfl rfl rfl) (fun hc w' hs' => RunV.load ct3 (gvE rfl hc) (((hR.at (i := 0) rfl).le hs').cell rfl)) rfl ?_
  refine At.keep (.cons (t := 3) rfl <| .cons (t := 5) rfl <| .cons (t := 6) rfl <| .cons (t := 34) rfl <| .cons (t := 43) rfl <| .cons (t := 45) rfl <| .nil) ?_
  refine At.takeG rfl (Guard.t rfl rfl rfl) (fun hc w' hs' => RunV.eqI (gvE rfl hc) rfl) rfl ?_
  refine At.takeG rfl (Guard.t rfl rfl rfl) (fun hc w' hs' => RunV.field ft32_4_4 rfl rfl) rfl ?_
  refine At.takeG rfl (Guard.t rfl rfl rfl) (fun hc w' hs' => RunV.load ct3 (gvE rfl hc) (((hR.at (i := 0) rfl).le hs').cell rfl)) rfl ?_
  refine At.takeG rfl (Guard.t rfl rfl rfl) (fun hc w' hs' => RunV.eqI (gvE rfl hc) rfl) rfl ?_
  refine At.takeG rfl (Guard.t rfl rfl rfl) (fun hc w' hs' => RunV.eqB (gvE rfl hc) (gvE rfl hc) un4) rfl ?_
  refine At.take rfl (fun w' hs' => RunV.pickAnd rfl rfl) rfl ?_
  refine At.take rfl (fun w' hs' => RunV.build pl81 zt81 rfl rfl) rfl ?_
  refine At.take rfl (fun w' hs' => RunV.field ft32_7_7 rfl rfl) rfl ?_
  refine At.take rfl (fun w' hs' => RunV.load ct3 rfl (((hR.at (i := 0) rfl).le hs').cell rfl)) rfl ?_
  refine At.take rfl (fun w' hs' => RunV.neI rfl rfl) rfl ?_
  refine At.keep (.cons (t := 3) rfl <| .cons (t := 5) rfl <| .cons (t := 6) rfl <| .cons (t := 34) rfl <| .cons (t := 52) rfl <| .cons (t := 55) rfl <| .nil) ?_
  refine At.take rfl (fun w' hs' => RunV.move rfl) rfl ?_
  refine At.takeG rfl (Guard.f rfl rfl rfl) (fun hc w' hs' => RunV.move rfl) rfl ?_
  refine At.take rfl (fun w' hs' => RunV.move rfl) rfl ?_
  refine At.take rfl (fun w' hs' => RunV.eqNil rfl un82) rfl ?_
  refine At.prunGB hO hs rfl (Guard.f rfl rfl rfl) st97_3_1 zt3 rfl rfl rfl rfl (fill_full rfl rfl) rfl ?_
  intro b58 w4 hO hs hblk58
  refine At.prunGE hO hs rfl (Guard.f rfl rfl rfl) (fun hc => rfl) pf37 (fun hc => (evL2 (gvE rfl hc) (gvE rfl hc))) (fun hc => (is_c ot _ t kv ku wx _ st ps f _ (hT.le hO.le) _ 2 [4, 5] (by decide) (hblk58 hc).row).mono fun _ _ h => ⟨h.1, h.2 ▸ Le.rfl' _⟩) rfl ?_
  intro w5 hO hs
  refine At.take rfl (fun w' hs' => RunV.pickOr rfl rfl) rfl ?_
  refine At.take rfl (fun w' hs' => RunV.build pl81 zt81 rfl rfl) rfl ?_
  refine At.take rfl (fun w' hs' => RunV.move rfl) rfl ?_
  refine At.takeG rfl (Guard.f rfl rfl rfl) (fun hc w' hs' => RunV.field ft32_7_7 rfl rfl) rfl ?_
  refine At.keep (.cons (t := 3) rfl <| .cons (t := 5) rfl <| .cons (t := 34) rfl <| .cons (t := 52) rfl <| .cons (t := 61) rfl <| .cons (t := 64) rfl <| .cons (t := 65) rfl <| .nil) ?_
  refine At.takeG rfl (Guard.f rfl rfl rfl) (fun hc w' hs' => RunV.load ct3 (gvE rfl hc) (((hR.at (i := 0) rfl).le hs').cell rfl)) rfl ?_
  refine At.takeG rfl (Guard.f rfl rfl rfl) (fun hc w' hs' => RunV.neI (gvE rfl hc) rfl) rfl ?_
  refine At.takeG rfl (Guard.f rfl rfl rfl) (fun hc w' hs' => RunV.move (gvE rfl hc)) rfl ?_
  refine At.takeG rfl (Guard.gf rfl rfl rfl) (fun hc w' hs' => RunV.move rfl) rfl ?_
  refine At.takeG rfl (Guard.gf rfl rfl rfl) (fun hc w' hs' => RunV.nilCheckO (gvE rfl hc) (by revert hc; cases om <;> simp [ptrO, isB, worksB, optB])) rfl ?_
  refine At.takeG rfl (Guard.gf rfl rfl rfl) (fun hc w' hs' => RunV.field ft84_0_0 (gvE rfl hc) rfl) rfl ?_
  refine At.takeG rfl (Guard.gf rfl rfl rfl) (fun hc w' hs' => RunV.field ft32_8_8 (gvE rfl hc) rfl) rfl ?_
  refine At.takeG rfl (Guard.gf rfl rfl rfl) (fun hc w' hs' => RunV.load ct4 (gvE rfl hc) (cell_le (Blk.cell (hM.blk (by revert hc; cases om <;> simp [ptrO, isB, worksB, optB])) rfl) (hR.le.tr hs'))) rfl ?_
  refine At.takeG rfl (Guard.f rfl rfl rfl) (fun hc w' hs' => RunV.pickOr (gvE rfl hc) (gvE2 rfl hc)) rfl ?_
  refine At.takeG rfl (Guard.f rfl rfl rfl) (fun hc w' hs' => RunV.move (gvE rfl hc)) rfl ?_
  refine At.keep (.cons (t := 3) rfl <| .cons (t := 5) rfl <| .cons (t := 34) rfl <| .cons (t := 52) rfl <| .cons (t := 61) rfl <| .cons (t := 64) rfl <| .cons (t := 75) rfl <| .nil) ?_
  refine At.takeG rfl (Guard.gt rfl rfl rfl) (fun hc w' hs' => RunV.field ft32_7_7 rfl rfl) rfl ?_
  refine At.takeG rfl (Guard.gt rfl rfl rfl) (fun hc w' hs' => RunV.load ct3 (gvE rfl hc) (((hR.at (i := 0) rfl).le hs').cell rfl)) rfl ?_
  refine At.takeG rfl (Guard.gt rfl rfl rfl) (fun hc w' hs' => RunV.neI (gvE rfl hc) rfl) rfl ?_
  refine At.takeG rfl (Guard.gt rfl rfl rfl) (fun hc w' hs' => RunV.move (gvE rfl hc)) rfl ?_
  refine At.takeG rfl (Guard.gf rfl rfl rfl) (fun hc w' hs' => RunV.move rfl) rfl ?_
  refine At.takeG rfl (Guard.gf rfl rfl rfl) (fun hc w' hs' => RunV.nilCheckO (gvE rfl hc) (by revert hc; cases om <;> simp [ptrO, isB, worksB, optB])) rfl ?_
  refine At.takeG rfl (Guard.gf rfl rfl rfl) (fun hc w' hs' => RunV.field ft84_1_9 (gvE rfl hc) rfl) rfl ?_
  refine At.takeG rfl (Guard.gf rfl rfl rfl) (fun hc w' hs' => RunV.load ct4 (gvE rfl hc) (cell_le (Blk.cell (hM.blk (by revert hc; cases om <;> simp [ptrO, isB, worksB, optB])) rfl) (hR.le.tr hs'))) rfl ?_
  refine At.takeG rfl (Guard.gt rfl rfl rfl) (fun hc w' hs' => RunV.pickOr (gvE rfl hc) (gvE2 rfl hc)) rfl ?_
  refine At.takeG rfl (Guard.f rfl rfl rfl) (fun hc w' hs' => RunV.pickAnd (gvE rfl hc) (gvE2 rfl hc)) rfl ?_
  refine At.keep (.cons (t := 5) rfl <| .cons (t := 34) rfl <| .cons (t := 52) rfl <| .cons (t := 61) rfl <| .cons (t := 64) rfl <| .cons (t := 85) rfl <| .nil) ?_
  refine At.take rfl (fun w' hs' => RunV.pickOr rfl rfl) rfl ?_
  refine At.take rfl (fun w' hs' => RunV.build pl81 zt81 rfl rfl) rfl ?_
  refine At.prun rfl rfl (Step.buildSlice hO st110_81_2 zt81 rfl rfl rfl rfl (fill_full rfl rfl) ?_)
  intro b88 w6 hO hlb88 hnb88
  have hzb88 := Nat.le_trans hs.size hnb88
  refine ⟨hs.tr hlb88, ?_⟩
  replace hs := hs.tr hlb88
  refine At.prunE hO hs rfl rfl pf38 rfl (broken_c _ _ [(6, ((ptrO om (axOf lb e.id)).isSome && m.held) && decide (m.ev.to = e.to)), (6, (decide (1 ≤ e.why) && decide (e.why ≤ 5)) && (decide (e.why = 3) == decide (e.to = 0))), (6, !decide (e.why = 2) || isB [4, 5] ot), (6, (ptrO om (axOf lb e.id)).isNone || ((!decide (e.why = 4) || m.ev.timed) && (!decide (e.why = 5) || m.notice)))] (by simp) _ (hO.at (i := 0) rfl).row) rfl ?_
  intro w7 hO hs
  refine At.take rfl (fun w' hs' => RunV.assign rfl) rfl ?_
  refine At.pdone (At.keep (.cons (t := 5) rfl <| .cons (t := 7) rfl <| .nil) ?_)
  refine At.seq ?_
  refine At.seq (At.reg ?_)
  refine At.v (RunV.move rfl) rfl ?_
  refine At.v (RunV.eqI rfl rfl) rfl ?_
  refine At.nil (At.keep (.cons (t := 5) rfl <| .cons (t := 7) rfl <| .cons (t := 91) rfl <| .nil) ?_)
  refine At.cond rfl (fun hc => ?_) (fun hc => ?_)
  · rw [hrl] at hc ⊢
    have hc0 : brokenR (deadRules b e) = 0 := of_decide_eq_true hc
    rw [hc0]
    have hsM : om.isSome = true := by
      cases om with
      | some a' => rfl
      | none =>
        unfold deadRules at hc0; rw [hom] at hc0
        simp [brokenR, optB] at hc0
    obtain ⟨rfl, hmblk⟩ := hM hsM
    obtain ⟨_, _, hxi⟩ := hM2 hsM
    refine At.reg ?_
    refine At.v (RunV.move rfl) rfl ?_
    refine At.v (RunV.nilCheckO rfl hsM) rfl ?_
    refine At.v (RunV.field ft84_3_11 rfl rfl) rfl ?_
    refine At.step_ (Step.storeX (ds := [.bool false]) (hmblk.le hO.le) rfl rfl rfl sz4_1 rfl rfl rfl ?_)
    intro w8 hbut hblk2
    have hl0 := hO.le
    clear hO
    refine At.nil (At.keep (.cons (t := 7) rfl <| .nil) ?_)
    refine At.seq (At.reg ?_)
    refine At.v (RunV.move rfl) rfl ?_
    refine At.v (RunV.assign rfl) rfl ?_
    refine At.nil (At.keep (.cons (t := 4) rfl <| .nil) ?_)
    refine At.ret ?_
    refine At.result1 rfl rfl ?_
    exact RuleP.setL (l' := { m with held := false }) h hl0 hbut hxi (hmblk.le hl0) hblk2 (by unfold stDead; rw [if_pos hc0, hom])
  · rw [hrl] at hc ⊢
    refine At.skip ?_
    refine At.seq (At.reg ?_)
    refine At.v (RunV.move rfl) rfl ?_
    refine At.v (RunV.assign rfl) rfl ?_
    refine At.nil (At.keep (.cons (t := 4) rfl <| .nil) ?_)
    refine At.ret ?_
    refine At.result1 rfl rfl ?_
    exact RuleP.no h hO.le (by unfold stDead; rw [if_neg (by simpa using hc)])

theorem Le.of_eq {w w' : World} (h : w' = w) : Le w w' := h ▸ Le.rfl' _

set_option maxHeartbeats 800000 in
theorem sent_c (B0 N bb : Nat) (b : Bk) (pv av lv : Value) (ab lb : List Nat) (e : Ev) (w : World) (hN : N ≤ 100000) (h : BR B0 N w bb b pv av lv ab lb) :
    Ret Try.prog 17 [.pointer (some ⟨bb, 0, none⟩), .agg (e.cells).toArray] w fun v w' => RuleP B0 N w bb (stSent b e) v w' := by
  refine Ret.enter Try.func17 rfl Try.ntmps17 rfl rfl ?_
  have hO := Own.start w
  obtain ⟨oa, hoa, a, kv, ku, wx, ep, em, ec, st, ps, f, hA, hA2⟩ := h.actD e.frm
  obtain ⟨ot, hot, _⟩ := h.actD e.to
  have hnl := h.nl
  obtain ⟨sa, sc, rfl⟩ := h.lsl.val
  have hrl : [(2, decide (e.id = (b.letters.length : Int) + 1)), (2, decide (e.to = 0) || (ptrO ot (axOf ab e.to)).isSome), (2, ((decide (e.frm < 0) && !e.timed) || (worksB oa && (!e.timed || decide (e.to = e.frm)))) || (((isB [5] oa && seq e.name goneB) && decide (e.n = 0)) && !e.timed))] = sentRules b e := by
    unfold sentRules handB ownB noticeB; rw [hoa, hot, ptrO_isSome]
  replace h := h
  have hlo := h.loa
  refine At.seq (At.reg ?_)
  refine At.step rfl (Step.box hO rfl rfl ?_)
  intro b3 w1 hO hlb3 hnb3
  refine At.v (RunV.assign rfl) rfl ?_
  refine At.nil (At.keep (.cons (t := 0) rfl <| .cons (t := 3) rfl <| .nil) ?_)
  refine At.seq (At.reg ?_)
  refine At.v (RunV.move rfl) rfl ?_
  refine At.v (RunV.field ft32_3_3 rfl rfl) rfl ?_
  refine At.v (RunV.load ct3 rfl ((hO.at (i := 0) rfl).cell rfl)) rfl ?_
  refine At.callS rfl pf35 rfl (bactO_c oa e.frm hoa hN (h.le hO.le)) rfl ?_
  refine At.v (RunV.assign rfl) rfl ?_
  refine At.nil (At.keep (.cons (t := 0) rfl <| .cons (t := 3) rfl <| .cons (t := 5) rfl <| .nil) ?_)
  refine At.seq (At.reg ?_)
  refine At.v (RunV.field ft32_3_3 rfl rfl) rfl ?_
  refine At.v (RunV.load ct3 rfl ((hO.at (i := 0) rfl).cell rfl)) rfl ?_
  refine At.v (RunV.ltI rfl rfl) rfl ?_
  refine At.v (RunV.move rfl) rfl ?_
  refine At.g (Guard.t rfl rfl rfl) (fun hc => RunV.field ft32_8_8 rfl rfl) rfl ?_
  refine At.g (Guard.t rfl rfl rfl) (fun hc => RunV.load ct4 (gvE rfl hc) ((hO.at (i := 0) rfl).cell rfl)) rfl ?_
  refine At.g (Guard.t rfl rfl rfl) (fun hc => RunV.not (gvE rfl hc)) rfl ?_
  refine At.v (RunV.pickAnd rfl rfl) rfl ?_
  refine At.v (RunV.assign rfl) rfl ?_
  refine At.nil (At.keep (.cons (t := 0) rfl <| .cons (t := 3) rfl <| .cons (t := 5) rfl <| .cons (t := 6) rfl <| .nil) ?_)
  refine At.seq (At.reg ?_)
  refine At.v (RunV.move rfl) rfl ?_
  refine At.callS rfl pf36 rfl (works_c oa _ a kv ku wx _ st ps f _ (hA.le hO.le)) rfl ?_
  refine At.v (RunV.move rfl) rfl ?_
  refine At.g (Guard.t rfl rfl rfl) (fun hc => RunV.field ft32_8_8 rfl rfl) rfl ?_
  refine At.g (Guard.t rfl rfl rfl) (fun hc => RunV.load ct4 (gvE rfl hc) ((hO.at (i := 0) rfl).cell rfl)) rfl ?_
  refine At.g (Guard.t rfl rfl rfl) (fun hc => RunV.not (gvE rfl hc)) rfl ?_
  refine At.g (Guard.t rfl rfl rfl) (fun hc => RunV.move (gvE rfl hc)) rfl ?_
  refine At.g (Guard.gf rfl rfl rfl) (fun hc => RunV.field ft32_4_4 rfl rfl) rfl ?_
  refine At.g (Guard.gf rfl rfl rfl) (fun hc => RunV.load ct3 (gvE rfl hc) ((hO.at (i := 0) rfl).cell rfl)) rfl ?_
  refine At.g (Guard.gf rfl rfl rfl) (fun hc => RunV.field ft32_3_3 rfl rfl) rfl ?_
  refine At.keep (.cons (t := 0) rfl <| .cons (t := 3) rfl <| .cons (t := 5) rfl <| .cons (t := 6) rfl <| .cons (t := 24) rfl <| .cons (t := 28) rfl <| .cons (t := 30) rfl <| .cons (t := 31) rfl <| .nil) ?_
  refine At.g (Guard.gf rfl rfl rfl) (fun hc => RunV.load ct3 (gvE rfl hc) ((hO.at (i := 0) rfl).cell rfl)) rfl ?_
  refine At.g (Guard.gf rfl rfl rfl) (fun hc => RunV.eqI (gvE rfl hc) (gvE rfl hc)) rfl ?_
  refine At.g (Guard.t rfl rfl rfl) (fun hc => RunV.pickOr (gvE rfl hc) (gvE2 rfl hc)) rfl ?_
  refine At.v (RunV.pickAnd rfl rfl) rfl ?_
  refine At.v (RunV.assign rfl) rfl ?_
  refine At.nil (At.keep (.cons (t := 0) rfl <| .cons (t := 3) rfl <| .cons (t := 5) rfl <| .cons (t := 6) rfl <| .cons (t := 7) rfl <| .nil) ?_)
  refine At.seq (At.reg ?_)
  refine At.v (RunV.move rfl) rfl ?_
  refine At.step rfl (Step.buildSlice hO st97_3_1 zt3 rfl rfl rfl rfl (fill_full rfl rfl) ?_)
  intro b37 w2 hO hlb37 hnb37
  refine At.callS rfl pf37 rfl (is_c oa _ a kv ku wx _ st ps f _ (hA.le hO.le) _ 1 [5] (by decide) (hO.at (i := 0) rfl).row) rfl ?_
  refine At.v (RunV.move rfl) rfl ?_
  refine At.g (Guard.t rfl rfl rfl) (fun hc => RunV.field ft32_5_5 rfl rfl) rfl ?_
  refine At.g (Guard.t rfl rfl rfl) (fun hc => RunV.load ct9 (gvE rfl hc) ((hO.at (i := 1) rfl).cell rfl)) rfl ?_
  refine At.g (Guard.t rfl rfl rfl) (fun hc => RunV.eqS (gvE rfl hc) rfl) rfl ?_
  refine At.v (RunV.pickAnd rfl rfl) rfl ?_
  refine At.v (RunV.move rfl) rfl ?_
  refine At.g (Guard.t rfl rfl rfl) (fun hc => RunV.field ft32_6_6 rfl rfl) rfl ?_
  refine At.keep (.cons (t := 0) rfl <| .cons (t := 3) rfl <| .cons (t := 5) rfl <| .cons (t := 6) rfl <| .cons (t := 7) rfl <| .cons (t := 44) rfl <| .cons (t := 45) rfl <| .nil) ?_
  refine At.g (Guard.t rfl rfl rfl) (fun hc => RunV.load ct3 (gvE rfl hc) ((hO.at (i := 1) rfl).cell rfl)) rfl ?_
  refine At.g (Guard.t rfl rfl rfl) (fun hc => RunV.eqI (gvE rfl hc) rfl) rfl ?_
  refine At.v (RunV.pickAnd rfl rfl) rfl ?_
  refine At.v (RunV.move rfl) rfl ?_
  refine At.g (Guard.t rfl rfl rfl) (fun hc => RunV.field ft32_8_8 rfl rfl) rfl ?_
  refine At.g (Guard.t rfl rfl rfl) (fun hc => RunV.load ct4 (gvE rfl hc) ((hO.at (i := 1) rfl).cell rfl)) rfl ?_
  refine At.g (Guard.t rfl rfl rfl) (fun hc => RunV.not (gvE rfl hc)) rfl ?_
  refine At.v (RunV.pickAnd rfl rfl) rfl ?_
  refine At.v (RunV.assign rfl) rfl ?_
  refine At.nil (At.keep (.cons (t := 0) rfl <| .cons (t := 3) rfl <| .cons (t := 5) rfl <| .cons (t := 6) rfl <| .cons (t := 7) rfl <| .cons (t := 8) rfl <| .nil) ?_)
  refine At.seq ?_
  refine At.seq (At.pi hmix (.take 0 (.take 1 (.take 2 (.take 3 (.take 4 (.take 5 (.take 6 (.take 7 (.take 8 (.take 9 (.take 10 (.take 11 (.take 12 (.take 13 (.take 14 (.take 15 (.take 16 (.take 17 (.take 18 (.take 19 (.take 20 (.take 21 (.take 22 (.take 23 (.take 24 (.take 25 (.take 26 (.take 27 (.take 28 (.take 29 (.run 30 (.run 31 (.take 32 .done))))))))))))))))))))))))))))))))) (by kernel_rfl) (by kernel_rfl) ?_)
  intro w3 hs
  have hs0 := hs
  have hR := hO
  replace hO := hO.on hs
  refine At.take rfl (fun w' hs' => RunV.field ft32_2_2 rfl rfl) rfl ?_
  refine At.take rfl (fun w' hs' => RunV.load ct30 rfl (((hR.at (i := 1) rfl).le hs').cell rfl)) rfl ?_
  refine At.take rfl (fun w' hs' => RunV.move rfl) rfl ?_
  refine At.take rfl (fun w' hs' => RunV.nilCheck rfl) rfl ?_
  refine At.take rfl (fun w' hs' => RunV.field ft49_2_2 rfl rfl) rfl ?_
  refine At.take rfl (fun w' hs' => RunV.load ct47 rfl (cell_le (h.book.cell (i := 2) rfl) (hR.le.tr hs'))) rfl ?_
  refine At.take rfl (fun w' hs' => RunV.lenSl rfl isl47) rfl ?_
  refine At.take rfl (fun w' hs' => RunV.convI rfl un3 un30 (wrap_u (by omega) (by omega))) rfl ?_
  refine At.take rfl (fun w' hs' => RunV.addI rfl rfl (wrap_u (by omega) (by omega))) rfl ?_
  refine At.take rfl (fun w' hs' => RunV.eqI rfl rfl) rfl ?_
  refine At.keep (.cons (t := 0) rfl <| .cons (t := 3) rfl <| .cons (t := 5) rfl <| .cons (t := 6) rfl <| .cons (t := 7) rfl <| .cons (t := 8) rfl <| .cons (t := 63) rfl <| .nil) ?_
  refine At.take rfl (fun w' hs' => RunV.build pl81 zt81 rfl rfl) rfl ?_
  refine At.take rfl (fun w' hs' => RunV.field ft32_4_4 rfl rfl) rfl ?_
  refine At.take rfl (fun w' hs' => RunV.load ct3 rfl (((hR.at (i := 1) rfl).le hs').cell rfl)) rfl ?_
  refine At.take rfl (fun w' hs' => RunV.eqI rfl rfl) rfl ?_
  refine At.take rfl (fun w' hs' => RunV.move rfl) rfl ?_
  refine At.takeG rfl (Guard.f rfl rfl rfl) (fun hc w' hs' => RunV.move rfl) rfl ?_
  refine At.takeG rfl (Guard.f rfl rfl rfl) (fun hc w' hs' => RunV.field ft32_4_4 rfl rfl) rfl ?_
  refine At.takeG rfl (Guard.f rfl rfl rfl) (fun hc w' hs' => RunV.load ct3 (gvE rfl hc) (((hR.at (i := 1) rfl).le hs').cell rfl)) rfl ?_
  refine At.takeCallG rfl (Guard.f rfl rfl rfl) pf35 (fun hc => rfl) (fun hc => (evL2 (gvE rfl hc) (gvE rfl hc))) (fun hc w' hs' => bactO_c ot e.to hot hN (h.le (hR.le.tr hs'))) rfl ?_
  refine At.takeG rfl (Guard.f rfl rfl rfl) (fun hc w' hs' => RunV.neNil (gvE rfl hc) un76) rfl ?_
  refine At.keep (.cons (t := 0) rfl <| .cons (t := 3) rfl <| .cons (t := 5) rfl <| .cons (t := 6) rfl <| .cons (t := 7) rfl <| .cons (t := 8) rfl <| .cons (t := 64) rfl <| .cons (t := 68) rfl <| .cons (t := 73) rfl <| .nil) ?_
  refine At.take rfl (fun w' hs' => RunV.pickOr rfl rfl) rfl ?_
  refine At.take rfl (fun w' hs' => RunV.build pl81 zt81 rfl rfl) rfl ?_
  refine At.take rfl (fun w' hs' => RunV.move rfl) rfl ?_
  refine At.take rfl (fun w' hs' => RunV.move rfl) rfl ?_
  refine At.takeG rfl (Guard.f rfl rfl rfl) (fun hc w' hs' => RunV.move rfl) rfl ?_
  refine At.take rfl (fun w' hs' => RunV.pickOr rfl rfl) rfl ?_
  refine At.take rfl (fun w' hs' => RunV.move rfl) rfl ?_
  refine At.takeG rfl (Guard.f rfl rfl rfl) (fun hc w' hs' => RunV.move rfl) rfl ?_
  refine At.take rfl (fun w' hs' => RunV.pickOr rfl rfl) rfl ?_
  refine At.take rfl (fun w' hs' => RunV.build pl81 zt81 rfl rfl) rfl ?_
  refine At.prun rfl rfl (Step.buildSlice hO st110_81_2 zt81 rfl rfl rfl rfl (fill_full rfl rfl) ?_)
  intro b84 w4 hO hlb84 hnb84
  have hzb84 := Nat.le_trans hs.size hnb84
  refine ⟨hs.tr hlb84, ?_⟩
  replace hs := hs.tr hlb84
  refine At.prunE hO hs rfl rfl pf38 rfl (broken_c _ _ [(2, decide (e.id = (b.letters.length : Int) + 1)), (2, decide (e.to = 0) || (ptrO ot (axOf ab e.to)).isSome), (2, ((decide (e.frm < 0) && !e.timed) || (worksB oa && (!e.timed || decide (e.to = e.frm)))) || (((isB [5] oa && seq e.name goneB) && decide (e.n = 0)) && !e.timed))] (by simp) _ (hO.at (i := 0) rfl).row) rfl ?_
  intro w5 hO hs
  refine At.take rfl (fun w' hs' => RunV.assign rfl) rfl ?_
  refine At.pdone (At.keep (.cons (t := 0) rfl <| .cons (t := 3) rfl <| .cons (t := 5) rfl <| .cons (t := 9) rfl <| .nil) ?_)
  refine At.seq (At.reg ?_)
  refine At.v (RunV.move rfl) rfl ?_
  refine At.v (RunV.neI rfl rfl) rfl ?_
  refine At.nil (At.keep (.cons (t := 0) rfl <| .cons (t := 3) rfl <| .cons (t := 5) rfl <| .cons (t := 9) rfl <| .cons (t := 87) rfl <| .nil) ?_)
  refine At.cond rfl (fun hc => ?_) (fun hc => ?_)
  · rw [hrl] at hc ⊢
    refine At.seq (At.reg ?_)
    refine At.v (RunV.move rfl) rfl ?_
    refine At.v (RunV.assign rfl) rfl ?_
    refine At.nil (At.keep (.cons (t := 4) rfl <| .nil) ?_)
    refine At.ret ?_
    refine At.result1 rfl rfl ?_
    exact RuleP.no h hO.le (by unfold stSent; rw [if_neg (by simpa using hc)])
  · rw [hrl] at hc
    refine At.skip ?_
    refine At.seq (At.piS hmix (.take 0 (.take 1 (.take 2 (.take 3 (.take 4 (.take 5 (.take 6 (.run 7 (.run 8 (.take 9 (.run 10 (.run 11 (.run 12 (.take 13 (.take 14 (.free 15 .done)))))))))))))))) (fun w' => Blk w' bb [pv, av, .slice sa b.letters.length sc, .int .i64 b.ticks] 49 ∧ Blk w' b3 e.cells 32) (by kernel_rfl) (by kernel_rfl) (fun w1 hl => ⟨(h.book.le hO.le).le hl, (hO.at (i := 2) rfl).le hl⟩) ?_)
    intro w6 hs9
    have hs := And.intro ((h.book.le hO.le).le hs9) ((hO.at (i := 2) rfl).le hs9)
    replace hO := hO.on hs9
    refine At.take rfl (fun w' hs' => RunV.move rfl) rfl ?_
    refine At.take rfl (fun w' hs' => RunV.move rfl) rfl ?_
    refine At.take rfl (fun w' hs' => RunV.nilCheck rfl) rfl ?_
    refine At.take rfl (fun w' hs' => RunV.field ft49_2_2 rfl rfl) rfl ?_
    refine At.take rfl (fun w' hs' => RunV.load ct47 rfl (Blk.cell (i := 2) hs'.1 rfl)) rfl ?_
    refine At.take rfl (fun w' hs' => RunV.loadAgg ag32_9 rfl (hs'.2.row) rfl) rfl ?_
    refine At.take rfl (fun w' hs' => RunV.move rfl) rfl ?_
    refine At.prun rfl rfl (Step.buildSlice hO st97_3_1 zt3 rfl rfl rfl rfl (fill_full rfl rfl) ?_)
    intro b96 w7 hO hlb96 hnb96
    refine ⟨And.intro (hs.1.le hlb96) (hs.2.le hlb96), ?_⟩
    replace hs := And.intro (hs.1.le hlb96) (hs.2.le hlb96)
    refine At.prun rfl rfl (Step.call rfl pf37 rfl (is_c oa _ a kv ku wx _ st ps f _ (hA.le hO.le) _ 1 [5] (by decide) (hO.at (i := 0) rfl).row) ?_)
    intro v w8 hr
    obtain ⟨rfl, hw⟩ := hr
    have hlw := Le.of_eq hw
    replace hO := hO.on hlw
    replace hs := And.intro (hs.1.le hlw) (hs.2.le hlw)
    refine ⟨hs, ?_⟩
    refine At.take rfl (fun w' hs' => RunV.build pl84 zt84 rfl rfl) rfl ?_
    refine At.keep (.cons (t := 89) rfl <| .cons (t := 93) rfl <| .cons (t := 98) rfl <| .nil) ?_
    refine At.prun rfl rfl (Step.box hO rfl rfl ?_)
    intro b99 w9 hO hlb99 hnb99
    refine ⟨And.intro (hs.1.le hlb99) (hs.2.le hlb99), ?_⟩
    replace hs := And.intro (hs.1.le hlb99) (hs.2.le hlb99)
    refine At.prun rfl rfl (Step.buildSlice hO st47_82_1 zt82 rfl rfl rfl rfl (fill_full rfl rfl) ?_)
    intro b100 w10 hO hlb100 hnb100
    refine ⟨And.intro (hs.1.le hlb100) (hs.2.le hlb100), ?_⟩
    replace hs := And.intro (hs.1.le hlb100) (hs.2.le hlb100)
    refine At.prun rfl rfl (Step.append st47_82_1 isl47 el82_1 rfl rfl (h.lsl.le hO.le) ⟨_, _, rfl, .inr ⟨b100, 0, rfl, (hO.at (i := 0) rfl).row⟩⟩ rfl rfl (by omega) ?_)
    intro lv2 w11 hS2 hM2
    refine ⟨And.intro (hM2.blkT (h.lsl.le hO.le) hs.1 rfl) (hM2.blkT (h.lsl.le hO.le) hs.2 rfl), ?_⟩
    have hl0 := hO.le
    have hxb := hO.at (i := 1) rfl
    have hx0 := hO.newAt (i := 1) rfl
    obtain ⟨sa2, sc2, rfl⟩ := hS2.val
    clear hO
    refine At.take rfl (fun w' hs' => RunV.nilCheck rfl) rfl ?_
    refine At.take rfl (fun w' hs' => RunV.field ft49_2_2 rfl rfl) rfl ?_
    refine At.pfree_ rfl (Step.storeX (ds := [.slice sa2 (b.letters.length + 1) sc2]) (hM2.blkT (h.lsl.le hl0) (h.book.le hl0) rfl) rfl rfl rfl sz47_1 rfl rfl rfl ?_)
    intro w12 hbut hblk2
    refine ⟨fun _ => True, trivial, ?_⟩
    refine At.pdone (At.keep (.nil) ?_)
    refine At.seq (At.reg ?_)
    refine At.v (RunV.assign rfl) rfl ?_
    refine At.nil (At.keep (.cons (t := 4) rfl <| .nil) ?_)
    refine At.ret ?_
    refine At.result1 rfl rfl ?_
    have hb1 := h.le hl0
    have e1 : stSent b e = (0, { b with letters := b.letters ++ [⟨e, isB [5] oa, false, true⟩] }) := by
      unfold stSent; rw [if_pos (by simpa using hc), hoa]
    have hfin := hb1.addL (l := ⟨e, isB [5] oa, false, true⟩) hxb (Nat.le_trans h.hB hx0) (fun hy => by
      obtain ⟨i, hi, hx⟩ := List.getElem_of_mem hy
      have := (h.ltrs i _ _ (List.getElem?_eq_getElem (by rw [← h.llen]; exact hi)) (List.getElem?_eq_getElem hi)).lt
      rw [hx] at this; omega) hM2 hS2 hbut hblk2
    unfold RuleP
    rw [e1]
    exact ⟨rfl, ⟨((hl0.mono h.hB).trans (hM2.below hb1.losl hb1.hB)).trans (hbut.below h.lo (Nat.le_trans hb1.hB hM2.size)), (Kp.le hl0).trans ((Kp.moved hM2 hb1.lsl rfl).trans (Kp.but hbut (hM2.blkT hb1.lsl hb1.book rfl) rfl))⟩, _, _, _, _, _, hfin⟩

end Go.Proofs.Ytglilmcfhkedbaa
