/- The walk of audit's start; no condition. -/
import Derived.Test.YtglilmcfhkedbaaWR
namespace Go.Proofs.Ytglilmcfhkedbaa
open Go Go.RowKit

theorem ft32_0_0 : fieldT Try.prog 32 0 0 = true := by kernel_rfl
theorem ft84_2_10 : fieldT Try.prog 84 2 10 = true := by kernel_rfl
theorem ft87_0_0 : fieldT Try.prog 87 0 0 = true := by kernel_rfl

set_option maxHeartbeats 4000000 in
theorem start_c (B0 N bb : Nat) (b : Bk) (pv av lv : Value) (ab lb : List Nat) (e : Ev) (w : World) (hN : N ≤ 100000) (h : BR B0 N w bb b pv av lv ab lb) :
    Ret Try.prog 18 [.pointer (some ⟨bb, 0, none⟩), .agg (e.cells).toArray] w fun v w' => RuleP B0 N w bb (stStart b e) v w' := by
  refine Ret.enter Try.func18 rfl Try.ntmps18 rfl rfl ?_
  have hO := Own.start w
  obtain ⟨oa, hoa, a, kv, ku, wx, ep, em, ec, st, ps, f, hA, hA2⟩ := h.actD e.actor
  obtain ⟨om, hom, m, hM, hM2⟩ := h.ltrD e.id
  have hnl := h.nl
  have hrl : [(3, isB [1] oa && !worksB oa), (3, ((ptrO om (axOf lb e.id)).isSome && m.held) && decide (m.ev.to = e.actor))] = startRules b e := by
    unfold startRules; rw [hoa, hom]
    cases om with
    | none => rfl
    | some m' =>
      obtain ⟨h9, _⟩ := hM rfl
      cases h9
      rfl
  replace h := h
  have hlo := h.loa
  refine At.seq (At.reg ?_)
  refine At.step rfl (Step.box hO rfl rfl ?_)
  intro b3 w1 hO hlb3 hnb3
  refine At.v (RunV.assign rfl) rfl ?_
  refine At.nil (At.keep (.cons (t := 0) rfl <| .cons (t := 3) rfl <| .nil) ?_)
  refine At.seq (At.pi hmix (.take 0 (.take 1 (.take 2 (.take 3 (.take 4 (.take 5 (.take 6 (.take 7 (.take 8 (.take 9 .done)))))))))) (by kernel_rfl) (by kernel_rfl) ?_)
  intro w2 hs
  have hs0 := hs
  have hR := hO
  replace hO := hO.on hs
  refine At.take rfl (fun w' hs' => RunV.move rfl) rfl ?_
  refine At.take rfl (fun w' hs' => RunV.field ft32_1_1 rfl rfl) rfl ?_
  refine At.take rfl (fun w' hs' => RunV.load ct3 rfl (((hR.at (i := 0) rfl).le hs').cell rfl)) rfl ?_
  refine At.takeCall rfl rfl pf35 rfl (fun w' hs' => bactO_c oa e.actor hoa hN (h.le (hR.le.tr hs'))) rfl ?_
  refine At.take rfl (fun w' hs' => RunV.move rfl) rfl ?_
  refine At.take rfl (fun w' hs' => RunV.field ft32_2_2 rfl rfl) rfl ?_
  refine At.take rfl (fun w' hs' => RunV.load ct30 rfl (((hR.at (i := 0) rfl).le hs').cell rfl)) rfl ?_
  refine At.takeCall rfl rfl pf39 rfl (fun w' hs' => bltrO_c om e.id hom hN (h.le (hR.le.tr hs'))) rfl ?_
  refine At.take rfl (fun w' hs' => RunV.assign rfl) rfl ?_
  refine At.take rfl (fun w' hs' => RunV.assign rfl) rfl ?_
  refine At.pdone (At.keep (.cons (t := 0) rfl <| .cons (t := 3) rfl <| .cons (t := 5) rfl <| .cons (t := 6) rfl <| .nil) ?_)
  refine At.seq ?_
  refine At.seq (At.pi hmix (.take 0 (.take 9 (.take 10 (.run 1 (.run 2 (.take 3 (.take 4 (.take 5 (.take 6 (.take 7 (.take 8 (.take 11 (.take 12 (.take 13 (.take 14 (.take 15 (.take 16 (.take 17 (.take 18 (.take 19 (.take 20 (.take 21 (.take 22 (.take 23 (.take 24 (.take 25 (.take 26 (.take 27 (.run 28 (.run 29 (.take 30 .done))))))))))))))))))))))))))))))) (by kernel_rfl) (by kernel_rfl) ?_)
  intro w3 hs
  have hs0 := hs
  have hR := hO
  replace hO := hO.on hs
  refine At.take rfl (fun w' hs' => RunV.move rfl) rfl ?_
  refine At.take rfl (fun w' hs' => RunV.move rfl) rfl ?_
  refine At.take rfl (fun w' hs' => RunV.neNil rfl un82) rfl ?_
  refine At.prun rfl rfl (Step.buildSlice hO st97_3_1 zt3 rfl rfl rfl rfl (fill_full rfl rfl) ?_)
  intro b20 w4 hO hlb20 hnb20
  have hzb20 := Nat.le_trans hs.size hnb20
  refine ⟨hs.tr hlb20, ?_⟩
  replace hs := hs.tr hlb20
  refine At.prunE hO hs rfl rfl pf37 rfl ((is_c oa _ a kv ku wx _ st ps f _ (hA.le hO.le) _ 1 [1] (by decide) (hO.at (i := 0) rfl).row).mono fun _ _ h => ⟨h.1, h.2 ▸ Le.rfl' _⟩) rfl ?_
  intro w5 hO hs
  refine At.take rfl (fun w' hs' => RunV.move rfl) rfl ?_
  refine At.takeG rfl (Guard.t rfl rfl rfl) (fun hc w' hs' => RunV.move rfl) rfl ?_
  refine At.takeCallG rfl (Guard.t rfl rfl rfl) pf36 (fun hc => rfl) (fun hc => (evL1 (gvE rfl hc))) (fun hc w' hs' => works_c oa _ a kv ku wx _ st ps f _ (hA.le (hR.le.tr hs'))) rfl ?_
  refine At.takeG rfl (Guard.t rfl rfl rfl) (fun hc w' hs' => RunV.not (gvE rfl hc)) rfl ?_
  refine At.take rfl (fun w' hs' => RunV.pickAnd rfl rfl) rfl ?_
  refine At.keep (.cons (t := 0) rfl <| .cons (t := 3) rfl <| .cons (t := 5) rfl <| .cons (t := 6) rfl <| .cons (t := 26) rfl <| .cons (t := 29) rfl <| .nil) ?_
  refine At.take rfl (fun w' hs' => RunV.build pl81 zt81 rfl rfl) rfl ?_
  refine At.take rfl (fun w' hs' => RunV.move rfl) rfl ?_
  refine At.takeG rfl (Guard.t rfl rfl rfl) (fun hc w' hs' => RunV.move rfl) rfl ?_
  refine At.takeG rfl (Guard.t rfl rfl rfl) (fun hc w' hs' => RunV.nilCheckO (gvE rfl hc) (by revert hc; cases om <;> simp [ptrO, isB, worksB, optB])) rfl ?_
  refine At.takeG rfl (Guard.t rfl rfl rfl) (fun hc w' hs' => RunV.field ft84_3_11 (gvE rfl hc) rfl) rfl ?_
  refine At.takeG rfl (Guard.t rfl rfl rfl) (fun hc w' hs' => RunV.load ct4 (gvE rfl hc) (cell_le (Blk.cell (hM.blk (by revert hc; cases om <;> simp [ptrO, isB, worksB, optB])) rfl) (hR.le.tr hs'))) rfl ?_
  refine At.take rfl (fun w' hs' => RunV.pickAnd rfl rfl) rfl ?_
  refine At.take rfl (fun w' hs' => RunV.move rfl) rfl ?_
  refine At.takeG rfl (Guard.t rfl rfl rfl) (fun hc w' hs' => RunV.move rfl) rfl ?_
  refine At.takeG rfl (Guard.t rfl rfl rfl) (fun hc w' hs' => RunV.nilCheckO (gvE rfl hc) (by revert hc; cases om <;> simp [ptrO, isB, worksB, optB])) rfl ?_
  refine At.keep (.cons (t := 0) rfl <| .cons (t := 3) rfl <| .cons (t := 5) rfl <| .cons (t := 6) rfl <| .cons (t := 27) rfl <| .cons (t := 36) rfl <| .cons (t := 38) rfl <| .nil) ?_
  refine At.takeG rfl (Guard.t rfl rfl rfl) (fun hc w' hs' => RunV.field ft84_0_0 (gvE rfl hc) rfl) rfl ?_
  refine At.takeG rfl (Guard.t rfl rfl rfl) (fun hc w' hs' => RunV.field ft32_4_4 (gvE rfl hc) rfl) rfl ?_
  refine At.takeG rfl (Guard.t rfl rfl rfl) (fun hc w' hs' => RunV.load ct3 (gvE rfl hc) (cell_le (Blk.cell (hM.blk (by revert hc; cases om <;> simp [ptrO, isB, worksB, optB])) rfl) (hR.le.tr hs'))) rfl ?_
  refine At.takeG rfl (Guard.t rfl rfl rfl) (fun hc w' hs' => RunV.field ft32_1_1 rfl rfl) rfl ?_
  refine At.takeG rfl (Guard.t rfl rfl rfl) (fun hc w' hs' => RunV.load ct3 (gvE rfl hc) (((hR.at (i := 0) rfl).le hs').cell rfl)) rfl ?_
  refine At.takeG rfl (Guard.t rfl rfl rfl) (fun hc w' hs' => RunV.eqI (gvE rfl hc) (gvE rfl hc)) rfl ?_
  refine At.take rfl (fun w' hs' => RunV.pickAnd rfl rfl) rfl ?_
  refine At.take rfl (fun w' hs' => RunV.build pl81 zt81 rfl rfl) rfl ?_
  refine At.prun rfl rfl (Step.buildSlice hO st110_81_2 zt81 rfl rfl rfl rfl (fill_full rfl rfl) ?_)
  intro b47 w6 hO hlb47 hnb47
  have hzb47 := Nat.le_trans hs.size hnb47
  refine ⟨hs.tr hlb47, ?_⟩
  replace hs := hs.tr hlb47
  refine At.prunE hO hs rfl rfl pf38 rfl (broken_c _ _ [(3, isB [1] oa && !worksB oa), (3, ((ptrO om (axOf lb e.id)).isSome && m.held) && decide (m.ev.to = e.actor))] (by simp) _ (hO.at (i := 0) rfl).row) rfl ?_
  intro w7 hO hs
  refine At.take rfl (fun w' hs' => RunV.assign rfl) rfl ?_
  refine At.pdone (At.keep (.cons (t := 0) rfl <| .cons (t := 3) rfl <| .cons (t := 5) rfl <| .cons (t := 6) rfl <| .cons (t := 7) rfl <| .nil) ?_)
  refine At.seq (At.reg ?_)
  refine At.v (RunV.move rfl) rfl ?_
  refine At.v (RunV.neI rfl rfl) rfl ?_
  refine At.nil (At.keep (.cons (t := 0) rfl <| .cons (t := 3) rfl <| .cons (t := 5) rfl <| .cons (t := 6) rfl <| .cons (t := 7) rfl <| .cons (t := 50) rfl <| .nil) ?_)
  refine At.cond rfl (fun hc => ?_) (fun hc => ?_)
  · rw [hrl] at hc ⊢
    refine At.seq (At.reg ?_)
    refine At.v (RunV.move rfl) rfl ?_
    refine At.v (RunV.assign rfl) rfl ?_
    refine At.nil (At.keep (.cons (t := 4) rfl <| .nil) ?_)
    refine At.ret ?_
    refine At.result1 rfl rfl ?_
    refine RuleP.no (st := stStart b e) (n := brokenR (startRules b e)) h hO.le ?_
    unfold stStart; rw [if_neg (by simpa using hc)]
  · rw [hrl] at hc
    have hc0 : brokenR (startRules b e) = 0 := by simpa using hc
    have hsA : oa.isSome = true := by
      have := brokenR_zero (rs := startRules b e) rfl hc0 (3, isB [1] (b.act e.actor) && !worksB (b.act e.actor)) (by simp [startRules])
      rw [hoa] at this
      cases oa with
      | none => cases this
      | some _ => rfl
    have hsM : om.isSome = true := by
      have := brokenR_zero (rs := startRules b e) rfl hc0 (3, optB (fun l => l.held && decide (l.ev.to = e.actor)) (b.ltr e.id)) (by simp [startRules])
      rw [hom] at this
      cases om with
      | none => cases this
      | some _ => rfl
    obtain ⟨rfl, hblk⟩ := hA hsA
    obtain ⟨rfl, hmblk⟩ := hM hsM
    obtain ⟨hn1, hxi, hwi, hRa⟩ := hA2 hsA
    obtain ⟨hid1, hid2, hmi⟩ := hM2 hsM
    have hx0 := hlo _ (List.mem_of_getElem? hxi)
    have hm0 := h.lol _ (List.mem_of_getElem? hmi)
    have hst : stStart b e = if (planOf a.kind a.state m.ev.name m.ev.n).1 = decide (e.kind = 5) then
            if fresh m && (b.letters.take (e.id.toNat - 1)).any (ahead m) then (4, b)
            else if e.kind = 3 then
              (0, setA (setL b e.id { m with arrived := true, held := false }) e.actor { a with work := some (e.id.toNat - 1), pstate := (planOf a.kind a.state m.ev.name m.ev.n).2 })
            else (0, setL b e.id { m with arrived := true })
          else (3, b) := by unfold stStart; rw [if_pos hc0, hoa, hom]
    refine At.skip ?_
    refine At.seq (At.pi hmix (.take 0 (.take 1 (.take 2 (.take 3 (.take 4 (.take 5 (.take 6 (.take 7 (.take 8 (.take 9 (.take 10 (.take 11 (.take 12 (.take 13 (.take 14 (.take 15 (.take 16 (.take 17 (.fork 18 (.run 19 (.run 20 .done)) 19 (.run 18 (.run 20 .done))))))))))))))))))))) (by kernel_rfl) (by kernel_rfl) ?_)
    intro w8 hs
    have hs0 := hs
    have hR := hO
    replace hO := hO.on hs
    refine At.take rfl (fun w' hs' => RunV.move rfl) rfl ?_
    refine At.take rfl (fun w' hs' => RunV.nilCheckO rfl hsA) rfl ?_
    refine At.take rfl (fun w' hs' => RunV.field ft90_2_2 rfl rfl) rfl ?_
    refine At.take rfl (fun w' hs' => RunV.loadAgg ag67_5 rfl (Row.le ((hA.blk hsA).rowAt (ds := a.kind.cells kv ku) rfl) (hR.le.tr hs')) rfl) rfl ?_
    refine At.take rfl (fun w' hs' => RunV.move rfl) rfl ?_
    refine At.take rfl (fun w' hs' => RunV.nilCheckO rfl hsA) rfl ?_
    refine At.take rfl (fun w' hs' => RunV.field ft90_3_7 rfl rfl) rfl ?_
    refine At.take rfl (fun w' hs' => RunV.load ct9 rfl (cell_le (Blk.cell (hA.blk hsA) rfl) (hR.le.tr hs'))) rfl ?_
    refine At.take rfl (fun w' hs' => RunV.move rfl) rfl ?_
    refine At.take rfl (fun w' hs' => RunV.nilCheckO rfl hsM) rfl ?_
    refine At.keep (.cons (t := 0) rfl <| .cons (t := 3) rfl <| .cons (t := 5) rfl <| .cons (t := 6) rfl <| .cons (t := 55) rfl <| .cons (t := 59) rfl <| .cons (t := 61) rfl <| .nil) ?_
    refine At.take rfl (fun w' hs' => RunV.field ft84_0_0 rfl rfl) rfl ?_
    refine At.take rfl (fun w' hs' => RunV.field ft32_5_5 rfl rfl) rfl ?_
    refine At.take rfl (fun w' hs' => RunV.load ct9 rfl (cell_le (Blk.cell (hM.blk hsM) rfl) (hR.le.tr hs'))) rfl ?_
    refine At.take rfl (fun w' hs' => RunV.move rfl) rfl ?_
    refine At.take rfl (fun w' hs' => RunV.nilCheckO rfl hsM) rfl ?_
    refine At.take rfl (fun w' hs' => RunV.field ft84_0_0 rfl rfl) rfl ?_
    refine At.take rfl (fun w' hs' => RunV.field ft32_6_6 rfl rfl) rfl ?_
    refine At.take rfl (fun w' hs' => RunV.load ct3 rfl (cell_le (Blk.cell (hM.blk hsM) rfl) (hR.le.tr hs'))) rfl ?_
    refine At.pfork ?_ ?_
    · refine At.prun rfl rfl (Step.call rfl pf40 rfl (do_c a.kind a.state m.ev.name m.ev.n kv ku _ ((hRa.states.any (R' := SttR G0) fun _ _ _ h => h.any).le hO.le fun _ _ _ h => h.le hO.le) (fun s hs r hr => (hRa.small.2.2.2 s hs).2 r hr)) ?_)
      intro v w9 hr
      obtain ⟨⟨pep, pem, pec, pst, pf, rfl⟩, hl⟩ := hr
      replace hO := hO.on hl
      replace hs := hs.tr hl
      refine ⟨hs, ?_⟩
      refine At.prun rfl rfl (Step.alloc hO zt87 ?_)
      intro b8 w10 hO hlb8 hnb8
      have hzb8 := Nat.le_trans hs.size hnb8
      refine ⟨hs.tr hlb8, ?_⟩
      replace hs := hs.tr hlb8
      refine At.prun_ rfl (Step.storeAll hO rfl rfl rfl sz87_5 .here rfl rfl ?_)
      intro w11 hO hbut
      have hs := hbut.le hs hzb8
      refine ⟨hs, ?_⟩
      refine At.pdone (At.keep (.cons (t := 0) rfl <| .cons (t := 3) rfl <| .cons (t := 5) rfl <| .cons (t := 6) rfl <| .cons (t := 8) rfl <| .nil) ?_)
      refine At.seq ?_
      refine At.seq (At.reg ?_)
      refine At.v (RunV.field ft87_0_0 rfl rfl) rfl ?_
      refine At.v (RunV.load ct4 rfl ((hO.at (i := 0) rfl).cell rfl)) rfl ?_
      refine At.v (RunV.field ft32_0_0 rfl rfl) rfl ?_
      refine At.v (RunV.load ct3 rfl ((hO.at (i := 3) rfl).cell rfl)) rfl ?_
      refine At.v (RunV.eqI rfl rfl) rfl ?_
      refine At.v (RunV.neB rfl rfl un4) rfl ?_
      refine At.nil (At.keep (.cons (t := 0) rfl <| .cons (t := 3) rfl <| .cons (t := 5) rfl <| .cons (t := 6) rfl <| .cons (t := 8) rfl <| .cons (t := 76) rfl <| .nil) ?_)
      refine At.cond rfl (fun hc6 => ?_) (fun hc6 => ?_)
      · have hpl : ¬ (planOf a.kind a.state m.ev.name m.ev.n).1 = decide (e.kind = 5) := by simpa using hc6
        refine At.seq (At.reg ?_)
        refine At.v (RunV.assign rfl) rfl ?_
        refine At.nil (At.keep (.cons (t := 4) rfl <| .nil) ?_)
        refine At.ret ?_
        refine At.result1 rfl rfl ?_
        refine RuleP.no (st := stStart b e) (n := 3) h hO.le ?_
        rw [hst, if_neg hpl]
      · have hpl : (planOf a.kind a.state m.ev.name m.ev.n).1 = decide (e.kind = 5) := by simpa using hc6
        rw [if_pos hpl] at hst
        refine At.skip ?_
        refine At.seq ?_
        refine At.seq (At.reg ?_)
        refine At.v (RunV.move rfl) rfl ?_
        refine At.v (RunV.nilCheckO rfl hsM) rfl ?_
        refine At.v (RunV.field ft84_0_0 rfl rfl) rfl ?_
        refine At.v (RunV.field ft32_8_8 rfl rfl) rfl ?_
        refine At.v (RunV.load ct4 rfl (cell_le (Blk.cell (hM.blk hsM) rfl) hO.le)) rfl ?_
        refine At.v (RunV.not rfl) rfl ?_
        refine At.v (RunV.move rfl) rfl ?_
        refine At.g (Guard.t rfl rfl rfl) (fun hc => RunV.move rfl) rfl ?_
        refine At.g (Guard.t rfl rfl rfl) (fun hc => RunV.nilCheckO (gvE rfl hc) hsM) rfl ?_
        refine At.g (Guard.t rfl rfl rfl) (fun hc => RunV.field ft84_1_9 (gvE rfl hc) rfl) rfl ?_
        refine At.keep (.cons (t := 0) rfl <| .cons (t := 3) rfl <| .cons (t := 5) rfl <| .cons (t := 6) rfl <| .cons (t := 8) rfl <| .cons (t := 83) rfl <| .cons (t := 86) rfl <| .nil) ?_
        refine At.g (Guard.t rfl rfl rfl) (fun hc => RunV.load ct4 (gvE rfl hc) (cell_le (Blk.cell (hM.blk hsM) rfl) hO.le)) rfl ?_
        refine At.g (Guard.t rfl rfl rfl) (fun hc => RunV.not (gvE rfl hc)) rfl ?_
        refine At.v (RunV.pickAnd rfl rfl) rfl ?_
        refine At.v (RunV.move rfl) rfl ?_
        refine At.g (Guard.t rfl rfl rfl) (fun hc => RunV.move rfl) rfl ?_
        refine At.g (Guard.t rfl rfl rfl) (fun hc => RunV.nilCheckO (gvE rfl hc) hsM) rfl ?_
        refine At.g (Guard.t rfl rfl rfl) (fun hc => RunV.field ft84_2_10 (gvE rfl hc) rfl) rfl ?_
        refine At.g (Guard.t rfl rfl rfl) (fun hc => RunV.load ct4 (gvE rfl hc) (cell_le (Blk.cell (hM.blk hsM) rfl) hO.le)) rfl ?_
        refine At.g (Guard.t rfl rfl rfl) (fun hc => RunV.not (gvE rfl hc)) rfl ?_
        refine At.v (RunV.pickAnd rfl rfl) rfl ?_
        refine At.nil (At.keep (.cons (t := 0) rfl <| .cons (t := 3) rfl <| .cons (t := 5) rfl <| .cons (t := 6) rfl <| .cons (t := 8) rfl <| .cons (t := 96) rfl <| .nil) ?_)
        refine At.cond rfl (fun hc8 => ?_) (fun hc8 => ?_)
        · have hfm : fresh m = true := hc8
          obtain ⟨lb0, lcap, lcs, rfl, _, _, hlcap, _⟩ : ∃ lb0 lcap cs, lv = .slice (some ⟨lb0, 0, none⟩) b.letters.length lcap ∧ Blk w lb0 cs 82 ∧ cs.length = lcap * 1 ∧ b.letters.length ≤ lcap ∧ cs.take (b.letters.length * 1) = lb.map ptrV := by
            rcases h.lsl with ⟨_, h0, _⟩ | h1
            · omega
            · exact h1
          refine At.seq (At.pi hmix (.take 0 (.take 1 (.take 2 (.take 3 (.take 4 (.take 5 (.take 6 (.take 7 (.take 8 (.take 9 .done)))))))))) (by kernel_rfl) (by kernel_rfl) ?_)
          intro w12 hs
          have hs0 := hs
          have hR := hO
          replace hO := hO.on hs
          refine At.take rfl (fun w' hs' => RunV.move rfl) rfl ?_
          refine At.take rfl (fun w' hs' => RunV.nilCheck rfl) rfl ?_
          refine At.take rfl (fun w' hs' => RunV.field ft49_2_2 rfl rfl) rfl ?_
          refine At.take rfl (fun w' hs' => RunV.load ct47 rfl (cell_le (h.book.cell (i := 2) rfl) (hR.le.tr hs'))) rfl ?_
          refine At.take rfl (fun w' hs' => RunV.field ft32_2_2 rfl rfl) rfl ?_
          refine At.take rfl (fun w' hs' => RunV.load ct30 rfl (((hR.at (i := 3) rfl).le hs').cell rfl)) rfl ?_
          refine At.take rfl (fun w' hs' => RunV.subI rfl rfl (wrap_u (by omega) (by omega))) rfl ?_
          refine At.take rfl (fun w' hs' => RunV.sliceHi st47_82_1 rfl rfl (show e.id - 1 = (((e.id.toNat - 1 : Nat)) : Int) by omega) (by omega)) rfl ?_
          refine At.take rfl (fun w' hs' => RunV.lenSl rfl isl47) rfl ?_
          refine At.take rfl (fun w' hs' => RunV.move rfl) rfl ?_
          refine At.pdone (At.keep (.cons (t := 3) rfl <| .cons (t := 5) rfl <| .cons (t := 6) rfl <| .cons (t := 8) rfl <| .cons (t := 104) rfl <| .cons (t := 105) rfl <| .cons (t := 106) rfl <| .nil) ?_)
          refine At.block ?_
          refine At.loopC (σ := Nat) (.cons (t := 3) rfl <| .cons (t := 5) rfl <| .cons (t := 6) rfl <| .cons (t := 8) rfl <| .cons (t := 104) rfl <| .cons (t := 105) rfl <| .nil) (fun i => [(106, .int .i64 (i : Int))]) (fun i wl => Le w12 wl ∧ i ≤ e.id.toNat - 1 ∧ ∀ j o, j < i → b.letters[j]? = some o → ahead m o = false) (fun i => (e.id.toNat - 1) - i) 0 (.cons (t := 106) rfl <| .nil) ⟨Le.rfl' _, Nat.zero_le _, fun j o hj => absurd hj (Nat.not_lt_zero _)⟩ ?_
          intro i w13 hinv
          refine At.keep (.cons (t := 3) rfl <| .cons (t := 5) rfl <| .cons (t := 6) rfl <| .cons (t := 8) rfl <| .cons (t := 104) rfl <| .cons (t := 105) rfl <| .cons (t := 106) rfl <| .nil) ?_
          have hO := hO.on hinv.1
          have hi := hinv.2.1
          refine At.seq (At.reg ?_)
          refine At.v (RunV.ltI rfl rfl) rfl ?_
          refine At.nil (At.keep (.cons (t := 3) rfl <| .cons (t := 5) rfl <| .cons (t := 6) rfl <| .cons (t := 8) rfl <| .cons (t := 104) rfl <| .cons (t := 105) rfl <| .cons (t := 106) rfl <| .cons (t := 107) rfl <| .nil) ?_)
          refine At.seq ?_
          refine At.cond rfl (fun hlt => ?_) (fun hlt => ?_)
          · refine At.skip ?_
            refine At.seq ?_
            refine At.block ?_
            have hk : i < e.id.toNat - 1 := by have := of_decide_eq_true hlt; omega
            obtain ⟨o, ho1⟩ : ∃ o, b.letters[i]? = some o := ⟨_, List.getElem?_eq_getElem (by omega)⟩
            obtain ⟨y, hy1⟩ : ∃ y, lb[i]? = some y := ⟨_, List.getElem?_eq_getElem (by rw [h.llen]; omega)⟩
            have hob := h.ltrs i o y ho1 hy1
            obtain ⟨_, _, hv9, _, hcell⟩ := h.lsl.get (i := i) (u := ptrV y) (by rw [List.getElem?_map, hy1]; rfl)
            cases hv9
            refine At.seq (At.reg ?_)
            refine At.v (RunV.index st47_82_1 rfl rfl rfl hk rfl) rfl ?_
            refine At.v (RunV.load ct82 rfl (cell_le hcell hO.le)) rfl ?_
            refine At.v (RunV.assign rfl) rfl ?_
            refine At.nil (At.keep (.cons (t := 3) rfl <| .cons (t := 5) rfl <| .cons (t := 6) rfl <| .cons (t := 8) rfl <| .cons (t := 10) rfl <| .cons (t := 104) rfl <| .cons (t := 105) rfl <| .cons (t := 106) rfl <| .nil) ?_)
            refine At.seq (At.pi hmix (.take 0 (.take 1 (.take 2 (.take 3 (.take 4 (.take 5 (.take 6 (.take 7 (.take 8 (.take 9 (.take 10 (.take 11 (.take 12 (.take 13 (.take 14 (.take 15 (.take 16 (.take 17 (.take 18 (.take 19 (.take 20 (.take 21 (.take 22 (.take 23 (.take 24 (.take 25 (.take 26 (.take 27 (.take 28 (.take 29 (.take 30 (.take 31 (.take 32 (.take 33 (.take 34 (.take 35 (.take 36 (.take 37 (.take 38 (.take 39 (.take 40 (.take 41 (.take 42 (.take 43 (.take 44 (.take 45 (.take 46 (.take 47 (.take 48 (.take 49 (.take 50 (.take 51 .done)))))))))))))))))))))))))))))))))))))))))))))))))))) (by kernel_rfl) (by kernel_rfl) ?_)
            intro w14 hs
            have hs0 := hs
            have hR := hO
            replace hO := hO.on hs
            refine At.take rfl (fun w' hs' => RunV.move rfl) rfl ?_
            refine At.take rfl (fun w' hs' => RunV.nilCheck rfl) rfl ?_
            refine At.take rfl (fun w' hs' => RunV.field ft84_0_0 rfl rfl) rfl ?_
            refine At.take rfl (fun w' hs' => RunV.field ft32_3_3 rfl rfl) rfl ?_
            refine At.take rfl (fun w' hs' => RunV.load ct3 rfl (cell_le (Blk.cell ((fun _ : True => hob) trivial) rfl) (hR.le.tr hs'))) rfl ?_
            refine At.take rfl (fun w' hs' => RunV.move rfl) rfl ?_
            refine At.take rfl (fun w' hs' => RunV.nilCheckO rfl hsM) rfl ?_
            refine At.take rfl (fun w' hs' => RunV.field ft84_0_0 rfl rfl) rfl ?_
            refine At.take rfl (fun w' hs' => RunV.field ft32_3_3 rfl rfl) rfl ?_
            refine At.take rfl (fun w' hs' => RunV.load ct3 rfl (cell_le (Blk.cell (hM.blk hsM) rfl) (hR.le.tr hs'))) rfl ?_
            refine At.keep (.cons (t := 3) rfl <| .cons (t := 5) rfl <| .cons (t := 6) rfl <| .cons (t := 8) rfl <| .cons (t := 10) rfl <| .cons (t := 104) rfl <| .cons (t := 105) rfl <| .cons (t := 106) rfl <| .cons (t := 114) rfl <| .cons (t := 119) rfl <| .nil) ?_
            refine At.take rfl (fun w' hs' => RunV.eqI rfl rfl) rfl ?_
            refine At.take rfl (fun w' hs' => RunV.move rfl) rfl ?_
            refine At.takeG rfl (Guard.t rfl rfl rfl) (fun hc w' hs' => RunV.move rfl) rfl ?_
            refine At.takeG rfl (Guard.t rfl rfl rfl) (fun hc w' hs' => RunV.nilCheck (gvE rfl hc)) rfl ?_
            refine At.takeG rfl (Guard.t rfl rfl rfl) (fun hc w' hs' => RunV.field ft84_0_0 (gvE rfl hc) rfl) rfl ?_
            refine At.takeG rfl (Guard.t rfl rfl rfl) (fun hc w' hs' => RunV.field ft32_4_4 (gvE rfl hc) rfl) rfl ?_
            refine At.takeG rfl (Guard.t rfl rfl rfl) (fun hc w' hs' => RunV.load ct3 (gvE rfl hc) (cell_le (Blk.cell ((fun _ : True => hob) trivial) rfl) (hR.le.tr hs'))) rfl ?_
            refine At.takeG rfl (Guard.t rfl rfl rfl) (fun hc w' hs' => RunV.move rfl) rfl ?_
            refine At.takeG rfl (Guard.t rfl rfl rfl) (fun hc w' hs' => RunV.nilCheckO (gvE rfl hc) hsM) rfl ?_
            refine At.takeG rfl (Guard.t rfl rfl rfl) (fun hc w' hs' => RunV.field ft84_0_0 (gvE rfl hc) rfl) rfl ?_
            refine At.keep (.cons (t := 3) rfl <| .cons (t := 5) rfl <| .cons (t := 6) rfl <| .cons (t := 8) rfl <| .cons (t := 10) rfl <| .cons (t := 104) rfl <| .cons (t := 105) rfl <| .cons (t := 106) rfl <| .cons (t := 121) rfl <| .cons (t := 126) rfl <| .cons (t := 129) rfl <| .nil) ?_
            refine At.takeG rfl (Guard.t rfl rfl rfl) (fun hc w' hs' => RunV.field ft32_4_4 (gvE rfl hc) rfl) rfl ?_
            refine At.takeG rfl (Guard.t rfl rfl rfl) (fun hc w' hs' => RunV.load ct3 (gvE rfl hc) (cell_le (Blk.cell (hM.blk hsM) rfl) (hR.le.tr hs'))) rfl ?_
            refine At.takeG rfl (Guard.t rfl rfl rfl) (fun hc w' hs' => RunV.eqI (gvE rfl hc) (gvE rfl hc)) rfl ?_
            refine At.take rfl (fun w' hs' => RunV.pickAnd rfl rfl) rfl ?_
            refine At.take rfl (fun w' hs' => RunV.move rfl) rfl ?_
            refine At.takeG rfl (Guard.t rfl rfl rfl) (fun hc w' hs' => RunV.move rfl) rfl ?_
            refine At.takeG rfl (Guard.t rfl rfl rfl) (fun hc w' hs' => RunV.nilCheck (gvE rfl hc)) rfl ?_
            refine At.takeG rfl (Guard.t rfl rfl rfl) (fun hc w' hs' => RunV.field ft84_3_11 (gvE rfl hc) rfl) rfl ?_
            refine At.takeG rfl (Guard.t rfl rfl rfl) (fun hc w' hs' => RunV.load ct4 (gvE rfl hc) (cell_le (Blk.cell ((fun _ : True => hob) trivial) rfl) (hR.le.tr hs'))) rfl ?_
            refine At.take rfl (fun w' hs' => RunV.pickAnd rfl rfl) rfl ?_
            refine At.keep (.cons (t := 3) rfl <| .cons (t := 5) rfl <| .cons (t := 6) rfl <| .cons (t := 8) rfl <| .cons (t := 10) rfl <| .cons (t := 104) rfl <| .cons (t := 105) rfl <| .cons (t := 106) rfl <| .cons (t := 139) rfl <| .nil) ?_
            refine At.take rfl (fun w' hs' => RunV.move rfl) rfl ?_
            refine At.takeG rfl (Guard.t rfl rfl rfl) (fun hc w' hs' => RunV.move rfl) rfl ?_
            refine At.takeG rfl (Guard.t rfl rfl rfl) (fun hc w' hs' => RunV.nilCheck (gvE rfl hc)) rfl ?_
            refine At.takeG rfl (Guard.t rfl rfl rfl) (fun hc w' hs' => RunV.field ft84_0_0 (gvE rfl hc) rfl) rfl ?_
            refine At.takeG rfl (Guard.t rfl rfl rfl) (fun hc w' hs' => RunV.field ft32_8_8 (gvE rfl hc) rfl) rfl ?_
            refine At.takeG rfl (Guard.t rfl rfl rfl) (fun hc w' hs' => RunV.load ct4 (gvE rfl hc) (cell_le (Blk.cell ((fun _ : True => hob) trivial) rfl) (hR.le.tr hs'))) rfl ?_
            refine At.takeG rfl (Guard.t rfl rfl rfl) (fun hc w' hs' => RunV.not (gvE rfl hc)) rfl ?_
            refine At.take rfl (fun w' hs' => RunV.pickAnd rfl rfl) rfl ?_
            refine At.take rfl (fun w' hs' => RunV.move rfl) rfl ?_
            refine At.takeG rfl (Guard.t rfl rfl rfl) (fun hc w' hs' => RunV.move rfl) rfl ?_
            refine At.keep (.cons (t := 3) rfl <| .cons (t := 5) rfl <| .cons (t := 6) rfl <| .cons (t := 8) rfl <| .cons (t := 10) rfl <| .cons (t := 104) rfl <| .cons (t := 105) rfl <| .cons (t := 106) rfl <| .cons (t := 148) rfl <| .cons (t := 149) rfl <| .nil) ?_
            refine At.takeG rfl (Guard.t rfl rfl rfl) (fun hc w' hs' => RunV.nilCheck (gvE rfl hc)) rfl ?_
            refine At.takeG rfl (Guard.t rfl rfl rfl) (fun hc w' hs' => RunV.field ft84_1_9 (gvE rfl hc) rfl) rfl ?_
            refine At.takeG rfl (Guard.t rfl rfl rfl) (fun hc w' hs' => RunV.load ct4 (gvE rfl hc) (cell_le (Blk.cell ((fun _ : True => hob) trivial) rfl) (hR.le.tr hs'))) rfl ?_
            refine At.takeG rfl (Guard.t rfl rfl rfl) (fun hc w' hs' => RunV.not (gvE rfl hc)) rfl ?_
            refine At.take rfl (fun w' hs' => RunV.pickAnd rfl rfl) rfl ?_
            refine At.take rfl (fun w' hs' => RunV.move rfl) rfl ?_
            refine At.takeG rfl (Guard.t rfl rfl rfl) (fun hc w' hs' => RunV.move rfl) rfl ?_
            refine At.takeG rfl (Guard.t rfl rfl rfl) (fun hc w' hs' => RunV.nilCheck (gvE rfl hc)) rfl ?_
            refine At.takeG rfl (Guard.t rfl rfl rfl) (fun hc w' hs' => RunV.field ft84_2_10 (gvE rfl hc) rfl) rfl ?_
            refine At.takeG rfl (Guard.t rfl rfl rfl) (fun hc w' hs' => RunV.load ct4 (gvE rfl hc) (cell_le (Blk.cell ((fun _ : True => hob) trivial) rfl) (hR.le.tr hs'))) rfl ?_
            refine At.takeG rfl (Guard.t rfl rfl rfl) (fun hc w' hs' => RunV.not (gvE rfl hc)) rfl ?_
            refine At.take rfl (fun w' hs' => RunV.pickAnd rfl rfl) rfl ?_
            refine At.pdone (At.keep (.cons (t := 3) rfl <| .cons (t := 5) rfl <| .cons (t := 6) rfl <| .cons (t := 8) rfl <| .cons (t := 104) rfl <| .cons (t := 105) rfl <| .cons (t := 106) rfl <| .cons (t := 161) rfl <| .nil) ?_)
            refine At.cond rfl (fun hgo => ?_) (fun hgo => ?_)
            · have hah : ahead m o = true := hgo
              refine At.seq (At.reg ?_)
              refine At.v (RunV.assign rfl) rfl ?_
              refine At.nil (At.keep (.cons (t := 4) rfl <| .nil) ?_)
              refine At.ret ?_
              refine At.result1 rfl rfl ?_
              refine RuleP.no (st := stStart b e) (n := 4) h hO.le ?_
              rw [hst, if_pos]
              rw [hfm, Bool.true_and, List.any_eq_true]
              exact ⟨o, List.mem_of_getElem? (i := i) (by rw [List.getElem?_take, if_pos hk]; exact ho1), hah⟩
            · replace hgo : ahead m o = false := hgo
              refine At.skip ?_
              refine At.reg ?_
              refine At.v (RunV.inc rfl rfl (by omega)) rfl ?_
              refine At.v (RunV.move rfl) rfl ?_
              refine At.nil (At.keep (.cons (t := 3) rfl <| .cons (t := 5) rfl <| .cons (t := 6) rfl <| .cons (t := 8) rfl <| .cons (t := 104) rfl <| .cons (t := 105) rfl <| .cons (t := 106) rfl <| .nil) ?_)
              exact At.againC (.cons (t := 3) rfl <| .cons (t := 5) rfl <| .cons (t := 6) rfl <| .cons (t := 8) rfl <| .cons (t := 104) rfl <| .cons (t := 105) rfl <| .nil) (i + 1) (.cons (t := 106) rfl <| .nil) ⟨hinv.1.tr hs, hk, fun j o' hj ho => by
                    rcases Nat.lt_succ_iff_lt_or_eq.1 hj with hj | rfl
                    · exact hinv.2.2 j o' hj ho
                    · rw [ho1] at ho; cases ho; exact hgo⟩ (by omega)
          · have hno : (fresh m && (b.letters.take (e.id.toNat - 1)).any (ahead m)) = false := by
              rw [hfm, Bool.true_and, List.any_eq_false]
              intro o ho
              obtain ⟨j, hj, rfl⟩ := List.getElem_of_mem ho
              rw [List.getElem_take]
              rw [List.length_take] at hj
              rw [hinv.2.2 j _ (by have := of_decide_eq_false hlt; omega) (List.getElem?_eq_getElem (by omega))]
              exact Bool.false_ne_true
            rw [if_neg (by rw [hno]; exact Bool.false_ne_true)] at hst
            refine At.exit rfl ?_
            refine At.seq (At.reg ?_)
            refine At.v (RunV.move rfl) rfl ?_
            refine At.v (RunV.nilCheckO rfl hsM) rfl ?_
            refine At.v (RunV.field ft84_2_10 rfl rfl) rfl ?_
            refine At.step_ (Step.storeX (ds := [.bool true]) (hmblk.le hO.le) rfl rfl rfl sz4_1 rfl rfl rfl ?_)
            intro w15 hbut1 hmblk1
            have hl0 := hO.le
            have hb3k := (hO.at (i := 3) rfl).but hbut1 ((hO.at (i := 3) rfl).ne (hmblk.le hO.le) rfl)
            have hb8k := (hO.at (i := 0) rfl).but hbut1 ((hO.at (i := 0) rfl).ne (hmblk.le hO.le) rfl)
            have hblk1 := (hblk.le hO.le).but hbut1 ((hblk.le hO.le).ne (hmblk.le hO.le) rfl)
            refine At.nil (At.keep (.cons (t := 3) rfl <| .cons (t := 5) rfl <| .cons (t := 6) rfl <| .cons (t := 8) rfl <| .nil) ?_)
            refine At.seq ?_
            refine At.seq (At.reg ?_)
            refine At.v (RunV.field ft32_0_0 rfl rfl) rfl ?_
            refine At.v (RunV.load ct3 rfl (hb3k.cell (i := 0) rfl)) rfl ?_
            refine At.v (RunV.eqI rfl rfl) rfl ?_
            refine At.nil (At.keep (.cons (t := 5) rfl <| .cons (t := 6) rfl <| .cons (t := 8) rfl <| .cons (t := 168) rfl <| .nil) ?_)
            refine At.cond rfl (fun hc16 => ?_) (fun hc16 => ?_)
            · have hk3 : e.kind = 3 := of_decide_eq_true hc16
              rw [if_pos hk3] at hst
              refine At.seq (At.reg ?_)
              refine At.v (RunV.move rfl) rfl ?_
              refine At.v (RunV.nilCheckO rfl hsM) rfl ?_
              refine At.v (RunV.field ft84_3_11 rfl rfl) rfl ?_
              refine At.step_ (Step.storeX (ds := [.bool false]) hmblk1 rfl rfl rfl sz4_1 rfl rfl rfl ?_)
              intro w16 hbut2 hmblk2
              have hb8k2 := hb8k.but hbut2 (hb8k.ne hmblk1 rfl)
              have hblk2 := hblk1.but hbut2 (hblk1.ne hmblk1 rfl)
              refine At.nil (At.keep (.cons (t := 5) rfl <| .cons (t := 6) rfl <| .cons (t := 8) rfl <| .nil) ?_)
              refine At.piS hmix (.take 0 (.take 1 (.take 2 (.take 3 (.take 4 (.take 5 (.run 6 (.take 7 (.take 8 (.run 9 .done)))))))))) (fun w' => Blk w' b8 [.bool (planOf a.kind a.state m.ev.name m.ev.n).1, .slice pep pem pec, .string (planOf a.kind a.state m.ev.name m.ev.n).2, .bool pst, .string pf] 87) (by kernel_rfl) (by kernel_rfl) (fun w1 hl => hb8k2.le hl) ?_
              intro w17 hs9
              have hs := hb8k2.le hs9
              have hblk3 := hblk2.le hs9
              refine At.take rfl (fun w' hs' => RunV.move rfl) rfl ?_
              refine At.take rfl (fun w' hs' => RunV.move rfl) rfl ?_
              refine At.take rfl (fun w' hs' => RunV.move rfl) rfl ?_
              refine At.take rfl (fun w' hs' => RunV.loadAgg ag87_5 rfl (Blk.row hs') rfl) rfl ?_
              refine At.take rfl (fun w' hs' => RunV.nilCheckO rfl hsA) rfl ?_
              refine At.take rfl (fun w' hs' => RunV.field ft90_5_9 rfl rfl) rfl ?_
              refine At.prun_ rfl (Step.storeX (ds := [ptrV (axOf lb e.id)]) hblk3 rfl rfl rfl sz82_1 rfl rfl rfl ?_)
              intro w18 hbut3 hblk4
              have hs8 := hs.but hbut3 (hs.ne hblk3 rfl)
              refine ⟨hs8, ?_⟩
              refine At.take rfl (fun w' hs' => RunV.nilCheckO rfl hsA) rfl ?_
              refine At.take rfl (fun w' hs' => RunV.field ft90_6_10 rfl rfl) rfl ?_
              refine At.prun_ rfl (Step.storeX (ds := [.bool (planOf a.kind a.state m.ev.name m.ev.n).1, .slice pep pem pec, .string (planOf a.kind a.state m.ev.name m.ev.n).2, .bool pst, .string pf]) hblk4 rfl rfl rfl sz87_5 rfl rfl rfl ?_)
              intro w19 hbut4 hblk5
              refine ⟨hs8.but hbut4 (hs8.ne hblk4 rfl), ?_⟩
              refine At.pdone (At.keep (.nil) ?_)
              refine At.seq (At.reg ?_)
              refine At.v (RunV.assign rfl) rfl ?_
              refine At.nil (At.keep (.cons (t := 4) rfl <| .nil) ?_)
              refine At.ret ?_
              refine At.result1 rfl rfl ?_
              have hb1 := h.le hl0
              have hfin := hb1.setL (l' := { m with arrived := true, held := false }) (hbut1.trans hbut2) hmi (hmblk.le hl0) hmblk2
              have hR3 := ((hRa.stays (GB.le hl0) (hblk.le hl0)).stays (GB.but hbut1 hm0 (hmblk.le hl0) rfl) hblk1).stays (GB.but hbut2 hm0 hmblk1 rfl) hblk2
              have hR4 := hR3.stays (GB.le hs9) hblk3
              have hfin2 := (hfin.le hs9).setA (i := e.actor.toNat - 1) (a' := { a with work := some (e.id.toNat - 1), pstate := (planOf a.kind a.state m.ev.name m.ev.n).2 }) (hbut3.trans hbut4) hxi hblk3 (hR4.to (hbut3.trans hbut4) hx0 hblk5 rfl ⟨_, hmi, rfl⟩ ⟨_, _, _, rfl⟩)
              unfold RuleP
              rw [hst]
              exact ⟨rfl, ⟨(((hl0.mono h.hB).trans ((hbut1.trans hbut2).below hm0 hb1.hB)).trans (hs9.mono hfin.hB)).trans ((hbut3.trans hbut4).below hx0 (Nat.le_trans hfin.hB hs9.size)), (Kp.le hl0).trans ((Kp.but hbut1 (hmblk.le hl0) rfl).trans ((Kp.but hbut2 hmblk1 rfl).trans ((Kp.le hs9).trans ((Kp.but hbut3 hblk3 rfl).trans (Kp.but hbut4 hblk4 rfl)))))⟩, _, _, _, _, _, hfin2.mono (Nat.le_succ N)⟩
            · have hk3 : ¬ e.kind = 3 := of_decide_eq_false hc16
              rw [if_neg hk3] at hst
              refine At.skip ?_
              refine At.seq (At.reg ?_)
              refine At.v (RunV.assign rfl) rfl ?_
              refine At.nil (At.keep (.cons (t := 4) rfl <| .nil) ?_)
              refine At.ret ?_
              refine At.result1 rfl rfl ?_
              exact RuleP.setL (l' := { m with arrived := true }) h hl0 hbut1 hmi (hmblk.le hl0) hmblk1 hst
        · have hno : (fresh m && (b.letters.take (e.id.toNat - 1)).any (ahead m)) = false := by rw [show fresh m = false from hc8]; rfl
          rw [if_neg (by rw [hno]; exact Bool.false_ne_true)] at hst
          refine At.skip ?_
          refine At.seq (At.reg ?_)
          refine At.v (RunV.move rfl) rfl ?_
          refine At.v (RunV.nilCheckO rfl hsM) rfl ?_
          refine At.v (RunV.field ft84_2_10 rfl rfl) rfl ?_
          refine At.step_ (Step.storeX (ds := [.bool true]) (hmblk.le hO.le) rfl rfl rfl sz4_1 rfl rfl rfl ?_)
          intro w20 hbut1 hmblk1
          have hl0 := hO.le
          have hb3k := (hO.at (i := 3) rfl).but hbut1 ((hO.at (i := 3) rfl).ne (hmblk.le hO.le) rfl)
          have hb8k := (hO.at (i := 0) rfl).but hbut1 ((hO.at (i := 0) rfl).ne (hmblk.le hO.le) rfl)
          have hblk1 := (hblk.le hO.le).but hbut1 ((hblk.le hO.le).ne (hmblk.le hO.le) rfl)
          refine At.nil (At.keep (.cons (t := 3) rfl <| .cons (t := 5) rfl <| .cons (t := 6) rfl <| .cons (t := 8) rfl <| .nil) ?_)
          refine At.seq ?_
          refine At.seq (At.reg ?_)
          refine At.v (RunV.field ft32_0_0 rfl rfl) rfl ?_
          refine At.v (RunV.load ct3 rfl (hb3k.cell (i := 0) rfl)) rfl ?_
          refine At.v (RunV.eqI rfl rfl) rfl ?_
          refine At.nil (At.keep (.cons (t := 5) rfl <| .cons (t := 6) rfl <| .cons (t := 8) rfl <| .cons (t := 168) rfl <| .nil) ?_)
          refine At.cond rfl (fun hc16 => ?_) (fun hc16 => ?_)
          · have hk3 : e.kind = 3 := of_decide_eq_true hc16
            rw [if_pos hk3] at hst
            refine At.seq (At.reg ?_)
            refine At.v (RunV.move rfl) rfl ?_
            refine At.v (RunV.nilCheckO rfl hsM) rfl ?_
            refine At.v (RunV.field ft84_3_11 rfl rfl) rfl ?_
            refine At.step_ (Step.storeX (ds := [.bool false]) hmblk1 rfl rfl rfl sz4_1 rfl rfl rfl ?_)
            intro w21 hbut2 hmblk2
            have hb8k2 := hb8k.but hbut2 (hb8k.ne hmblk1 rfl)
            have hblk2 := hblk1.but hbut2 (hblk1.ne hmblk1 rfl)
            refine At.nil (At.keep (.cons (t := 5) rfl <| .cons (t := 6) rfl <| .cons (t := 8) rfl <| .nil) ?_)
            refine At.piS hmix (.take 0 (.take 1 (.take 2 (.take 3 (.take 4 (.take 5 (.run 6 (.take 7 (.take 8 (.run 9 .done)))))))))) (fun w' => Blk w' b8 [.bool (planOf a.kind a.state m.ev.name m.ev.n).1, .slice pep pem pec, .string (planOf a.kind a.state m.ev.name m.ev.n).2, .bool pst, .string pf] 87) (by kernel_rfl) (by kernel_rfl) (fun w1 hl => hb8k2.le hl) ?_
            intro w22 hs9
            have hs := hb8k2.le hs9
            have hblk3 := hblk2.le hs9
            refine At.take rfl (fun w' hs' => RunV.move rfl) rfl ?_
            refine At.take rfl (fun w' hs' => RunV.move rfl) rfl ?_
            refine At.take rfl (fun w' hs' => RunV.move rfl) rfl ?_
            refine At.take rfl (fun w' hs' => RunV.loadAgg ag87_5 rfl (Blk.row hs') rfl) rfl ?_
            refine At.take rfl (fun w' hs' => RunV.nilCheckO rfl hsA) rfl ?_
            refine At.take rfl (fun w' hs' => RunV.field ft90_5_9 rfl rfl) rfl ?_
            refine At.prun_ rfl (Step.storeX (ds := [ptrV (axOf lb e.id)]) hblk3 rfl rfl rfl sz82_1 rfl rfl rfl ?_)
            intro w23 hbut3 hblk4
            have hs8 := hs.but hbut3 (hs.ne hblk3 rfl)
            refine ⟨hs8, ?_⟩
            refine At.take rfl (fun w' hs' => RunV.nilCheckO rfl hsA) rfl ?_
            refine At.take rfl (fun w' hs' => RunV.field ft90_6_10 rfl rfl) rfl ?_
            refine At.prun_ rfl (Step.storeX (ds := [.bool (planOf a.kind a.state m.ev.name m.ev.n).1, .slice pep pem pec, .string (planOf a.kind a.state m.ev.name m.ev.n).2, .bool pst, .string pf]) hblk4 rfl rfl rfl sz87_5 rfl rfl rfl ?_)
            intro w24 hbut4 hblk5
            refine ⟨hs8.but hbut4 (hs8.ne hblk4 rfl), ?_⟩
            refine At.pdone (At.keep (.nil) ?_)
            refine At.seq (At.reg ?_)
            refine At.v (RunV.assign rfl) rfl ?_
            refine At.nil (At.keep (.cons (t := 4) rfl <| .nil) ?_)
            refine At.ret ?_
            refine At.result1 rfl rfl ?_
            have hb1 := h.le hl0
            have hfin := hb1.setL (l' := { m with arrived := true, held := false }) (hbut1.trans hbut2) hmi (hmblk.le hl0) hmblk2
            have hR3 := ((hRa.stays (GB.le hl0) (hblk.le hl0)).stays (GB.but hbut1 hm0 (hmblk.le hl0) rfl) hblk1).stays (GB.but hbut2 hm0 hmblk1 rfl) hblk2
            have hR4 := hR3.stays (GB.le hs9) hblk3
            have hfin2 := (hfin.le hs9).setA (i := e.actor.toNat - 1) (a' := { a with work := some (e.id.toNat - 1), pstate := (planOf a.kind a.state m.ev.name m.ev.n).2 }) (hbut3.trans hbut4) hxi hblk3 (hR4.to (hbut3.trans hbut4) hx0 hblk5 rfl ⟨_, hmi, rfl⟩ ⟨_, _, _, rfl⟩)
            unfold RuleP
            rw [hst]
            exact ⟨rfl, ⟨(((hl0.mono h.hB).trans ((hbut1.trans hbut2).below hm0 hb1.hB)).trans (hs9.mono hfin.hB)).trans ((hbut3.trans hbut4).below hx0 (Nat.le_trans hfin.hB hs9.size)), (Kp.le hl0).trans ((Kp.but hbut1 (hmblk.le hl0) rfl).trans ((Kp.but hbut2 hmblk1 rfl).trans ((Kp.le hs9).trans ((Kp.but hbut3 hblk3 rfl).trans (Kp.but hbut4 hblk4 rfl)))))⟩, _, _, _, _, _, hfin2.mono (Nat.le_succ N)⟩
          · have hk3 : ¬ e.kind = 3 := of_decide_eq_false hc16
            rw [if_neg hk3] at hst
            refine At.skip ?_
            refine At.seq (At.reg ?_)
            refine At.v (RunV.assign rfl) rfl ?_
            refine At.nil (At.keep (.cons (t := 4) rfl <| .nil) ?_)
            refine At.ret ?_
            refine At.result1 rfl rfl ?_
            exact RuleP.setL (l' := { m with arrived := true }) h hl0 hbut1 hmi (hmblk.le hl0) hmblk1 hst
    · refine At.prun rfl rfl (Step.alloc hO zt87 ?_)
      intro b8 w25 hO hlb8 hnb8
      have hzb8 := Nat.le_trans hs.size hnb8
      refine ⟨hs.tr hlb8, ?_⟩
      replace hs := hs.tr hlb8
      refine At.prun rfl rfl (Step.call rfl pf40 rfl (do_c a.kind a.state m.ev.name m.ev.n kv ku _ ((hRa.states.any (R' := SttR G0) fun _ _ _ h => h.any).le hO.le fun _ _ _ h => h.le hO.le) (fun s hs r hr => (hRa.small.2.2.2 s hs).2 r hr)) ?_)
      intro v w26 hr
      obtain ⟨⟨pep, pem, pec, pst, pf, rfl⟩, hl⟩ := hr
      replace hO := hO.on hl
      replace hs := hs.tr hl
      refine ⟨hs, ?_⟩
      refine At.prun_ rfl (Step.storeAll hO rfl rfl rfl sz87_5 .here rfl rfl ?_)
      intro w27 hO hbut
      have hs := hbut.le hs hzb8
      refine ⟨hs, ?_⟩
      refine At.pdone (At.keep (.cons (t := 0) rfl <| .cons (t := 3) rfl <| .cons (t := 5) rfl <| .cons (t := 6) rfl <| .cons (t := 8) rfl <| .nil) ?_)
      refine At.seq ?_
      refine At.seq (At.reg ?_)
      refine At.v (RunV.field ft87_0_0 rfl rfl) rfl ?_
      refine At.v (RunV.load ct4 rfl ((hO.at (i := 0) rfl).cell rfl)) rfl ?_
      refine At.v (RunV.field ft32_0_0 rfl rfl) rfl ?_
      refine At.v (RunV.load ct3 rfl ((hO.at (i := 3) rfl).cell rfl)) rfl ?_
      refine At.v (RunV.eqI rfl rfl) rfl ?_
      refine At.v (RunV.neB rfl rfl un4) rfl ?_
      refine At.nil (At.keep (.cons (t := 0) rfl <| .cons (t := 3) rfl <| .cons (t := 5) rfl <| .cons (t := 6) rfl <| .cons (t := 8) rfl <| .cons (t := 76) rfl <| .nil) ?_)
      refine At.cond rfl (fun hc6 => ?_) (fun hc6 => ?_)
      · have hpl : ¬ (planOf a.kind a.state m.ev.name m.ev.n).1 = decide (e.kind = 5) := by simpa using hc6
        refine At.seq (At.reg ?_)
        refine At.v (RunV.assign rfl) rfl ?_
        refine At.nil (At.keep (.cons (t := 4) rfl <| .nil) ?_)
        refine At.ret ?_
        refine At.result1 rfl rfl ?_
        refine RuleP.no (st := stStart b e) (n := 3) h hO.le ?_
        rw [hst, if_neg hpl]
      · have hpl : (planOf a.kind a.state m.ev.name m.ev.n).1 = decide (e.kind = 5) := by simpa using hc6
        rw [if_pos hpl] at hst
        refine At.skip ?_
        refine At.seq ?_
        refine At.seq (At.reg ?_)
        refine At.v (RunV.move rfl) rfl ?_
        refine At.v (RunV.nilCheckO rfl hsM) rfl ?_
        refine At.v (RunV.field ft84_0_0 rfl rfl) rfl ?_
        refine At.v (RunV.field ft32_8_8 rfl rfl) rfl ?_
        refine At.v (RunV.load ct4 rfl (cell_le (Blk.cell (hM.blk hsM) rfl) hO.le)) rfl ?_
        refine At.v (RunV.not rfl) rfl ?_
        refine At.v (RunV.move rfl) rfl ?_
        refine At.g (Guard.t rfl rfl rfl) (fun hc => RunV.move rfl) rfl ?_
        refine At.g (Guard.t rfl rfl rfl) (fun hc => RunV.nilCheckO (gvE rfl hc) hsM) rfl ?_
        refine At.g (Guard.t rfl rfl rfl) (fun hc => RunV.field ft84_1_9 (gvE rfl hc) rfl) rfl ?_
        refine At.keep (.cons (t := 0) rfl <| .cons (t := 3) rfl <| .cons (t := 5) rfl <| .cons (t := 6) rfl <| .cons (t := 8) rfl <| .cons (t := 83) rfl <| .cons (t := 86) rfl <| .nil) ?_
        refine At.g (Guard.t rfl rfl rfl) (fun hc => RunV.load ct4 (gvE rfl hc) (cell_le (Blk.cell (hM.blk hsM) rfl) hO.le)) rfl ?_
        refine At.g (Guard.t rfl rfl rfl) (fun hc => RunV.not (gvE rfl hc)) rfl ?_
        refine At.v (RunV.pickAnd rfl rfl) rfl ?_
        refine At.v (RunV.move rfl) rfl ?_
        refine At.g (Guard.t rfl rfl rfl) (fun hc => RunV.move rfl) rfl ?_
        refine At.g (Guard.t rfl rfl rfl) (fun hc => RunV.nilCheckO (gvE rfl hc) hsM) rfl ?_
        refine At.g (Guard.t rfl rfl rfl) (fun hc => RunV.field ft84_2_10 (gvE rfl hc) rfl) rfl ?_
        refine At.g (Guard.t rfl rfl rfl) (fun hc => RunV.load ct4 (gvE rfl hc) (cell_le (Blk.cell (hM.blk hsM) rfl) hO.le)) rfl ?_
        refine At.g (Guard.t rfl rfl rfl) (fun hc => RunV.not (gvE rfl hc)) rfl ?_
        refine At.v (RunV.pickAnd rfl rfl) rfl ?_
        refine At.nil (At.keep (.cons (t := 0) rfl <| .cons (t := 3) rfl <| .cons (t := 5) rfl <| .cons (t := 6) rfl <| .cons (t := 8) rfl <| .cons (t := 96) rfl <| .nil) ?_)
        refine At.cond rfl (fun hc8 => ?_) (fun hc8 => ?_)
        · have hfm : fresh m = true := hc8
          obtain ⟨lb0, lcap, lcs, rfl, _, _, hlcap, _⟩ : ∃ lb0 lcap cs, lv = .slice (some ⟨lb0, 0, none⟩) b.letters.length lcap ∧ Blk w lb0 cs 82 ∧ cs.length = lcap * 1 ∧ b.letters.length ≤ lcap ∧ cs.take (b.letters.length * 1) = lb.map ptrV := by
            rcases h.lsl with ⟨_, h0, _⟩ | h1
            · omega
            · exact h1
          refine At.seq (At.pi hmix (.take 0 (.take 1 (.take 2 (.take 3 (.take 4 (.take 5 (.take 6 (.take 7 (.take 8 (.take 9 .done)))))))))) (by kernel_rfl) (by kernel_rfl) ?_)
          intro w28 hs
          have hs0 := hs
          have hR := hO
          replace hO := hO.on hs
          refine At.take rfl (fun w' hs' => RunV.move rfl) rfl ?_
          refine At.take rfl (fun w' hs' => RunV.nilCheck rfl) rfl ?_
          refine At.take rfl (fun w' hs' => RunV.field ft49_2_2 rfl rfl) rfl ?_
          refine At.take rfl (fun w' hs' => RunV.load ct47 rfl (cell_le (h.book.cell (i := 2) rfl) (hR.le.tr hs'))) rfl ?_
          refine At.take rfl (fun w' hs' => RunV.field ft32_2_2 rfl rfl) rfl ?_
          refine At.take rfl (fun w' hs' => RunV.load ct30 rfl (((hR.at (i := 3) rfl).le hs').cell rfl)) rfl ?_
          refine At.take rfl (fun w' hs' => RunV.subI rfl rfl (wrap_u (by omega) (by omega))) rfl ?_
          refine At.take rfl (fun w' hs' => RunV.sliceHi st47_82_1 rfl rfl (show e.id - 1 = (((e.id.toNat - 1 : Nat)) : Int) by omega) (by omega)) rfl ?_
          refine At.take rfl (fun w' hs' => RunV.lenSl rfl isl47) rfl ?_
          refine At.take rfl (fun w' hs' => RunV.move rfl) rfl ?_
          refine At.pdone (At.keep (.cons (t := 3) rfl <| .cons (t := 5) rfl <| .cons (t := 6) rfl <| .cons (t := 8) rfl <| .cons (t := 104) rfl <| .cons (t := 105) rfl <| .cons (t := 106) rfl <| .nil) ?_)
          refine At.block ?_
          refine At.loopC (σ := Nat) (.cons (t := 3) rfl <| .cons (t := 5) rfl <| .cons (t := 6) rfl <| .cons (t := 8) rfl <| .cons (t := 104) rfl <| .cons (t := 105) rfl <| .nil) (fun i => [(106, .int .i64 (i : Int))]) (fun i wl => Le w28 wl ∧ i ≤ e.id.toNat - 1 ∧ ∀ j o, j < i → b.letters[j]? = some o → ahead m o = false) (fun i => (e.id.toNat - 1) - i) 0 (.cons (t := 106) rfl <| .nil) ⟨Le.rfl' _, Nat.zero_le _, fun j o hj => absurd hj (Nat.not_lt_zero _)⟩ ?_
          intro i w29 hinv
          refine At.keep (.cons (t := 3) rfl <| .cons (t := 5) rfl <| .cons (t := 6) rfl <| .cons (t := 8) rfl <| .cons (t := 104) rfl <| .cons (t := 105) rfl <| .cons (t := 106) rfl <| .nil) ?_
          have hO := hO.on hinv.1
          have hi := hinv.2.1
          refine At.seq (At.reg ?_)
          refine At.v (RunV.ltI rfl rfl) rfl ?_
          refine At.nil (At.keep (.cons (t := 3) rfl <| .cons (t := 5) rfl <| .cons (t := 6) rfl <| .cons (t := 8) rfl <| .cons (t := 104) rfl <| .cons (t := 105) rfl <| .cons (t := 106) rfl <| .cons (t := 107) rfl <| .nil) ?_)
          refine At.seq ?_
          refine At.cond rfl (fun hlt => ?_) (fun hlt => ?_)
          · refine At.skip ?_
            refine At.seq ?_
            refine At.block ?_
            have hk : i < e.id.toNat - 1 := by have := of_decide_eq_true hlt; omega
            obtain ⟨o, ho1⟩ : ∃ o, b.letters[i]? = some o := ⟨_, List.getElem?_eq_getElem (by omega)⟩
            obtain ⟨y, hy1⟩ : ∃ y, lb[i]? = some y := ⟨_, List.getElem?_eq_getElem (by rw [h.llen]; omega)⟩
            have hob := h.ltrs i o y ho1 hy1
            obtain ⟨_, _, hv9, _, hcell⟩ := h.lsl.get (i := i) (u := ptrV y) (by rw [List.getElem?_map, hy1]; rfl)
            cases hv9
            refine At.seq (At.reg ?_)
            refine At.v (RunV.index st47_82_1 rfl rfl rfl hk rfl) rfl ?_
            refine At.v (RunV.load ct82 rfl (cell_le hcell hO.le)) rfl ?_
            refine At.v (RunV.assign rfl) rfl ?_
            refine At.nil (At.keep (.cons (t := 3) rfl <| .cons (t := 5) rfl <| .cons (t := 6) rfl <| .cons (t := 8) rfl <| .cons (t := 10) rfl <| .cons (t := 104) rfl <| .cons (t := 105) rfl <| .cons (t := 106) rfl <| .nil) ?_)
            refine At.seq (At.pi hmix (.take 0 (.take 1 (.take 2 (.take 3 (.take 4 (.take 5 (.take 6 (.take 7 (.take 8 (.take 9 (.take 10 (.take 11 (.take 12 (.take 13 (.take 14 (.take 15 (.take 16 (.take 17 (.take 18 (.take 19 (.take 20 (.take 21 (.take 22 (.take 23 (.take 24 (.take 25 (.take 26 (.take 27 (.take 28 (.take 29 (.take 30 (.take 31 (.take 32 (.take 33 (.take 34 (.take 35 (.take 36 (.take 37 (.take 38 (.take 39 (.take 40 (.take 41 (.take 42 (.take 43 (.take 44 (.take 45 (.take 46 (.take 47 (.take 48 (.take 49 (.take 50 (.take 51 .done)))))))))))))))))))))))))))))))))))))))))))))))))))) (by kernel_rfl) (by kernel_rfl) ?_)
            intro w30 hs
            have hs0 := hs
            have hR := hO
            replace hO := hO.on hs
            refine At.take rfl (fun w' hs' => RunV.move rfl) rfl ?_
            refine At.take rfl (fun w' hs' => RunV.nilCheck rfl) rfl ?_
            refine At.take rfl (fun w' hs' => RunV.field ft84_0_0 rfl rfl) rfl ?_
            refine At.take rfl (fun w' hs' => RunV.field ft32_3_3 rfl rfl) rfl ?_
            refine At.take rfl (fun w' hs' => RunV.load ct3 rfl (cell_le (Blk.cell ((fun _ : True => hob) trivial) rfl) (hR.le.tr hs'))) rfl ?_
            refine At.take rfl (fun w' hs' => RunV.move rfl) rfl ?_
            refine At.take rfl (fun w' hs' => RunV.nilCheckO rfl hsM) rfl ?_
            refine At.take rfl (fun w' hs' => RunV.field ft84_0_0 rfl rfl) rfl ?_
            refine At.take rfl (fun w' hs' => RunV.field ft32_3_3 rfl rfl) rfl ?_
            refine At.take rfl (fun w' hs' => RunV.load ct3 rfl (cell_le (Blk.cell (hM.blk hsM) rfl) (hR.le.tr hs'))) rfl ?_
            refine At.keep (.cons (t := 3) rfl <| .cons (t := 5) rfl <| .cons (t := 6) rfl <| .cons (t := 8) rfl <| .cons (t := 10) rfl <| .cons (t := 104) rfl <| .cons (t := 105) rfl <| .cons (t := 106) rfl <| .cons (t := 114) rfl <| .cons (t := 119) rfl <| .nil) ?_
            refine At.take rfl (fun w' hs' => RunV.eqI rfl rfl) rfl ?_
            refine At.take rfl (fun w' hs' => RunV.move rfl) rfl ?_
            refine At.takeG rfl (Guard.t rfl rfl rfl) (fun hc w' hs' => RunV.move rfl) rfl ?_
            refine At.takeG rfl (Guard.t rfl rfl rfl) (fun hc w' hs' => RunV.nilCheck (gvE rfl hc)) rfl ?_
            refine At.takeG rfl (Guard.t rfl rfl rfl) (fun hc w' hs' => RunV.field ft84_0_0 (gvE rfl hc) rfl) rfl ?_
            refine At.takeG rfl (Guard.t rfl rfl rfl) (fun hc w' hs' => RunV.field ft32_4_4 (gvE rfl hc) rfl) rfl ?_
            refine At.takeG rfl (Guard.t rfl rfl rfl) (fun hc w' hs' => RunV.load ct3 (gvE rfl hc) (cell_le (Blk.cell ((fun _ : True => hob) trivial) rfl) (hR.le.tr hs'))) rfl ?_
            refine At.takeG rfl (Guard.t rfl rfl rfl) (fun hc w' hs' => RunV.move rfl) rfl ?_
            refine At.takeG rfl (Guard.t rfl rfl rfl) (fun hc w' hs' => RunV.nilCheckO (gvE rfl hc) hsM) rfl ?_
            refine At.takeG rfl (Guard.t rfl rfl rfl) (fun hc w' hs' => RunV.field ft84_0_0 (gvE rfl hc) rfl) rfl ?_
            refine At.keep (.cons (t := 3) rfl <| .cons (t := 5) rfl <| .cons (t := 6) rfl <| .cons (t := 8) rfl <| .cons (t := 10) rfl <| .cons (t := 104) rfl <| .cons (t := 105) rfl <| .cons (t := 106) rfl <| .cons (t := 121) rfl <| .cons (t := 126) rfl <| .cons (t := 129) rfl <| .nil) ?_
            refine At.takeG rfl (Guard.t rfl rfl rfl) (fun hc w' hs' => RunV.field ft32_4_4 (gvE rfl hc) rfl) rfl ?_
            refine At.takeG rfl (Guard.t rfl rfl rfl) (fun hc w' hs' => RunV.load ct3 (gvE rfl hc) (cell_le (Blk.cell (hM.blk hsM) rfl) (hR.le.tr hs'))) rfl ?_
            refine At.takeG rfl (Guard.t rfl rfl rfl) (fun hc w' hs' => RunV.eqI (gvE rfl hc) (gvE rfl hc)) rfl ?_
            refine At.take rfl (fun w' hs' => RunV.pickAnd rfl rfl) rfl ?_
            refine At.take rfl (fun w' hs' => RunV.move rfl) rfl ?_
            refine At.takeG rfl (Guard.t rfl rfl rfl) (fun hc w' hs' => RunV.move rfl) rfl ?_
            refine At.takeG rfl (Guard.t rfl rfl rfl) (fun hc w' hs' => RunV.nilCheck (gvE rfl hc)) rfl ?_
            refine At.takeG rfl (Guard.t rfl rfl rfl) (fun hc w' hs' => RunV.field ft84_3_11 (gvE rfl hc) rfl) rfl ?_
            refine At.takeG rfl (Guard.t rfl rfl rfl) (fun hc w' hs' => RunV.load ct4 (gvE rfl hc) (cell_le (Blk.cell ((fun _ : True => hob) trivial) rfl) (hR.le.tr hs'))) rfl ?_
            refine At.take rfl (fun w' hs' => RunV.pickAnd rfl rfl) rfl ?_
            refine At.keep (.cons (t := 3) rfl <| .cons (t := 5) rfl <| .cons (t := 6) rfl <| .cons (t := 8) rfl <| .cons (t := 10) rfl <| .cons (t := 104) rfl <| .cons (t := 105) rfl <| .cons (t := 106) rfl <| .cons (t := 139) rfl <| .nil) ?_
            refine At.take rfl (fun w' hs' => RunV.move rfl) rfl ?_
            refine At.takeG rfl (Guard.t rfl rfl rfl) (fun hc w' hs' => RunV.move rfl) rfl ?_
            refine At.takeG rfl (Guard.t rfl rfl rfl) (fun hc w' hs' => RunV.nilCheck (gvE rfl hc)) rfl ?_
            refine At.takeG rfl (Guard.t rfl rfl rfl) (fun hc w' hs' => RunV.field ft84_0_0 (gvE rfl hc) rfl) rfl ?_
            refine At.takeG rfl (Guard.t rfl rfl rfl) (fun hc w' hs' => RunV.field ft32_8_8 (gvE rfl hc) rfl) rfl ?_
            refine At.takeG rfl (Guard.t rfl rfl rfl) (fun hc w' hs' => RunV.load ct4 (gvE rfl hc) (cell_le (Blk.cell ((fun _ : True => hob) trivial) rfl) (hR.le.tr hs'))) rfl ?_
            refine At.takeG rfl (Guard.t rfl rfl rfl) (fun hc w' hs' => RunV.not (gvE rfl hc)) rfl ?_
            refine At.take rfl (fun w' hs' => RunV.pickAnd rfl rfl) rfl ?_
            refine At.take rfl (fun w' hs' => RunV.move rfl) rfl ?_
            refine At.takeG rfl (Guard.t rfl rfl rfl) (fun hc w' hs' => RunV.move rfl) rfl ?_
            refine At.keep (.cons (t := 3) rfl <| .cons (t := 5) rfl <| .cons (t := 6) rfl <| .cons (t := 8) rfl <| .cons (t := 10) rfl <| .cons (t := 104) rfl <| .cons (t := 105) rfl <| .cons (t := 106) rfl <| .cons (t := 148) rfl <| .cons (t := 149) rfl <| .nil) ?_
            refine At.takeG rfl (Guard.t rfl rfl rfl) (fun hc w' hs' => RunV.nilCheck (gvE rfl hc)) rfl ?_
            refine At.takeG rfl (Guard.t rfl rfl rfl) (fun hc w' hs' => RunV.field ft84_1_9 (gvE rfl hc) rfl) rfl ?_
            refine At.takeG rfl (Guard.t rfl rfl rfl) (fun hc w' hs' => RunV.load ct4 (gvE rfl hc) (cell_le (Blk.cell ((fun _ : True => hob) trivial) rfl) (hR.le.tr hs'))) rfl ?_
            refine At.takeG rfl (Guard.t rfl rfl rfl) (fun hc w' hs' => RunV.not (gvE rfl hc)) rfl ?_
            refine At.take rfl (fun w' hs' => RunV.pickAnd rfl rfl) rfl ?_
            refine At.take rfl (fun w' hs' => RunV.move rfl) rfl ?_
            refine At.takeG rfl (Guard.t rfl rfl rfl) (fun hc w' hs' => RunV.move rfl) rfl ?_
            refine At.takeG rfl (Guard.t rfl rfl rfl) (fun hc w' hs' => RunV.nilCheck (gvE rfl hc)) rfl ?_
            refine At.takeG rfl (Guard.t rfl rfl rfl) (fun hc w' hs' => RunV.field ft84_2_10 (gvE rfl hc) rfl) rfl ?_
            refine At.takeG rfl (Guard.t rfl rfl rfl) (fun hc w' hs' => RunV.load ct4 (gvE rfl hc) (cell_le (Blk.cell ((fun _ : True => hob) trivial) rfl) (hR.le.tr hs'))) rfl ?_
            refine At.takeG rfl (Guard.t rfl rfl rfl) (fun hc w' hs' => RunV.not (gvE rfl hc)) rfl ?_
            refine At.take rfl (fun w' hs' => RunV.pickAnd rfl rfl) rfl ?_
            refine At.pdone (At.keep (.cons (t := 3) rfl <| .cons (t := 5) rfl <| .cons (t := 6) rfl <| .cons (t := 8) rfl <| .cons (t := 104) rfl <| .cons (t := 105) rfl <| .cons (t := 106) rfl <| .cons (t := 161) rfl <| .nil) ?_)
            refine At.cond rfl (fun hgo => ?_) (fun hgo => ?_)
            · have hah : ahead m o = true := hgo
              refine At.seq (At.reg ?_)
              refine At.v (RunV.assign rfl) rfl ?_
              refine At.nil (At.keep (.cons (t := 4) rfl <| .nil) ?_)
              refine At.ret ?_
              refine At.result1 rfl rfl ?_
              refine RuleP.no (st := stStart b e) (n := 4) h hO.le ?_
              rw [hst, if_pos]
              rw [hfm, Bool.true_and, List.any_eq_true]
              exact ⟨o, List.mem_of_getElem? (i := i) (by rw [List.getElem?_take, if_pos hk]; exact ho1), hah⟩
            · replace hgo : ahead m o = false := hgo
              refine At.skip ?_
              refine At.reg ?_
              refine At.v (RunV.inc rfl rfl (by omega)) rfl ?_
              refine At.v (RunV.move rfl) rfl ?_
              refine At.nil (At.keep (.cons (t := 3) rfl <| .cons (t := 5) rfl <| .cons (t := 6) rfl <| .cons (t := 8) rfl <| .cons (t := 104) rfl <| .cons (t := 105) rfl <| .cons (t := 106) rfl <| .nil) ?_)
              exact At.againC (.cons (t := 3) rfl <| .cons (t := 5) rfl <| .cons (t := 6) rfl <| .cons (t := 8) rfl <| .cons (t := 104) rfl <| .cons (t := 105) rfl <| .nil) (i + 1) (.cons (t := 106) rfl <| .nil) ⟨hinv.1.tr hs, hk, fun j o' hj ho => by
                    rcases Nat.lt_succ_iff_lt_or_eq.1 hj with hj | rfl
                    · exact hinv.2.2 j o' hj ho
                    · rw [ho1] at ho; cases ho; exact hgo⟩ (by omega)
          · have hno : (fresh m && (b.letters.take (e.id.toNat - 1)).any (ahead m)) = false := by
              rw [hfm, Bool.true_and, List.any_eq_false]
              intro o ho
              obtain ⟨j, hj, rfl⟩ := List.getElem_of_mem ho
              rw [List.getElem_take]
              rw [List.length_take] at hj
              rw [hinv.2.2 j _ (by have := of_decide_eq_false hlt; omega) (List.getElem?_eq_getElem (by omega))]
              exact Bool.false_ne_true
            rw [if_neg (by rw [hno]; exact Bool.false_ne_true)] at hst
            refine At.exit rfl ?_
            refine At.seq (At.reg ?_)
            refine At.v (RunV.move rfl) rfl ?_
            refine At.v (RunV.nilCheckO rfl hsM) rfl ?_
            refine At.v (RunV.field ft84_2_10 rfl rfl) rfl ?_
            refine At.step_ (Step.storeX (ds := [.bool true]) (hmblk.le hO.le) rfl rfl rfl sz4_1 rfl rfl rfl ?_)
            intro w31 hbut1 hmblk1
            have hl0 := hO.le
            have hb3k := (hO.at (i := 3) rfl).but hbut1 ((hO.at (i := 3) rfl).ne (hmblk.le hO.le) rfl)
            have hb8k := (hO.at (i := 0) rfl).but hbut1 ((hO.at (i := 0) rfl).ne (hmblk.le hO.le) rfl)
            have hblk1 := (hblk.le hO.le).but hbut1 ((hblk.le hO.le).ne (hmblk.le hO.le) rfl)
            refine At.nil (At.keep (.cons (t := 3) rfl <| .cons (t := 5) rfl <| .cons (t := 6) rfl <| .cons (t := 8) rfl <| .nil) ?_)
            refine At.seq ?_
            refine At.seq (At.reg ?_)
            refine At.v (RunV.field ft32_0_0 rfl rfl) rfl ?_
            refine At.v (RunV.load ct3 rfl (hb3k.cell (i := 0) rfl)) rfl ?_
            refine At.v (RunV.eqI rfl rfl) rfl ?_
            refine At.nil (At.keep (.cons (t := 5) rfl <| .cons (t := 6) rfl <| .cons (t := 8) rfl <| .cons (t := 168) rfl <| .nil) ?_)
            refine At.cond rfl (fun hc16 => ?_) (fun hc16 => ?_)
            · have hk3 : e.kind = 3 := of_decide_eq_true hc16
              rw [if_pos hk3] at hst
              refine At.seq (At.reg ?_)
              refine At.v (RunV.move rfl) rfl ?_
              refine At.v (RunV.nilCheckO rfl hsM) rfl ?_
              refine At.v (RunV.field ft84_3_11 rfl rfl) rfl ?_
              refine At.step_ (Step.storeX (ds := [.bool false]) hmblk1 rfl rfl rfl sz4_1 rfl rfl rfl ?_)
              intro w32 hbut2 hmblk2
              have hb8k2 := hb8k.but hbut2 (hb8k.ne hmblk1 rfl)
              have hblk2 := hblk1.but hbut2 (hblk1.ne hmblk1 rfl)
              refine At.nil (At.keep (.cons (t := 5) rfl <| .cons (t := 6) rfl <| .cons (t := 8) rfl <| .nil) ?_)
              refine At.piS hmix (.take 0 (.take 1 (.take 2 (.take 3 (.take 4 (.take 5 (.run 6 (.take 7 (.take 8 (.run 9 .done)))))))))) (fun w' => Blk w' b8 [.bool (planOf a.kind a.state m.ev.name m.ev.n).1, .slice pep pem pec, .string (planOf a.kind a.state m.ev.name m.ev.n).2, .bool pst, .string pf] 87) (by kernel_rfl) (by kernel_rfl) (fun w1 hl => hb8k2.le hl) ?_
              intro w33 hs9
              have hs := hb8k2.le hs9
              have hblk3 := hblk2.le hs9
              refine At.take rfl (fun w' hs' => RunV.move rfl) rfl ?_
              refine At.take rfl (fun w' hs' => RunV.move rfl) rfl ?_
              refine At.take rfl (fun w' hs' => RunV.move rfl) rfl ?_
              refine At.take rfl (fun w' hs' => RunV.loadAgg ag87_5 rfl (Blk.row hs') rfl) rfl ?_
              refine At.take rfl (fun w' hs' => RunV.nilCheckO rfl hsA) rfl ?_
              refine At.take rfl (fun w' hs' => RunV.field ft90_5_9 rfl rfl) rfl ?_
              refine At.prun_ rfl (Step.storeX (ds := [ptrV (axOf lb e.id)]) hblk3 rfl rfl rfl sz82_1 rfl rfl rfl ?_)
              intro w34 hbut3 hblk4
              have hs8 := hs.but hbut3 (hs.ne hblk3 rfl)
              refine ⟨hs8, ?_⟩
              refine At.take rfl (fun w' hs' => RunV.nilCheckO rfl hsA) rfl ?_
              refine At.take rfl (fun w' hs' => RunV.field ft90_6_10 rfl rfl) rfl ?_
              refine At.prun_ rfl (Step.storeX (ds := [.bool (planOf a.kind a.state m.ev.name m.ev.n).1, .slice pep pem pec, .string (planOf a.kind a.state m.ev.name m.ev.n).2, .bool pst, .string pf]) hblk4 rfl rfl rfl sz87_5 rfl rfl rfl ?_)
              intro w35 hbut4 hblk5
              refine ⟨hs8.but hbut4 (hs8.ne hblk4 rfl), ?_⟩
              refine At.pdone (At.keep (.nil) ?_)
              refine At.seq (At.reg ?_)
              refine At.v (RunV.assign rfl) rfl ?_
              refine At.nil (At.keep (.cons (t := 4) rfl <| .nil) ?_)
              refine At.ret ?_
              refine At.result1 rfl rfl ?_
              have hb1 := h.le hl0
              have hfin := hb1.setL (l' := { m with arrived := true, held := false }) (hbut1.trans hbut2) hmi (hmblk.le hl0) hmblk2
              have hR3 := ((hRa.stays (GB.le hl0) (hblk.le hl0)).stays (GB.but hbut1 hm0 (hmblk.le hl0) rfl) hblk1).stays (GB.but hbut2 hm0 hmblk1 rfl) hblk2
              have hR4 := hR3.stays (GB.le hs9) hblk3
              have hfin2 := (hfin.le hs9).setA (i := e.actor.toNat - 1) (a' := { a with work := some (e.id.toNat - 1), pstate := (planOf a.kind a.state m.ev.name m.ev.n).2 }) (hbut3.trans hbut4) hxi hblk3 (hR4.to (hbut3.trans hbut4) hx0 hblk5 rfl ⟨_, hmi, rfl⟩ ⟨_, _, _, rfl⟩)
              unfold RuleP
              rw [hst]
              exact ⟨rfl, ⟨(((hl0.mono h.hB).trans ((hbut1.trans hbut2).below hm0 hb1.hB)).trans (hs9.mono hfin.hB)).trans ((hbut3.trans hbut4).below hx0 (Nat.le_trans hfin.hB hs9.size)), (Kp.le hl0).trans ((Kp.but hbut1 (hmblk.le hl0) rfl).trans ((Kp.but hbut2 hmblk1 rfl).trans ((Kp.le hs9).trans ((Kp.but hbut3 hblk3 rfl).trans (Kp.but hbut4 hblk4 rfl)))))⟩, _, _, _, _, _, hfin2.mono (Nat.le_succ N)⟩
            · have hk3 : ¬ e.kind = 3 := of_decide_eq_false hc16
              rw [if_neg hk3] at hst
              refine At.skip ?_
              refine At.seq (At.reg ?_)
              refine At.v (RunV.assign rfl) rfl ?_
              refine At.nil (At.keep (.cons (t := 4) rfl <| .nil) ?_)
              refine At.ret ?_
              refine At.result1 rfl rfl ?_
              exact RuleP.setL (l' := { m with arrived := true }) h hl0 hbut1 hmi (hmblk.le hl0) hmblk1 hst
        · have hno : (fresh m && (b.letters.take (e.id.toNat - 1)).any (ahead m)) = false := by rw [show fresh m = false from hc8]; rfl
          rw [if_neg (by rw [hno]; exact Bool.false_ne_true)] at hst
          refine At.skip ?_
          refine At.seq (At.reg ?_)
          refine At.v (RunV.move rfl) rfl ?_
          refine At.v (RunV.nilCheckO rfl hsM) rfl ?_
          refine At.v (RunV.field ft84_2_10 rfl rfl) rfl ?_
          refine At.step_ (Step.storeX (ds := [.bool true]) (hmblk.le hO.le) rfl rfl rfl sz4_1 rfl rfl rfl ?_)
          intro w36 hbut1 hmblk1
          have hl0 := hO.le
          have hb3k := (hO.at (i := 3) rfl).but hbut1 ((hO.at (i := 3) rfl).ne (hmblk.le hO.le) rfl)
          have hb8k := (hO.at (i := 0) rfl).but hbut1 ((hO.at (i := 0) rfl).ne (hmblk.le hO.le) rfl)
          have hblk1 := (hblk.le hO.le).but hbut1 ((hblk.le hO.le).ne (hmblk.le hO.le) rfl)
          refine At.nil (At.keep (.cons (t := 3) rfl <| .cons (t := 5) rfl <| .cons (t := 6) rfl <| .cons (t := 8) rfl <| .nil) ?_)
          refine At.seq ?_
          refine At.seq (At.reg ?_)
          refine At.v (RunV.field ft32_0_0 rfl rfl) rfl ?_
          refine At.v (RunV.load ct3 rfl (hb3k.cell (i := 0) rfl)) rfl ?_
          refine At.v (RunV.eqI rfl rfl) rfl ?_
          refine At.nil (At.keep (.cons (t := 5) rfl <| .cons (t := 6) rfl <| .cons (t := 8) rfl <| .cons (t := 168) rfl <| .nil) ?_)
          refine At.cond rfl (fun hc16 => ?_) (fun hc16 => ?_)
          · have hk3 : e.kind = 3 := of_decide_eq_true hc16
            rw [if_pos hk3] at hst
            refine At.seq (At.reg ?_)
            refine At.v (RunV.move rfl) rfl ?_
            refine At.v (RunV.nilCheckO rfl hsM) rfl ?_
            refine At.v (RunV.field ft84_3_11 rfl rfl) rfl ?_
            refine At.step_ (Step.storeX (ds := [.bool false]) hmblk1 rfl rfl rfl sz4_1 rfl rfl rfl ?_)
            intro w37 hbut2 hmblk2
            have hb8k2 := hb8k.but hbut2 (hb8k.ne hmblk1 rfl)
            have hblk2 := hblk1.but hbut2 (hblk1.ne hmblk1 rfl)
            refine At.nil (At.keep (.cons (t := 5) rfl <| .cons (t := 6) rfl <| .cons (t := 8) rfl <| .nil) ?_)
            refine At.piS hmix (.take 0 (.take 1 (.take 2 (.take 3 (.take 4 (.take 5 (.run 6 (.take 7 (.take 8 (.run 9 .done)))))))))) (fun w' => Blk w' b8 [.bool (planOf a.kind a.state m.ev.name m.ev.n).1, .slice pep pem pec, .string (planOf a.kind a.state m.ev.name m.ev.n).2, .bool pst, .string pf] 87) (by kernel_rfl) (by kernel_rfl) (fun w1 hl => hb8k2.le hl) ?_
            intro w38 hs9
            have hs := hb8k2.le hs9
            have hblk3 := hblk2.le hs9
            refine At.take rfl (fun w' hs' => RunV.move rfl) rfl ?_
            refine At.take rfl (fun w' hs' => RunV.move rfl) rfl ?_
            refine At.take rfl (fun w' hs' => RunV.move rfl) rfl ?_
            refine At.take rfl (fun w' hs' => RunV.loadAgg ag87_5 rfl (Blk.row hs') rfl) rfl ?_
            refine At.take rfl (fun w' hs' => RunV.nilCheckO rfl hsA) rfl ?_
            refine At.take rfl (fun w' hs' => RunV.field ft90_5_9 rfl rfl) rfl ?_
            refine At.prun_ rfl (Step.storeX (ds := [ptrV (axOf lb e.id)]) hblk3 rfl rfl rfl sz82_1 rfl rfl rfl ?_)
            intro w39 hbut3 hblk4
            have hs8 := hs.but hbut3 (hs.ne hblk3 rfl)
            refine ⟨hs8, ?_⟩
            refine At.take rfl (fun w' hs' => RunV.nilCheckO rfl hsA) rfl ?_
            refine At.take rfl (fun w' hs' => RunV.field ft90_6_10 rfl rfl) rfl ?_
            refine At.prun_ rfl (Step.storeX (ds := [.bool (planOf a.kind a.state m.ev.name m.ev.n).1, .slice pep pem pec, .string (planOf a.kind a.state m.ev.name m.ev.n).2, .bool pst, .string pf]) hblk4 rfl rfl rfl sz87_5 rfl rfl rfl ?_)
            intro w40 hbut4 hblk5
            refine ⟨hs8.but hbut4 (hs8.ne hblk4 rfl), ?_⟩
            refine At.pdone (At.keep (.nil) ?_)
            refine At.seq (At.reg ?_)
            refine At.v (RunV.assign rfl) rfl ?_
            refine At.nil (At.keep (.cons (t := 4) rfl <| .nil) ?_)
            refine At.ret ?_
            refine At.result1 rfl rfl ?_
            have hb1 := h.le hl0
            have hfin := hb1.setL (l' := { m with arrived := true, held := false }) (hbut1.trans hbut2) hmi (hmblk.le hl0) hmblk2
            have hR3 := ((hRa.stays (GB.le hl0) (hblk.le hl0)).stays (GB.but hbut1 hm0 (hmblk.le hl0) rfl) hblk1).stays (GB.but hbut2 hm0 hmblk1 rfl) hblk2
            have hR4 := hR3.stays (GB.le hs9) hblk3
            have hfin2 := (hfin.le hs9).setA (i := e.actor.toNat - 1) (a' := { a with work := some (e.id.toNat - 1), pstate := (planOf a.kind a.state m.ev.name m.ev.n).2 }) (hbut3.trans hbut4) hxi hblk3 (hR4.to (hbut3.trans hbut4) hx0 hblk5 rfl ⟨_, hmi, rfl⟩ ⟨_, _, _, rfl⟩)
            unfold RuleP
            rw [hst]
            exact ⟨rfl, ⟨(((hl0.mono h.hB).trans ((hbut1.trans hbut2).below hm0 hb1.hB)).trans (hs9.mono hfin.hB)).trans ((hbut3.trans hbut4).below hx0 (Nat.le_trans hfin.hB hs9.size)), (Kp.le hl0).trans ((Kp.but hbut1 (hmblk.le hl0) rfl).trans ((Kp.but hbut2 hmblk1 rfl).trans ((Kp.le hs9).trans ((Kp.but hbut3 hblk3 rfl).trans (Kp.but hbut4 hblk4 rfl)))))⟩, _, _, _, _, _, hfin2.mono (Nat.le_succ N)⟩
          · have hk3 : ¬ e.kind = 3 := of_decide_eq_false hc16
            rw [if_neg hk3] at hst
            refine At.skip ?_
            refine At.seq (At.reg ?_)
            refine At.v (RunV.assign rfl) rfl ?_
            refine At.nil (At.keep (.cons (t := 4) rfl <| .nil) ?_)
            refine At.ret ?_
            refine At.result1 rfl rfl ?_
            exact RuleP.setL (l' := { m with arrived := true }) h hl0 hbut1 hmi (hmblk.le hl0) hmblk1 hst

end Go.Proofs.Ytglilmcfhkedbaa
