/- The walks of audit's told and end; no condition. -/
import Derived.Test.YtglilmcfhkedbaaWN
namespace Go.Proofs.Ytglilmcfhkedbaa
open Go Go.RowKit

theorem ct30 : cellT Try.prog 30 = true := by kernel_rfl
theorem ft32_2_2 : fieldT Try.prog 32 2 2 = true := by kernel_rfl
theorem ft32_3_3 : fieldT Try.prog 32 3 3 = true := by kernel_rfl
theorem ft32_7_7 : fieldT Try.prog 32 7 7 = true := by kernel_rfl
theorem ft84_0_0 : fieldT Try.prog 84 0 0 = true := by kernel_rfl
theorem ft90_6_10 : fieldT Try.prog 90 6 10 = true := by kernel_rfl
theorem pf38 : plainFn Try.prog 38 = true := by kernel_rfl
theorem pl81 : placesT Try.prog 81 = some [(0, 1), (1, 1)] := by kernel_rfl

theorem BR.workD {B0 N bb : Nat} {w : World} {b : Bk} {pv av lv : Value} {ab lb : List Nat} {a : Actr} {wx : Nat} (h : BR B0 N w bb b pv av lv ab lb) (hw : ∀ i, a.work = some i → lb[i]? = some wx) :
    ∃ l, a.work.isSome = true → (∃ i, a.work = some i ∧ b.letters[i]? = some l) ∧ Blk w wx l.cells 84 := by
  cases ha : a.work with
  | none => exact ⟨⟨⟨0, 0, 0, 0, 0, e0, 0, 0, false⟩, false, false, false⟩, fun h => by cases h⟩
  | some i =>
    have h1 := hw i ha
    have h2 : i < b.letters.length := by rw [← h.llen]; exact (List.getElem?_eq_some_iff.1 h1).1
    exact ⟨b.letters[i], fun _ => ⟨⟨i, rfl, List.getElem?_eq_getElem h2⟩, h.ltrs i _ _ (List.getElem?_eq_getElem h2) h1⟩⟩

set_option maxHeartbeats 800000 in
theorem told_c (B0 N bb : Nat) (b : Bk) (pv av lv : Value) (ab lb : List Nat) (e : Ev) (w : World) (hN : N ≤ 100000) (h : BR B0 N w bb b pv av lv ab lb) :
    Ret Try.prog 24 [.pointer (some ⟨bb, 0, none⟩), .agg (e.cells).toArray] w fun v w' => RuleP B0 N w bb (stTold b e) v w' := by
  refine Ret.enter Try.func24 rfl Try.ntmps24 rfl rfl ?_
  have hO := Own.start w
  obtain ⟨oa, hoa, a, kv, ku, wx, ep, em, ec, st, ps, f, hA, hA2⟩ := h.actD e.actor
  obtain ⟨ou, hou, u, kv2, ku2, wx2, ep2, em2, ec2, st2, ps2, f2, hU, hU2⟩ := h.actD e.frm
  replace h := h
  have hlo := h.loa
  refine At.seq (At.reg ?_)
  refine At.step rfl (Step.box hO rfl rfl ?_)
  intro b3 w1 hO hlb3 hnb3
  refine At.v (RunV.assign rfl) rfl ?_
  refine At.nil (At.keep (.cons (t := 0) rfl <| .cons (t := 3) rfl <| .nil) ?_)
  refine At.seq (At.pi hmix (.take 0 (.take 1 (.take 2 (.take 3 (.take 4 (.take 5 (.take 6 (.take 7 (.take 8 (.take 9 .done)))))))))) (by kernel_rfl) (by kernel_rfl) ?_)
  intro w2 hs
  have hs0 := hs
  have hR := hO
  replace hO := hO.on hs
  refine At.take rfl (fun w' hs' => RunV.move rfl) rfl ?_
  refine At.take rfl (fun w' hs' => RunV.field ft32_1_1 rfl rfl) rfl ?_
  refine At.take rfl (fun w' hs' => RunV.load ct3 rfl (((hR.at (i := 0) rfl).le hs').cell rfl)) rfl ?_
  refine At.takeCall rfl rfl pf35 rfl (fun w' hs' => bactO_c oa e.actor hoa hN (h.le (hR.le.tr hs'))) rfl ?_
  refine At.take rfl (fun w' hs' => RunV.move rfl) rfl ?_
  refine At.take rfl (fun w' hs' => RunV.field ft32_3_3 rfl rfl) rfl ?_
  refine At.take rfl (fun w' hs' => RunV.load ct3 rfl (((hR.at (i := 0) rfl).le hs').cell rfl)) rfl ?_
  refine At.takeCall rfl rfl pf35 rfl (fun w' hs' => bactO_c ou e.frm hou hN (h.le (hR.le.tr hs'))) rfl ?_
  refine At.take rfl (fun w' hs' => RunV.assign rfl) rfl ?_
  refine At.take rfl (fun w' hs' => RunV.assign rfl) rfl ?_
  refine At.pdone (At.keep (.cons (t := 3) rfl <| .cons (t := 5) rfl <| .cons (t := 6) rfl <| .nil) ?_)
  refine At.seq ?_
  refine At.seq (At.pi hmix (.take 0 (.take 1 (.take 2 (.take 3 (.take 4 (.take 5 (.take 6 (.take 7 (.take 8 (.take 9 (.take 10 (.take 11 (.take 12 (.take 13 (.take 14 (.take 15 (.take 16 (.run 17 (.run 18 (.take 19 (.take 20 (.take 21 (.take 22 (.take 23 (.take 24 (.take 25 (.take 26 (.take 27 (.take 28 (.take 29 (.take 30 (.take 31 (.take 32 (.take 33 (.take 34 (.take 35 (.take 36 .done))))))))))))))))))))))))))))))))))))) (by kernel_rfl) (by kernel_rfl) ?_)
  intro w3 hs
  have hs0 := hs
  have hR := hO
  replace hO := hO.on hs
  refine At.take rfl (fun w' hs' => RunV.move rfl) rfl ?_
  refine At.take rfl (fun w' hs' => RunV.eqNil rfl un76) rfl ?_
  refine At.take rfl (fun w' hs' => RunV.move rfl) rfl ?_
  refine At.takeG rfl (Guard.f rfl rfl rfl) (fun hc w' hs' => RunV.move rfl) rfl ?_
  refine At.takeG rfl (Guard.f rfl rfl rfl) (fun hc w' hs' => RunV.eqNil (gvE rfl hc) un76) rfl ?_
  refine At.take rfl (fun w' hs' => RunV.pickOr rfl rfl) rfl ?_
  refine At.take rfl (fun w' hs' => RunV.move rfl) rfl ?_
  refine At.takeG rfl (Guard.f rfl rfl rfl) (fun hc w' hs' => RunV.move rfl) rfl ?_
  refine At.takeG rfl (Guard.f rfl rfl rfl) (fun hc w' hs' => RunV.nilCheckO (gvE rfl hc) (by revert hc; cases oa <;> simp [ptrO, isB, worksB, optB])) rfl ?_
  refine At.takeG rfl (Guard.f rfl rfl rfl) (fun hc w' hs' => RunV.field ft90_1_1 (gvE rfl hc) rfl) rfl ?_
  refine At.keep (.cons (t := 3) rfl <| .cons (t := 5) rfl <| .cons (t := 6) rfl <| .cons (t := 22) rfl <| .cons (t := 25) rfl <| .nil) ?_
  refine At.takeG rfl (Guard.f rfl rfl rfl) (fun hc w' hs' => RunV.load ct3 (gvE rfl hc) (cell_le (Blk.cell (hA.blk (by revert hc; cases oa <;> simp [ptrO, isB, worksB, optB])) rfl) (hR.le.tr hs'))) rfl ?_
  refine At.takeG rfl (Guard.f rfl rfl rfl) (fun hc w' hs' => RunV.field ft32_3_3 rfl rfl) rfl ?_
  refine At.takeG rfl (Guard.f rfl rfl rfl) (fun hc w' hs' => RunV.load ct3 (gvE rfl hc) (((hR.at (i := 0) rfl).le hs').cell rfl)) rfl ?_
  refine At.takeG rfl (Guard.f rfl rfl rfl) (fun hc w' hs' => RunV.neI (gvE rfl hc) (gvE rfl hc)) rfl ?_
  refine At.take rfl (fun w' hs' => RunV.pickOr rfl rfl) rfl ?_
  refine At.take rfl (fun w' hs' => RunV.move rfl) rfl ?_
  refine At.takeG rfl (Guard.f rfl rfl rfl) (fun hc w' hs' => RunV.move rfl) rfl ?_
  refine At.prunGB hO hs rfl (Guard.f rfl rfl rfl) st97_3_1 zt3 rfl rfl rfl rfl (fill_full rfl rfl) rfl ?_
  intro b33 w4 hO hs hblk33
  refine At.prunGE hO hs rfl (Guard.f rfl rfl rfl) (fun hc => rfl) pf37 (fun hc => (evL2 (gvE rfl hc) (gvE rfl hc))) (fun hc => (is_c ou _ u kv2 ku2 wx2 _ st2 ps2 f2 _ (hU.le hO.le) _ 2 [1, 2] (by decide) (hblk33 hc).row).mono fun _ _ h => ⟨h.1, h.2 ▸ Le.rfl' _⟩) rfl ?_
  intro w5 hO hs
  refine At.takeG rfl (Guard.f rfl rfl rfl) (fun hc w' hs' => RunV.not (gvE rfl hc)) rfl ?_
  refine At.keep (.cons (t := 3) rfl <| .cons (t := 5) rfl <| .cons (t := 6) rfl <| .cons (t := 31) rfl <| .cons (t := 35) rfl <| .nil) ?_
  refine At.take rfl (fun w' hs' => RunV.pickOr rfl rfl) rfl ?_
  refine At.take rfl (fun w' hs' => RunV.move rfl) rfl ?_
  refine At.takeG rfl (Guard.f rfl rfl rfl) (fun hc w' hs' => RunV.move rfl) rfl ?_
  refine At.takeG rfl (Guard.f rfl rfl rfl) (fun hc w' hs' => RunV.nilCheckO (gvE rfl hc) (by revert hc; cases oa <;> simp [ptrO, isB, worksB, optB])) rfl ?_
  refine At.takeG rfl (Guard.f rfl rfl rfl) (fun hc w' hs' => RunV.field ft90_8_16 (gvE rfl hc) rfl) rfl ?_
  refine At.takeG rfl (Guard.f rfl rfl rfl) (fun hc w' hs' => RunV.load ct4 (gvE rfl hc) (cell_le (Blk.cell (hA.blk (by revert hc; cases oa <;> simp [ptrO, isB, worksB, optB])) rfl) (hR.le.tr hs'))) rfl ?_
  refine At.takeG rfl (Guard.f rfl rfl rfl) (fun hc w' hs' => RunV.not (gvE rfl hc)) rfl ?_
  refine At.take rfl (fun w' hs' => RunV.pickOr rfl rfl) rfl ?_
  refine At.take rfl (fun w' hs' => RunV.move rfl) rfl ?_
  refine At.takeG rfl (Guard.f rfl rfl rfl) (fun hc w' hs' => RunV.move rfl) rfl ?_
  refine At.keep (.cons (t := 3) rfl <| .cons (t := 5) rfl <| .cons (t := 6) rfl <| .cons (t := 44) rfl <| .cons (t := 45) rfl <| .nil) ?_
  refine At.takeG rfl (Guard.f rfl rfl rfl) (fun hc w' hs' => RunV.nilCheckO (gvE rfl hc) (by revert hc; cases oa <;> simp [ptrO, isB, worksB, optB])) rfl ?_
  refine At.takeG rfl (Guard.f rfl rfl rfl) (fun hc w' hs' => RunV.field ft90_7_15 (gvE rfl hc) rfl) rfl ?_
  refine At.takeG rfl (Guard.f rfl rfl rfl) (fun hc w' hs' => RunV.load ct9 (gvE rfl hc) (cell_le (Blk.cell (hA.blk (by revert hc; cases oa <;> simp [ptrO, isB, worksB, optB])) rfl) (hR.le.tr hs'))) rfl ?_
  refine At.takeG rfl (Guard.f rfl rfl rfl) (fun hc w' hs' => RunV.field ft32_5_5 rfl rfl) rfl ?_
  refine At.takeG rfl (Guard.f rfl rfl rfl) (fun hc w' hs' => RunV.load ct9 (gvE rfl hc) (((hR.at (i := 0) rfl).le hs').cell rfl)) rfl ?_
  refine At.takeG rfl (Guard.f rfl rfl rfl) (fun hc w' hs' => RunV.neS (gvE rfl hc) (gvE rfl hc)) rfl ?_
  refine At.take rfl (fun w' hs' => RunV.pickOr rfl rfl) rfl ?_
  refine At.pdone (At.keep (.cons (t := 3) rfl <| .cons (t := 5) rfl <| .cons (t := 6) rfl <| .cons (t := 52) rfl <| .nil) ?_)
  refine At.cond rfl (fun hc => ?_) (fun hc => ?_)
  · refine At.seq (At.reg ?_)
    refine At.v (RunV.assign rfl) rfl ?_
    refine At.nil (At.keep (.cons (t := 4) rfl <| .nil) ?_)
    refine At.ret ?_
    refine At.result1 rfl rfl ?_
    exact RuleP.no h hO.le (by
      unfold stTold; rw [hoa, hou]
      cases oa with
      | none => rfl
      | some a' => cases ou with
        | none => rfl
        | some u' =>
          obtain ⟨h9, _⟩ := hA rfl
          cases h9
          obtain ⟨h9, _⟩ := hU rfl
          cases h9
          dsimp only
          rw [if_neg]
          revert hc
          cases decide (a.parent = e.frm) <;> cases isB [1, 2] (some u) <;> cases a.failed <;> cases seq a.opn e.name <;> simp [ptrO])
  · have hsA : oa.isSome = true := by revert hc; cases oa <;> simp [ptrO]
    have hsU : ou.isSome = true := by revert hc; cases ou <;> simp [ptrO]
    obtain ⟨rfl, hblk⟩ := hA hsA
    obtain ⟨rfl, hublk⟩ := hU hsU
    obtain ⟨hn1, hxi, hwi, hRa⟩ := hA2 hsA
    obtain ⟨_, _, _, hRu⟩ := hU2 hsU
    have hx0 := hlo _ (List.mem_of_getElem? hxi)
    have hyes : ((((decide (a.parent = e.frm)) && isB [1, 2] (some u)) && a.failed) && seq a.opn e.name) = true := by
      revert hc
      cases decide (a.parent = e.frm) <;> cases isB [1, 2] (some u) <;> cases a.failed <;> cases seq a.opn e.name <;> simp [ptrO]
    refine At.skip ?_
    refine At.seq (At.pi hmix (.take 0 (.take 1 (.take 2 (.take 3 (.take 4 (.take 5 (.run 6 (.take 7 .done)))))))) (by kernel_rfl) (by kernel_rfl) ?_)
    intro w6 hs
    have hs0 := hs
    have hR := hO
    replace hO := hO.on hs
    refine At.take rfl (fun w' hs' => RunV.move rfl) rfl ?_
    refine At.take rfl (fun w' hs' => RunV.nilCheckO rfl hsU) rfl ?_
    refine At.take rfl (fun w' hs' => RunV.field ft90_2_2 rfl rfl) rfl ?_
    refine At.take rfl (fun w' hs' => RunV.loadAgg ag67_5 rfl (Row.le ((hU.blk hsU).rowAt (ds := u.kind.cells kv2 ku2) rfl) (hR.le.tr hs')) rfl) rfl ?_
    refine At.take rfl (fun w' hs' => RunV.field ft32_5_5 rfl rfl) rfl ?_
    refine At.take rfl (fun w' hs' => RunV.load ct9 rfl (((hR.at (i := 0) rfl).le hs').cell rfl)) rfl ?_
    refine At.prunE hO hs rfl rfl pf42 rfl (directive_c u.kind e.name kv2 ku2 _ ((hRu.cases.any (R' := CasR) fun _ _ _ h => h).le hO.le fun _ _ _ h => h)) rfl ?_
    intro w7 hO hs
    refine At.take rfl (fun w' hs' => RunV.assign rfl) rfl ?_
    refine At.pdone (At.keep (.cons (t := 3) rfl <| .cons (t := 5) rfl <| .cons (t := 7) rfl <| .nil) ?_)
    refine At.seq ?_
    refine At.seq (At.reg ?_)
    refine At.v (RunV.field ft32_7_7 rfl rfl) rfl ?_
    refine At.v (RunV.load ct3 rfl ((hO.at (i := 0) rfl).cell rfl)) rfl ?_
    refine At.v (RunV.move rfl) rfl ?_
    refine At.v (RunV.neI rfl rfl) rfl ?_
    refine At.v (RunV.move rfl) rfl ?_
    refine At.g (Guard.t rfl rfl rfl) (fun hc => RunV.move rfl) rfl ?_
    refine At.g (Guard.t rfl rfl rfl) (fun hc => RunV.neI (gvE rfl hc) rfl) rfl ?_
    refine At.g (Guard.t rfl rfl rfl) (fun hc => RunV.move (gvE rfl hc)) rfl ?_
    refine At.g (Guard.gf rfl rfl rfl) (fun hc => RunV.field ft32_7_7 rfl rfl) rfl ?_
    refine At.g (Guard.gf rfl rfl rfl) (fun hc => RunV.load ct3 (gvE rfl hc) ((hO.at (i := 0) rfl).cell rfl)) rfl ?_
    refine At.keep (.cons (t := 3) rfl <| .cons (t := 5) rfl <| .cons (t := 64) rfl <| .cons (t := 67) rfl <| .cons (t := 69) rfl <| .nil) ?_
    refine At.g (Guard.gf rfl rfl rfl) (fun hc => RunV.neI (gvE rfl hc) rfl) rfl ?_
    refine At.g (Guard.t rfl rfl rfl) (fun hc => RunV.pickOr (gvE rfl hc) (gvE2 rfl hc)) rfl ?_
    refine At.v (RunV.pickAnd rfl rfl) rfl ?_
    refine At.nil (At.keep (.cons (t := 3) rfl <| .cons (t := 5) rfl <| .cons (t := 72) rfl <| .nil) ?_)
    refine At.cond rfl (fun hc2 => ?_) (fun hc2 => ?_)
    · refine At.seq (At.reg ?_)
      refine At.v (RunV.assign rfl) rfl ?_
      refine At.nil (At.keep (.cons (t := 4) rfl <| .nil) ?_)
      refine At.ret ?_
      refine At.result1 rfl rfl ?_
      exact RuleP.no h hO.le (by
        unfold stTold; rw [hoa, hou]
        dsimp only
        rw [if_pos hyes, if_neg]
        intro hh
        revert hc2
        rcases hh with hh | hh
        · rw [hh]; simp
        · rw [hh.1, hh.2]; simp)
    · refine At.skip ?_
      refine At.seq (At.piS hmix (.take 0 (.take 1 (.take 2 (.take 3 (.take 4 (.take 5 (.run 6 (.take 7 (.take 8 (.run 9 .done)))))))))) (fun w' => Blk w' b3 e.cells 32) (by kernel_rfl) (by kernel_rfl) (fun w1 hl => (hO.at (i := 0) rfl).le hl) ?_)
      intro w8 hs
      replace hO := hO.on hs
      refine At.take rfl (fun w' hs' => RunV.move rfl) rfl ?_
      refine At.take rfl (fun w' hs' => RunV.move rfl) rfl ?_
      refine At.take rfl (fun w' hs' => RunV.field ft32_7_7 rfl rfl) rfl ?_
      refine At.take rfl (fun w' hs' => RunV.load ct3 rfl (Blk.cell hs' rfl)) rfl ?_
      refine At.take rfl (fun w' hs' => RunV.nilCheckO rfl hsA) rfl ?_
      refine At.take rfl (fun w' hs' => RunV.field ft90_8_16 rfl rfl) rfl ?_
      refine At.prun_ rfl (Step.storeX (ds := [.bool false]) (hblk.le hO.le) rfl rfl rfl sz4_1 rfl rfl rfl ?_)
      intro w9 hbut1 hblk1
      have hne := (hO.at (i := 0) rfl).ne (hblk.le hO.le) rfl
      have hb3 := (hO.at (i := 0) rfl).but hbut1 hne
      refine ⟨hb3, ?_⟩
      refine At.take rfl (fun w' hs' => RunV.nilCheckO rfl hsA) rfl ?_
      refine At.take rfl (fun w' hs' => RunV.field ft90_9_17 rfl rfl) rfl ?_
      refine At.prun_ rfl (Step.storeX (ds := [.int .i64 e.why]) hblk1 rfl rfl rfl sz3_1 rfl rfl rfl ?_)
      intro w10 hbut2 hblk2
      replace hb3 := hb3.but hbut2 hne
      refine ⟨hb3, ?_⟩
      have hfin := (hRa.stays (GB.le hO.le) (hblk.le hO.le)).to (a' := { a with failed := false, told := e.why }) (hbut1.trans hbut2) hx0 hblk2 rfl hRa.work ⟨_, _, _, rfl⟩
      have hl0 := hO.le
      clear hO
      refine At.pdone (At.keep (.nil) ?_)
      refine At.seq (At.reg ?_)
      refine At.v (RunV.assign rfl) rfl ?_
      refine At.nil (At.keep (.cons (t := 4) rfl <| .nil) ?_)
      refine At.ret ?_
      refine At.result1 rfl rfl ?_
      exact RuleP.set h hl0 (hbut1.trans hbut2) hxi (hblk.le hl0) hfin (by
        unfold stTold; rw [hoa, hou]
        dsimp only
        rw [if_pos hyes, if_pos]
        revert hc2
        by_cases h7 : e.why = directive u.kind e.name
        · intro _; exact .inl h7
        · simp [h7])

set_option maxHeartbeats 800000 in
theorem end_c (B0 N bb : Nat) (b : Bk) (pv av lv : Value) (ab lb : List Nat) (e : Ev) (w : World) (hN : N ≤ 100000) (h : BR B0 N w bb b pv av lv ab lb) :
    Ret Try.prog 19 [.pointer (some ⟨bb, 0, none⟩), .agg (e.cells).toArray] w fun v w' => RuleP B0 N w bb (stEnd b e) v w' := by
  refine Ret.enter Try.func19 rfl Try.ntmps19 rfl rfl ?_
  have hO := Own.start w
  obtain ⟨oa, hoa, a, kv, ku, wx, ep, em, ec, st, ps, f, hA, hA2⟩ := h.actD e.actor
  obtain ⟨l, hL⟩ : ∃ l, oa.isSome = true → a.work.isSome = true → (∃ i, a.work = some i ∧ b.letters[i]? = some l) ∧ Blk w wx l.cells 84 := by
    cases hs : oa.isSome with
    | false => exact ⟨⟨⟨0, 0, 0, 0, 0, e0, 0, 0, false⟩, false, false, false⟩, fun h => by cases h⟩
    | true =>
      obtain ⟨_, _, hwi, _⟩ := hA2 hs
      obtain ⟨l, h9⟩ := h.workD hwi
      exact ⟨l, fun _ => h9⟩
  have hwk : worksB oa = true → oa.isSome = true ∧ a.work.isSome = true := fun hw => by
    cases oa with
    | none => cases hw
    | some a' =>
      obtain ⟨h9, _⟩ := hA rfl
      cases h9
      exact ⟨rfl, hw⟩
  have hL2 : oa.isSome = true ∧ a.work.isSome = true → Blk w wx l.cells 84 := fun hs => (hL hs.1 hs.2).2
  have hrl : [(5, (worksB oa && decide (l.ev.id = e.id)) && seq a.pstate e.name)] = endRules b e := by
    unfold endRules; rw [hoa]
    congr 2
    cases oa with
    | none => rfl
    | some a' =>
      obtain ⟨h9, _⟩ := hA rfl
      cases h9
      show ((a.work.isSome && decide (l.ev.id = e.id)) && _) = (workId b a e.id && _)
      congr 1
      unfold workId
      cases hw : a.work with
      | none => rfl
      | some i =>
        obtain ⟨⟨j, h8, h9⟩, _⟩ := hL rfl (by rw [hw]; rfl)
        rw [hw] at h8; cases h8
        dsimp only
        rw [h9]; rfl
  replace h := h
  have hlo := h.loa
  refine At.seq (At.reg ?_)
  refine At.step rfl (Step.box hO rfl rfl ?_)
  intro b3 w1 hO hlb3 hnb3
  refine At.v (RunV.assign rfl) rfl ?_
  refine At.nil (At.keep (.cons (t := 0) rfl <| .cons (t := 3) rfl <| .nil) ?_)
  refine At.seq (At.reg ?_)
  refine At.v (RunV.move rfl) rfl ?_
  refine At.v (RunV.field ft32_1_1 rfl rfl) rfl ?_
  refine At.v (RunV.load ct3 rfl ((hO.at (i := 0) rfl).cell rfl)) rfl ?_
  refine At.callS rfl pf35 rfl (bactO_c oa e.actor hoa hN (h.le hO.le)) rfl ?_
  refine At.v (RunV.assign rfl) rfl ?_
  refine At.nil (At.keep (.cons (t := 3) rfl <| .cons (t := 5) rfl <| .nil) ?_)
  refine At.seq ?_
  refine At.seq (At.pi hmix (.take 0 (.take 1 (.take 2 (.take 3 (.take 4 (.take 5 (.take 6 (.take 7 (.take 8 (.take 9 (.take 10 (.take 11 (.take 12 (.take 13 (.take 14 (.take 15 (.take 16 (.take 17 (.take 18 (.take 19 (.take 20 (.take 21 (.take 22 (.take 23 (.take 24 (.take 25 (.run 26 (.run 27 (.take 28 .done))))))))))))))))))))))))))))) (by kernel_rfl) (by kernel_rfl) ?_)
  intro w2 hs
  have hs0 := hs
  have hR := hO
  replace hO := hO.on hs
  refine At.take rfl (fun w' hs' => RunV.move rfl) rfl ?_
  refine At.takeCall rfl rfl pf36 rfl (fun w' hs' => works_c oa _ a kv ku wx _ st ps f _ (hA.le (hR.le.tr hs'))) rfl ?_
  refine At.take rfl (fun w' hs' => RunV.move rfl) rfl ?_
  refine At.takeG rfl (Guard.t rfl rfl rfl) (fun hc w' hs' => RunV.move rfl) rfl ?_
  refine At.takeG rfl (Guard.t rfl rfl rfl) (fun hc w' hs' => RunV.nilCheckO (gvE rfl hc) (by revert hc; cases oa <;> simp [ptrO, isB, worksB, optB])) rfl ?_
  refine At.takeG rfl (Guard.t rfl rfl rfl) (fun hc w' hs' => RunV.field ft90_5_9 (gvE rfl hc) rfl) rfl ?_
  refine At.takeG rfl (Guard.t rfl rfl rfl) (fun hc w' hs' => RunV.load ct82 (gvE rfl hc) (cell_le (Blk.cell (hA.blk (by revert hc; cases oa <;> simp [ptrO, isB, worksB, optB])) rfl) (hR.le.tr hs'))) rfl ?_
  refine At.takeG rfl (Guard.t rfl rfl rfl) (fun hc w' hs' => RunV.nilCheckO (gvE rfl hc) (hwk hc).2) rfl ?_
  refine At.takeG rfl (Guard.t rfl rfl rfl) (fun hc w' hs' => RunV.field ft84_0_0 (gvE rfl hc) rfl) rfl ?_
  refine At.takeG rfl (Guard.t rfl rfl rfl) (fun hc w' hs' => RunV.field ft32_2_2 (gvE rfl hc) rfl) rfl ?_
  refine At.keep (.cons (t := 3) rfl <| .cons (t := 5) rfl <| .cons (t := 13) rfl <| .cons (t := 20) rfl <| .nil) ?_
  refine At.takeG rfl (Guard.t rfl rfl rfl) (fun hc w' hs' => RunV.load ct30 (gvE rfl hc) (cell_le (Blk.cell (hL2 (hwk (by revert hc; cases oa <;> simp [ptrO, isB, worksB, optB]))) rfl) (hR.le.tr hs'))) rfl ?_
  refine At.takeG rfl (Guard.t rfl rfl rfl) (fun hc w' hs' => RunV.field ft32_2_2 rfl rfl) rfl ?_
  refine At.takeG rfl (Guard.t rfl rfl rfl) (fun hc w' hs' => RunV.load ct30 (gvE rfl hc) (((hR.at (i := 0) rfl).le hs').cell rfl)) rfl ?_
  refine At.takeG rfl (Guard.t rfl rfl rfl) (fun hc w' hs' => RunV.eqI (gvE rfl hc) (gvE rfl hc)) rfl ?_
  refine At.take rfl (fun w' hs' => RunV.pickAnd rfl rfl) rfl ?_
  refine At.take rfl (fun w' hs' => RunV.move rfl) rfl ?_
  refine At.takeG rfl (Guard.t rfl rfl rfl) (fun hc w' hs' => RunV.move rfl) rfl ?_
  refine At.takeG rfl (Guard.t rfl rfl rfl) (fun hc w' hs' => RunV.nilCheckO (gvE rfl hc) (by revert hc; cases oa <;> simp [ptrO, isB, worksB, optB])) rfl ?_
  refine At.takeG rfl (Guard.t rfl rfl rfl) (fun hc w' hs' => RunV.field ft90_6_10 (gvE rfl hc) rfl) rfl ?_
  refine At.takeG rfl (Guard.t rfl rfl rfl) (fun hc w' hs' => RunV.field ft87_2_2 (gvE rfl hc) rfl) rfl ?_
  refine At.keep (.cons (t := 3) rfl <| .cons (t := 5) rfl <| .cons (t := 26) rfl <| .cons (t := 30) rfl <| .nil) ?_
  refine At.takeG rfl (Guard.t rfl rfl rfl) (fun hc w' hs' => RunV.load ct9 (gvE rfl hc) (cell_le (Blk.cell (hA.blk (by revert hc; cases oa <;> simp [ptrO, isB, worksB, optB])) rfl) (hR.le.tr hs'))) rfl ?_
  refine At.takeG rfl (Guard.t rfl rfl rfl) (fun hc w' hs' => RunV.field ft32_5_5 rfl rfl) rfl ?_
  refine At.takeG rfl (Guard.t rfl rfl rfl) (fun hc w' hs' => RunV.load ct9 (gvE rfl hc) (((hR.at (i := 0) rfl).le hs').cell rfl)) rfl ?_
  refine At.takeG rfl (Guard.t rfl rfl rfl) (fun hc w' hs' => RunV.eqS (gvE rfl hc) (gvE rfl hc)) rfl ?_
  refine At.take rfl (fun w' hs' => RunV.pickAnd rfl rfl) rfl ?_
  refine At.take rfl (fun w' hs' => RunV.build pl81 zt81 rfl rfl) rfl ?_
  refine At.prun rfl rfl (Step.buildSlice hO st110_81_2 zt81 rfl rfl rfl rfl (fill_full rfl rfl) ?_)
  intro b37 w3 hO hlb37 hnb37
  refine ⟨hs.tr hlb37, ?_⟩
  replace hs := hs.tr hlb37
  refine At.prunE hO hs rfl rfl pf38 rfl (broken_c _ _ [(5, (worksB oa && decide (l.ev.id = e.id)) && seq a.pstate e.name)] (by simp) _ (hO.at (i := 0) rfl).row) rfl ?_
  intro w4 hO hs
  refine At.take rfl (fun w' hs' => RunV.assign rfl) rfl ?_
  refine At.pdone (At.keep (.cons (t := 3) rfl <| .cons (t := 5) rfl <| .cons (t := 6) rfl <| .nil) ?_)
  refine At.seq (At.reg ?_)
  refine At.v (RunV.move rfl) rfl ?_
  refine At.v (RunV.neI rfl rfl) rfl ?_
  refine At.nil (At.keep (.cons (t := 3) rfl <| .cons (t := 5) rfl <| .cons (t := 6) rfl <| .cons (t := 40) rfl <| .nil) ?_)
  refine At.cond rfl (fun hc => ?_) (fun hc => ?_)
  · rw [hrl] at hc
    refine At.seq (At.reg ?_)
    refine At.v (RunV.move rfl) rfl ?_
    refine At.v (RunV.assign rfl) rfl ?_
    refine At.nil (At.keep (.cons (t := 4) rfl <| .nil) ?_)
    refine At.ret ?_
    refine At.result1 rfl rfl ?_
    rw [hrl]
    exact RuleP.no h hO.le (by unfold stEnd; rw [if_neg (by simpa using hc)])
  · rw [hrl] at hc
    have hc0 : brokenR (endRules b e) = 0 := by simpa using hc
    have hsA : oa.isSome = true := by
      cases oa with
      | some a' => rfl
      | none =>
        unfold endRules at hc0; rw [hoa] at hc0
        simp [brokenR, optB] at hc0
    obtain ⟨rfl, hblk⟩ := hA hsA
    obtain ⟨hn1, hxi, hwi, hRa⟩ := hA2 hsA
    have hx0 := hlo _ (List.mem_of_getElem? hxi)
    refine At.skip ?_
    refine At.seq (At.piS hmix (.take 0 (.take 1 (.take 2 (.take 3 (.take 4 (.take 5 (.run 6 (.take 7 (.take 8 (.run 9 .done)))))))))) (fun w' => Blk w' b3 e.cells 32) (by kernel_rfl) (by kernel_rfl) (fun w1 hl => (hO.at (i := 1) rfl).le hl) ?_)
    intro w5 hs
    replace hO := hO.on hs
    refine At.take rfl (fun w' hs' => RunV.move rfl) rfl ?_
    refine At.take rfl (fun w' hs' => RunV.move rfl) rfl ?_
    refine At.take rfl (fun w' hs' => RunV.field ft32_5_5 rfl rfl) rfl ?_
    refine At.take rfl (fun w' hs' => RunV.load ct9 rfl (Blk.cell hs' rfl)) rfl ?_
    refine At.take rfl (fun w' hs' => RunV.nilCheckO rfl hsA) rfl ?_
    refine At.take rfl (fun w' hs' => RunV.field ft90_5_9 rfl rfl) rfl ?_
    refine At.prun_ rfl (Step.storeX (ds := [.pointer none]) (hblk.le hO.le) rfl rfl rfl sz82_1 rfl rfl rfl ?_)
    intro w6 hbut1 hblk1
    have hne := (hO.at (i := 1) rfl).ne (hblk.le hO.le) rfl
    have hb3 := (hO.at (i := 1) rfl).but hbut1 hne
    refine ⟨hb3, ?_⟩
    refine At.take rfl (fun w' hs' => RunV.nilCheckO rfl hsA) rfl ?_
    refine At.take rfl (fun w' hs' => RunV.field ft90_3_7 rfl rfl) rfl ?_
    refine At.prun_ rfl (Step.storeX (ds := [.string e.name]) hblk1 rfl rfl rfl sz9_1 rfl rfl rfl ?_)
    intro w7 hbut2 hblk2
    replace hb3 := hb3.but hbut2 hne
    refine ⟨hb3, ?_⟩
    have hfin := (hRa.stays (GB.le hO.le) (hblk.le hO.le)).to (a' := { a with work := none, state := e.name }) (hbut1.trans hbut2) hx0 hblk2 rfl rfl ⟨_, _, _, rfl⟩
    have hl0 := hO.le
    clear hO
    refine At.pdone (At.keep (.nil) ?_)
    refine At.seq (At.reg ?_)
    refine At.v (RunV.assign rfl) rfl ?_
    refine At.nil (At.keep (.cons (t := 4) rfl <| .nil) ?_)
    refine At.ret ?_
    refine At.result1 rfl rfl ?_
    exact RuleP.set h hl0 (hbut1.trans hbut2) hxi (hblk.le hl0) hfin (by unfold stEnd; rw [if_pos hc0, hoa])

end Go.Proofs.Ytglilmcfhkedbaa
