/- The walks of audit's restarted, tick, refused; no condition. -/
import Derived.Test.YtglilmcfhkedbaaWM
namespace Go.Proofs.Ytglilmcfhkedbaa
open Go Go.RowKit

theorem ft32_6_6 : fieldT Try.prog 32 6 6 = true := by kernel_rfl
theorem ft49_3_3 : fieldT Try.prog 49 3 3 = true := by kernel_rfl
theorem ft90_2_2 : fieldT Try.prog 90 2 2 = true := by kernel_rfl
theorem ft90_3_7 : fieldT Try.prog 90 3 7 = true := by kernel_rfl

theorem BR.rebook {B0 N bb : Nat} {w w' : World} {b : Bk} {pv av lv : Value} {ab lb : List Nat} {t : Int} (h : BR B0 N w bb b pv av lv ab lb) (hb : But bb w w') (hbk : Blk w' bb [pv, av, lv, .int .i64 t] 49) (ht : 0 ≤ t ∧ t ≤ (N + 1 : Nat)) : BR B0 (N + 1) w' bb { b with ticks := t } pv av lv ab lb :=
  { lo := h.lo, loa := h.loa, lol := h.lol, losa := h.losa, losl := h.losl, alen := h.alen, llen := h.llen, nda := h.nda, ndl := h.ndl, small := h.small, prog1 := h.prog1
    hB := Nat.le_trans h.hB hb.size
    book := hbk
    prg := h.prg.stays (GB.but hb h.lo h.book rfl)
    asl := h.asl.but hb fun p m cp e => by obtain ⟨cs, h1⟩ := h.asl.blkT e; exact h1.ne h.book rfl
    lsl := h.lsl.but hb fun p m cp e => by obtain ⟨cs, h1⟩ := h.lsl.blkT e; exact h1.ne h.book rfl
    acts := fun i a y h1 h2 => (h.acts i a y h1 h2).but hb h.lo h.book rfl (by obtain ⟨_, _, _, _, _, _, _, h3⟩ := h.acts i a y h1 h2; exact h3.blk.ne h.book rfl)
    ltrs := fun i l y h1 h2 => (h.ltrs i l y h1 h2).but hb ((h.ltrs i l y h1 h2).ne h.book rfl)
    na := Nat.le_trans h.na (Nat.le_succ N)
    nl := Nat.le_trans h.nl (Nat.le_succ N)
    nt := ht }

theorem restarted_c (B0 N bb : Nat) (b : Bk) (pv av lv : Value) (ab lb : List Nat) (e : Ev) (w : World) (hN : N ≤ 100000) (h : BR B0 N w bb b pv av lv ab lb) :
    Ret Try.prog 26 [.pointer (some ⟨bb, 0, none⟩), .agg (e.cells).toArray] w fun v w' => RuleP B0 N w bb (stRestarted b e) v w' := by
  refine Ret.enter Try.func26 rfl Try.ntmps26 rfl rfl ?_
  have hO := Own.start w
  obtain ⟨oa, hoa, a, kv, ku, wx, ep, em, ec, st, ps, f, hA, hA2⟩ := h.actD e.actor
  replace h := h
  have hlo := h.loa
  refine At.seq (At.reg ?_)
  refine At.step rfl (Step.box hO rfl rfl ?_)
  intro b3 w1 hO hlb3 hnb3
  refine At.v (RunV.assign rfl) rfl ?_
  refine At.nil (At.keep (.cons (t := 0) rfl <| .cons (t := 3) rfl <| .nil) ?_)
  refine At.seq (At.reg ?_)
  refine At.v (RunV.move rfl) rfl ?_
  refine At.v (RunV.field ft32_1_1 rfl rfl) rfl ?_
  refine At.v (RunV.load ct3 rfl ((hO.at (i := 0) rfl).cell rfl)) rfl ?_
  refine At.callS rfl pf35 rfl (bactO_c oa e.actor hoa hN (h.le hO.le)) rfl ?_
  refine At.v (RunV.assign rfl) rfl ?_
  refine At.nil (At.keep (.cons (t := 0) rfl <| .cons (t := 3) rfl <| .cons (t := 5) rfl <| .nil) ?_)
  refine At.seq ?_
  refine At.seq (At.reg ?_)
  refine At.v (RunV.move rfl) rfl ?_
  refine At.step rfl (Step.buildSlice hO st97_3_1 zt3 rfl rfl rfl rfl (fill_full rfl rfl) ?_)
  intro b11 w2 hO hlb11 hnb11
  refine At.callS rfl pf37 rfl (is_c oa _ a kv ku wx _ st ps f _ (hA.le hO.le) _ 1 [2] (by decide) (hO.at (i := 0) rfl).row) rfl ?_
  refine At.v (RunV.not rfl) rfl ?_
  refine At.v (RunV.move rfl) rfl ?_
  refine At.g (Guard.f rfl rfl rfl) (fun hc => RunV.move rfl) rfl ?_
  refine At.g (Guard.f rfl rfl rfl) (fun hc => RunV.nilCheckO (gvE rfl hc) (by revert hc; cases oa <;> simp [ptrO, isB, worksB, optB])) rfl ?_
  refine At.g (Guard.f rfl rfl rfl) (fun hc => RunV.field ft90_9_17 (gvE rfl hc) rfl) rfl ?_
  refine At.g (Guard.f rfl rfl rfl) (fun hc => RunV.load ct3 (gvE rfl hc) (cell_le (Blk.cell (hA.blk (by revert hc; cases oa <;> simp [ptrO, isB, worksB, optB])) rfl) hO.le)) rfl ?_
  refine At.g (Guard.f rfl rfl rfl) (fun hc => RunV.neI (gvE rfl hc) rfl) rfl ?_
  refine At.keep (.cons (t := 0) rfl <| .cons (t := 3) rfl <| .cons (t := 5) rfl <| .cons (t := 14) rfl <| .cons (t := 19) rfl <| .nil) ?_
  refine At.v (RunV.pickOr rfl rfl) rfl ?_
  refine At.v (RunV.move rfl) rfl ?_
  refine At.g (Guard.f rfl rfl rfl) (fun hc => RunV.move rfl) rfl ?_
  refine At.g (Guard.f rfl rfl rfl) (fun hc => RunV.field ft32_1_1 rfl rfl) rfl ?_
  refine At.g (Guard.f rfl rfl rfl) (fun hc => RunV.load ct3 (gvE rfl hc) ((hO.at (i := 1) rfl).cell rfl)) rfl ?_
  refine At.gcallE hO (Guard.f rfl rfl rfl) (fun hc => rfl) pf43 (fun hc => (evL2 (gvE rfl hc) (gvE rfl hc))) (fun hc => alone_c B0 N bb b pv av lv ab lb e.actor _ hN (h.le hO.le) (hA2 (by revert hc; cases oa <;> simp [ptrO, isB, worksB, optB])).1) rfl ?_
  intro w3 hO hl
  refine At.g (Guard.f rfl rfl rfl) (fun hc => RunV.not (gvE rfl hc)) rfl ?_
  refine At.v (RunV.pickOr rfl rfl) rfl ?_
  refine At.nil (At.keep (.cons (t := 5) rfl <| .cons (t := 27) rfl <| .nil) ?_)
  refine At.cond rfl (fun hc => ?_) (fun hc => ?_)
  · refine At.seq (At.reg ?_)
    refine At.v (RunV.assign rfl) rfl ?_
    refine At.nil (At.keep (.cons (t := 4) rfl <| .nil) ?_)
    refine At.ret ?_
    refine At.result1 rfl rfl ?_
    exact RuleP.no h hO.le (by
      unfold stRestarted; rw [hoa]
      cases oa with
      | none => rfl
      | some a' =>
        obtain ⟨h9, _⟩ := hA rfl
        cases h9
        dsimp only
        rw [if_neg]
        revert hc
        cases isB [2] (some a) <;> cases decide (a.told = 2) <;> cases aloneB b e.actor <;> simp)
  · have hsA : oa.isSome = true := by revert hc; cases oa <;> simp [isB]
    obtain ⟨rfl, hblk⟩ := hA hsA
    obtain ⟨hn1, hxi, hwi, hR⟩ := hA2 hsA
    have hx0 := hlo _ (List.mem_of_getElem? hxi)
    obtain ⟨s0, hs0⟩ : ∃ s, a.kind.states[0]? = some s := ⟨_, List.getElem?_eq_getElem (by have := hR.small.2.2.1; omega)⟩
    obtain ⟨tb, toff, tcap, tcs, hv, htle, htcl, htR, htrow⟩ := hR.states.at hs0
    cases hv
    obtain ⟨tv, rfl, _⟩ := htR
    refine At.skip ?_
    refine At.seq (At.reg ?_)
    refine At.v (RunV.move rfl) rfl ?_
    refine At.v (RunV.move rfl) rfl ?_
    refine At.v (RunV.move rfl) rfl ?_
    refine At.v (RunV.move rfl) rfl ?_
    refine At.v (RunV.nilCheckO rfl hsA) rfl ?_
    refine At.v (RunV.field ft90_2_2 rfl rfl) rfl ?_
    refine At.v (RunV.field ft67_4_4 rfl rfl) rfl ?_
    refine At.v (RunV.load ct64 rfl (cell_le ((hA.blk hsA).cell (i := 6) rfl) hO.le)) rfl ?_
    refine At.v (RunV.index st64_63_2 rfl rfl rfl (List.getElem?_eq_some_iff.1 hs0).1 rfl) rfl ?_
    refine At.v (RunV.field ft63_0_0 rfl rfl) rfl ?_
    refine At.keep (.cons (t := 28) rfl <| .cons (t := 29) rfl <| .cons (t := 30) rfl <| .cons (t := 37) rfl <| .nil) ?_
    refine At.v (RunV.load ct9 rfl (cell_le (htrow.cell (i := 0) rfl) hO.le)) rfl ?_
    refine At.v (RunV.nilCheckO rfl hsA) rfl ?_
    refine At.v (RunV.field ft90_4_8 rfl rfl) rfl ?_
    refine At.step_ (Step.storeX (ds := [.int .i64 1]) (hblk.le hO.le) rfl rfl rfl sz3_1 rfl rfl rfl ?_)
    intro w4 hbut1 hblk1
    refine At.v (RunV.nilCheckO rfl hsA) rfl ?_
    refine At.v (RunV.field ft90_9_17 rfl rfl) rfl ?_
    refine At.step_ (Step.storeX (ds := [.int .i64 0]) hblk1 rfl rfl rfl sz3_1 rfl rfl rfl ?_)
    intro w5 hbut2 hblk2
    refine At.v (RunV.nilCheckO rfl hsA) rfl ?_
    refine At.v (RunV.field ft90_3_7 rfl rfl) rfl ?_
    refine At.step_ (Step.storeX (ds := [.string s0.name]) hblk2 rfl rfl rfl sz9_1 rfl rfl rfl ?_)
    intro w6 hbut3 hblk3
    have hfin := (hR.stays (GB.le hO.le) (hblk.le hO.le)).to (a' := { a with mode := 1, told := 0, state := s0.name }) ((hbut1.trans hbut2).trans hbut3) hx0 hblk3 rfl hR.work ⟨_, _, _, rfl⟩
    have hl0 := hO.le
    clear hO
    refine At.nil (At.keep (.nil) ?_)
    refine At.seq (At.reg ?_)
    refine At.v (RunV.assign rfl) rfl ?_
    refine At.nil (At.keep (.cons (t := 4) rfl <| .nil) ?_)
    refine At.ret ?_
    refine At.result1 rfl rfl ?_
    exact RuleP.set h hl0 ((hbut1.trans hbut2).trans hbut3) hxi (hblk.le hl0) hfin (by
      unfold stRestarted; rw [hoa]; dsimp only
      rw [if_pos, hs0]
      revert hc
      cases isB [2] (some a) <;> cases decide (a.told = 2) <;> cases aloneB b e.actor <;> simp)

theorem tick_c (B0 N bb : Nat) (b : Bk) (pv av lv : Value) (ab lb : List Nat) (e : Ev) (w : World) (hN : N ≤ 100000) (h : BR B0 N w bb b pv av lv ab lb) :
    Ret Try.prog 29 [.pointer (some ⟨bb, 0, none⟩), .agg (e.cells).toArray] w fun v w' => RuleP B0 N w bb (stTick b e) v w' := by
  refine Ret.enter Try.func29 rfl Try.ntmps29 rfl rfl ?_
  have hO := Own.start w
  have hnt := h.nt
  refine At.seq (At.reg ?_)
  refine At.step rfl (Step.box hO rfl rfl ?_)
  intro b3 w1 hO hlb3 hnb3
  refine At.v (RunV.assign rfl) rfl ?_
  refine At.nil (At.keep (.cons (t := 0) rfl <| .cons (t := 3) rfl <| .nil) ?_)
  refine At.seq ?_
  refine At.seq (At.pi hmix (.take 0 (.take 1 (.take 2 (.take 3 (.take 4 (.take 5 (.take 6 (.take 7 .done)))))))) (by kernel_rfl) (by kernel_rfl) ?_)
  intro w2 hs
  have hs0 := hs
  have hR := hO
  replace hO := hO.on hs
  refine At.take rfl (fun w' hs' => RunV.field ft32_6_6 rfl rfl) rfl ?_
  refine At.take rfl (fun w' hs' => RunV.load ct3 rfl (((hR.at (i := 0) rfl).le hs').cell rfl)) rfl ?_
  refine At.take rfl (fun w' hs' => RunV.move rfl) rfl ?_
  refine At.take rfl (fun w' hs' => RunV.nilCheck rfl) rfl ?_
  refine At.take rfl (fun w' hs' => RunV.field ft49_3_3 rfl rfl) rfl ?_
  refine At.take rfl (fun w' hs' => RunV.load ct3 rfl (cell_le (h.book.cell (i := 3) rfl) (hR.le.tr hs'))) rfl ?_
  refine At.take rfl (fun w' hs' => RunV.addI rfl rfl (wrap_in (by omega) (by omega))) rfl ?_
  refine At.take rfl (fun w' hs' => RunV.neI rfl rfl) rfl ?_
  refine At.pdone (At.keep (.cons (t := 0) rfl <| .cons (t := 12) rfl <| .nil) ?_)
  refine At.cond rfl (fun hc => ?_) (fun hc => ?_)
  · refine At.seq (At.reg ?_)
    refine At.v (RunV.assign rfl) rfl ?_
    refine At.nil (At.keep (.cons (t := 4) rfl <| .nil) ?_)
    refine At.ret ?_
    refine At.result1 rfl rfl ?_
    exact RuleP.no h hO.le (by unfold stTick; rw [if_neg (by simpa using hc)])
  · refine At.skip ?_
    refine At.seq (At.reg ?_)
    refine At.v (RunV.move rfl) rfl ?_
    refine At.v (RunV.nilCheck rfl) rfl ?_
    refine At.v (RunV.field ft49_3_3 rfl rfl) rfl ?_
    refine At.v (RunV.load ct3 rfl (cell_le (h.book.cell (i := 3) rfl) hO.le)) rfl ?_
    refine At.v (RunV.addI rfl rfl (wrap_in (by omega) (by omega))) rfl ?_
    refine At.v (RunV.nilCheck rfl) rfl ?_
    refine At.v (RunV.field ft49_3_3 rfl rfl) rfl ?_
    refine At.step_ (Step.storeX (ds := [.int .i64 (b.ticks + 1)]) (h.book.le hO.le) rfl rfl rfl sz3_1 rfl rfl rfl ?_)
    intro w3 hbut hblk2
    have hl0 := hO.le
    clear hO
    refine At.nil (At.keep (.nil) ?_)
    refine At.seq (At.reg ?_)
    refine At.v (RunV.assign rfl) rfl ?_
    refine At.nil (At.keep (.cons (t := 4) rfl <| .nil) ?_)
    refine At.ret ?_
    refine At.result1 rfl rfl ?_
    have h1 := (h.le hl0).rebook hbut hblk2 (by omega)
    have e1 : stTick b e = (0, { b with ticks := b.ticks + 1 }) := by unfold stTick; rw [if_pos (by simpa using hc)]
    unfold RuleP
    rw [e1]
    exact ⟨rfl, ⟨(hl0.mono h.hB).trans (hbut.below h.lo (h.le hl0).hB), (Kp.le hl0).trans (Kp.but hbut (h.book.le hl0) rfl)⟩, pv, av, lv, ab, lb, h1⟩

theorem refused_c (B0 N bb : Nat) (b : Bk) (pv av lv : Value) (ab lb : List Nat) (e : Ev) (w : World) (h : BR B0 N w bb b pv av lv ab lb) :
    Ret Try.prog 16 [.pointer (some ⟨bb, 0, none⟩), .agg (e.cells).toArray] w fun v w' => RuleP B0 N w bb (0, b) v w' := by
  refine Ret.enter Try.func16 rfl Try.ntmps16 rfl rfl ?_
  have hO := Own.start w
  refine At.seq (At.reg ?_)
  refine At.step rfl (Step.box hO rfl rfl ?_)
  intro b3 w1 hO hlb3 hnb3
  refine At.v (RunV.assign rfl) rfl ?_
  refine At.nil (At.keep (.nil) ?_)
  refine At.seq (At.reg ?_)
  refine At.v (RunV.assign rfl) rfl ?_
  refine At.nil (At.keep (.cons (t := 4) rfl <| .nil) ?_)
  refine At.ret ?_
  refine At.result1 rfl rfl ?_
  exact RuleP.no h hO.le rfl

end Go.Proofs.Ytglilmcfhkedbaa
