/- The walks of the short rules of audit; no condition. -/
import Derived.Test.YtglilmcfhkedbaaRu
namespace Go.Proofs.Ytglilmcfhkedbaa
open Go Go.RowKit

theorem ft32_1_1 : fieldT Try.prog 32 1 1 = true := by kernel_rfl
theorem ft32_5_5 : fieldT Try.prog 32 5 5 = true := by kernel_rfl
theorem ft90_7_15 : fieldT Try.prog 90 7 15 = true := by kernel_rfl
theorem ft90_8_16 : fieldT Try.prog 90 8 16 = true := by kernel_rfl
theorem ft90_9_17 : fieldT Try.prog 90 9 17 = true := by kernel_rfl
theorem sz82_1 : sizeT Try.prog 82 1 = true := by kernel_rfl

theorem alone_c (B0 N bb : Nat) (b : Bk) (pv av lv : Value) (ab lb : List Nat) (id : Int) (w : World) (hN : N ≤ 100000) (h : BR B0 N w bb b pv av lv ab lb) (hn1 : 1 ≤ b.actors.length) :
    Ret Try.prog 43 [.pointer (some ⟨bb, 0, none⟩), .int .i64 id] w fun v w' => v = .bool (aloneB b id) ∧ Le w w' := by
  refine Ret.enter Try.func43 rfl Try.ntmps43 rfl rfl ?_
  have hO := Own.start w
  have hna := h.na
  have hal := h.alen
  obtain ⟨sb, scap, cs, rfl, hblk, hcl, hcap, htk⟩ : ∃ sb scap cs, av = .slice (some ⟨sb, 0, none⟩) (ab.zip b.actors).length scap ∧ Blk w sb cs 76 ∧ cs.length = scap * 1 ∧ b.actors.length ≤ scap ∧ cs.take (b.actors.length * 1) = ab.map ptrV := by
    rw [show (ab.zip b.actors).length = b.actors.length by rw [List.length_zip]; omega]
    rcases h.asl with ⟨_, h0, _⟩ | h1
    · omega
    · exact h1
  have hzl : (ab.zip b.actors).length ≤ 1048576 := by rw [List.length_zip]; omega
  have hzm : (ab.zip b.actors).map (fun p => ptrV p.1) = ab.map ptrV := by
    have e : (ab.zip b.actors).map Prod.fst = ab := List.map_fst_zip (by omega)
    conv => rhs; rw [← e]
    rw [List.map_map]; rfl
  have hrow : Row w sb 0 (ab.map ptrV) := by rw [← htk]; exact Row.take hblk.row
  have hza : ((ab.zip b.actors).any fun p => decide (p.2.parent = id) && !decide (p.2.mode = 5)) = b.actors.any fun a => decide (a.parent = id) && !decide (a.mode = 5) := by
    have e : b.actors = (ab.zip b.actors).map Prod.snd := by rw [List.map_snd_zip (by omega)]
    conv => rhs; rw [e]
    rw [List.any_map]; rfl
  have hz : ∀ (i : Nat) (p : Nat × Actr), (ab.zip b.actors)[i]? = some p → ActE B0 w lb p.2 p.1 := fun i p hp => by
    rw [List.getElem?_zip_eq_some] at hp
    exact h.acts i p.2 p.1 hp.2 hp.1
  refine At.seq (At.reg ?_)
  refine At.step rfl (Step.box hO rfl rfl ?_)
  intro b3 w1 hO hlb3 hnb3
  refine At.v (RunV.assign rfl) rfl ?_
  refine At.nil (At.keep (.cons (t := 0) rfl <| .cons (t := 3) rfl <| .nil) ?_)
  refine At.seq (At.reg ?_)
  refine At.v (RunV.move rfl) rfl ?_
  refine At.v (RunV.nilCheck rfl) rfl ?_
  refine At.v (RunV.field ft49_1_1 rfl rfl) rfl ?_
  refine At.v (RunV.load ct46 rfl (cell_le (h.book.cell (i := 1) rfl) hO.le)) rfl ?_
  refine At.v (RunV.makeFunc rfl) rfl ?_
  refine At.callE hO rfl pf63 rfl (contfA_c (α := Nat × Actr) (fun p => ptrV p.1) (fun p => decide (p.2.parent = id) && !decide (p.2.mode = 5)) (ab.zip b.actors) _ _ 64 [_] pf64 _ hzl (by rw [hzm]; exact (hrow.le hO.le)) (fun i p w' hp hl => by obtain ⟨_, _, _, _, _, _, _, hR⟩ := hz i p hp; exact alone1_c p.2 p.1 _ id _ _ _ _ _ _ _ w' (hR.blk.le (hO.le.tr hl)) ((hO.at (i := 0) rfl).row.le hl))) rfl ?_
  intro w2 hO hl
  refine At.v (RunV.not rfl) rfl ?_
  refine At.v (RunV.assign rfl) rfl ?_
  refine At.nil (At.keep (.cons (t := 4) rfl <| .nil) ?_)
  refine At.ret ?_
  refine At.result1 rfl rfl ?_
  exact ⟨by rw [hza]; rfl, hO.le⟩

theorem stopping_c (B0 N bb : Nat) (b : Bk) (pv av lv : Value) (ab lb : List Nat) (e : Ev) (w : World) (hN : N ≤ 100000) (h : BR B0 N w bb b pv av lv ab lb) :
    Ret Try.prog 27 [.pointer (some ⟨bb, 0, none⟩), .agg (e.cells).toArray] w fun v w' => RuleP B0 N w bb (stStopping b e) v w' := by
  refine Ret.enter Try.func27 rfl Try.ntmps27 rfl rfl ?_
  have hO := Own.start w
  obtain ⟨oa, hoa, a, kv, ku, wx, ep, em, ec, st, ps, f, hA, hA2⟩ := h.actD e.actor
  replace h := h
  have hlo := h.loa
  refine At.seq (At.reg ?_)
  refine At.step rfl (Step.box hO rfl rfl ?_)
  intro b3 w1 hO hlb3 hnb3
  refine At.v (RunV.assign rfl) rfl ?_
  refine At.nil (At.keep (.cons (t := 0) rfl <| .cons (t := 3) rfl <| .nil) ?_)
  refine At.seq (At.reg ?_)
  refine At.v (RunV.move rfl) rfl ?_
  refine At.v (RunV.field ft32_1_1 rfl rfl) rfl ?_
  refine At.v (RunV.load ct3 rfl ((hO.at (i := 0) rfl).cell rfl)) rfl ?_
  refine At.callS rfl pf35 rfl (bactO_c oa e.actor hoa hN (h.le hO.le)) rfl ?_
  refine At.v (RunV.assign rfl) rfl ?_
  refine At.nil (At.keep (.cons (t := 5) rfl <| .nil) ?_)
  refine At.seq ?_
  refine At.seq (At.reg ?_)
  refine At.v (RunV.move rfl) rfl ?_
  refine At.step rfl (Step.buildSlice hO st97_3_1 zt3 rfl rfl rfl rfl (fill_full rfl rfl) ?_)
  intro b11 w2 hO hlb11 hnb11
  refine At.callS rfl pf37 rfl (is_c oa _ a kv ku wx _ st ps f _ (hA.le hO.le) _ 2 [1, 2] (by decide) (hO.at (i := 0) rfl).row) rfl ?_
  refine At.v (RunV.not rfl) rfl ?_
  refine At.v (RunV.move rfl) rfl ?_
  refine At.g (Guard.f rfl rfl rfl) (fun hc => RunV.move rfl) rfl ?_
  refine At.gcallS (Guard.f rfl rfl rfl) (fun hc => rfl) pf36 (fun hc => (evL1 (gvE rfl hc))) (fun hc => works_c oa _ a kv ku wx _ st ps f _ (hA.le hO.le)) rfl ?_
  refine At.v (RunV.pickOr rfl rfl) rfl ?_
  refine At.nil (At.keep (.cons (t := 5) rfl <| .cons (t := 17) rfl <| .nil) ?_)
  refine At.cond rfl (fun hc => ?_) (fun hc => ?_)
  · refine At.seq (At.reg ?_)
    refine At.v (RunV.assign rfl) rfl ?_
    refine At.nil (At.keep (.cons (t := 4) rfl <| .nil) ?_)
    refine At.ret ?_
    refine At.result1 rfl rfl ?_
    exact RuleP.no h hO.le (by
      unfold stStopping; rw [hoa]
      cases oa with
      | none => rfl
      | some a' =>
        dsimp only
        rw [if_neg]
        revert hc
        cases isB [1, 2] (some a') <;> cases worksB (some a') <;> simp)
  · have hsA : oa.isSome = true := by revert hc; cases oa <;> simp [isB]
    obtain ⟨rfl, hblk⟩ := hA hsA
    obtain ⟨hn1, hxi, hwi, hR⟩ := hA2 hsA
    have hx0 := hlo _ (List.mem_of_getElem? hxi)
    refine At.skip ?_
    refine At.seq (At.reg ?_)
    refine At.v (RunV.move rfl) rfl ?_
    refine At.v (RunV.nilCheckO rfl hsA) rfl ?_
    refine At.v (RunV.field ft90_4_8 rfl rfl) rfl ?_
    refine At.step_ (Step.storeX (ds := [.int .i64 4]) (hblk.le hO.le) rfl rfl rfl sz3_1 rfl rfl rfl ?_)
    intro w3 hbut hblk2
    have hfin := (hR.stays (GB.le hO.le) (hblk.le hO.le)).to (a' := { a with mode := 4 }) hbut hx0 hblk2 rfl hR.work ⟨_, _, _, rfl⟩
    have hl0 := hO.le
    clear hO
    refine At.nil (At.keep (.nil) ?_)
    refine At.seq (At.reg ?_)
    refine At.v (RunV.assign rfl) rfl ?_
    refine At.nil (At.keep (.cons (t := 4) rfl <| .nil) ?_)
    refine At.ret ?_
    refine At.result1 rfl rfl ?_
    exact RuleP.set h hl0 hbut hxi (hblk.le hl0) hfin (by
      unfold stStopping; rw [hoa]; dsimp only
      rw [if_pos]
      revert hc
      cases isB [1, 2] (some a) <;> cases worksB (some a) <;> simp)

theorem ended_c (B0 N bb : Nat) (b : Bk) (pv av lv : Value) (ab lb : List Nat) (e : Ev) (w : World) (hN : N ≤ 100000) (h : BR B0 N w bb b pv av lv ab lb) :
    Ret Try.prog 28 [.pointer (some ⟨bb, 0, none⟩), .agg (e.cells).toArray] w fun v w' => RuleP B0 N w bb (stEnded b e) v w' := by
  refine Ret.enter Try.func28 rfl Try.ntmps28 rfl rfl ?_
  have hO := Own.start w
  obtain ⟨oa, hoa, a, kv, ku, wx, ep, em, ec, st, ps, f, hA, hA2⟩ := h.actD e.actor
  replace h := h
  have hlo := h.loa
  refine At.seq (At.reg ?_)
  refine At.step rfl (Step.box hO rfl rfl ?_)
  intro b3 w1 hO hlb3 hnb3
  refine At.v (RunV.assign rfl) rfl ?_
  refine At.nil (At.keep (.cons (t := 0) rfl <| .cons (t := 3) rfl <| .nil) ?_)
  refine At.seq (At.reg ?_)
  refine At.v (RunV.move rfl) rfl ?_
  refine At.v (RunV.field ft32_1_1 rfl rfl) rfl ?_
  refine At.v (RunV.load ct3 rfl ((hO.at (i := 0) rfl).cell rfl)) rfl ?_
  refine At.callS rfl pf35 rfl (bactO_c oa e.actor hoa hN (h.le hO.le)) rfl ?_
  refine At.v (RunV.assign rfl) rfl ?_
  refine At.nil (At.keep (.cons (t := 0) rfl <| .cons (t := 3) rfl <| .cons (t := 5) rfl <| .nil) ?_)
  refine At.seq ?_
  refine At.seq (At.reg ?_)
  refine At.v (RunV.move rfl) rfl ?_
  refine At.step rfl (Step.buildSlice hO st97_3_1 zt3 rfl rfl rfl rfl (fill_full rfl rfl) ?_)
  intro b11 w2 hO hlb11 hnb11
  refine At.callS rfl pf37 rfl (is_c oa _ a kv ku wx _ st ps f _ (hA.le hO.le) _ 1 [4] (by decide) (hO.at (i := 0) rfl).row) rfl ?_
  refine At.v (RunV.not rfl) rfl ?_
  refine At.v (RunV.move rfl) rfl ?_
  refine At.g (Guard.f rfl rfl rfl) (fun hc => RunV.move rfl) rfl ?_
  refine At.g (Guard.f rfl rfl rfl) (fun hc => RunV.field ft32_1_1 rfl rfl) rfl ?_
  refine At.g (Guard.f rfl rfl rfl) (fun hc => RunV.load ct3 (gvE rfl hc) ((hO.at (i := 1) rfl).cell rfl)) rfl ?_
  refine At.gcallE hO (Guard.f rfl rfl rfl) (fun hc => rfl) pf43 (fun hc => (evL2 (gvE rfl hc) (gvE rfl hc))) (fun hc => alone_c B0 N bb b pv av lv ab lb e.actor _ hN (h.le hO.le) (hA2 (by revert hc; cases oa <;> simp [ptrO, isB, worksB, optB])).1) rfl ?_
  intro w3 hO hl
  refine At.g (Guard.f rfl rfl rfl) (fun hc => RunV.not (gvE rfl hc)) rfl ?_
  refine At.v (RunV.pickOr rfl rfl) rfl ?_
  refine At.nil (At.keep (.cons (t := 5) rfl <| .cons (t := 20) rfl <| .nil) ?_)
  refine At.cond rfl (fun hc => ?_) (fun hc => ?_)
  · refine At.seq (At.reg ?_)
    refine At.v (RunV.assign rfl) rfl ?_
    refine At.nil (At.keep (.cons (t := 4) rfl <| .nil) ?_)
    refine At.ret ?_
    refine At.result1 rfl rfl ?_
    exact RuleP.no h hO.le (by
      unfold stEnded; rw [hoa]
      cases oa with
      | none => rfl
      | some a' =>
        obtain ⟨h9, _⟩ := hA rfl
        cases h9
        dsimp only
        rw [if_neg]
        revert hc
        cases isB [4] (some a) <;> cases aloneB b e.actor <;> simp)
  · have hsA : oa.isSome = true := by revert hc; cases oa <;> simp [isB]
    obtain ⟨rfl, hblk⟩ := hA hsA
    obtain ⟨hn1, hxi, hwi, hR⟩ := hA2 hsA
    have hx0 := hlo _ (List.mem_of_getElem? hxi)
    refine At.skip ?_
    refine At.seq (At.reg ?_)
    refine At.v (RunV.move rfl) rfl ?_
    refine At.v (RunV.nilCheckO rfl hsA) rfl ?_
    refine At.v (RunV.field ft90_4_8 rfl rfl) rfl ?_
    refine At.step_ (Step.storeX (ds := [.int .i64 5]) (hblk.le hO.le) rfl rfl rfl sz3_1 rfl rfl rfl ?_)
    intro w4 hbut hblk2
    have hfin := (hR.stays (GB.le hO.le) (hblk.le hO.le)).to (a' := { a with mode := 5 }) hbut hx0 hblk2 rfl hR.work ⟨_, _, _, rfl⟩
    have hl0 := hO.le
    clear hO
    refine At.nil (At.keep (.nil) ?_)
    refine At.seq (At.reg ?_)
    refine At.v (RunV.assign rfl) rfl ?_
    refine At.nil (At.keep (.cons (t := 4) rfl <| .nil) ?_)
    refine At.ret ?_
    refine At.result1 rfl rfl ?_
    exact RuleP.set h hl0 (hbut) hxi (hblk.le hl0) hfin (by
      unfold stEnded; rw [hoa]; dsimp only
      rw [if_pos]
      revert hc
      cases isB [4] (some a) <;> cases aloneB b e.actor <;> simp)

theorem resumed_c (B0 N bb : Nat) (b : Bk) (pv av lv : Value) (ab lb : List Nat) (e : Ev) (w : World) (hN : N ≤ 100000) (h : BR B0 N w bb b pv av lv ab lb) :
    Ret Try.prog 25 [.pointer (some ⟨bb, 0, none⟩), .agg (e.cells).toArray] w fun v w' => RuleP B0 N w bb (stResumed b e) v w' := by
  refine Ret.enter Try.func25 rfl Try.ntmps25 rfl rfl ?_
  have hO := Own.start w
  obtain ⟨oa, hoa, a, kv, ku, wx, ep, em, ec, st, ps, f, hA, hA2⟩ := h.actD e.actor
  replace h := h
  have hlo := h.loa
  refine At.seq (At.reg ?_)
  refine At.step rfl (Step.box hO rfl rfl ?_)
  intro b3 w1 hO hlb3 hnb3
  refine At.v (RunV.assign rfl) rfl ?_
  refine At.nil (At.keep (.cons (t := 0) rfl <| .cons (t := 3) rfl <| .nil) ?_)
  refine At.seq (At.reg ?_)
  refine At.v (RunV.move rfl) rfl ?_
  refine At.v (RunV.field ft32_1_1 rfl rfl) rfl ?_
  refine At.v (RunV.load ct3 rfl ((hO.at (i := 0) rfl).cell rfl)) rfl ?_
  refine At.callS rfl pf35 rfl (bactO_c oa e.actor hoa hN (h.le hO.le)) rfl ?_
  refine At.v (RunV.assign rfl) rfl ?_
  refine At.nil (At.keep (.cons (t := 5) rfl <| .nil) ?_)
  refine At.seq ?_
  refine At.seq (At.reg ?_)
  refine At.v (RunV.move rfl) rfl ?_
  refine At.step rfl (Step.buildSlice hO st97_3_1 zt3 rfl rfl rfl rfl (fill_full rfl rfl) ?_)
  intro b11 w2 hO hlb11 hnb11
  refine At.callS rfl pf37 rfl (is_c oa _ a kv ku wx _ st ps f _ (hA.le hO.le) _ 1 [2] (by decide) (hO.at (i := 0) rfl).row) rfl ?_
  refine At.v (RunV.not rfl) rfl ?_
  refine At.v (RunV.move rfl) rfl ?_
  refine At.g (Guard.f rfl rfl rfl) (fun hc => RunV.move rfl) rfl ?_
  refine At.g (Guard.f rfl rfl rfl) (fun hc => RunV.nilCheckO (gvE rfl hc) (by revert hc; cases oa <;> simp [ptrO, isB, worksB, optB])) rfl ?_
  refine At.g (Guard.f rfl rfl rfl) (fun hc => RunV.field ft90_9_17 (gvE rfl hc) rfl) rfl ?_
  refine At.g (Guard.f rfl rfl rfl) (fun hc => RunV.load ct3 (gvE rfl hc) (cell_le (Blk.cell (hA.blk (by revert hc; cases oa <;> simp [ptrO, isB, worksB, optB])) rfl) hO.le)) rfl ?_
  refine At.g (Guard.f rfl rfl rfl) (fun hc => RunV.neI (gvE rfl hc) rfl) rfl ?_
  refine At.keep (.cons (t := 5) rfl <| .cons (t := 14) rfl <| .cons (t := 19) rfl <| .nil) ?_
  refine At.g (Guard.f rfl rfl rfl) (fun hc => RunV.move (gvE rfl hc)) rfl ?_
  refine At.g (Guard.gt rfl rfl rfl) (fun hc => RunV.move rfl) rfl ?_
  refine At.g (Guard.gt rfl rfl rfl) (fun hc => RunV.nilCheckO (gvE rfl hc) (by revert hc; cases oa <;> simp [ptrO, isB, worksB, optB])) rfl ?_
  refine At.g (Guard.gt rfl rfl rfl) (fun hc => RunV.field ft90_9_17 (gvE rfl hc) rfl) rfl ?_
  refine At.g (Guard.gt rfl rfl rfl) (fun hc => RunV.load ct3 (gvE rfl hc) (cell_le (Blk.cell (hA.blk (by revert hc; cases oa <;> simp [ptrO, isB, worksB, optB])) rfl) hO.le)) rfl ?_
  refine At.g (Guard.gt rfl rfl rfl) (fun hc => RunV.neI (gvE rfl hc) rfl) rfl ?_
  refine At.g (Guard.f rfl rfl rfl) (fun hc => RunV.pickAnd (gvE rfl hc) (gvE2 rfl hc)) rfl ?_
  refine At.v (RunV.pickOr rfl rfl) rfl ?_
  refine At.nil (At.keep (.cons (t := 5) rfl <| .cons (t := 27) rfl <| .nil) ?_)
  refine At.cond rfl (fun hc => ?_) (fun hc => ?_)
  · refine At.seq (At.reg ?_)
    refine At.v (RunV.assign rfl) rfl ?_
    refine At.nil (At.keep (.cons (t := 4) rfl <| .nil) ?_)
    refine At.ret ?_
    refine At.result1 rfl rfl ?_
    exact RuleP.no h hO.le (by
      unfold stResumed; rw [hoa]
      cases oa with
      | none => rfl
      | some a' =>
        obtain ⟨h9, _⟩ := hA rfl
        cases h9
        dsimp only
        rw [if_neg]
        revert hc
        cases isB [2] (some a) <;> cases decide (a.told = 1) <;> cases decide (a.told = 4) <;> simp)
  · have hsA : oa.isSome = true := by revert hc; cases oa <;> simp [isB]
    obtain ⟨rfl, hblk⟩ := hA hsA
    obtain ⟨hn1, hxi, hwi, hR⟩ := hA2 hsA
    have hx0 := hlo _ (List.mem_of_getElem? hxi)
    refine At.skip ?_
    refine At.seq (At.reg ?_)
    refine At.v (RunV.move rfl) rfl ?_
    refine At.v (RunV.move rfl) rfl ?_
    refine At.v (RunV.nilCheckO rfl hsA) rfl ?_
    refine At.v (RunV.field ft90_4_8 rfl rfl) rfl ?_
    refine At.step_ (Step.storeX (ds := [.int .i64 1]) (hblk.le hO.le) rfl rfl rfl sz3_1 rfl rfl rfl ?_)
    intro w3 hbut1 hblk1
    refine At.v (RunV.nilCheckO rfl hsA) rfl ?_
    refine At.v (RunV.field ft90_9_17 rfl rfl) rfl ?_
    refine At.step_ (Step.storeX (ds := [.int .i64 0]) hblk1 rfl rfl rfl sz3_1 rfl rfl rfl ?_)
    intro w4 hbut2 hblk2
    have hfin := (hR.stays (GB.le hO.le) (hblk.le hO.le)).to (a' := { a with mode := 1, told := 0 }) (hbut1.trans hbut2) hx0 hblk2 rfl hR.work ⟨_, _, _, rfl⟩
    have hl0 := hO.le
    clear hO
    refine At.nil (At.keep (.nil) ?_)
    refine At.seq (At.reg ?_)
    refine At.v (RunV.assign rfl) rfl ?_
    refine At.nil (At.keep (.cons (t := 4) rfl <| .nil) ?_)
    refine At.ret ?_
    refine At.result1 rfl rfl ?_
    exact RuleP.set h hl0 (hbut1.trans hbut2) hxi (hblk.le hl0) hfin (by
      unfold stResumed; rw [hoa]; dsimp only
      rw [if_pos]
      revert hc
      cases isB [2] (some a) <;> cases decide (a.told = 1) <;> cases decide (a.told = 4) <;> simp)

theorem failed_c (B0 N bb : Nat) (b : Bk) (pv av lv : Value) (ab lb : List Nat) (e : Ev) (w : World) (hN : N ≤ 100000) (h : BR B0 N w bb b pv av lv ab lb) :
    Ret Try.prog 23 [.pointer (some ⟨bb, 0, none⟩), .agg (e.cells).toArray] w fun v w' => RuleP B0 N w bb (stFailed b e) v w' := by
  refine Ret.enter Try.func23 rfl Try.ntmps23 rfl rfl ?_
  have hO := Own.start w
  obtain ⟨oa, hoa, a, kv, ku, wx, ep, em, ec, st, ps, f, hA, hA2⟩ := h.actD e.actor
  replace h := h
  have hlo := h.loa
  refine At.seq (At.reg ?_)
  refine At.step rfl (Step.box hO rfl rfl ?_)
  intro b3 w1 hO hlb3 hnb3
  refine At.v (RunV.assign rfl) rfl ?_
  refine At.nil (At.keep (.cons (t := 0) rfl <| .cons (t := 3) rfl <| .nil) ?_)
  refine At.seq (At.reg ?_)
  refine At.v (RunV.move rfl) rfl ?_
  refine At.v (RunV.field ft32_1_1 rfl rfl) rfl ?_
  refine At.v (RunV.load ct3 rfl ((hO.at (i := 0) rfl).cell rfl)) rfl ?_
  refine At.callS rfl pf35 rfl (bactO_c oa e.actor hoa hN (h.le hO.le)) rfl ?_
  refine At.v (RunV.assign rfl) rfl ?_
  refine At.nil (At.keep (.cons (t := 3) rfl <| .cons (t := 5) rfl <| .nil) ?_)
  refine At.seq ?_
  refine At.seq (At.reg ?_)
  refine At.v (RunV.move rfl) rfl ?_
  refine At.step rfl (Step.buildSlice hO st97_3_1 zt3 rfl rfl rfl rfl (fill_full rfl rfl) ?_)
  intro b11 w2 hO hlb11 hnb11
  refine At.callS rfl pf37 rfl (is_c oa _ a kv ku wx _ st ps f _ (hA.le hO.le) _ 1 [1] (by decide) (hO.at (i := 0) rfl).row) rfl ?_
  refine At.v (RunV.not rfl) rfl ?_
  refine At.v (RunV.move rfl) rfl ?_
  refine At.g (Guard.f rfl rfl rfl) (fun hc => RunV.move rfl) rfl ?_
  refine At.gcallS (Guard.f rfl rfl rfl) (fun hc => rfl) pf36 (fun hc => (evL1 (gvE rfl hc))) (fun hc => works_c oa _ a kv ku wx _ st ps f _ (hA.le hO.le)) rfl ?_
  refine At.v (RunV.pickOr rfl rfl) rfl ?_
  refine At.nil (At.keep (.cons (t := 3) rfl <| .cons (t := 5) rfl <| .cons (t := 17) rfl <| .nil) ?_)
  refine At.cond rfl (fun hc => ?_) (fun hc => ?_)
  · refine At.seq (At.reg ?_)
    refine At.v (RunV.assign rfl) rfl ?_
    refine At.nil (At.keep (.cons (t := 4) rfl <| .nil) ?_)
    refine At.ret ?_
    refine At.result1 rfl rfl ?_
    exact RuleP.no h hO.le (by
      unfold stFailed; rw [hoa]
      cases oa with
      | none => rfl
      | some a' =>
        obtain ⟨h9, _⟩ := hA rfl
        cases h9
        dsimp only
        rw [if_neg]
        revert hc
        cases isB [1] (some a) <;> cases worksB (some a) <;> simp)
  · have hsA : oa.isSome = true := by revert hc; cases oa <;> simp [isB]
    obtain ⟨rfl, hblk⟩ := hA hsA
    obtain ⟨hn1, hxi, hwi, hR⟩ := hA2 hsA
    have hx0 := hlo _ (List.mem_of_getElem? hxi)
    refine At.skip ?_
    refine At.seq (At.piS hmix (.take 0 (.take 1 (.take 2 (.take 3 (.take 4 (.take 5 (.take 6 (.run 7 (.take 8 (.take 9 (.run 10 (.take 11 (.take 12 (.run 13 .done)))))))))))))) (fun w' => Blk w' b3 e.cells 32) (by kernel_rfl) (by kernel_rfl) (fun w1 hl => (hO.at (i := 1) rfl).le hl) ?_)
    intro w3 hs
    replace hO := hO.on hs
    refine At.take rfl (fun w' hs' => RunV.move rfl) rfl ?_
    refine At.take rfl (fun w' hs' => RunV.move rfl) rfl ?_
    refine At.take rfl (fun w' hs' => RunV.move rfl) rfl ?_
    refine At.take rfl (fun w' hs' => RunV.field ft32_5_5 rfl rfl) rfl ?_
    refine At.take rfl (fun w' hs' => RunV.load ct9 rfl (Blk.cell hs' rfl)) rfl ?_
    refine At.take rfl (fun w' hs' => RunV.nilCheckO rfl hsA) rfl ?_
    refine At.take rfl (fun w' hs' => RunV.field ft90_4_8 rfl rfl) rfl ?_
    refine At.prun_ rfl (Step.storeX (ds := [.int .i64 2]) (hblk.le hO.le) rfl rfl rfl sz3_1 rfl rfl rfl ?_)
    intro w4 hbut1 hblk1
    have hne := (hO.at (i := 1) rfl).ne (hblk.le hO.le) rfl
    have hb3 := (hO.at (i := 1) rfl).but hbut1 hne
    refine ⟨hb3, ?_⟩
    refine At.take rfl (fun w' hs' => RunV.nilCheckO rfl hsA) rfl ?_
    refine At.take rfl (fun w' hs' => RunV.field ft90_7_15 rfl rfl) rfl ?_
    refine At.keep (.cons (t := 20) rfl <| .cons (t := 22) rfl <| .cons (t := 26) rfl <| .nil) ?_
    refine At.prun_ rfl (Step.storeX (ds := [.string e.name]) hblk1 rfl rfl rfl sz9_1 rfl rfl rfl ?_)
    intro w5 hbut2 hblk2
    replace hb3 := hb3.but hbut2 hne
    refine ⟨hb3, ?_⟩
    refine At.take rfl (fun w' hs' => RunV.nilCheckO rfl hsA) rfl ?_
    refine At.take rfl (fun w' hs' => RunV.field ft90_8_16 rfl rfl) rfl ?_
    refine At.prun_ rfl (Step.storeX (ds := [.bool true]) hblk2 rfl rfl rfl sz4_1 rfl rfl rfl ?_)
    intro w6 hbut3 hblk3
    replace hb3 := hb3.but hbut3 hne
    refine ⟨hb3, ?_⟩
    have hfin := (hR.stays (GB.le hO.le) (hblk.le hO.le)).to (a' := { a with mode := 2, opn := e.name, failed := true }) ((hbut1.trans hbut2).trans hbut3) hx0 hblk3 rfl hR.work ⟨_, _, _, rfl⟩
    have hl0 := hO.le
    clear hO
    refine At.pdone (At.keep (.nil) ?_)
    refine At.seq (At.reg ?_)
    refine At.v (RunV.assign rfl) rfl ?_
    refine At.nil (At.keep (.cons (t := 4) rfl <| .nil) ?_)
    refine At.ret ?_
    refine At.result1 rfl rfl ?_
    exact RuleP.set h hl0 ((hbut1.trans hbut2).trans hbut3) hxi (hblk.le hl0) hfin (by
      unfold stFailed; rw [hoa]; dsimp only
      rw [if_pos]
      revert hc
      cases isB [1] (some a) <;> cases worksB (some a) <;> simp)

end Go.Proofs.Ytglilmcfhkedbaa
