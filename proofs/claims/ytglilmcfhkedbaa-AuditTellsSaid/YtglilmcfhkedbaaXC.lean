/- The walk of Arrived; no condition. -/
import Derived.Test.YtglilmcfhkedbaaXB
namespace Go.Proofs.Ytglilmcfhkedbaa
open Go Go.RowKit



theorem zu32 : (Try.prog.info? 32).bind (·.zero) = some (.agg evZ.cells.toArray) := by kernel_rfl

set_option maxHeartbeats 1600000 in
theorem arrived_c (l : List Ev) (f t : Int) (ev : Value) (w : World) (hE : EvsR G0 w ev l) (hl : l.length ≤ 300) :
    Ret Try.prog 10 [ev, .int .i64 f, .int .i64 t] w fun v w' => SlOf G0 1 IR w' v (arrB l f t) ∧ Le w w' := by
  refine Ret.enter Try.func10 rfl Try.ntmps10 rfl rfl ?_
  have hO := Own.start w
  obtain ⟨ea, ec, rfl, hele, hecap⟩ := SlOf.val hE
  refine At.seq (At.reg ?_)
  refine At.v (RunV.assign rfl) rfl ?_
  refine At.nil (At.keep (.cons (t := 0) rfl <| .cons (t := 1) rfl <| .cons (t := 2) rfl <| .nil) ?_)
  refine At.seq (At.reg ?_)
  refine At.step rfl (Step.makeMap ?_)
  intro bm w1 hlm hnm hm
  have hbm : w.heap.size ≤ bm := Nat.le_trans hO.le.size hnm
  replace hO := hO.on hlm
  refine At.v (RunV.assign rfl) rfl ?_
  refine At.nil (At.keep (.cons (t := 0) rfl <| .cons (t := 1) rfl <| .cons (t := 2) rfl <| .cons (t := 7) rfl <| .nil) ?_)
  refine At.seq ?_
  refine At.seq (At.reg ?_)
  refine At.v (RunV.move rfl) rfl ?_
  refine At.v (RunV.lenSl rfl isl25) rfl ?_
  refine At.v (RunV.move rfl) rfl ?_
  refine At.nil (At.keep (.cons (t := 0) rfl <| .cons (t := 1) rfl <| .cons (t := 2) rfl <| .cons (t := 7) rfl <| .cons (t := 18) rfl <| .cons (t := 19) rfl <| .cons (t := 20) rfl <| .nil) ?_)
  refine At.block ?_
  refine At.loopC (σ := Nat) (.cons (t := 0) rfl <| .cons (t := 1) rfl <| .cons (t := 2) rfl <| .cons (t := 7) rfl <| .cons (t := 18) rfl <| .cons (t := 19) rfl <| .nil) (fun i => [(20, .int .i64 (i : Int))]) (fun i wl => Own w [] wl ∧ MBlk wl bm ((l.take i).foldl tabStep []) ∧ i ≤ l.length) (fun i => l.length - i) 0 (.cons (t := 20) rfl <| .nil) ⟨hO, hm, Nat.zero_le _⟩ ?_
  intro i w2 hinv
  refine At.keep (.cons (t := 0) rfl <| .cons (t := 1) rfl <| .cons (t := 2) rfl <| .cons (t := 7) rfl <| .cons (t := 18) rfl <| .cons (t := 19) rfl <| .cons (t := 20) rfl <| .nil) ?_
  have hO := hinv.1
  have hm := hinv.2.1
  have hi := hinv.2.2
  refine At.seq (At.reg ?_)
  refine At.v (RunV.ltI rfl rfl) rfl ?_
  refine At.nil (At.keep (.cons (t := 0) rfl <| .cons (t := 1) rfl <| .cons (t := 2) rfl <| .cons (t := 7) rfl <| .cons (t := 18) rfl <| .cons (t := 19) rfl <| .cons (t := 20) rfl <| .cons (t := 21) rfl <| .nil) ?_)
  refine At.seq ?_
  refine At.cond rfl (fun hlt => ?_) (fun hlt => ?_)
  · refine At.skip ?_
    refine At.seq ?_
    refine At.block ?_
    have hk : i < l.length := by have := of_decide_eq_true hlt; omega
    obtain ⟨x, hx⟩ : ∃ x, l[i]? = some x := ⟨_, List.getElem?_eq_getElem hk⟩
    obtain ⟨eb, eoff, ecap, ecs, hv9, _, _, hR9, herow⟩ := SlOf.at (hE.le hO.le) hx
    cases hv9
    cases hR9
    refine At.seq (At.reg ?_)
    refine At.v (RunV.index st25_32_9 rfl rfl rfl hk rfl) rfl ?_
    refine At.v (RunV.loadAgg ag32_9 rfl herow rfl) rfl ?_
    refine At.step rfl (Step.alloc hO zt32 ?_)
    intro b9 w3 hO hlb9 hnb9
    have hne9 : b9 ≠ bm := by have := hm.lt; omega
    replace hm := hm.le hlb9
    refine At.step_ (Step.storeAll hO rfl rfl rfl sz32_9 .here rfl rfl ?_)
    intro w4 hO hbut
    replace hm := hm.but hbut hne9
    refine At.nil (At.keep (.cons (t := 0) rfl <| .cons (t := 1) rfl <| .cons (t := 2) rfl <| .cons (t := 7) rfl <| .cons (t := 9) rfl <| .cons (t := 18) rfl <| .cons (t := 19) rfl <| .cons (t := 20) rfl <| .nil) ?_)
    refine At.seq (At.reg ?_)
    refine At.v (RunV.move rfl) rfl ?_
    refine At.v (RunV.field ft32_2_2 rfl rfl) rfl ?_
    refine At.v (RunV.load ct30 rfl ((hO.at (i := 0) rfl).cell rfl)) rfl ?_
    refine At.v (RunV.lookup hm Try.underlying53 Try.underlying30 zu32 rfl rfl) rfl ?_
    refine At.v (RunV.move rfl) rfl ?_
    refine At.v (RunV.extract rfl rfl) rfl ?_
    refine At.v (RunV.extract rfl rfl) rfl ?_
    refine At.step rfl (Step.alloc hO zt32 ?_)
    intro b10 w5 hO hlb10 hnb10
    have hne10 : b10 ≠ bm := by have := hm.lt; omega
    replace hm := hm.le hlb10
    refine At.step_ (Step.storeAll hO rfl rfl rfl sz32_9 .here rfl rfl ?_)
    intro w6 hO hbut
    replace hm := hm.but hbut hne10
    refine At.v (RunV.assign rfl) rfl ?_
    refine At.nil (At.keep (.cons (t := 0) rfl <| .cons (t := 1) rfl <| .cons (t := 2) rfl <| .cons (t := 7) rfl <| .cons (t := 9) rfl <| .cons (t := 11) rfl <| .cons (t := 18) rfl <| .cons (t := 19) rfl <| .cons (t := 20) rfl <| .nil) ?_)
    refine At.seq (At.reg ?_)
    refine At.v (RunV.field ft32_0_0 rfl rfl) rfl ?_
    refine At.v (RunV.load ct3 rfl ((hO.at (i := 1) rfl).cell rfl)) rfl ?_
    refine At.v (RunV.eqI rfl rfl) rfl ?_
    refine At.v (RunV.move rfl) rfl ?_
    refine At.g (Guard.t rfl rfl rfl) (fun hc => RunV.move rfl) rfl ?_
    refine At.g (Guard.t rfl rfl rfl) (fun hc => RunV.not (gvE rfl hc)) rfl ?_
    refine At.v (RunV.pickAnd rfl rfl) rfl ?_
    refine At.nil (At.keep (.cons (t := 0) rfl <| .cons (t := 1) rfl <| .cons (t := 2) rfl <| .cons (t := 7) rfl <| .cons (t := 9) rfl <| .cons (t := 18) rfl <| .cons (t := 19) rfl <| .cons (t := 20) rfl <| .cons (t := 37) rfl <| .nil) ?_)
    refine At.cond rfl (fun hc => ?_) (fun hc => ?_)
    · have hst : (l.take (i + 1)).foldl tabStep [] = (l.take i).foldl tabStep [] ++ [x] := by
        rw [take_succ_fold _ _ hx]; exact if_pos hc
      refine At.reg ?_
      refine At.v (RunV.move rfl) rfl ?_
      refine At.v (RunV.field ft32_2_2 rfl rfl) rfl ?_
      refine At.v (RunV.load ct30 rfl ((hO.at (i := 1) rfl).cell rfl)) rfl ?_
      refine At.v (RunV.loadAgg ag32_9 rfl ((hO.at (i := 1) rfl).row) rfl) rfl ?_
      have hno : atKey ((l.take i).foldl tabStep []) x.id = none := by
        cases h : atKey ((l.take i).foldl tabStep []) x.id with
        | none => rfl
        | some _ => rw [h] at hc; simp at hc
      refine At.step_ (Step.mapPush (e := x) hm Try.underlying53 Try.underlying30 rfl rfl rfl hno ?_)
      intro w7 hbutm hm2
      replace hO := hO.butM hm hbutm hbm
      replace hm := hm2
      refine At.nil (At.keep (.cons (t := 0) rfl <| .cons (t := 1) rfl <| .cons (t := 2) rfl <| .cons (t := 7) rfl <| .cons (t := 18) rfl <| .cons (t := 19) rfl <| .cons (t := 20) rfl <| .nil) ?_)
      refine At.reg ?_
      refine At.v (RunV.inc rfl rfl (by omega)) rfl ?_
      refine At.v (RunV.move rfl) rfl ?_
      refine At.nil (At.keep (.cons (t := 0) rfl <| .cons (t := 1) rfl <| .cons (t := 2) rfl <| .cons (t := 7) rfl <| .cons (t := 18) rfl <| .cons (t := 19) rfl <| .cons (t := 20) rfl <| .nil) ?_)
      replace hO := hO.drop
      replace hO := hO.drop
      exact At.againC (.cons (t := 0) rfl <| .cons (t := 1) rfl <| .cons (t := 2) rfl <| .cons (t := 7) rfl <| .cons (t := 18) rfl <| .cons (t := 19) rfl <| .nil) (i + 1) (.cons (t := 20) rfl <| .nil) ⟨hO, (by rw [hst]; exact hm), hk⟩ (by omega)
    · have hst : (l.take (i + 1)).foldl tabStep [] = (l.take i).foldl tabStep [] := by
        rw [take_succ_fold _ _ hx]; exact if_neg (by rw [hc]; exact Bool.false_ne_true)
      refine At.skip ?_
      refine At.reg ?_
      refine At.v (RunV.inc rfl rfl (by omega)) rfl ?_
      refine At.v (RunV.move rfl) rfl ?_
      refine At.nil (At.keep (.cons (t := 0) rfl <| .cons (t := 1) rfl <| .cons (t := 2) rfl <| .cons (t := 7) rfl <| .cons (t := 18) rfl <| .cons (t := 19) rfl <| .cons (t := 20) rfl <| .nil) ?_)
      replace hO := hO.drop
      replace hO := hO.drop
      exact At.againC (.cons (t := 0) rfl <| .cons (t := 1) rfl <| .cons (t := 2) rfl <| .cons (t := 7) rfl <| .cons (t := 18) rfl <| .cons (t := 19) rfl <| .nil) (i + 1) (.cons (t := 20) rfl <| .nil) ⟨hO, (by rw [hst]; exact hm), hk⟩ (by omega)
  · have hge : l.length ≤ i := by have := of_decide_eq_false hlt; omega
    rw [List.take_of_length_le hge] at hm
    refine At.exit rfl ?_
    refine At.seq (At.reg ?_)
    refine At.v (RunV.assign rfl) rfl ?_
    refine At.nil (At.keep (.cons (t := 0) rfl <| .cons (t := 1) rfl <| .cons (t := 2) rfl <| .cons (t := 7) rfl <| .cons (t := 12) rfl <| .nil) ?_)
    refine At.seq ?_
    refine At.seq (At.reg ?_)
    refine At.v (RunV.move rfl) rfl ?_
    refine At.v (RunV.lenSl rfl isl25) rfl ?_
    refine At.v (RunV.move rfl) rfl ?_
    refine At.nil (At.keep (.cons (t := 1) rfl <| .cons (t := 2) rfl <| .cons (t := 7) rfl <| .cons (t := 12) rfl <| .cons (t := 43) rfl <| .cons (t := 44) rfl <| .cons (t := 45) rfl <| .nil) ?_)
    refine At.block ?_
    refine At.loopC (σ := Nat × Value) (.cons (t := 1) rfl <| .cons (t := 2) rfl <| .cons (t := 7) rfl <| .cons (t := 43) rfl <| .cons (t := 44) rfl <| .nil) (fun s => [(12, s.2), (45, .int .i64 (s.1 : Int))]) (fun s wl => Own w [] wl ∧ MBlk wl bm (l.foldl tabStep []) ∧ GrI (bm + 1) [] wl s.2 ((l.take s.1).foldl (arrStep l f t) []) ∧ s.1 ≤ l.length) (fun s => l.length - s.1) (0, .slice none 0 0) (.cons (t := 12) rfl <| .cons (t := 45) rfl <| .nil) ⟨hO, hm, GrI.nil, Nat.zero_le _⟩ ?_
    intro s w8 hinv
    obtain ⟨i, v⟩ := s
    refine At.keep (.cons (t := 1) rfl <| .cons (t := 2) rfl <| .cons (t := 7) rfl <| .cons (t := 12) (v := v) rfl <| .cons (t := 43) rfl <| .cons (t := 44) rfl <| .cons (t := 45) (v := .int .i64 (i : Int)) rfl <| .nil) ?_
    have hO : Own w [] w8 := hinv.1
    have hm : MBlk w8 bm (l.foldl tabStep []) := hinv.2.1
    have hG : GrI (bm + 1) [] w8 v ((l.take i).foldl (arrStep l f t) []) := hinv.2.2.1
    have hi : i ≤ l.length := hinv.2.2.2
    refine At.seq (At.reg ?_)
    refine At.v (RunV.ltI rfl rfl) rfl ?_
    refine At.nil (At.keep (.cons (t := 1) rfl <| .cons (t := 2) rfl <| .cons (t := 7) rfl <| .cons (t := 12) rfl <| .cons (t := 43) rfl <| .cons (t := 44) rfl <| .cons (t := 45) rfl <| .cons (t := 46) rfl <| .nil) ?_)
    refine At.seq ?_
    refine At.cond rfl (fun hlt => ?_) (fun hlt => ?_)
    · refine At.skip ?_
      refine At.seq ?_
      refine At.block ?_
      have hk : i < l.length := by have := of_decide_eq_true hlt; omega
      obtain ⟨x, hx⟩ : ∃ x, l[i]? = some x := ⟨_, List.getElem?_eq_getElem hk⟩
      obtain ⟨eb, eoff, ecap, ecs, hv9, _, _, hR9, herow⟩ := SlOf.at (hE.le hO.le) hx
      cases hv9
      cases hR9
      have hlen : ((l.take i).foldl (arrStep l f t) []).length ≤ 300 := by
        have := fold_len (arrStep_len l f t) (l.take i) []
        rw [List.length_take, List.length_nil] at this; omega
      refine At.seq (At.reg ?_)
      refine At.v (RunV.index st25_32_9 rfl rfl rfl hk rfl) rfl ?_
      refine At.v (RunV.loadAgg ag32_9 rfl herow rfl) rfl ?_
      refine At.step rfl (Step.alloc hO zt32 ?_)
      intro b14 w9 hO hlb14 hnb14
      have hne14 : b14 ≠ bm := by have := hm.lt; omega
      replace hm := hm.le hlb14
      replace hG := hG.add hlb14 hnb14
      refine At.step_ (Step.storeAll hO rfl rfl rfl sz32_9 .here rfl rfl ?_)
      intro w10 hO hbut
      replace hm := hm.but hbut hne14
      replace hG := hG.but (i := 0) hbut rfl
      refine At.nil (At.keep (.cons (t := 1) rfl <| .cons (t := 2) rfl <| .cons (t := 7) rfl <| .cons (t := 12) rfl <| .cons (t := 14) rfl <| .cons (t := 43) rfl <| .cons (t := 44) rfl <| .cons (t := 45) rfl <| .nil) ?_)
      refine At.seq (At.reg ?_)
      refine At.v (RunV.move rfl) rfl ?_
      refine At.v (RunV.field ft32_2_2 rfl rfl) rfl ?_
      refine At.v (RunV.load ct30 rfl ((hO.at (i := 0) rfl).cell rfl)) rfl ?_
      refine At.v (RunV.lookupF hm Try.underlying53 Try.underlying30 zu32 rfl rfl) rfl ?_
      refine At.v (RunV.move rfl) rfl ?_
      refine At.v (RunV.extract rfl rfl) rfl ?_
      refine At.v (RunV.extract rfl rfl) rfl ?_
      refine At.step rfl (Step.alloc hO zt32 ?_)
      intro b15 w11 hO hlb15 hnb15
      have hne15 : b15 ≠ bm := by have := hm.lt; omega
      replace hm := hm.le hlb15
      replace hG := hG.add hlb15 hnb15
      refine At.step_ (Step.storeAll hO rfl rfl rfl sz32_9 .here rfl rfl ?_)
      intro w12 hO hbut
      replace hm := hm.but hbut hne15
      replace hG := hG.but (i := 0) hbut rfl
      refine At.v (RunV.assign rfl) rfl ?_
      refine At.nil (At.keep (.cons (t := 1) rfl <| .cons (t := 2) rfl <| .cons (t := 7) rfl <| .cons (t := 12) rfl <| .cons (t := 14) rfl <| .cons (t := 15) rfl <| .cons (t := 16) rfl <| .cons (t := 43) rfl <| .cons (t := 44) rfl <| .cons (t := 45) rfl <| .nil) ?_)
      refine At.seq (At.reg ?_)
      refine At.v (RunV.field ft32_0_0 rfl rfl) rfl ?_
      refine At.v (RunV.load ct3 rfl ((hO.at (i := 1) rfl).cell rfl)) rfl ?_
      refine At.v (RunV.eqI rfl rfl) rfl ?_
      refine At.v (RunV.move rfl) rfl ?_
      refine At.g (Guard.f rfl rfl rfl) (fun hc => RunV.field ft32_0_0 rfl rfl) rfl ?_
      refine At.g (Guard.f rfl rfl rfl) (fun hc => RunV.load ct3 (gvE rfl hc) ((hO.at (i := 1) rfl).cell rfl)) rfl ?_
      refine At.g (Guard.f rfl rfl rfl) (fun hc => RunV.eqI (gvE rfl hc) rfl) rfl ?_
      refine At.v (RunV.pickOr rfl rfl) rfl ?_
      refine At.v (RunV.move rfl) rfl ?_
      refine At.g (Guard.t rfl rfl rfl) (fun hc => RunV.move rfl) rfl ?_
      refine At.keep (.cons (t := 1) rfl <| .cons (t := 2) rfl <| .cons (t := 7) rfl <| .cons (t := 12) rfl <| .cons (t := 14) rfl <| .cons (t := 15) rfl <| .cons (t := 43) rfl <| .cons (t := 44) rfl <| .cons (t := 45) rfl <| .cons (t := 64) rfl <| .cons (t := 65) rfl <| .nil) ?_
      refine At.v (RunV.pickAnd rfl rfl) rfl ?_
      refine At.v (RunV.move rfl) rfl ?_
      refine At.g (Guard.t rfl rfl rfl) (fun hc => RunV.field ft32_3_3 rfl rfl) rfl ?_
      refine At.g (Guard.t rfl rfl rfl) (fun hc => RunV.load ct3 (gvE rfl hc) ((hO.at (i := 0) rfl).cell rfl)) rfl ?_
      refine At.g (Guard.t rfl rfl rfl) (fun hc => RunV.move rfl) rfl ?_
      refine At.g (Guard.t rfl rfl rfl) (fun hc => RunV.eqI (gvE rfl hc) (gvE rfl hc)) rfl ?_
      refine At.v (RunV.pickAnd rfl rfl) rfl ?_
      refine At.v (RunV.move rfl) rfl ?_
      refine At.g (Guard.t rfl rfl rfl) (fun hc => RunV.field ft32_4_4 rfl rfl) rfl ?_
      refine At.g (Guard.t rfl rfl rfl) (fun hc => RunV.load ct3 (gvE rfl hc) ((hO.at (i := 0) rfl).cell rfl)) rfl ?_
      refine At.keep (.cons (t := 1) rfl <| .cons (t := 2) rfl <| .cons (t := 7) rfl <| .cons (t := 12) rfl <| .cons (t := 14) rfl <| .cons (t := 15) rfl <| .cons (t := 43) rfl <| .cons (t := 44) rfl <| .cons (t := 45) rfl <| .cons (t := 73) rfl <| .cons (t := 75) rfl <| .nil) ?_
      refine At.g (Guard.t rfl rfl rfl) (fun hc => RunV.move rfl) rfl ?_
      refine At.g (Guard.t rfl rfl rfl) (fun hc => RunV.eqI (gvE rfl hc) (gvE rfl hc)) rfl ?_
      refine At.v (RunV.pickAnd rfl rfl) rfl ?_
      refine At.v (RunV.move rfl) rfl ?_
      refine At.g (Guard.t rfl rfl rfl) (fun hc => RunV.field ft32_8_8 rfl rfl) rfl ?_
      refine At.g (Guard.t rfl rfl rfl) (fun hc => RunV.load ct4 (gvE rfl hc) ((hO.at (i := 0) rfl).cell rfl)) rfl ?_
      refine At.g (Guard.t rfl rfl rfl) (fun hc => RunV.not (gvE rfl hc)) rfl ?_
      refine At.v (RunV.pickAnd rfl rfl) rfl ?_
      refine At.v (RunV.move rfl) rfl ?_
      refine At.g (Guard.t rfl rfl rfl) (fun hc => RunV.move rfl) rfl ?_
      refine At.keep (.cons (t := 1) rfl <| .cons (t := 2) rfl <| .cons (t := 7) rfl <| .cons (t := 12) rfl <| .cons (t := 14) rfl <| .cons (t := 43) rfl <| .cons (t := 44) rfl <| .cons (t := 45) rfl <| .cons (t := 84) rfl <| .cons (t := 85) rfl <| .nil) ?_
      refine At.g (Guard.t rfl rfl rfl) (fun hc => RunV.field ft32_2_2 rfl rfl) rfl ?_
      refine At.g (Guard.t rfl rfl rfl) (fun hc => RunV.load ct30 (gvE rfl hc) ((hO.at (i := 1) rfl).cell rfl)) rfl ?_
      refine At.gcallE hO (Guard.t rfl rfl rfl) (fun hc => rfl) pf30 (fun hc => (evL2 (gvE rfl hc) (gvE rfl hc))) (fun hc => idCont_c _ x.id _ _ (hG.slOf (by omega))) rfl ?_
      intro w13 hO hl
      replace hm := hm.le hl
      replace hG := hG.le hl
      refine At.g (Guard.t rfl rfl rfl) (fun hc => RunV.not (gvE rfl hc)) rfl ?_
      refine At.v (RunV.pickAnd rfl rfl) rfl ?_
      refine At.nil (At.keep (.cons (t := 1) rfl <| .cons (t := 2) rfl <| .cons (t := 7) rfl <| .cons (t := 12) rfl <| .cons (t := 14) rfl <| .cons (t := 43) rfl <| .cons (t := 44) rfl <| .cons (t := 45) rfl <| .cons (t := 90) rfl <| .nil) ?_)
      refine At.cond rfl (fun hc => ?_) (fun hc => ?_)
      · have hst : (l.take (i + 1)).foldl (arrStep l f t) [] = (l.take i).foldl (arrStep l f t) [] ++ [x.id] := by
          rw [take_succ_fold _ _ hx]; exact if_pos hc
        refine At.reg ?_
        refine At.v (RunV.move rfl) rfl ?_
        refine At.v (RunV.field ft32_2_2 rfl rfl) rfl ?_
        refine At.v (RunV.load ct30 rfl ((hO.at (i := 1) rfl).cell rfl)) rfl ?_
        refine At.step rfl (Step.buildSlice hO st36_30_1 zt30 rfl rfl rfl rfl (fill_full rfl rfl) ?_)
        intro b94 w14 hO hlb94 hnb94
        replace hm := hm.le hlb94
        replace hG := hG.add hlb94 hnb94
        refine At.step rfl (Step.append st36_30_1 isl36 el30_1 rfl rfl hG.sl ⟨_, _, rfl, .inr ⟨b94, 0, rfl, (hO.at (i := 0) rfl).row⟩⟩ rfl rfl (by omega) ?_)
        intro v2 w15 hS hM
        obtain ⟨hO2, hG2⟩ := hO.movedI hG hm.lt (by omega) hM hS
        replace hm := hm.moved hM hG (Nat.lt_succ_self _)
        replace hO := hO2
        replace hG := hG2
        refine At.v (RunV.assign rfl) rfl ?_
        refine At.nil (At.keep (.cons (t := 1) rfl <| .cons (t := 2) rfl <| .cons (t := 7) rfl <| .cons (t := 12) rfl <| .cons (t := 43) rfl <| .cons (t := 44) rfl <| .cons (t := 45) rfl <| .nil) ?_)
        refine At.reg ?_
        refine At.v (RunV.inc rfl rfl (by omega)) rfl ?_
        refine At.v (RunV.move rfl) rfl ?_
        refine At.nil (At.keep (.cons (t := 1) rfl <| .cons (t := 2) rfl <| .cons (t := 7) rfl <| .cons (t := 12) rfl <| .cons (t := 43) rfl <| .cons (t := 44) rfl <| .cons (t := 45) rfl <| .nil) ?_)
        replace hO := hO.drop
        replace hO := hO.drop
        replace hO := hO.drop
        exact At.againC (.cons (t := 1) rfl <| .cons (t := 2) rfl <| .cons (t := 7) rfl <| .cons (t := 43) rfl <| .cons (t := 44) rfl <| .nil) (i + 1, _) (.cons (t := 12) rfl <| .cons (t := 45) rfl <| .nil) ⟨hO, hm, (by show GrI _ _ _ _ ((l.take (i + 1)).foldl (arrStep l f t) []); rw [hst]; first | exact hG.drop.drop.drop | exact hG.drop.drop), hk⟩ (by show l.length - (i + 1) < l.length - i; omega)
      · have hst : (l.take (i + 1)).foldl (arrStep l f t) [] = (l.take i).foldl (arrStep l f t) [] := by
          rw [take_succ_fold _ _ hx]; exact if_neg (by rw [show toldB l f t _ x = false from hc]; exact Bool.false_ne_true)
        refine At.skip ?_
        refine At.reg ?_
        refine At.v (RunV.inc rfl rfl (by omega)) rfl ?_
        refine At.v (RunV.move rfl) rfl ?_
        refine At.nil (At.keep (.cons (t := 1) rfl <| .cons (t := 2) rfl <| .cons (t := 7) rfl <| .cons (t := 12) rfl <| .cons (t := 43) rfl <| .cons (t := 44) rfl <| .cons (t := 45) rfl <| .nil) ?_)
        replace hO := hO.drop
        replace hO := hO.drop
        exact At.againC (.cons (t := 1) rfl <| .cons (t := 2) rfl <| .cons (t := 7) rfl <| .cons (t := 43) rfl <| .cons (t := 44) rfl <| .nil) (i + 1, _) (.cons (t := 12) rfl <| .cons (t := 45) rfl <| .nil) ⟨hO, hm, (by show GrI _ _ _ _ ((l.take (i + 1)).foldl (arrStep l f t) []); rw [hst]; first | exact hG.drop.drop.drop | exact hG.drop.drop), hk⟩ (by show l.length - (i + 1) < l.length - i; omega)
    · have hge : l.length ≤ i := by have := of_decide_eq_false hlt; omega
      refine At.exit rfl ?_
      refine At.seq (At.reg ?_)
      refine At.v (RunV.move rfl) rfl ?_
      refine At.v (RunV.assign rfl) rfl ?_
      refine At.nil (At.keep (.cons (t := 6) rfl <| .nil) ?_)
      refine At.ret ?_
      refine At.result1 rfl rfl ?_
      refine ⟨?_, hO.le⟩
      rw [List.take_of_length_le (by omega)] at hG
      exact hG.slOf (by have := fold_len (arrStep_len l f t) l []; rw [List.length_nil] at this; omega)

end Go.Proofs.Ytglilmcfhkedbaa
