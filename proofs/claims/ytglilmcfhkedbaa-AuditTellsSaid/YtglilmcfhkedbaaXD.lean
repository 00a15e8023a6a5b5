/- The walk of the document's Arrived; no condition. -/
import Derived.Test.YtglilmcfhkedbaaXC
namespace Go.Proofs.Ytglilmcfhkedbaa
open Go Go.RowKit



set_option maxHeartbeats 1600000 in
theorem rarrived_c (l : List Ev) (f t : Int) (ev : Value) (w : World) (hE : EvsR G0 w ev l) (hl : l.length ≤ 300) :
    Ret Try.prog 11 [ev, .int .i64 f, .int .i64 t] w fun v w' => SlOf G0 1 IR w' v (arrB l f t) ∧ Le w w' := by
  refine Ret.enter Try.func11 rfl Try.ntmps11 rfl rfl ?_
  have hO := Own.start w
  obtain ⟨ea, ec, rfl, hele, hecap⟩ := SlOf.val hE
  refine At.seq (At.reg ?_)
  refine At.v (RunV.assign rfl) rfl ?_
  refine At.nil (At.keep (.cons (t := 0) rfl <| .cons (t := 1) rfl <| .cons (t := 2) rfl <| .nil) ?_)
  refine At.seq (At.reg ?_)
  refine At.v (RunV.assign rfl) rfl ?_
  refine At.nil (At.keep (.cons (t := 0) rfl <| .cons (t := 1) rfl <| .cons (t := 2) rfl <| .cons (t := 7) rfl <| .nil) ?_)
  refine At.seq ?_
  refine At.seq (At.reg ?_)
  refine At.v (RunV.assign rfl) rfl ?_
  refine At.nil (At.keep (.cons (t := 0) rfl <| .cons (t := 1) rfl <| .cons (t := 2) rfl <| .cons (t := 7) rfl <| .cons (t := 8) rfl <| .nil) ?_)
  refine At.block ?_
  refine At.loopC (σ := Nat × Value) (.cons (t := 0) rfl <| .cons (t := 1) rfl <| .cons (t := 2) rfl <| .nil) (fun s => [(7, s.2), (8, .int .i64 (s.1 : Int))]) (fun s wl => Own w [] wl ∧ GrI w.heap.size [] wl s.2 ((l.take s.1).foldl (arrStep l f t) []) ∧ s.1 ≤ l.length) (fun s => l.length - s.1) (0, .slice none 0 0) (.cons (t := 7) rfl <| .cons (t := 8) rfl <| .nil) ⟨hO, GrI.nil, Nat.zero_le _⟩ ?_
  intro s w1 hinv
  obtain ⟨i, v⟩ := s
  refine At.keep (.cons (t := 0) rfl <| .cons (t := 1) rfl <| .cons (t := 2) rfl <| .cons (t := 7) (v := v) rfl <| .cons (t := 8) (v := .int .i64 (i : Int)) rfl <| .nil) ?_
  have hO : Own w [] w1 := hinv.1
  have hG : GrI w.heap.size [] w1 v ((l.take i).foldl (arrStep l f t) []) := hinv.2.1
  have hi : i ≤ l.length := hinv.2.2
  have hlen : ((l.take i).foldl (arrStep l f t) []).length ≤ 300 := by
    have := fold_len (arrStep_len l f t) (l.take i) []
    rw [List.length_take, List.length_nil] at this; omega
  obtain ⟨out, hout⟩ : ∃ out, (l.take i).foldl (arrStep l f t) [] = out := ⟨_, rfl⟩
  rw [hout] at hG hlen
  obtain ⟨va, vc, rfl⟩ := hG.val
  refine At.seq ?_
  refine At.seq (At.reg ?_)
  refine At.v (RunV.move rfl) rfl ?_
  refine At.v (RunV.move rfl) rfl ?_
  refine At.v (RunV.lenSl rfl isl25) rfl ?_
  refine At.v (RunV.ltI rfl rfl) rfl ?_
  refine At.nil (At.keep (.cons (t := 0) rfl <| .cons (t := 1) rfl <| .cons (t := 2) rfl <| .cons (t := 7) rfl <| .cons (t := 8) rfl <| .cons (t := 16) rfl <| .nil) ?_)
  refine At.cond rfl (fun hlt => ?_) (fun hlt => ?_)
  · refine At.skip ?_
    refine At.seq ?_
    refine At.block ?_
    refine At.seq ?_
    have hk : i < l.length := by have := of_decide_eq_true hlt; omega
    obtain ⟨x, hx⟩ : ∃ x, l[i]? = some x := ⟨_, List.getElem?_eq_getElem hk⟩
    obtain ⟨eb, eoff, ecap, ecs, hv9, _, _, hR9, herow⟩ := SlOf.at hE hx
    cases hv9
    cases hR9
    refine At.seq (At.reg ?_)
    refine At.v (RunV.move rfl) rfl ?_
    refine At.v (RunV.move rfl) rfl ?_
    refine At.v (RunV.index st25_32_9 rfl rfl rfl hk rfl) rfl ?_
    refine At.v (RunV.field ft32_0_0 rfl rfl) rfl ?_
    refine At.v (RunV.load ct3 rfl (cell_le (herow.cell (i := 0) rfl) hO.le)) rfl ?_
    refine At.v (RunV.neI rfl rfl) rfl ?_
    refine At.v (RunV.move rfl) rfl ?_
    refine At.g (Guard.t rfl rfl rfl) (fun hc => RunV.move rfl) rfl ?_
    refine At.g (Guard.t rfl rfl rfl) (fun hc => RunV.move rfl) rfl ?_
    refine At.g (Guard.t rfl rfl rfl) (fun hc => RunV.index st25_32_9 (gvE rfl hc) (gvE rfl hc) rfl hk rfl) rfl ?_
    refine At.keep (.cons (t := 0) rfl <| .cons (t := 1) rfl <| .cons (t := 2) rfl <| .cons (t := 7) rfl <| .cons (t := 8) rfl <| .cons (t := 25) rfl <| .cons (t := 28) rfl <| .nil) ?_
    refine At.g (Guard.t rfl rfl rfl) (fun hc => RunV.field ft32_0_0 (gvE rfl hc) rfl) rfl ?_
    refine At.g (Guard.t rfl rfl rfl) (fun hc => RunV.load ct3 (gvE rfl hc) (cell_le (herow.cell (i := 0) rfl) hO.le)) rfl ?_
    refine At.g (Guard.t rfl rfl rfl) (fun hc => RunV.neI (gvE rfl hc) rfl) rfl ?_
    refine At.v (RunV.pickAnd rfl rfl) rfl ?_
    refine At.nil (At.keep (.cons (t := 0) rfl <| .cons (t := 1) rfl <| .cons (t := 2) rfl <| .cons (t := 7) rfl <| .cons (t := 8) rfl <| .cons (t := 32) rfl <| .nil) ?_)
    refine At.cond rfl (fun hc1 => ?_) (fun hc1 => ?_)
    · have hst : (l.take (i + 1)).foldl (arrStep l f t) [] = out := by
        rw [take_succ_fold _ _ hx, hout]; exact if_neg (by rw [toldB_odd hc1]; exact Bool.false_ne_true)
      refine At.exit rfl ?_
      refine At.reg ?_
      refine At.v (RunV.move rfl) rfl ?_
      refine At.v (RunV.inc rfl rfl (by omega)) rfl ?_
      refine At.v (RunV.assign rfl) rfl ?_
      refine At.nil (At.keep (.cons (t := 0) rfl <| .cons (t := 1) rfl <| .cons (t := 2) rfl <| .cons (t := 7) rfl <| .cons (t := 8) rfl <| .nil) ?_)
      exact At.againC (.cons (t := 0) rfl <| .cons (t := 1) rfl <| .cons (t := 2) rfl <| .nil) (i + 1, _) (.cons (t := 7) rfl <| .cons (t := 8) rfl <| .nil) ⟨hO, (by show GrI _ _ _ _ ((l.take (i + 1)).foldl (arrStep l f t) []); rw [hst]; first | exact hG.drop.drop | exact hG.drop | exact hG), hk⟩ (by show l.length - (i + 1) < l.length - i; omega)
    · refine At.skip ?_
      refine At.seq (At.reg ?_)
      refine At.v (RunV.build pl32 zt32 rfl rfl) rfl ?_
      refine At.step rfl (Step.alloc hO zt32 ?_)
      intro b9 w2 hO hlb9 hnb9
      replace hG := hG.add hlb9 hnb9
      refine At.step_ (Step.storeAll hO rfl rfl rfl sz32_9 .here rfl rfl ?_)
      intro w3 hO hbut
      replace hG := hG.but (i := 0) hbut rfl
      refine At.nil (At.keep (.cons (t := 0) rfl <| .cons (t := 1) rfl <| .cons (t := 2) rfl <| .cons (t := 7) rfl <| .cons (t := 8) rfl <| .cons (t := 9) rfl <| .nil) ?_)
      refine At.seq ?_
      refine At.seq (At.reg ?_)
      refine At.v (RunV.move rfl) rfl ?_
      refine At.v (RunV.lenSl rfl isl25) rfl ?_
      refine At.v (RunV.subI rfl rfl (wrap_in (by omega) (by omega))) rfl ?_
      refine At.v (RunV.assign rfl) rfl ?_
      refine At.nil (At.keep (.cons (t := 0) rfl <| .cons (t := 1) rfl <| .cons (t := 2) rfl <| .cons (t := 7) rfl <| .cons (t := 8) rfl <| .cons (t := 9) rfl <| .cons (t := 10) rfl <| .nil) ?_)
      refine At.block ?_
      refine At.loopC (σ := Nat) (.cons (t := 0) rfl <| .cons (t := 1) rfl <| .cons (t := 2) rfl <| .cons (t := 7) rfl <| .cons (t := 8) rfl <| .cons (t := 9) rfl <| .nil) (fun j => [(10, .int .i64 ((j : Int) - 1))]) (fun j wl => Own w [(b9, ((firstSent (l.drop j) x.id).getD evZ).cells, 32)] wl ∧ GrI w.heap.size [b9] wl (.slice va out.length vc) out ∧ j ≤ l.length) (fun j => j) l.length (.cons (t := 10) rfl <| .nil) ⟨by rw [List.drop_length]; exact hO, hG, Nat.le_refl _⟩ ?_
      intro j w4 hinv
      refine At.keep (.cons (t := 0) rfl <| .cons (t := 1) rfl <| .cons (t := 2) rfl <| .cons (t := 7) rfl <| .cons (t := 8) rfl <| .cons (t := 9) rfl <| .cons (t := 10) rfl <| .nil) ?_
      have hO := hinv.1
      have hG := hinv.2.1
      have hj := hinv.2.2
      refine At.seq ?_
      refine At.seq (At.reg ?_)
      refine At.v (RunV.move rfl) rfl ?_
      refine At.v (RunV.geI rfl rfl) rfl ?_
      refine At.nil (At.keep (.cons (t := 0) rfl <| .cons (t := 1) rfl <| .cons (t := 2) rfl <| .cons (t := 7) rfl <| .cons (t := 8) rfl <| .cons (t := 9) rfl <| .cons (t := 10) rfl <| .cons (t := 38) rfl <| .nil) ?_)
      refine At.cond rfl (fun hj1 => ?_) (fun hj1 => ?_)
      · have hj1 : 1 ≤ j := by have := of_decide_eq_true hj1; omega
        refine At.skip ?_
        refine At.seq ?_
        refine At.block ?_
        obtain ⟨y, hy⟩ : ∃ y, l[j - 1]? = some y := ⟨_, List.getElem?_eq_getElem (by omega)⟩
        obtain ⟨eb2, eoff2, ecap2, ecs2, hv8, _, _, hR8, hyrow⟩ := SlOf.at hE hy
        cases hv8
        cases hR8
        have hdrop : l.drop (j - 1) = y :: l.drop j := by
          have := drop_cons hy
          rw [show j - 1 + 1 = j by omega] at this; exact this
        refine At.seq (At.pi hmix (.take 0 (.take 1 (.take 2 (.take 3 (.take 4 (.take 5 (.take 6 (.take 7 (.take 8 (.take 9 (.take 10 (.take 11 (.take 12 (.take 13 (.take 14 (.take 15 (.take 16 (.take 17 (.take 18 .done))))))))))))))))))) (by kernel_rfl) (by kernel_rfl) ?_)
        intro w5 hs
        have hs0 := hs
        have hR := hO
        replace hO := hO.on hs
        refine At.take rfl (fun w' hs' => RunV.move rfl) rfl ?_
        refine At.take rfl (fun w' hs' => RunV.move rfl) rfl ?_
        refine At.take rfl (fun w' hs' => RunV.index st25_32_9 rfl rfl (show (j : Int) - 1 = ((j - 1 : Nat) : Int) by omega) (by omega) rfl) rfl ?_
        refine At.take rfl (fun w' hs' => RunV.field ft32_0_0 rfl rfl) rfl ?_
        refine At.take rfl (fun w' hs' => RunV.load ct3 rfl (cell_le (hyrow.cell (i := 0) rfl) (hR.le.tr hs'))) rfl ?_
        refine At.take rfl (fun w' hs' => RunV.eqI rfl rfl) rfl ?_
        refine At.take rfl (fun w' hs' => RunV.move rfl) rfl ?_
        refine At.takeG rfl (Guard.t rfl rfl rfl) (fun hc w' hs' => RunV.move rfl) rfl ?_
        refine At.takeG rfl (Guard.t rfl rfl rfl) (fun hc w' hs' => RunV.move rfl) rfl ?_
        refine At.takeG rfl (Guard.t rfl rfl rfl) (fun hc w' hs' => RunV.index st25_32_9 (gvE rfl hc) (gvE rfl hc) (show (j : Int) - 1 = ((j - 1 : Nat) : Int) by omega) (by omega) rfl) rfl ?_
        refine At.keep (.cons (t := 0) rfl <| .cons (t := 1) rfl <| .cons (t := 2) rfl <| .cons (t := 7) rfl <| .cons (t := 8) rfl <| .cons (t := 9) rfl <| .cons (t := 10) rfl <| .cons (t := 47) rfl <| .cons (t := 50) rfl <| .nil) ?_
        refine At.takeG rfl (Guard.t rfl rfl rfl) (fun hc w' hs' => RunV.field ft32_2_2 (gvE rfl hc) rfl) rfl ?_
        refine At.takeG rfl (Guard.t rfl rfl rfl) (fun hc w' hs' => RunV.load ct30 (gvE rfl hc) (cell_le (hyrow.cell (i := 2) rfl) (hR.le.tr hs'))) rfl ?_
        refine At.takeG rfl (Guard.t rfl rfl rfl) (fun hc w' hs' => RunV.move rfl) rfl ?_
        refine At.takeG rfl (Guard.t rfl rfl rfl) (fun hc w' hs' => RunV.move rfl) rfl ?_
        refine At.takeG rfl (Guard.t rfl rfl rfl) (fun hc w' hs' => RunV.index st25_32_9 (gvE rfl hc) (gvE rfl hc) rfl hk rfl) rfl ?_
        refine At.takeG rfl (Guard.t rfl rfl rfl) (fun hc w' hs' => RunV.field ft32_2_2 (gvE rfl hc) rfl) rfl ?_
        refine At.takeG rfl (Guard.t rfl rfl rfl) (fun hc w' hs' => RunV.load ct30 (gvE rfl hc) (cell_le (herow.cell (i := 2) rfl) (hR.le.tr hs'))) rfl ?_
        refine At.takeG rfl (Guard.t rfl rfl rfl) (fun hc w' hs' => RunV.eqI (gvE rfl hc) (gvE rfl hc)) rfl ?_
        refine At.take rfl (fun w' hs' => RunV.pickAnd rfl rfl) rfl ?_
        refine At.pdone (At.keep (.cons (t := 0) rfl <| .cons (t := 1) rfl <| .cons (t := 2) rfl <| .cons (t := 7) rfl <| .cons (t := 8) rfl <| .cons (t := 9) rfl <| .cons (t := 10) rfl <| .cons (t := 59) rfl <| .nil) ?_)
        replace hG := hG.le hs0
        refine At.cond rfl (fun hc2 => ?_) (fun hc2 => ?_)
        · have hst2 : (firstSent (l.drop (j - 1)) x.id).getD evZ = y := by rw [hdrop, firstSent_cons, if_pos hc2]; rfl
          refine At.reg ?_
          refine At.v (RunV.move rfl) rfl ?_
          refine At.v (RunV.move rfl) rfl ?_
          refine At.v (RunV.index st25_32_9 rfl rfl (show (j : Int) - 1 = ((j - 1 : Nat) : Int) by omega) (by omega) rfl) rfl ?_
          refine At.v (RunV.loadAgg ag32_9 rfl (Row.le hyrow hO.le) rfl) rfl ?_
          refine At.step_ (Step.storeAll hO rfl rfl rfl sz32_9 .here rfl rfl ?_)
          intro w6 hO hbut
          replace hG := hG.but (i := 0) hbut rfl
          refine At.nil (At.keep (.cons (t := 0) rfl <| .cons (t := 1) rfl <| .cons (t := 2) rfl <| .cons (t := 7) rfl <| .cons (t := 8) rfl <| .cons (t := 9) rfl <| .cons (t := 10) rfl <| .nil) ?_)
          refine At.reg ?_
          refine At.v (RunV.move rfl) rfl ?_
          refine At.v (RunV.subI rfl rfl (show IntKind.i64.wrap ((j : Int) - 1 - 1) = ((j - 1 : Nat) : Int) - 1 by rw [wrap_in (by omega) (by omega)]; omega)) rfl ?_
          refine At.v (RunV.assign rfl) rfl ?_
          refine At.nil (At.keep (.cons (t := 0) rfl <| .cons (t := 1) rfl <| .cons (t := 2) rfl <| .cons (t := 7) rfl <| .cons (t := 8) rfl <| .cons (t := 9) rfl <| .cons (t := 10) rfl <| .nil) ?_)
          exact At.againC (.cons (t := 0) rfl <| .cons (t := 1) rfl <| .cons (t := 2) rfl <| .cons (t := 7) rfl <| .cons (t := 8) rfl <| .cons (t := 9) rfl <| .nil) (j - 1) (.cons (t := 10) rfl <| .nil) ⟨(by rw [hst2]; exact hO), hG, (by omega)⟩ (by omega)
        · have hst2 : (firstSent (l.drop (j - 1)) x.id).getD evZ = (firstSent (l.drop j) x.id).getD evZ := by rw [hdrop, firstSent_cons, if_neg (by rw [hc2]; exact Bool.false_ne_true)]
          refine At.skip ?_
          refine At.reg ?_
          refine At.v (RunV.move rfl) rfl ?_
          refine At.v (RunV.subI rfl rfl (show IntKind.i64.wrap ((j : Int) - 1 - 1) = ((j - 1 : Nat) : Int) - 1 by rw [wrap_in (by omega) (by omega)]; omega)) rfl ?_
          refine At.v (RunV.assign rfl) rfl ?_
          refine At.nil (At.keep (.cons (t := 0) rfl <| .cons (t := 1) rfl <| .cons (t := 2) rfl <| .cons (t := 7) rfl <| .cons (t := 8) rfl <| .cons (t := 9) rfl <| .cons (t := 10) rfl <| .nil) ?_)
          exact At.againC (.cons (t := 0) rfl <| .cons (t := 1) rfl <| .cons (t := 2) rfl <| .cons (t := 7) rfl <| .cons (t := 8) rfl <| .cons (t := 9) rfl <| .nil) (j - 1) (.cons (t := 10) rfl <| .nil) ⟨(by rw [hst2]; exact hO), hG, (by omega)⟩ (by omega)
      · have hj0 : j = 0 := by have := of_decide_eq_false hj1; omega
        subst hj0
        replace hO : Own w [(b9, ((firstSent l x.id).getD evZ).cells, 32)] w4 := hO
        refine At.exit rfl ?_
        refine At.seq ?_
        refine At.seq (At.reg ?_)
        refine At.v (RunV.field ft32_0_0 rfl rfl) rfl ?_
        refine At.v (RunV.load ct3 rfl ((hO.at (i := 0) rfl).cell rfl)) rfl ?_
        refine At.v (RunV.neI rfl rfl) rfl ?_
        refine At.v (RunV.move rfl) rfl ?_
        refine At.g (Guard.f rfl rfl rfl) (fun hc => RunV.field ft32_3_3 rfl rfl) rfl ?_
        refine At.g (Guard.f rfl rfl rfl) (fun hc => RunV.load ct3 (gvE rfl hc) ((hO.at (i := 0) rfl).cell rfl)) rfl ?_
        refine At.g (Guard.f rfl rfl rfl) (fun hc => RunV.move rfl) rfl ?_
        refine At.g (Guard.f rfl rfl rfl) (fun hc => RunV.neI (gvE rfl hc) (gvE rfl hc)) rfl ?_
        refine At.v (RunV.pickOr rfl rfl) rfl ?_
        refine At.v (RunV.move rfl) rfl ?_
        refine At.keep (.cons (t := 0) rfl <| .cons (t := 1) rfl <| .cons (t := 2) rfl <| .cons (t := 7) rfl <| .cons (t := 8) rfl <| .cons (t := 9) rfl <| .cons (t := 73) rfl <| .nil) ?_
        refine At.g (Guard.f rfl rfl rfl) (fun hc => RunV.field ft32_4_4 rfl rfl) rfl ?_
        refine At.g (Guard.f rfl rfl rfl) (fun hc => RunV.load ct3 (gvE rfl hc) ((hO.at (i := 0) rfl).cell rfl)) rfl ?_
        refine At.g (Guard.f rfl rfl rfl) (fun hc => RunV.move rfl) rfl ?_
        refine At.g (Guard.f rfl rfl rfl) (fun hc => RunV.neI (gvE rfl hc) (gvE rfl hc)) rfl ?_
        refine At.v (RunV.pickOr rfl rfl) rfl ?_
        refine At.v (RunV.move rfl) rfl ?_
        refine At.g (Guard.f rfl rfl rfl) (fun hc => RunV.field ft32_8_8 rfl rfl) rfl ?_
        refine At.g (Guard.f rfl rfl rfl) (fun hc => RunV.load ct4 (gvE rfl hc) ((hO.at (i := 0) rfl).cell rfl)) rfl ?_
        refine At.v (RunV.pickOr rfl rfl) rfl ?_
        refine At.nil (At.keep (.cons (t := 0) rfl <| .cons (t := 1) rfl <| .cons (t := 2) rfl <| .cons (t := 7) rfl <| .cons (t := 8) rfl <| .cons (t := 82) rfl <| .nil) ?_)
        refine At.cond rfl (fun hc3 => ?_) (fun hc3 => ?_)
        · have hst : (l.take (i + 1)).foldl (arrStep l f t) [] = out := by
            rw [take_succ_fold _ _ hx, hout]; exact if_neg (by rw [toldB_no hc3]; exact Bool.false_ne_true)
          refine At.exit rfl ?_
          refine At.reg ?_
          refine At.v (RunV.move rfl) rfl ?_
          refine At.v (RunV.inc rfl rfl (by omega)) rfl ?_
          refine At.v (RunV.assign rfl) rfl ?_
          refine At.nil (At.keep (.cons (t := 0) rfl <| .cons (t := 1) rfl <| .cons (t := 2) rfl <| .cons (t := 7) rfl <| .cons (t := 8) rfl <| .nil) ?_)
          replace hO := hO.drop
          exact At.againC (.cons (t := 0) rfl <| .cons (t := 1) rfl <| .cons (t := 2) rfl <| .nil) (i + 1, _) (.cons (t := 7) rfl <| .cons (t := 8) rfl <| .nil) ⟨hO, (by show GrI _ _ _ _ ((l.take (i + 1)).foldl (arrStep l f t) []); rw [hst]; first | exact hG.drop.drop | exact hG.drop | exact hG), hk⟩ (by show l.length - (i + 1) < l.length - i; omega)
        · refine At.skip ?_
          refine At.seq (At.reg ?_)
          refine At.v (RunV.assign rfl) rfl ?_
          refine At.nil (At.keep (.cons (t := 0) rfl <| .cons (t := 1) rfl <| .cons (t := 2) rfl <| .cons (t := 7) rfl <| .cons (t := 8) rfl <| .cons (t := 11) rfl <| .nil) ?_)
          refine At.seq ?_
          refine At.seq (At.reg ?_)
          refine At.v (RunV.assign rfl) rfl ?_
          refine At.nil (At.keep (.cons (t := 0) rfl <| .cons (t := 1) rfl <| .cons (t := 2) rfl <| .cons (t := 7) rfl <| .cons (t := 8) rfl <| .cons (t := 11) rfl <| .cons (t := 12) rfl <| .nil) ?_)
          refine At.block ?_
          refine At.loopC (σ := Nat) (.cons (t := 0) rfl <| .cons (t := 1) rfl <| .cons (t := 2) rfl <| .cons (t := 7) rfl <| .cons (t := 8) rfl <| .nil) (fun k => [(11, .bool ((out.take k).any fun o => decide (o = x.id))), (12, .int .i64 (k : Int))]) (fun k wl => Own w [(b9, ((firstSent l x.id).getD evZ).cells, 32)] wl ∧ GrI w.heap.size [b9] wl (.slice va out.length vc) out ∧ k ≤ out.length) (fun k => out.length - k) 0 (.cons (t := 11) rfl <| .cons (t := 12) rfl <| .nil) ⟨hO, hG, Nat.zero_le _⟩ ?_
          intro k w7 hinv
          refine At.keep (.cons (t := 0) rfl <| .cons (t := 1) rfl <| .cons (t := 2) rfl <| .cons (t := 7) rfl <| .cons (t := 8) rfl <| .cons (t := 11) rfl <| .cons (t := 12) rfl <| .nil) ?_
          have hO := hinv.1
          have hG := hinv.2.1
          have hk0 := hinv.2.2
          refine At.seq ?_
          refine At.seq (At.reg ?_)
          refine At.v (RunV.move rfl) rfl ?_
          refine At.v (RunV.move rfl) rfl ?_
          refine At.v (RunV.lenSl rfl isl36) rfl ?_
          refine At.v (RunV.ltI rfl rfl) rfl ?_
          refine At.nil (At.keep (.cons (t := 0) rfl <| .cons (t := 1) rfl <| .cons (t := 2) rfl <| .cons (t := 7) rfl <| .cons (t := 8) rfl <| .cons (t := 11) rfl <| .cons (t := 12) rfl <| .cons (t := 86) rfl <| .nil) ?_)
          refine At.cond rfl (fun hkl => ?_) (fun hkl => ?_)
          · refine At.skip ?_
            refine At.seq ?_
            refine At.block ?_
            have hkk : k < out.length := by have := of_decide_eq_true hkl; omega
            obtain ⟨o, ho⟩ : ∃ o, out[k]? = some o := ⟨_, List.getElem?_eq_getElem hkk⟩
            obtain ⟨ob, ooff, ocap, ocs, hv6, _, _, hR6, horow⟩ := SlOf.at (hG.slOf (by omega)) ho
            cases hv6
            cases hR6
            refine At.pi hmix (.take 0 (.take 1 (.take 2 (.take 3 (.take 4 (.take 5 (.take 6 (.take 7 (.take 8 (.take 9 (.take 10 (.take 11 (.take 12 (.free 13 .done)))))))))))))) (by kernel_rfl) (by kernel_rfl) ?_
            intro w8 hs
            have hs0 := hs
            have hR := hO
            replace hO := hO.on hs
            refine At.take rfl (fun w' hs' => RunV.move rfl) rfl ?_
            refine At.take rfl (fun w' hs' => RunV.move rfl) rfl ?_
            refine At.takeG rfl (Guard.f rfl rfl rfl) (fun hc w' hs' => RunV.move rfl) rfl ?_
            refine At.takeG rfl (Guard.f rfl rfl rfl) (fun hc w' hs' => RunV.move rfl) rfl ?_
            refine At.takeG rfl (Guard.f rfl rfl rfl) (fun hc w' hs' => RunV.index st36_30_1 (gvE rfl hc) (gvE rfl hc) rfl hkk rfl) rfl ?_
            refine At.takeG rfl (Guard.f rfl rfl rfl) (fun hc w' hs' => RunV.load ct30 (gvE rfl hc) (cell_le (horow.cell (i := 0) rfl) hs')) rfl ?_
            refine At.takeG rfl (Guard.f rfl rfl rfl) (fun hc w' hs' => RunV.move rfl) rfl ?_
            refine At.takeG rfl (Guard.f rfl rfl rfl) (fun hc w' hs' => RunV.move rfl) rfl ?_
            refine At.takeG rfl (Guard.f rfl rfl rfl) (fun hc w' hs' => RunV.index st25_32_9 (gvE rfl hc) (gvE rfl hc) rfl hk rfl) rfl ?_
            refine At.takeG rfl (Guard.f rfl rfl rfl) (fun hc w' hs' => RunV.field ft32_2_2 (gvE rfl hc) rfl) rfl ?_
            refine At.keep (.cons (t := 0) rfl <| .cons (t := 1) rfl <| .cons (t := 2) rfl <| .cons (t := 7) rfl <| .cons (t := 8) rfl <| .cons (t := 12) rfl <| .cons (t := 90) rfl <| .cons (t := 94) rfl <| .cons (t := 98) rfl <| .nil) ?_
            refine At.takeG rfl (Guard.f rfl rfl rfl) (fun hc w' hs' => RunV.load ct30 (gvE rfl hc) (cell_le (herow.cell (i := 2) rfl) (hR.le.tr hs'))) rfl ?_
            refine At.takeG rfl (Guard.f rfl rfl rfl) (fun hc w' hs' => RunV.eqI (gvE rfl hc) (gvE rfl hc)) rfl ?_
            refine At.take rfl (fun w' hs' => RunV.pickOr rfl rfl) rfl ?_
            refine At.pfree rfl rfl (RunV.step (RunV.assign rfl) ?_)
            refine ⟨fun _ => True, trivial, ?_⟩
            refine At.pdone (At.keep (.cons (t := 0) rfl <| .cons (t := 1) rfl <| .cons (t := 2) rfl <| .cons (t := 7) rfl <| .cons (t := 8) rfl <| .cons (t := 11) rfl <| .cons (t := 12) rfl <| .nil) ?_)
            replace hG := hG.le hs0
            have hany : ((out.take k).any (fun o => decide (o = x.id)) || decide (o = x.id)) = (out.take (k + 1)).any (fun o => decide (o = x.id)) := by rw [List.take_add_one, ho, List.any_append]; simp
            refine At.reg ?_
            refine At.v (RunV.move rfl) rfl ?_
            refine At.v (RunV.inc rfl rfl (by omega)) rfl ?_
            refine At.v (RunV.assign rfl) rfl ?_
            refine At.nil (At.keep (.cons (t := 0) rfl <| .cons (t := 1) rfl <| .cons (t := 2) rfl <| .cons (t := 7) rfl <| .cons (t := 8) rfl <| .cons (t := 11) rfl <| .cons (t := 12) rfl <| .nil) ?_)
            exact At.againC (.cons (t := 0) rfl <| .cons (t := 1) rfl <| .cons (t := 2) rfl <| .cons (t := 7) rfl <| .cons (t := 8) rfl <| .nil) (k + 1) (.cons (t := 11) (congrArg (fun b => some (Value.bool b)) hany) <| .cons (t := 12) rfl <| .nil) ⟨hO, hG, hkk⟩ (by omega)
          · have hke : out.length ≤ k := by have := of_decide_eq_false hkl; omega
            refine At.exit rfl ?_
            refine At.seq (At.reg ?_)
            refine At.v (RunV.move rfl) rfl ?_
            refine At.v (RunV.not rfl) rfl ?_
            refine At.nil (At.keep (.cons (t := 0) rfl <| .cons (t := 1) rfl <| .cons (t := 2) rfl <| .cons (t := 7) rfl <| .cons (t := 8) rfl <| .cons (t := 103) rfl <| .nil) ?_)
            refine At.cond rfl (fun hc4 => ?_) (fun hc4 => ?_)
            · rw [List.take_of_length_le hke] at hc4
              have hst : (l.take (i + 1)).foldl (arrStep l f t) [] = out ++ [x.id] := by
                rw [take_succ_fold _ _ hx, hout]; exact if_pos (by rw [toldB_yes hc1 hc3]; exact hc4)
              refine At.reg ?_
              refine At.v (RunV.move rfl) rfl ?_
              refine At.v (RunV.move rfl) rfl ?_
              refine At.v (RunV.move rfl) rfl ?_
              refine At.v (RunV.index st25_32_9 rfl rfl rfl hk rfl) rfl ?_
              refine At.v (RunV.field ft32_2_2 rfl rfl) rfl ?_
              refine At.v (RunV.load ct30 rfl (cell_le (herow.cell (i := 2) rfl) hO.le)) rfl ?_
              refine At.step rfl (Step.buildSlice hO st36_30_1 zt30 rfl rfl rfl rfl (fill_full rfl rfl) ?_)
              intro b110 w10 hO hlb110 hnb110
              replace hG := hG.add hlb110 hnb110
              refine At.step rfl (Step.append st36_30_1 isl36 el30_1 rfl rfl hG.sl ⟨_, _, rfl, .inr ⟨b110, 0, rfl, (hO.at (i := 0) rfl).row⟩⟩ rfl rfl (by omega) ?_)
              intro v2 w11 hS hM
              obtain ⟨hO, hG⟩ := hO.movedI hG hO.le.size (Nat.le_refl _) hM hS
              refine At.v (RunV.assign rfl) rfl ?_
              refine At.nil (At.keep (.cons (t := 0) rfl <| .cons (t := 1) rfl <| .cons (t := 2) rfl <| .cons (t := 7) rfl <| .cons (t := 8) rfl <| .nil) ?_)
              refine At.reg ?_
              refine At.v (RunV.move rfl) rfl ?_
              refine At.v (RunV.inc rfl rfl (by omega)) rfl ?_
              refine At.v (RunV.assign rfl) rfl ?_
              refine At.nil (At.keep (.cons (t := 0) rfl <| .cons (t := 1) rfl <| .cons (t := 2) rfl <| .cons (t := 7) rfl <| .cons (t := 8) rfl <| .nil) ?_)
              replace hO := hO.drop
              replace hO := hO.drop
              exact At.againC (.cons (t := 0) rfl <| .cons (t := 1) rfl <| .cons (t := 2) rfl <| .nil) (i + 1, _) (.cons (t := 7) rfl <| .cons (t := 8) rfl <| .nil) ⟨hO, (by show GrI _ _ _ _ ((l.take (i + 1)).foldl (arrStep l f t) []); rw [hst]; first | exact hG.drop.drop | exact hG.drop | exact hG), hk⟩ (by show l.length - (i + 1) < l.length - i; omega)
            · rw [List.take_of_length_le hke] at hc4
              have hst : (l.take (i + 1)).foldl (arrStep l f t) [] = out := by
                rw [take_succ_fold _ _ hx, hout]; exact if_neg (by rw [toldB_yes hc1 hc3, hc4]; exact Bool.false_ne_true)
              refine At.skip ?_
              refine At.reg ?_
              refine At.v (RunV.move rfl) rfl ?_
              refine At.v (RunV.inc rfl rfl (by omega)) rfl ?_
              refine At.v (RunV.assign rfl) rfl ?_
              refine At.nil (At.keep (.cons (t := 0) rfl <| .cons (t := 1) rfl <| .cons (t := 2) rfl <| .cons (t := 7) rfl <| .cons (t := 8) rfl <| .nil) ?_)
              replace hO := hO.drop
              exact At.againC (.cons (t := 0) rfl <| .cons (t := 1) rfl <| .cons (t := 2) rfl <| .nil) (i + 1, _) (.cons (t := 7) rfl <| .cons (t := 8) rfl <| .nil) ⟨hO, (by show GrI _ _ _ _ ((l.take (i + 1)).foldl (arrStep l f t) []); rw [hst]; first | exact hG.drop.drop | exact hG.drop | exact hG), hk⟩ (by show l.length - (i + 1) < l.length - i; omega)
  · have hge : l.length ≤ i := by have := of_decide_eq_false hlt; omega
    refine At.exit rfl ?_
    refine At.seq (At.reg ?_)
    refine At.v (RunV.move rfl) rfl ?_
    refine At.v (RunV.assign rfl) rfl ?_
    refine At.nil (At.keep (.cons (t := 6) rfl <| .nil) ?_)
    refine At.ret ?_
    refine At.result1 rfl rfl ?_
    rw [List.take_of_length_le (by omega)] at hout
    refine ⟨?_, hO.le⟩
    show SlOf G0 1 IR _ _ (l.foldl (arrStep l f t) [])
    rw [hout]
    exact hG.slOf (by omega)

end Go.Proofs.Ytglilmcfhkedbaa
