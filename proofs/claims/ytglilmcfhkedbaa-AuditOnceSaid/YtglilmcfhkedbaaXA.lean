/- The walk of AuditOnce; no condition. -/
import Derived.Test.YtglilmcfhkedbaaWZ
namespace Go.Proofs.Ytglilmcfhkedbaa
open Go Go.RowKit



set_option maxHeartbeats 1600000 in
theorem once_c (p : Prg) (l : List Ev) (pv ev : Value) (w : World) (hP : PrgR G0 w pv p) (hE : EvsR G0 w ev l) :
    Ret Try.prog 5 [.agg [pv].toArray, ev] w fun v w' => v = .bool true ∧ Le w w' := by
  refine Ret.enter Try.func5 rfl Try.ntmps5 rfl rfl ?_
  have hO := Own.start w
  obtain ⟨ea, ec, rfl, hele, hecap⟩ := SlOf.val hE
  refine At.seq (At.reg ?_)
  refine At.step rfl (Step.box hO rfl rfl ?_)
  intro b2 w1 hO hlb2 hnb2
  refine At.v (RunV.assign rfl) rfl ?_
  refine At.nil (At.keep (.cons (t := 1) rfl <| .cons (t := 2) rfl <| .nil) ?_)
  refine At.seq ?_
  refine At.seq (At.reg ?_)
  refine At.callE hO rfl pf7 rfl (alive_c _) rfl ?_
  intro w2 hO hl
  refine At.v (RunV.not rfl) rfl ?_
  refine At.nil (At.keep (.cons (t := 1) rfl <| .cons (t := 2) rfl <| .cons (t := 13) rfl <| .nil) ?_)
  refine At.cond rfl (fun h1 => absurd h1 Bool.false_ne_true) (fun h1 => ?_)
  refine At.skip ?_
  refine At.seq ?_
  refine At.seq (At.reg ?_)
  refine At.v (RunV.move rfl) rfl ?_
  refine At.v (RunV.lenSl rfl isl25) rfl ?_
  refine At.v (RunV.gtI rfl rfl) rfl ?_
  refine At.nil (At.keep (.cons (t := 1) rfl <| .cons (t := 2) rfl <| .cons (t := 16) rfl <| .nil) ?_)
  refine At.cond rfl (fun hg => ?_) (fun hg => ?_)
  · refine At.seq (At.reg ?_)
    refine At.v (RunV.assign rfl) rfl ?_
    refine At.nil (At.keep (.cons (t := 4) rfl <| .nil) ?_)
    refine At.ret ?_
    refine At.result1 rfl rfl ?_
    exact ⟨rfl, hO.le⟩
  · replace hg : l.length ≤ 300 := by simp at hg; omega
    refine At.skip ?_
    obtain ⟨n, wh, hck, hwl⟩ := checkB_at p l
    refine At.seq (At.reg ?_)
    refine At.v (RunV.loadAgg ag24_1 rfl ((hO.at (i := 0) rfl).row) rfl) rfl ?_
    refine At.v (RunV.move rfl) rfl ?_
    refine At.callE hO rfl pf8 rfl ((check_c p l pv _ _ (hP.le hO.le) (hE.le hO.le) (by omega)).mono fun v w' h => by rw [hck] at h; exact h) rfl ?_
    intro w3 hO hl
    refine At.v (RunV.move rfl) rfl ?_
    refine At.v (RunV.extract rfl rfl) rfl ?_
    refine At.v (RunV.extract rfl rfl) rfl ?_
    refine At.v (RunV.assign rfl) rfl ?_
    refine At.v (RunV.assign rfl) rfl ?_
    refine At.nil (At.keep (.cons (t := 1) rfl <| .cons (t := 6) rfl <| .nil) ?_)
    refine At.seq ?_
    refine At.seq (At.reg ?_)
    refine At.v (RunV.assign rfl) rfl ?_
    refine At.nil (At.keep (.cons (t := 1) rfl <| .cons (t := 6) rfl <| .cons (t := 7) rfl <| .nil) ?_)
    refine At.block ?_
    refine At.loopC (σ := Nat) (.cons (t := 1) rfl <| .cons (t := 6) rfl <| .nil) (fun i => [(7, .int .i64 (i : Int))]) (fun i wl => Own w [(b2, [pv], 24)] wl ∧ i ≤ wh) (fun i => wh - i) 0 (.cons (t := 7) rfl <| .nil) ⟨hO, Nat.zero_le _⟩ ?_
    intro i w4 hinv
    refine At.keep (.cons (t := 1) rfl <| .cons (t := 6) rfl <| .cons (t := 7) rfl <| .nil) ?_
    have hO := hinv.1
    have hi := hinv.2
    refine At.seq ?_
    refine At.seq (At.reg ?_)
    refine At.v (RunV.move rfl) rfl ?_
    refine At.v (RunV.move rfl) rfl ?_
    refine At.v (RunV.ltI rfl rfl) rfl ?_
    refine At.v (RunV.move rfl) rfl ?_
    refine At.g (Guard.t rfl rfl rfl) (fun hc => RunV.move rfl) rfl ?_
    refine At.g (Guard.t rfl rfl rfl) (fun hc => RunV.move rfl) rfl ?_
    refine At.g (Guard.t rfl rfl rfl) (fun hc => RunV.lenSl (gvE rfl hc) isl25) rfl ?_
    refine At.g (Guard.t rfl rfl rfl) (fun hc => RunV.ltI (gvE rfl hc) (gvE rfl hc)) rfl ?_
    refine At.v (RunV.pickAnd rfl rfl) rfl ?_
    refine At.nil (At.keep (.cons (t := 1) rfl <| .cons (t := 6) rfl <| .cons (t := 7) rfl <| .cons (t := 31) rfl <| .nil) ?_)
    refine At.cond rfl (fun hlt => ?_) (fun hlt => ?_)
    · have hiw : i < wh := by simp at hlt; omega
      refine At.skip ?_
      refine At.seq ?_
      refine At.block ?_
      refine At.seq (At.reg ?_)
      refine At.v (RunV.assign rfl) rfl ?_
      refine At.nil (At.keep (.cons (t := 1) rfl <| .cons (t := 6) rfl <| .cons (t := 7) rfl <| .cons (t := 8) rfl <| .nil) ?_)
      refine At.block ?_
      refine At.loopC (σ := Nat) (.cons (t := 1) rfl <| .cons (t := 6) rfl <| .cons (t := 7) rfl <| .nil) (fun j => [(8, .int .i64 (j : Int))]) (fun j wl => Own w [(b2, [pv], 24)] wl ∧ j ≤ i) (fun j => i - j) 0 (.cons (t := 8) rfl <| .nil) ⟨hO, Nat.zero_le _⟩ ?_
      intro j w5 hinv
      refine At.keep (.cons (t := 1) rfl <| .cons (t := 6) rfl <| .cons (t := 7) rfl <| .cons (t := 8) rfl <| .nil) ?_
      have hO := hinv.1
      have hj0 := hinv.2
      refine At.seq ?_
      refine At.seq (At.reg ?_)
      refine At.v (RunV.move rfl) rfl ?_
      refine At.v (RunV.move rfl) rfl ?_
      refine At.v (RunV.ltI rfl rfl) rfl ?_
      refine At.nil (At.keep (.cons (t := 1) rfl <| .cons (t := 6) rfl <| .cons (t := 7) rfl <| .cons (t := 8) rfl <| .cons (t := 36) rfl <| .nil) ?_)
      refine At.cond rfl (fun hj => ?_) (fun hj => ?_)
      · refine At.skip ?_
        refine At.seq ?_
        refine At.block ?_
        have hji : j < i := by have := of_decide_eq_true hj; omega
        obtain ⟨x, hx⟩ : ∃ x, l[j]? = some x := ⟨_, List.getElem?_eq_getElem (by omega)⟩
        obtain ⟨y, hy⟩ : ∃ y, l[i]? = some y := ⟨_, List.getElem?_eq_getElem (by omega)⟩
        have hcl := once_law p l j i x y hji hx hy (by rw [hck]; show (i : Int) < (wh : Int); omega)
        obtain ⟨eb, eoff, ecap, ecs, hv9, _, _, hR9, herow⟩ := SlOf.at (hE.le hO.le) hx
        cases hv9
        cases hR9
        obtain ⟨eb2, eoff2, ecap2, ecs2, hv8, _, _, hR8, hfrow⟩ := SlOf.at (hE.le hO.le) hy
        cases hv8
        cases hR8
        refine At.seq (At.pi hmix (.take 0 (.take 1 (.take 2 (.take 3 (.take 4 (.take 5 (.take 6 (.take 7 (.fork 8 (.run 9 (.run 10 (.run 11 .done))) 9 (.run 8 (.run 10 (.run 11 .done)))))))))))) (by kernel_rfl) (by kernel_rfl) ?_)
        intro w6 hs
        have hs0 := hs
        have hR := hO
        replace hO := hO.on hs
        refine At.take rfl (fun w' hs' => RunV.move rfl) rfl ?_
        refine At.take rfl (fun w' hs' => RunV.move rfl) rfl ?_
        refine At.take rfl (fun w' hs' => RunV.index st25_32_9 rfl rfl rfl (by omega) rfl) rfl ?_
        refine At.take rfl (fun w' hs' => RunV.loadAgg ag32_9 rfl (Row.le herow hs') rfl) rfl ?_
        refine At.take rfl (fun w' hs' => RunV.move rfl) rfl ?_
        refine At.take rfl (fun w' hs' => RunV.move rfl) rfl ?_
        refine At.take rfl (fun w' hs' => RunV.index st25_32_9 rfl rfl rfl (by omega) rfl) rfl ?_
        refine At.take rfl (fun w' hs' => RunV.loadAgg ag32_9 rfl (Row.le hfrow hs') rfl) rfl ?_
        refine At.pfork ?_ ?_
        · refine At.prun rfl rfl (Step.alloc hO zt32 ?_)
          intro b9 w7 hO hlb9 hnb9
          have hzb9 := Nat.le_trans hs.size hnb9
          refine ⟨hs.tr hlb9, ?_⟩
          replace hs := hs.tr hlb9
          refine At.prun rfl rfl (Step.alloc hO zt32 ?_)
          intro b10 w8 hO hlb10 hnb10
          have hzb10 := Nat.le_trans hs.size hnb10
          refine ⟨hs.tr hlb10, ?_⟩
          replace hs := hs.tr hlb10
          refine At.prun_ rfl (Step.storeAll hO rfl rfl rfl sz32_9 (.there .here) rfl rfl ?_)
          intro w9 hO hbut
          have hs := hbut.le hs hzb9
          refine ⟨hs, ?_⟩
          refine At.prun_ rfl (Step.storeAll hO rfl rfl rfl sz32_9 .here rfl rfl ?_)
          intro w10 hO hbut
          have hs := hbut.le hs hzb10
          refine ⟨hs, ?_⟩
          refine At.pdone (At.keep (.cons (t := 1) rfl <| .cons (t := 6) rfl <| .cons (t := 7) rfl <| .cons (t := 8) rfl <| .cons (t := 9) rfl <| .cons (t := 10) rfl <| .nil) ?_)
          refine At.seq (At.reg ?_)
          refine At.v (RunV.field ft32_0_0 rfl rfl) rfl ?_
          refine At.v (RunV.load ct3 rfl ((hO.at (i := 1) rfl).cell rfl)) rfl ?_
          refine At.v (RunV.eqI rfl rfl) rfl ?_
          refine At.v (RunV.move rfl) rfl ?_
          refine At.g (Guard.f rfl rfl rfl) (fun hc => RunV.field ft32_0_0 rfl rfl) rfl ?_
          refine At.g (Guard.f rfl rfl rfl) (fun hc => RunV.load ct3 (gvE rfl hc) ((hO.at (i := 1) rfl).cell rfl)) rfl ?_
          refine At.g (Guard.f rfl rfl rfl) (fun hc => RunV.eqI (gvE rfl hc) rfl) rfl ?_
          refine At.v (RunV.pickOr rfl rfl) rfl ?_
          refine At.v (RunV.move rfl) rfl ?_
          refine At.g (Guard.t rfl rfl rfl) (fun hc => RunV.field ft32_0_0 rfl rfl) rfl ?_
          refine At.keep (.cons (t := 1) rfl <| .cons (t := 6) rfl <| .cons (t := 7) rfl <| .cons (t := 8) rfl <| .cons (t := 9) rfl <| .cons (t := 10) rfl <| .cons (t := 55) rfl <| .cons (t := 56) rfl <| .nil) ?_
          refine At.g (Guard.t rfl rfl rfl) (fun hc => RunV.load ct3 (gvE rfl hc) ((hO.at (i := 0) rfl).cell rfl)) rfl ?_
          refine At.g (Guard.t rfl rfl rfl) (fun hc => RunV.eqI (gvE rfl hc) rfl) rfl ?_
          refine At.g (Guard.t rfl rfl rfl) (fun hc => RunV.move (gvE rfl hc)) rfl ?_
          refine At.g (Guard.gf rfl rfl rfl) (fun hc => RunV.field ft32_0_0 rfl rfl) rfl ?_
          refine At.g (Guard.gf rfl rfl rfl) (fun hc => RunV.load ct3 (gvE rfl hc) ((hO.at (i := 0) rfl).cell rfl)) rfl ?_
          refine At.g (Guard.gf rfl rfl rfl) (fun hc => RunV.eqI (gvE rfl hc) rfl) rfl ?_
          refine At.g (Guard.t rfl rfl rfl) (fun hc => RunV.pickOr (gvE rfl hc) (gvE2 rfl hc)) rfl ?_
          refine At.v (RunV.pickAnd rfl rfl) rfl ?_
          refine At.v (RunV.assign rfl) rfl ?_
          refine At.nil (At.keep (.cons (t := 1) rfl <| .cons (t := 6) rfl <| .cons (t := 7) rfl <| .cons (t := 8) rfl <| .cons (t := 9) rfl <| .cons (t := 10) rfl <| .cons (t := 11) rfl <| .nil) ?_)
          refine At.seq ?_
          refine At.seq (At.reg ?_)
          refine At.v (RunV.field ft32_2_2 rfl rfl) rfl ?_
          refine At.v (RunV.load ct30 rfl ((hO.at (i := 1) rfl).cell rfl)) rfl ?_
          refine At.v (RunV.field ft32_2_2 rfl rfl) rfl ?_
          refine At.v (RunV.load ct30 rfl ((hO.at (i := 0) rfl).cell rfl)) rfl ?_
          refine At.v (RunV.eqI rfl rfl) rfl ?_
          refine At.v (RunV.move rfl) rfl ?_
          refine At.g (Guard.t rfl rfl rfl) (fun hc => RunV.move rfl) rfl ?_
          refine At.g (Guard.t rfl rfl rfl) (fun hc => RunV.move (gvE rfl hc)) rfl ?_
          refine At.g (Guard.gf rfl rfl rfl) (fun hc => RunV.field ft32_0_0 rfl rfl) rfl ?_
          refine At.g (Guard.gf rfl rfl rfl) (fun hc => RunV.load ct3 (gvE rfl hc) ((hO.at (i := 1) rfl).cell rfl)) rfl ?_
          refine At.keep (.cons (t := 1) rfl <| .cons (t := 6) rfl <| .cons (t := 7) rfl <| .cons (t := 8) rfl <| .cons (t := 9) rfl <| .cons (t := 10) rfl <| .cons (t := 70) rfl <| .cons (t := 72) rfl <| .cons (t := 74) rfl <| .nil) ?_
          refine At.g (Guard.gf rfl rfl rfl) (fun hc => RunV.eqI (gvE rfl hc) rfl) rfl ?_
          refine At.g (Guard.gf rfl rfl rfl) (fun hc => RunV.move (gvE rfl hc)) rfl ?_
          refine At.g (Guard.gt rfl rfl rfl) (fun hc => RunV.field ft32_0_0 rfl rfl) rfl ?_
          refine At.g (Guard.gt rfl rfl rfl) (fun hc => RunV.load ct3 (gvE rfl hc) ((hO.at (i := 0) rfl).cell rfl)) rfl ?_
          refine At.g (Guard.gt rfl rfl rfl) (fun hc => RunV.eqI (gvE rfl hc) rfl) rfl ?_
          refine At.g (Guard.gf rfl rfl rfl) (fun hc => RunV.pickAnd (gvE rfl hc) (gvE2 rfl hc)) rfl ?_
          refine At.g (Guard.t rfl rfl rfl) (fun hc => RunV.pickOr (gvE rfl hc) (gvE2 rfl hc)) rfl ?_
          refine At.v (RunV.pickAnd rfl rfl) rfl ?_
          refine At.nil (At.keep (.cons (t := 1) rfl <| .cons (t := 6) rfl <| .cons (t := 7) rfl <| .cons (t := 8) rfl <| .cons (t := 9) rfl <| .cons (t := 10) rfl <| .cons (t := 82) rfl <| .nil) ?_)
          refine At.cond rfl (fun h2 => absurd h2 (show ¬ (clash1 x y = true) by rw [hcl.1]; exact Bool.false_ne_true)) (fun h2 => ?_)
          refine At.skip ?_
          refine At.seq (At.reg ?_)
          refine At.v (RunV.field ft32_1_1 rfl rfl) rfl ?_
          refine At.v (RunV.load ct3 rfl ((hO.at (i := 1) rfl).cell rfl)) rfl ?_
          refine At.v (RunV.field ft32_1_1 rfl rfl) rfl ?_
          refine At.v (RunV.load ct3 rfl ((hO.at (i := 0) rfl).cell rfl)) rfl ?_
          refine At.v (RunV.eqI rfl rfl) rfl ?_
          refine At.v (RunV.move rfl) rfl ?_
          refine At.g (Guard.t rfl rfl rfl) (fun hc => RunV.field ft32_0_0 rfl rfl) rfl ?_
          refine At.g (Guard.t rfl rfl rfl) (fun hc => RunV.load ct3 (gvE rfl hc) ((hO.at (i := 1) rfl).cell rfl)) rfl ?_
          refine At.g (Guard.t rfl rfl rfl) (fun hc => RunV.eqI (gvE rfl hc) rfl) rfl ?_
          refine At.g (Guard.t rfl rfl rfl) (fun hc => RunV.move (gvE rfl hc)) rfl ?_
          refine At.keep (.cons (t := 1) rfl <| .cons (t := 6) rfl <| .cons (t := 7) rfl <| .cons (t := 8) rfl <| .cons (t := 9) rfl <| .cons (t := 10) rfl <| .cons (t := 88) rfl <| .cons (t := 92) rfl <| .nil) ?_
          refine At.g (Guard.gt rfl rfl rfl) (fun hc => RunV.field ft32_0_0 rfl rfl) rfl ?_
          refine At.g (Guard.gt rfl rfl rfl) (fun hc => RunV.load ct3 (gvE rfl hc) ((hO.at (i := 0) rfl).cell rfl)) rfl ?_
          refine At.g (Guard.gt rfl rfl rfl) (fun hc => RunV.eqI (gvE rfl hc) rfl) rfl ?_
          refine At.g (Guard.t rfl rfl rfl) (fun hc => RunV.pickAnd (gvE rfl hc) (gvE2 rfl hc)) rfl ?_
          refine At.g (Guard.t rfl rfl rfl) (fun hc => RunV.move (gvE rfl hc)) rfl ?_
          refine At.g (Guard.gf rfl rfl rfl) (fun hc => RunV.field ft32_0_0 rfl rfl) rfl ?_
          refine At.g (Guard.gf rfl rfl rfl) (fun hc => RunV.load ct3 (gvE rfl hc) ((hO.at (i := 1) rfl).cell rfl)) rfl ?_
          refine At.g (Guard.gf rfl rfl rfl) (fun hc => RunV.eqI (gvE rfl hc) rfl) rfl ?_
          refine At.g (Guard.gf rfl rfl rfl) (fun hc => RunV.move (gvE rfl hc)) rfl ?_
          refine At.g (Guard.gt rfl rfl rfl) (fun hc => RunV.field ft32_0_0 rfl rfl) rfl ?_
          refine At.keep (.cons (t := 1) rfl <| .cons (t := 6) rfl <| .cons (t := 7) rfl <| .cons (t := 8) rfl <| .cons (t := 88) rfl <| .cons (t := 97) rfl <| .cons (t := 101) rfl <| .cons (t := 102) rfl <| .nil) ?_
          refine At.g (Guard.gt rfl rfl rfl) (fun hc => RunV.load ct3 (gvE rfl hc) ((hO.at (i := 0) rfl).cell rfl)) rfl ?_
          refine At.g (Guard.gt rfl rfl rfl) (fun hc => RunV.eqI (gvE rfl hc) rfl) rfl ?_
          refine At.g (Guard.gf rfl rfl rfl) (fun hc => RunV.pickAnd (gvE rfl hc) (gvE2 rfl hc)) rfl ?_
          refine At.g (Guard.t rfl rfl rfl) (fun hc => RunV.pickOr (gvE rfl hc) (gvE2 rfl hc)) rfl ?_
          refine At.v (RunV.pickAnd rfl rfl) rfl ?_
          refine At.nil (At.keep (.cons (t := 1) rfl <| .cons (t := 6) rfl <| .cons (t := 7) rfl <| .cons (t := 8) rfl <| .cons (t := 107) rfl <| .nil) ?_)
          refine At.cond rfl (fun h3 => absurd h3 (show ¬ (clash2 x y = true) by rw [hcl.2]; exact Bool.false_ne_true)) (fun h3 => ?_)
          refine At.skip ?_
          refine At.reg ?_
          refine At.v (RunV.move rfl) rfl ?_
          refine At.v (RunV.inc rfl rfl (by omega)) rfl ?_
          refine At.v (RunV.assign rfl) rfl ?_
          refine At.nil (At.keep (.cons (t := 1) rfl <| .cons (t := 6) rfl <| .cons (t := 7) rfl <| .cons (t := 8) rfl <| .nil) ?_)
          replace hO := hO.drop
          replace hO := hO.drop
          exact At.againC (.cons (t := 1) rfl <| .cons (t := 6) rfl <| .cons (t := 7) rfl <| .nil) (j + 1) (.cons (t := 8) rfl <| .nil) ⟨hO, by omega⟩ (by omega)
        · refine At.prun rfl rfl (Step.alloc hO zt32 ?_)
          intro b10 w11 hO hlb10 hnb10
          have hzb10 := Nat.le_trans hs.size hnb10
          refine ⟨hs.tr hlb10, ?_⟩
          replace hs := hs.tr hlb10
          refine At.prun rfl rfl (Step.alloc hO zt32 ?_)
          intro b9 w12 hO hlb9 hnb9
          have hzb9 := Nat.le_trans hs.size hnb9
          refine ⟨hs.tr hlb9, ?_⟩
          replace hs := hs.tr hlb9
          refine At.prun_ rfl (Step.storeAll hO rfl rfl rfl sz32_9 .here rfl rfl ?_)
          intro w13 hO hbut
          have hs := hbut.le hs hzb9
          refine ⟨hs, ?_⟩
          refine At.prun_ rfl (Step.storeAll hO rfl rfl rfl sz32_9 (.there .here) rfl rfl ?_)
          intro w14 hO hbut
          have hs := hbut.le hs hzb10
          refine ⟨hs, ?_⟩
          refine At.pdone (At.keep (.cons (t := 1) rfl <| .cons (t := 6) rfl <| .cons (t := 7) rfl <| .cons (t := 8) rfl <| .cons (t := 9) rfl <| .cons (t := 10) rfl <| .nil) ?_)
          refine At.seq (At.reg ?_)
          refine At.v (RunV.field ft32_0_0 rfl rfl) rfl ?_
          refine At.v (RunV.load ct3 rfl ((hO.at (i := 0) rfl).cell rfl)) rfl ?_
          refine At.v (RunV.eqI rfl rfl) rfl ?_
          refine At.v (RunV.move rfl) rfl ?_
          refine At.g (Guard.f rfl rfl rfl) (fun hc => RunV.field ft32_0_0 rfl rfl) rfl ?_
          refine At.g (Guard.f rfl rfl rfl) (fun hc => RunV.load ct3 (gvE rfl hc) ((hO.at (i := 0) rfl).cell rfl)) rfl ?_
          refine At.g (Guard.f rfl rfl rfl) (fun hc => RunV.eqI (gvE rfl hc) rfl) rfl ?_
          refine At.v (RunV.pickOr rfl rfl) rfl ?_
          refine At.v (RunV.move rfl) rfl ?_
          refine At.g (Guard.t rfl rfl rfl) (fun hc => RunV.field ft32_0_0 rfl rfl) rfl ?_
          refine At.keep (.cons (t := 1) rfl <| .cons (t := 6) rfl <| .cons (t := 7) rfl <| .cons (t := 8) rfl <| .cons (t := 9) rfl <| .cons (t := 10) rfl <| .cons (t := 55) rfl <| .cons (t := 56) rfl <| .nil) ?_
          refine At.g (Guard.t rfl rfl rfl) (fun hc => RunV.load ct3 (gvE rfl hc) ((hO.at (i := 1) rfl).cell rfl)) rfl ?_
          refine At.g (Guard.t rfl rfl rfl) (fun hc => RunV.eqI (gvE rfl hc) rfl) rfl ?_
          refine At.g (Guard.t rfl rfl rfl) (fun hc => RunV.move (gvE rfl hc)) rfl ?_
          refine At.g (Guard.gf rfl rfl rfl) (fun hc => RunV.field ft32_0_0 rfl rfl) rfl ?_
          refine At.g (Guard.gf rfl rfl rfl) (fun hc => RunV.load ct3 (gvE rfl hc) ((hO.at (i := 1) rfl).cell rfl)) rfl ?_
          refine At.g (Guard.gf rfl rfl rfl) (fun hc => RunV.eqI (gvE rfl hc) rfl) rfl ?_
          refine At.g (Guard.t rfl rfl rfl) (fun hc => RunV.pickOr (gvE rfl hc) (gvE2 rfl hc)) rfl ?_
          refine At.v (RunV.pickAnd rfl rfl) rfl ?_
          refine At.v (RunV.assign rfl) rfl ?_
          refine At.nil (At.keep (.cons (t := 1) rfl <| .cons (t := 6) rfl <| .cons (t := 7) rfl <| .cons (t := 8) rfl <| .cons (t := 9) rfl <| .cons (t := 10) rfl <| .cons (t := 11) rfl <| .nil) ?_)
          refine At.seq ?_
          refine At.seq (At.reg ?_)
          refine At.v (RunV.field ft32_2_2 rfl rfl) rfl ?_
          refine At.v (RunV.load ct30 rfl ((hO.at (i := 0) rfl).cell rfl)) rfl ?_
          refine At.v (RunV.field ft32_2_2 rfl rfl) rfl ?_
          refine At.v (RunV.load ct30 rfl ((hO.at (i := 1) rfl).cell rfl)) rfl ?_
          refine At.v (RunV.eqI rfl rfl) rfl ?_
          refine At.v (RunV.move rfl) rfl ?_
          refine At.g (Guard.t rfl rfl rfl) (fun hc => RunV.move rfl) rfl ?_
          refine At.g (Guard.t rfl rfl rfl) (fun hc => RunV.move (gvE rfl hc)) rfl ?_
          refine At.g (Guard.gf rfl rfl rfl) (fun hc => RunV.field ft32_0_0 rfl rfl) rfl ?_
          refine At.g (Guard.gf rfl rfl rfl) (fun hc => RunV.load ct3 (gvE rfl hc) ((hO.at (i := 0) rfl).cell rfl)) rfl ?_
          refine At.keep (.cons (t := 1) rfl <| .cons (t := 6) rfl <| .cons (t := 7) rfl <| .cons (t := 8) rfl <| .cons (t := 9) rfl <| .cons (t := 10) rfl <| .cons (t := 70) rfl <| .cons (t := 72) rfl <| .cons (t := 74) rfl <| .nil) ?_
          refine At.g (Guard.gf rfl rfl rfl) (fun hc => RunV.eqI (gvE rfl hc) rfl) rfl ?_
          refine At.g (Guard.gf rfl rfl rfl) (fun hc => RunV.move (gvE rfl hc)) rfl ?_
          refine At.g (Guard.gt rfl rfl rfl) (fun hc => RunV.field ft32_0_0 rfl rfl) rfl ?_
          refine At.g (Guard.gt rfl rfl rfl) (fun hc => RunV.load ct3 (gvE rfl hc) ((hO.at (i := 1) rfl).cell rfl)) rfl ?_
          refine At.g (Guard.gt rfl rfl rfl) (fun hc => RunV.eqI (gvE rfl hc) rfl) rfl ?_
          refine At.g (Guard.gf rfl rfl rfl) (fun hc => RunV.pickAnd (gvE rfl hc) (gvE2 rfl hc)) rfl ?_
          refine At.g (Guard.t rfl rfl rfl) (fun hc => RunV.pickOr (gvE rfl hc) (gvE2 rfl hc)) rfl ?_
          refine At.v (RunV.pickAnd rfl rfl) rfl ?_
          refine At.nil (At.keep (.cons (t := 1) rfl <| .cons (t := 6) rfl <| .cons (t := 7) rfl <| .cons (t := 8) rfl <| .cons (t := 9) rfl <| .cons (t := 10) rfl <| .cons (t := 82) rfl <| .nil) ?_)
          refine At.cond rfl (fun h4 => absurd h4 (show ¬ (clash1 x y = true) by rw [hcl.1]; exact Bool.false_ne_true)) (fun h4 => ?_)
          refine At.skip ?_
          refine At.seq (At.reg ?_)
          refine At.v (RunV.field ft32_1_1 rfl rfl) rfl ?_
          refine At.v (RunV.load ct3 rfl ((hO.at (i := 0) rfl).cell rfl)) rfl ?_
          refine At.v (RunV.field ft32_1_1 rfl rfl) rfl ?_
          refine At.v (RunV.load ct3 rfl ((hO.at (i := 1) rfl).cell rfl)) rfl ?_
          refine At.v (RunV.eqI rfl rfl) rfl ?_
          refine At.v (RunV.move rfl) rfl ?_
          refine At.g (Guard.t rfl rfl rfl) (fun hc => RunV.field ft32_0_0 rfl rfl) rfl ?_
          refine At.g (Guard.t rfl rfl rfl) (fun hc => RunV.load ct3 (gvE rfl hc) ((hO.at (i := 0) rfl).cell rfl)) rfl ?_
          refine At.g (Guard.t rfl rfl rfl) (fun hc => RunV.eqI (gvE rfl hc) rfl) rfl ?_
          refine At.g (Guard.t rfl rfl rfl) (fun hc => RunV.move (gvE rfl hc)) rfl ?_
          refine At.keep (.cons (t := 1) rfl <| .cons (t := 6) rfl <| .cons (t := 7) rfl <| .cons (t := 8) rfl <| .cons (t := 9) rfl <| .cons (t := 10) rfl <| .cons (t := 88) rfl <| .cons (t := 92) rfl <| .nil) ?_
          refine At.g (Guard.gt rfl rfl rfl) (fun hc => RunV.field ft32_0_0 rfl rfl) rfl ?_
          refine At.g (Guard.gt rfl rfl rfl) (fun hc => RunV.load ct3 (gvE rfl hc) ((hO.at (i := 1) rfl).cell rfl)) rfl ?_
          refine At.g (Guard.gt rfl rfl rfl) (fun hc => RunV.eqI (gvE rfl hc) rfl) rfl ?_
          refine At.g (Guard.t rfl rfl rfl) (fun hc => RunV.pickAnd (gvE rfl hc) (gvE2 rfl hc)) rfl ?_
          refine At.g (Guard.t rfl rfl rfl) (fun hc => RunV.move (gvE rfl hc)) rfl ?_
          refine At.g (Guard.gf rfl rfl rfl) (fun hc => RunV.field ft32_0_0 rfl rfl) rfl ?_
          refine At.g (Guard.gf rfl rfl rfl) (fun hc => RunV.load ct3 (gvE rfl hc) ((hO.at (i := 0) rfl).cell rfl)) rfl ?_
          refine At.g (Guard.gf rfl rfl rfl) (fun hc => RunV.eqI (gvE rfl hc) rfl) rfl ?_
          refine At.g (Guard.gf rfl rfl rfl) (fun hc => RunV.move (gvE rfl hc)) rfl ?_
          refine At.g (Guard.gt rfl rfl rfl) (fun hc => RunV.field ft32_0_0 rfl rfl) rfl ?_
          refine At.keep (.cons (t := 1) rfl <| .cons (t := 6) rfl <| .cons (t := 7) rfl <| .cons (t := 8) rfl <| .cons (t := 88) rfl <| .cons (t := 97) rfl <| .cons (t := 101) rfl <| .cons (t := 102) rfl <| .nil) ?_
          refine At.g (Guard.gt rfl rfl rfl) (fun hc => RunV.load ct3 (gvE rfl hc) ((hO.at (i := 1) rfl).cell rfl)) rfl ?_
          refine At.g (Guard.gt rfl rfl rfl) (fun hc => RunV.eqI (gvE rfl hc) rfl) rfl ?_
          refine At.g (Guard.gf rfl rfl rfl) (fun hc => RunV.pickAnd (gvE rfl hc) (gvE2 rfl hc)) rfl ?_
          refine At.g (Guard.t rfl rfl rfl) (fun hc => RunV.pickOr (gvE rfl hc) (gvE2 rfl hc)) rfl ?_
          refine At.v (RunV.pickAnd rfl rfl) rfl ?_
          refine At.nil (At.keep (.cons (t := 1) rfl <| .cons (t := 6) rfl <| .cons (t := 7) rfl <| .cons (t := 8) rfl <| .cons (t := 107) rfl <| .nil) ?_)
          refine At.cond rfl (fun h5 => absurd h5 (show ¬ (clash2 x y = true) by rw [hcl.2]; exact Bool.false_ne_true)) (fun h5 => ?_)
          refine At.skip ?_
          refine At.reg ?_
          refine At.v (RunV.move rfl) rfl ?_
          refine At.v (RunV.inc rfl rfl (by omega)) rfl ?_
          refine At.v (RunV.assign rfl) rfl ?_
          refine At.nil (At.keep (.cons (t := 1) rfl <| .cons (t := 6) rfl <| .cons (t := 7) rfl <| .cons (t := 8) rfl <| .nil) ?_)
          replace hO := hO.drop
          replace hO := hO.drop
          exact At.againC (.cons (t := 1) rfl <| .cons (t := 6) rfl <| .cons (t := 7) rfl <| .nil) (j + 1) (.cons (t := 8) rfl <| .nil) ⟨hO, by omega⟩ (by omega)
      · refine At.exit rfl ?_
        refine At.reg ?_
        refine At.v (RunV.move rfl) rfl ?_
        refine At.v (RunV.inc rfl rfl (by omega)) rfl ?_
        refine At.v (RunV.assign rfl) rfl ?_
        refine At.nil (At.keep (.cons (t := 1) rfl <| .cons (t := 6) rfl <| .cons (t := 7) rfl <| .nil) ?_)
        exact At.againC (.cons (t := 1) rfl <| .cons (t := 6) rfl <| .nil) (i + 1) (.cons (t := 7) rfl <| .nil) ⟨hO, by omega⟩ (by omega)
    · refine At.exit rfl ?_
      refine At.seq (At.reg ?_)
      refine At.v (RunV.assign rfl) rfl ?_
      refine At.nil (At.keep (.cons (t := 4) rfl <| .nil) ?_)
      refine At.ret ?_
      refine At.result1 rfl rfl ?_
      exact ⟨rfl, hO.le⟩

end Go.Proofs.Ytglilmcfhkedbaa
