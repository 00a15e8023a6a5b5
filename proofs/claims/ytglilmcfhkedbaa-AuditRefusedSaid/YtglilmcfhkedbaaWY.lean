/- The walk of AuditBegins; no condition. -/
import Derived.Test.YtglilmcfhkedbaaWX
namespace Go.Proofs.Ytglilmcfhkedbaa
open Go Go.RowKit



set_option maxHeartbeats 1600000 in
theorem begins_c (p : Prg) (l more : List Ev) (pv ev mv : Value) (w : World) (hP : PrgR G0 w pv p) (hE : EvsR G0 w ev l) (hQ : EvsR G0 w mv more) :
    Ret Try.prog 3 [.agg [pv].toArray, ev, mv] w fun v w' => v = .bool true ∧ Le w w' := by
  refine Ret.enter Try.func3 rfl Try.ntmps3 rfl rfl ?_
  have hO := Own.start w
  obtain ⟨ea, ec, rfl, hele, hecap⟩ := SlOf.val hE
  obtain ⟨ma, mc, rfl, hmle, hmcap⟩ := SlOf.val hQ
  refine At.seq (At.reg ?_)
  refine At.step rfl (Step.box hO rfl rfl ?_)
  intro b3 w1 hO hlb3 hnb3
  refine At.v (RunV.assign rfl) rfl ?_
  refine At.nil (At.keep (.cons (t := 1) rfl <| .cons (t := 2) rfl <| .cons (t := 3) rfl <| .nil) ?_)
  refine At.seq ?_
  refine At.seq (At.reg ?_)
  refine At.callE hO rfl pf7 rfl (alive_c _) rfl ?_
  intro w2 hO hl
  refine At.v (RunV.not rfl) rfl ?_
  refine At.nil (At.keep (.cons (t := 1) rfl <| .cons (t := 2) rfl <| .cons (t := 3) rfl <| .cons (t := 15) rfl <| .nil) ?_)
  refine At.cond rfl (fun h1 => absurd h1 Bool.false_ne_true) (fun h1 => ?_)
  refine At.skip ?_
  refine At.seq ?_
  refine At.seq (At.reg ?_)
  refine At.v (RunV.move rfl) rfl ?_
  refine At.v (RunV.lenSl rfl isl25) rfl ?_
  refine At.v (RunV.gtI rfl rfl) rfl ?_
  refine At.v (RunV.move rfl) rfl ?_
  refine At.g (Guard.f rfl rfl rfl) (fun hc => RunV.move rfl) rfl ?_
  refine At.g (Guard.f rfl rfl rfl) (fun hc => RunV.lenSl (gvE rfl hc) isl25) rfl ?_
  refine At.g (Guard.f rfl rfl rfl) (fun hc => RunV.gtI (gvE rfl hc) rfl) rfl ?_
  refine At.v (RunV.pickOr rfl rfl) rfl ?_
  refine At.nil (At.keep (.cons (t := 1) rfl <| .cons (t := 2) rfl <| .cons (t := 3) rfl <| .cons (t := 23) rfl <| .nil) ?_)
  refine At.cond rfl (fun hg => ?_) (fun hg => ?_)
  · refine At.seq (At.reg ?_)
    refine At.v (RunV.assign rfl) rfl ?_
    refine At.nil (At.keep (.cons (t := 6) rfl <| .nil) ?_)
    refine At.ret ?_
    refine At.result1 rfl rfl ?_
    exact ⟨rfl, hO.le⟩
  · replace hg : l.length ≤ 300 ∧ more.length ≤ 300 := by simp at hg; omega
    refine At.skip ?_
    obtain ⟨n, a, hck⟩ : ∃ n a, checkB p l = (n, a) := ⟨_, _, rfl⟩
    refine At.seq (At.reg ?_)
    refine At.v (RunV.loadAgg ag24_1 rfl ((hO.at (i := 0) rfl).row) rfl) rfl ?_
    refine At.v (RunV.move rfl) rfl ?_
    refine At.callE hO rfl pf8 rfl ((check_c p l pv _ _ (hP.le hO.le) (hE.le hO.le) (by omega)).mono fun v w' h => by rw [hck] at h; exact h) rfl ?_
    intro w3 hO hl
    refine At.v (RunV.move rfl) rfl ?_
    refine At.v (RunV.extract rfl rfl) rfl ?_
    refine At.v (RunV.extract rfl rfl) rfl ?_
    refine At.v (RunV.assign rfl) rfl ?_
    refine At.v (RunV.assign rfl) rfl ?_
    refine At.nil (At.keep (.cons (t := 1) rfl <| .cons (t := 2) rfl <| .cons (t := 3) rfl <| .cons (t := 7) rfl <| .cons (t := 8) rfl <| .nil) ?_)
    refine At.seq ?_
    refine At.seq (At.reg ?_)
    refine At.v (RunV.move rfl) rfl ?_
    refine At.v (RunV.eqI rfl rfl) rfl ?_
    refine At.nil (At.keep (.cons (t := 1) rfl <| .cons (t := 2) rfl <| .cons (t := 3) rfl <| .cons (t := 7) rfl <| .cons (t := 8) rfl <| .cons (t := 31) rfl <| .nil) ?_)
    refine At.cond rfl (fun hz => ?_) (fun hz => ?_)
    · replace hz := of_decide_eq_true hz
      refine At.seq (At.reg ?_)
      refine At.v (RunV.move rfl) rfl ?_
      refine At.v (RunV.move rfl) rfl ?_
      refine At.v (RunV.lenSl rfl isl25) rfl ?_
      refine At.v (RunV.eqI rfl rfl) rfl ?_
      refine At.v (RunV.assign rfl) rfl ?_
      refine At.nil (At.keep (.cons (t := 6) rfl <| .nil) ?_)
      refine At.ret ?_
      refine At.result1 rfl rfl ?_
      refine ⟨?_, hO.le⟩
      have e1 : a = (l.length : Int) := by
        rcases begins_law p l with h | ⟨n', k, h, h1, h2, _⟩
        · rw [hck] at h; cases h; rfl
        · rw [hck] at h; cases h; omega
      rw [decide_eq_true e1]
    · replace hz := of_decide_eq_false hz
      obtain ⟨k, rfl, h1, h2, h3, h4, h5⟩ : ∃ k : Nat, a = (k : Int) ∧ 1 ≤ n ∧ n ≤ 14 ∧ (k < l.length ∨ (k = 0 ∧ l.length = 0)) ∧ (checkB p (l.take k) = (0, (k : Int)) ∨ (n = 1 ∧ k = 0)) ∧ ∀ more, checkB p (l.take (k + 1) ++ more) = (n, (k : Int)) := by
        rcases begins_law p l with h | ⟨n', k, h, h1, h2, h3, h4, h5⟩
        · rw [hck] at h; cases h; exact absurd rfl hz
        · rw [hck] at h; cases h; exact ⟨k, rfl, h1, h2, h3, h4, h5⟩
      refine At.skip ?_
      refine At.seq ?_
      refine At.seq (At.reg ?_)
      refine At.v (RunV.move rfl) rfl ?_
      refine At.v (RunV.ltI rfl rfl) rfl ?_
      refine At.v (RunV.move rfl) rfl ?_
      refine At.g (Guard.f rfl rfl rfl) (fun hc => RunV.move rfl) rfl ?_
      refine At.g (Guard.f rfl rfl rfl) (fun hc => RunV.move rfl) rfl ?_
      refine At.g (Guard.f rfl rfl rfl) (fun hc => RunV.lenSl (gvE rfl hc) isl25) rfl ?_
      refine At.g (Guard.f rfl rfl rfl) (fun hc => RunV.geI (gvE rfl hc) (gvE rfl hc)) rfl ?_
      refine At.g (Guard.f rfl rfl rfl) (fun hc => RunV.move (gvE rfl hc)) rfl ?_
      refine At.g (Guard.gt rfl rfl rfl) (fun hc => RunV.move rfl) rfl ?_
      refine At.g (Guard.gt rfl rfl rfl) (fun hc => RunV.eqI (gvE rfl hc) rfl) rfl ?_
      refine At.keep (.cons (t := 1) rfl <| .cons (t := 2) rfl <| .cons (t := 3) rfl <| .cons (t := 7) rfl <| .cons (t := 8) rfl <| .cons (t := 38) rfl <| .cons (t := 43) rfl <| .cons (t := 45) rfl <| .nil) ?_
      refine At.g (Guard.gt rfl rfl rfl) (fun hc => RunV.move (gvE rfl hc)) rfl ?_
      refine At.g (Guard.gt rfl rfl rfl) (fun hc => RunV.move rfl) rfl ?_
      refine At.g (Guard.gt rfl rfl rfl) (fun hc => RunV.lenSl (gvE rfl hc) isl25) rfl ?_
      refine At.g (Guard.gt rfl rfl rfl) (fun hc => RunV.eqI (gvE rfl hc) rfl) rfl ?_
      refine At.g (Guard.gt rfl rfl rfl) (fun hc => RunV.pickAnd (gvE rfl hc) (gvE2 rfl hc)) rfl ?_
      refine At.g (Guard.gt rfl rfl rfl) (fun hc => RunV.not (gvE rfl hc)) rfl ?_
      refine At.g (Guard.f rfl rfl rfl) (fun hc => RunV.pickAnd (gvE rfl hc) (gvE2 rfl hc)) rfl ?_
      refine At.v (RunV.pickOr rfl rfl) rfl ?_
      refine At.v (RunV.move rfl) rfl ?_
      refine At.g (Guard.f rfl rfl rfl) (fun hc => RunV.move rfl) rfl ?_
      refine At.keep (.cons (t := 1) rfl <| .cons (t := 2) rfl <| .cons (t := 3) rfl <| .cons (t := 7) rfl <| .cons (t := 8) rfl <| .cons (t := 54) rfl <| .cons (t := 55) rfl <| .nil) ?_
      refine At.g (Guard.f rfl rfl rfl) (fun hc => RunV.ltI (gvE rfl hc) rfl) rfl ?_
      refine At.v (RunV.pickOr rfl rfl) rfl ?_
      refine At.v (RunV.move rfl) rfl ?_
      refine At.g (Guard.f rfl rfl rfl) (fun hc => RunV.move rfl) rfl ?_
      refine At.g (Guard.f rfl rfl rfl) (fun hc => RunV.gtI (gvE rfl hc) rfl) rfl ?_
      refine At.v (RunV.pickOr rfl rfl) rfl ?_
      refine At.nil (At.keep (.cons (t := 1) rfl <| .cons (t := 2) rfl <| .cons (t := 3) rfl <| .cons (t := 7) rfl <| .cons (t := 8) rfl <| .cons (t := 61) rfl <| .nil) ?_)
      refine At.cond rfl (fun hb => absurd hb (by intro hb; simp only [Bool.or_eq_true, Bool.and_eq_true, Bool.not_eq_true', Bool.and_eq_false_iff, decide_eq_true_eq, decide_eq_false_iff_not] at hb; omega)) (fun hb => ?_)
      refine At.skip ?_
      refine At.seq ?_
      refine At.seq (At.reg ?_)
      refine At.v (RunV.move rfl) rfl ?_
      refine At.v (RunV.lenSl rfl isl25) rfl ?_
      refine At.v (RunV.eqI rfl rfl) rfl ?_
      refine At.nil (At.keep (.cons (t := 1) rfl <| .cons (t := 2) rfl <| .cons (t := 3) rfl <| .cons (t := 7) rfl <| .cons (t := 8) rfl <| .cons (t := 64) rfl <| .nil) ?_)
      refine At.cond rfl (fun hl0 => ?_) (fun hl0 => ?_)
      · refine At.seq (At.reg ?_)
        refine At.v (RunV.assign rfl) rfl ?_
        refine At.nil (At.keep (.cons (t := 6) rfl <| .nil) ?_)
        refine At.ret ?_
        refine At.result1 rfl rfl ?_
        exact ⟨rfl, hO.le⟩
      · replace hl0 := of_decide_eq_false hl0
        have hkl : k < l.length := by omega
        refine At.skip ?_
        obtain ⟨n2, a2, hck2⟩ : ∃ n a, checkB p (l.take k) = (n, a) := ⟨_, _, rfl⟩
        refine At.seq (At.pi hmix (.take 0 (.take 1 (.take 2 (.take 3 (.run 4 (.take 5 (.take 6 (.take 7 (.take 8 (.take 9 .done)))))))))) (by kernel_rfl) (by kernel_rfl) ?_)
        intro w4 hs
        have hs0 := hs
        have hR := hO
        replace hO := hO.on hs
        refine At.take rfl (fun w' hs' => RunV.loadAgg ag24_1 rfl (((hR.at (i := 0) rfl).le hs').row) rfl) rfl ?_
        refine At.take rfl (fun w' hs' => RunV.move rfl) rfl ?_
        refine At.take rfl (fun w' hs' => RunV.move rfl) rfl ?_
        refine At.take rfl (fun w' hs' => RunV.sliceHi st25_32_9 rfl rfl rfl (by omega)) rfl ?_
        refine At.prunE hO hs rfl rfl pf8 rfl ((check_c p (l.take k) pv _ _ (hP.le hO.le) (SlOf.take (G := G0) (k := 9) (R := EvR) (hE.le hO.le) (j := k) (by omega)) (by rw [List.length_take]; omega)).mono fun v w' h => by rw [hck2] at h; exact h) rfl ?_
        intro w5 hO hs
        refine At.take rfl (fun w' hs' => RunV.move rfl) rfl ?_
        refine At.take rfl (fun w' hs' => RunV.extract rfl rfl) rfl ?_
        refine At.take rfl (fun w' hs' => RunV.extract rfl rfl) rfl ?_
        refine At.take rfl (fun w' hs' => RunV.assign rfl) rfl ?_
        refine At.take rfl (fun w' hs' => RunV.assign rfl) rfl ?_
        refine At.pdone (At.keep (.cons (t := 1) rfl <| .cons (t := 2) rfl <| .cons (t := 3) rfl <| .cons (t := 7) rfl <| .cons (t := 8) rfl <| .cons (t := 9) rfl <| .cons (t := 10) rfl <| .nil) ?_)
        refine At.seq (At.reg ?_)
        refine At.v (RunV.assign rfl) rfl ?_
        refine At.nil (At.keep (.cons (t := 1) rfl <| .cons (t := 2) rfl <| .cons (t := 3) rfl <| .cons (t := 7) rfl <| .cons (t := 8) rfl <| .cons (t := 9) rfl <| .cons (t := 10) rfl <| .cons (t := 11) rfl <| .nil) ?_)
        refine At.seq (At.reg ?_)
        refine At.v (RunV.move rfl) rfl ?_
        refine At.v (RunV.move rfl) rfl ?_
        refine At.v (RunV.move rfl) rfl ?_
        refine At.v (RunV.inc rfl rfl (by omega)) rfl ?_
        refine At.v (RunV.sliceHi st25_32_9 rfl rfl (show (k : Int) + 1 = ((k + 1 : Nat) : Int) by omega) (by omega)) rfl ?_
        have hS : Sl w5 (.slice none 0 0) 32 9 0 [] := .inl ⟨rfl, rfl, rfl⟩
        refine At.step rfl (Step.append st25_32_9 isl25 el32_9 rfl rfl hS (EvsR.src (SlOf.take (G := G0) (k := 9) (R := EvR) (hE.le hO.le) (j := (k + 1)) (by omega))) (flatE_len _) (flatE_one _) (by rw [List.length_take]; omega) ?_)
        intro v w6 hS hM
        have hA := (Apart.nil (B := w.heap.size)).moved hM hO hO.le.size hS
        replace hO := hO.moved hM Apart.nil (Nat.le_refl _)
        refine At.v (RunV.assign rfl) rfl ?_
        refine At.nil (At.keep (.cons (t := 2) rfl <| .cons (t := 3) rfl <| .cons (t := 7) rfl <| .cons (t := 8) rfl <| .cons (t := 9) rfl <| .cons (t := 10) rfl <| .cons (t := 11) rfl <| .nil) ?_)
        refine At.seq (At.reg ?_)
        refine At.v (RunV.move rfl) rfl ?_
        refine At.v (RunV.move rfl) rfl ?_
        refine At.step rfl (Step.append st25_32_9 isl25 el32_9 rfl rfl hS (EvsR.src (hQ.le hO.le)) (flatE_len _) (flatE_one _) (by rw [List.length_take]; omega) ?_)
        intro v w7 hS hM
        have hA1 := hA.moved hM hO hO.le.size hS
        replace hO := hO.moved hM hA (Nat.le_refl _)
        replace hA := hA1
        refine At.v (RunV.assign rfl) rfl ?_
        refine At.nil (At.keep (.cons (t := 3) rfl <| .cons (t := 7) rfl <| .cons (t := 8) rfl <| .cons (t := 9) rfl <| .cons (t := 10) rfl <| .cons (t := 11) rfl <| .nil) ?_)
        refine At.seq (At.reg ?_)
        refine At.v (RunV.loadAgg ag24_1 rfl ((hO.at (i := 0) rfl).row) rfl) rfl ?_
        refine At.v (RunV.move rfl) rfl ?_
        refine At.callE hO rfl pf8 rfl ((check_c p (l.take (k + 1) ++ more) pv _ _ (hP.le hO.le) (EvsR.ofSl hS (by rw [List.nil_append, ← flatE_app]) (by rw [List.length_append]; omega) (by rw [List.length_append, List.length_take]; omega)) (by rw [List.length_append, List.length_take]; omega)).mono fun v w' h => by rw [h5 more] at h; exact h) rfl ?_
        intro w8 hO hl
        refine At.v (RunV.move rfl) rfl ?_
        refine At.v (RunV.extract rfl rfl) rfl ?_
        refine At.v (RunV.extract rfl rfl) rfl ?_
        refine At.v (RunV.assign rfl) rfl ?_
        refine At.v (RunV.assign rfl) rfl ?_
        refine At.nil (At.keep (.cons (t := 7) rfl <| .cons (t := 8) rfl <| .cons (t := 9) rfl <| .cons (t := 10) rfl <| .cons (t := 12) rfl <| .cons (t := 13) rfl <| .nil) ?_)
        refine At.seq (At.reg ?_)
        refine At.v (RunV.move rfl) rfl ?_
        refine At.v (RunV.eqI rfl rfl) rfl ?_
        refine At.v (RunV.move rfl) rfl ?_
        refine At.g (Guard.t rfl rfl rfl) (fun hc => RunV.move rfl) rfl ?_
        refine At.g (Guard.t rfl rfl rfl) (fun hc => RunV.move rfl) rfl ?_
        refine At.g (Guard.t rfl rfl rfl) (fun hc => RunV.eqI (gvE rfl hc) (gvE rfl hc)) rfl ?_
        refine At.v (RunV.pickAnd rfl rfl) rfl ?_
        refine At.v (RunV.move rfl) rfl ?_
        refine At.g (Guard.f rfl rfl rfl) (fun hc => RunV.move rfl) rfl ?_
        refine At.g (Guard.f rfl rfl rfl) (fun hc => RunV.eqI (gvE rfl hc) rfl) rfl ?_
        refine At.keep (.cons (t := 7) rfl <| .cons (t := 8) rfl <| .cons (t := 12) rfl <| .cons (t := 13) rfl <| .cons (t := 95) rfl <| .cons (t := 97) rfl <| .nil) ?_
        refine At.g (Guard.f rfl rfl rfl) (fun hc => RunV.move (gvE rfl hc)) rfl ?_
        refine At.g (Guard.gt rfl rfl rfl) (fun hc => RunV.move rfl) rfl ?_
        refine At.g (Guard.gt rfl rfl rfl) (fun hc => RunV.eqI (gvE rfl hc) rfl) rfl ?_
        refine At.g (Guard.f rfl rfl rfl) (fun hc => RunV.pickAnd (gvE rfl hc) (gvE2 rfl hc)) rfl ?_
        refine At.v (RunV.pickOr rfl rfl) rfl ?_
        refine At.v (RunV.move rfl) rfl ?_
        refine At.g (Guard.t rfl rfl rfl) (fun hc => RunV.move rfl) rfl ?_
        refine At.g (Guard.t rfl rfl rfl) (fun hc => RunV.move rfl) rfl ?_
        refine At.g (Guard.t rfl rfl rfl) (fun hc => RunV.eqI (gvE rfl hc) (gvE rfl hc)) rfl ?_
        refine At.v (RunV.pickAnd rfl rfl) rfl ?_
        refine At.keep (.cons (t := 8) rfl <| .cons (t := 13) rfl <| .cons (t := 107) rfl <| .nil) ?_
        refine At.v (RunV.move rfl) rfl ?_
        refine At.g (Guard.t rfl rfl rfl) (fun hc => RunV.move rfl) rfl ?_
        refine At.g (Guard.t rfl rfl rfl) (fun hc => RunV.move rfl) rfl ?_
        refine At.g (Guard.t rfl rfl rfl) (fun hc => RunV.eqI (gvE rfl hc) (gvE rfl hc)) rfl ?_
        refine At.v (RunV.pickAnd rfl rfl) rfl ?_
        refine At.v (RunV.assign rfl) rfl ?_
        refine At.nil (At.keep (.cons (t := 6) rfl <| .nil) ?_)
        refine At.ret ?_
        refine At.result1 rfl rfl ?_
        refine ⟨?_, hO.le⟩
        congr 1
        rcases h4 with h4 | ⟨rfl, rfl⟩
        · rw [hck2] at h4; cases h4; simp
        · simp

end Go.Proofs.Ytglilmcfhkedbaa
