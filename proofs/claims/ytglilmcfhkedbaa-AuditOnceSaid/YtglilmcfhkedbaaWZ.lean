/- The walk of AuditRefused; no condition. -/
import Derived.Test.YtglilmcfhkedbaaWY
namespace Go.Proofs.Ytglilmcfhkedbaa
open Go Go.RowKit



/-- The refused event that the law puts in. -/
def exR : Ev := ⟨1, 0, 0, -1, 99, nX, 0, 0, false⟩

set_option maxHeartbeats 1600000 in
theorem refused_law_c (p : Prg) (l : List Ev) (a : Int) (pv ev : Value) (w : World) (hP : PrgR G0 w pv p) (hE : EvsR G0 w ev l) :
    Ret Try.prog 4 [.agg [pv].toArray, ev, .int .i64 a] w fun v w' => v = .bool true ∧ Le w w' := by
  refine Ret.enter Try.func4 rfl Try.ntmps4 rfl rfl ?_
  have hO := Own.start w
  obtain ⟨ea, ec, rfl, hele, hecap⟩ := SlOf.val hE
  refine At.seq (At.reg ?_)
  refine At.step rfl (Step.box hO rfl rfl ?_)
  intro b3 w1 hO hlb3 hnb3
  refine At.v (RunV.assign rfl) rfl ?_
  refine At.nil (At.keep (.cons (t := 1) rfl <| .cons (t := 2) rfl <| .cons (t := 3) rfl <| .nil) ?_)
  refine At.seq ?_
  refine At.seq (At.reg ?_)
  refine At.callE hO rfl pf7 rfl (alive_c _) rfl ?_
  intro w2 hO hl
  refine At.v (RunV.not rfl) rfl ?_
  refine At.nil (At.keep (.cons (t := 1) rfl <| .cons (t := 2) rfl <| .cons (t := 3) rfl <| .cons (t := 13) rfl <| .nil) ?_)
  refine At.cond rfl (fun h1 => absurd h1 Bool.false_ne_true) (fun h1 => ?_)
  refine At.skip ?_
  refine At.seq ?_
  refine At.seq (At.reg ?_)
  refine At.v (RunV.move rfl) rfl ?_
  refine At.v (RunV.lenSl rfl isl25) rfl ?_
  refine At.v (RunV.gtI rfl rfl) rfl ?_
  refine At.v (RunV.move rfl) rfl ?_
  refine At.g (Guard.f rfl rfl rfl) (fun hc => RunV.move rfl) rfl ?_
  refine At.g (Guard.f rfl rfl rfl) (fun hc => RunV.ltI (gvE rfl hc) rfl) rfl ?_
  refine At.v (RunV.pickOr rfl rfl) rfl ?_
  refine At.v (RunV.move rfl) rfl ?_
  refine At.g (Guard.f rfl rfl rfl) (fun hc => RunV.move rfl) rfl ?_
  refine At.g (Guard.f rfl rfl rfl) (fun hc => RunV.move rfl) rfl ?_
  refine At.keep (.cons (t := 1) rfl <| .cons (t := 2) rfl <| .cons (t := 3) rfl <| .cons (t := 21) rfl <| .cons (t := 22) rfl <| .cons (t := 23) rfl <| .nil) ?_
  refine At.g (Guard.f rfl rfl rfl) (fun hc => RunV.lenSl (gvE rfl hc) isl25) rfl ?_
  refine At.g (Guard.f rfl rfl rfl) (fun hc => RunV.gtI (gvE rfl hc) (gvE rfl hc)) rfl ?_
  refine At.v (RunV.pickOr rfl rfl) rfl ?_
  refine At.nil (At.keep (.cons (t := 1) rfl <| .cons (t := 2) rfl <| .cons (t := 3) rfl <| .cons (t := 26) rfl <| .nil) ?_)
  refine At.cond rfl (fun hg => ?_) (fun hg => ?_)
  · refine At.seq (At.reg ?_)
    refine At.v (RunV.assign rfl) rfl ?_
    refine At.nil (At.keep (.cons (t := 6) rfl <| .nil) ?_)
    refine At.ret ?_
    refine At.result1 rfl rfl ?_
    exact ⟨rfl, hO.le⟩
  · replace hg : l.length ≤ 300 ∧ 1 ≤ a ∧ a ≤ (l.length : Int) := by simp at hg; omega
    obtain ⟨k, rfl⟩ : ∃ k : Nat, a = (k : Int) := ⟨a.toNat, by omega⟩
    refine At.skip ?_
    obtain ⟨n, wh, hck, hwl⟩ := checkB_at p l
    refine At.seq (At.reg ?_)
    refine At.v (RunV.loadAgg ag24_1 rfl ((hO.at (i := 0) rfl).row) rfl) rfl ?_
    refine At.v (RunV.move rfl) rfl ?_
    refine At.callE hO rfl pf8 rfl ((check_c p l pv _ _ (hP.le hO.le) (hE.le hO.le) (by omega)).mono fun v w' h => by rw [hck] at h; exact h) rfl ?_
    intro w3 hO hl
    refine At.v (RunV.move rfl) rfl ?_
    refine At.v (RunV.extract rfl rfl) rfl ?_
    refine At.v (RunV.extract rfl rfl) rfl ?_
    refine At.v (RunV.assign rfl) rfl ?_
    refine At.v (RunV.assign rfl) rfl ?_
    refine At.nil (At.keep (.cons (t := 1) rfl <| .cons (t := 2) rfl <| .cons (t := 3) rfl <| .cons (t := 7) rfl <| .cons (t := 8) rfl <| .nil) ?_)
    refine At.seq (At.reg ?_)
    refine At.v (RunV.assign rfl) rfl ?_
    refine At.nil (At.keep (.cons (t := 1) rfl <| .cons (t := 2) rfl <| .cons (t := 3) rfl <| .cons (t := 7) rfl <| .cons (t := 8) rfl <| .cons (t := 9) rfl <| .nil) ?_)
    refine At.seq (At.reg ?_)
    refine At.v (RunV.move rfl) rfl ?_
    refine At.v (RunV.move rfl) rfl ?_
    refine At.v (RunV.move rfl) rfl ?_
    refine At.v (RunV.sliceHi st25_32_9 rfl rfl rfl (by omega)) rfl ?_
    have hS : Sl w3 (.slice none 0 0) 32 9 0 [] := .inl ⟨rfl, rfl, rfl⟩
    refine At.step rfl (Step.append st25_32_9 isl25 el32_9 rfl rfl hS (EvsR.src (SlOf.take (G := G0) (k := 9) (R := EvR) (hE.le hO.le) (j := k) (by omega))) (flatE_len _) (flatE_one _) (by rw [List.length_take]; omega) ?_)
    intro v w4 hS hM
    have hA := (Apart.nil (B := w.heap.size)).moved hM hO hO.le.size hS
    replace hO := hO.moved hM Apart.nil (Nat.le_refl _)
    refine At.v (RunV.assign rfl) rfl ?_
    refine At.nil (At.keep (.cons (t := 1) rfl <| .cons (t := 2) rfl <| .cons (t := 3) rfl <| .cons (t := 7) rfl <| .cons (t := 8) rfl <| .cons (t := 9) rfl <| .nil) ?_)
    refine At.seq (At.reg ?_)
    refine At.v (RunV.move rfl) rfl ?_
    refine At.v (RunV.build pl32 zt32 rfl rfl) rfl ?_
    refine At.step rfl (Step.buildSlice hO st25_32_9 zt32 rfl rfl rfl rfl (fill_full rfl rfl) ?_)
    intro b40 w5 hO hlb40 hnb40
    replace hA := (hA.add hnb40).grow hlb40.size
    replace hS := hS.le hlb40
    refine At.step rfl (Step.append st25_32_9 isl25 el32_9 rfl rfl hS ⟨_, _, rfl, .inr ⟨b40, 0, rfl, (hO.at (i := 0) rfl).row⟩⟩ rfl rfl (by rw [List.length_take]; omega) ?_)
    intro v w6 hS hM
    have hA1 := hA.moved hM hO hO.le.size hS
    replace hO := hO.moved hM hA (Nat.le_refl _)
    replace hA := hA1
    refine At.v (RunV.assign rfl) rfl ?_
    refine At.nil (At.keep (.cons (t := 1) rfl <| .cons (t := 2) rfl <| .cons (t := 3) rfl <| .cons (t := 7) rfl <| .cons (t := 8) rfl <| .cons (t := 9) rfl <| .nil) ?_)
    refine At.seq (At.reg ?_)
    refine At.v (RunV.move rfl) rfl ?_
    refine At.v (RunV.move rfl) rfl ?_
    refine At.v (RunV.move rfl) rfl ?_
    refine At.v (RunV.sliceLo st25_32_9 rfl rfl rfl (by omega)) rfl ?_
    refine At.step rfl (Step.append st25_32_9 isl25 el32_9 rfl rfl hS (EvsR.src (SlOf.tail (G := G0) (k := 9) (R := EvR) (hE.le hO.le) (j := k) (by omega))) (flatE_len _) (flatE_one _) (by rw [List.length_take, List.length_drop]; omega) ?_)
    intro v w7 hS hM
    have hA1 := hA.moved hM hO hO.le.size hS
    replace hO := hO.moved hM hA (Nat.le_refl _)
    replace hA := hA1
    refine At.v (RunV.assign rfl) rfl ?_
    refine At.nil (At.keep (.cons (t := 2) rfl <| .cons (t := 3) rfl <| .cons (t := 7) rfl <| .cons (t := 8) rfl <| .cons (t := 9) rfl <| .nil) ?_)
    have hci : checkB p (l.take k ++ exR :: l.drop k) = (n, if (k : Int) ≤ (wh : Int) then (wh : Int) + 1 else (wh : Int)) := by
      have := check_insert p l k (by omega) (by omega) exR rfl
      rw [hck] at this; exact this
    refine At.seq (At.reg ?_)
    refine At.v (RunV.loadAgg ag24_1 rfl ((hO.at (i := 1) rfl).row) rfl) rfl ?_
    refine At.v (RunV.move rfl) rfl ?_
    refine At.callE hO rfl pf8 rfl ((check_c p (l.take k ++ exR :: l.drop k) pv _ _ (hP.le hO.le) (EvsR.ofSl hS (by rw [List.nil_append, List.append_assoc, flatE_app]; rfl) (by rw [List.length_append, List.length_cons]; omega) (by rw [List.length_append, List.length_cons, List.length_take, List.length_drop]; omega)) (by rw [List.length_append, List.length_cons, List.length_take, List.length_drop]; omega)).mono fun v w' h => by rw [hci] at h; exact h) rfl ?_
    intro w8 hO hl
    refine At.v (RunV.move rfl) rfl ?_
    refine At.v (RunV.extract rfl rfl) rfl ?_
    refine At.v (RunV.extract rfl rfl) rfl ?_
    refine At.v (RunV.assign rfl) rfl ?_
    refine At.v (RunV.assign rfl) rfl ?_
    refine At.nil (At.keep (.cons (t := 2) rfl <| .cons (t := 7) rfl <| .cons (t := 8) rfl <| .cons (t := 10) rfl <| .cons (t := 11) rfl <| .nil) ?_)
    refine At.seq ?_
    refine At.seq (At.reg ?_)
    refine At.v (RunV.move rfl) rfl ?_
    refine At.v (RunV.eqI rfl rfl) rfl ?_
    refine At.v (RunV.move rfl) rfl ?_
    refine At.g (Guard.t rfl rfl rfl) (fun hc => RunV.move rfl) rfl ?_
    refine At.g (Guard.t rfl rfl rfl) (fun hc => RunV.eqI (gvE rfl hc) rfl) rfl ?_
    refine At.v (RunV.pickAnd rfl rfl) rfl ?_
    refine At.nil (At.keep (.cons (t := 2) rfl <| .cons (t := 7) rfl <| .cons (t := 8) rfl <| .cons (t := 10) rfl <| .cons (t := 11) rfl <| .cons (t := 58) rfl <| .nil) ?_)
    refine At.cond rfl (fun h11 => ?_) (fun h11 => ?_)
    · refine At.seq (At.reg ?_)
      refine At.v (RunV.move rfl) rfl ?_
      refine At.v (RunV.eqI rfl rfl) rfl ?_
      refine At.v (RunV.move rfl) rfl ?_
      refine At.g (Guard.t rfl rfl rfl) (fun hc => RunV.move rfl) rfl ?_
      refine At.g (Guard.t rfl rfl rfl) (fun hc => RunV.eqI (gvE rfl hc) rfl) rfl ?_
      refine At.v (RunV.pickAnd rfl rfl) rfl ?_
      refine At.v (RunV.assign rfl) rfl ?_
      refine At.nil (At.keep (.cons (t := 6) rfl <| .nil) ?_)
      refine At.ret ?_
      refine At.result1 rfl rfl ?_
      refine ⟨?_, hO.le⟩
      obtain ⟨e1, e2⟩ : n = 1 ∧ wh = 0 := by simp at h11; omega
      subst e1 e2
      rw [if_neg (by omega)]; rfl
    · refine At.skip ?_
      refine At.seq ?_
      refine At.seq (At.reg ?_)
      refine At.v (RunV.move rfl) rfl ?_
      refine At.v (RunV.move rfl) rfl ?_
      refine At.v (RunV.geI rfl rfl) rfl ?_
      refine At.nil (At.keep (.cons (t := 7) rfl <| .cons (t := 8) rfl <| .cons (t := 10) rfl <| .cons (t := 11) rfl <| .cons (t := 67) rfl <| .nil) ?_)
      refine At.cond rfl (fun h13 => ?_) (fun h13 => ?_)
      · refine At.reg ?_
        refine At.v (RunV.move rfl) rfl ?_
        refine At.v (RunV.inc rfl rfl (by omega)) rfl ?_
        refine At.v (RunV.assign rfl) rfl ?_
        refine At.nil (At.keep (.cons (t := 7) rfl <| .cons (t := 8) rfl <| .cons (t := 10) rfl <| .cons (t := 11) rfl <| .nil) ?_)
        refine At.seq (At.reg ?_)
        refine At.v (RunV.move rfl) rfl ?_
        refine At.v (RunV.move rfl) rfl ?_
        refine At.v (RunV.eqI rfl rfl) rfl ?_
        refine At.v (RunV.move rfl) rfl ?_
        refine At.g (Guard.t rfl rfl rfl) (fun hc => RunV.move rfl) rfl ?_
        refine At.g (Guard.t rfl rfl rfl) (fun hc => RunV.move rfl) rfl ?_
        refine At.g (Guard.t rfl rfl rfl) (fun hc => RunV.eqI (gvE rfl hc) (gvE rfl hc)) rfl ?_
        refine At.v (RunV.pickAnd rfl rfl) rfl ?_
        refine At.v (RunV.assign rfl) rfl ?_
        refine At.nil (At.keep (.cons (t := 6) rfl <| .nil) ?_)
        refine At.ret ?_
        refine At.result1 rfl rfl ?_
        refine ⟨?_, hO.le⟩
        rw [if_pos (of_decide_eq_true h13)]; simp
      · refine At.skip ?_
        refine At.seq (At.reg ?_)
        refine At.v (RunV.move rfl) rfl ?_
        refine At.v (RunV.move rfl) rfl ?_
        refine At.v (RunV.eqI rfl rfl) rfl ?_
        refine At.v (RunV.move rfl) rfl ?_
        refine At.g (Guard.t rfl rfl rfl) (fun hc => RunV.move rfl) rfl ?_
        refine At.g (Guard.t rfl rfl rfl) (fun hc => RunV.move rfl) rfl ?_
        refine At.g (Guard.t rfl rfl rfl) (fun hc => RunV.eqI (gvE rfl hc) (gvE rfl hc)) rfl ?_
        refine At.v (RunV.pickAnd rfl rfl) rfl ?_
        refine At.v (RunV.assign rfl) rfl ?_
        refine At.nil (At.keep (.cons (t := 6) rfl <| .nil) ?_)
        refine At.ret ?_
        refine At.result1 rfl rfl ?_
        refine ⟨?_, hO.le⟩
        rw [if_neg (of_decide_eq_false h13)]; simp

end Go.Proofs.Ytglilmcfhkedbaa
