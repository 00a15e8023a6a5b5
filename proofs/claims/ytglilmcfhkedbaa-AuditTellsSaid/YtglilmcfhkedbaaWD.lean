/- The walk of slices.Insert, at the head of a slice of ints; no condition. -/
import Derived.Test.YtglilmcfhkedbaaWC
import Derived.Test.YtglilmcfhkedbaaIns
namespace Go.Proofs.Ytglilmcfhkedbaa
open Go Go.RowKit

theorem el3_1 : elemT Try.prog 3 1 = true := by kernel_rfl
theorem un3 : Try.prog.underlying 3 = some (.int .i64) := by kernel_rfl
theorem zt3 : zeroT Try.prog 3 [.int .i64 0] := by unfold zeroT; kernel_rfl

theorem insert0_c (a : Option Addr) (c bv : Nat) (x : Value) (w : World) (hS : Sl w (.slice a 0 c) 3 1 0 []) (hv : Src w (.slice (some ⟨bv, 0, none⟩) 1 1) 1 [x]) (hx1 : [x].all (·.oneCell') = true) :
    Ret Try.prog 65 [.slice a 0 c, .int .i64 0, .slice (some ⟨bv, 0, none⟩) 1 1] w fun v w' => ∃ ys, Sl w' v 3 1 (0 + 1) ys ∧ ys.all (·.oneCell') = true ∧ Moved w w' (.slice a 0 c) v := by
  refine Ret.enter Try.func65 rfl Try.ntmps65 rfl rfl ?_
  have hO := Own.start w
  refine At.seq (At.reg ?_)
  refine At.v (RunV.assign rfl) rfl ?_
  refine At.nil (At.keep (.cons (t := 0) rfl <| .cons (t := 1) rfl <| .cons (t := 2) rfl <| .nil) ?_)
  refine At.seq (At.reg ?_)
  refine At.v (RunV.move rfl) rfl ?_
  refine At.v (RunV.move rfl) rfl ?_
  refine At.v (RunV.sliceLo0 st97_3_1 rfl rfl) rfl ?_
  refine At.nil (At.keep (.cons (t := 0) rfl <| .cons (t := 1) rfl <| .cons (t := 2) rfl <| .nil) ?_)
  refine At.seq (At.reg ?_)
  refine At.v (RunV.move rfl) rfl ?_
  refine At.v (RunV.lenSl rfl isl97) rfl ?_
  refine At.v (RunV.assign rfl) rfl ?_
  refine At.nil (At.keep (.cons (t := 0) rfl <| .cons (t := 1) rfl <| .cons (t := 2) rfl <| .cons (t := 7) rfl <| .nil) ?_)
  refine At.seq ?_
  refine At.seq (At.reg ?_)
  refine At.v (RunV.move rfl) rfl ?_
  refine At.v (RunV.eqI rfl rfl) rfl ?_
  refine At.nil (At.keep (.cons (t := 0) rfl <| .cons (t := 1) rfl <| .cons (t := 2) rfl <| .cons (t := 7) rfl <| .cons (t := 16) rfl <| .nil) ?_)
  refine At.cond rfl (fun h1 => absurd h1 (by decide)) (fun h1 => ?_)
  refine At.skip ?_
  refine At.seq (At.reg ?_)
  refine At.v (RunV.move rfl) rfl ?_
  refine At.v (RunV.lenSl rfl isl97) rfl ?_
  refine At.v (RunV.assign rfl) rfl ?_
  refine At.nil (At.keep (.cons (t := 0) rfl <| .cons (t := 1) rfl <| .cons (t := 2) rfl <| .cons (t := 7) rfl <| .cons (t := 8) rfl <| .nil) ?_)
  refine At.seq ?_
  refine At.seq (At.reg ?_)
  refine At.v (RunV.move rfl) rfl ?_
  refine At.v (RunV.move rfl) rfl ?_
  refine At.v (RunV.eqI rfl rfl) rfl ?_
  refine At.nil (At.keep (.cons (t := 0) rfl <| .cons (t := 1) rfl <| .cons (t := 2) rfl <| .cons (t := 7) rfl <| .cons (t := 8) rfl <| .cons (t := 22) rfl <| .nil) ?_)
  refine At.cond rfl (fun h2 => ?_) (fun h2 => absurd h2 (by decide))
  refine At.seq (At.reg ?_)
  refine At.v (RunV.move rfl) rfl ?_
  refine At.v (RunV.move rfl) rfl ?_
  refine At.step rfl (Step.append st97_3_1 isl97 el3_1 rfl rfl hS hv rfl hx1 (by decide) ?_)
  intro v w1 hS hM
  refine At.v (RunV.assign rfl) rfl ?_
  refine At.nil (At.keep (.cons (t := 6) rfl <| .nil) ?_)
  refine At.ret ?_
  refine At.result1 rfl rfl ?_
  exact ⟨_, hS, by simpa using hx1, hM⟩

theorem all_cons {x : Value} {xs : List Value} (h : [x].all (·.oneCell') = true) (k : xs.all (·.oneCell') = true) : (x :: xs).all (·.oneCell') = true := by
  rw [List.all_cons, k, Bool.and_true]
  simpa using h
theorem Row.take {w : World} {b off k : Nat} {cs : List Value} (h : Row w b off cs) : Row w b off (cs.take k) := fun i v hv => by
  rw [List.getElem?_take] at hv
  split at hv
  · exact h i v hv
  · cases hv
theorem take_ins {cs cs2 : List Value} {x : Value} {n nc : Nat} (hl : cs2.length = nc) (hn : n + 1 ≤ nc) (hc : n ≤ cs.length) :
    (((cs2.take 0 ++ [x] ++ cs2.drop (0 + [x].length)).take 1) ++ cs.take n ++ (cs2.take 0 ++ [x] ++ cs2.drop (0 + [x].length)).drop (1 + (cs.take n).length)).take (n + 1) = x :: cs.take n := by
  have h1 : (cs.take n).length = n := by rw [List.length_take]; omega
  simp [List.take_append_of_le_length, h1]
theorem take_ins2 {cs : List Value} {x : Value} {n cap : Nat} (hl : cs.length = cap) (hn : n + 1 ≤ cap) (hc : n ≤ cs.length) :
    (((cs.take 1 ++ cs.take n ++ cs.drop (1 + (cs.take n).length)).take 0) ++ [x] ++ (cs.take 1 ++ cs.take n ++ cs.drop (1 + (cs.take n).length)).drop (0 + [x].length)).take (n + 1) = x :: cs.take n := by
  have h1 : (cs.take n).length = n := by rw [List.length_take]; omega
  have h2 : (cs.take 1).length = 1 := by rw [List.length_take]; omega
  simp [h1, h2, List.drop_append, List.take_append]

set_option maxHeartbeats 800000 in
theorem insert1_c (b cap n bv : Nat) (cs : List Value) (x : Value) (w : World) (hb : Blk w b cs 3) (hl : cs.length = cap) (hn : n ≤ cap) (h0 : 1 ≤ n) (hm : n ≤ 1000000) (hcs : (cs.take n).all (·.oneCell') = true) (hbv : Blk w bv [x] 3) (hne : bv ≠ b) (hx1 : [x].all (·.oneCell') = true) :
    Ret Try.prog 65 [.slice (some ⟨b, 0, none⟩) n cap, .int .i64 0, .slice (some ⟨bv, 0, none⟩) 1 1] w fun v w' => ∃ ys, Sl w' v 3 1 (n + 1) ys ∧ ys.all (·.oneCell') = true ∧ Moved w w' (.slice (some ⟨b, 0, none⟩) n cap) v := by
  refine Ret.enter Try.func65 rfl Try.ntmps65 rfl rfl ?_
  have hO := Own.start w
  refine At.seq (At.reg ?_)
  refine At.v (RunV.assign rfl) rfl ?_
  refine At.nil (At.keep (.cons (t := 0) rfl <| .cons (t := 1) rfl <| .cons (t := 2) rfl <| .nil) ?_)
  refine At.seq (At.reg ?_)
  refine At.v (RunV.move rfl) rfl ?_
  refine At.v (RunV.move rfl) rfl ?_
  refine At.v (RunV.sliceLo0 st97_3_1 rfl rfl) rfl ?_
  refine At.nil (At.keep (.cons (t := 0) rfl <| .cons (t := 1) rfl <| .cons (t := 2) rfl <| .nil) ?_)
  refine At.seq (At.reg ?_)
  refine At.v (RunV.move rfl) rfl ?_
  refine At.v (RunV.lenSl rfl isl97) rfl ?_
  refine At.v (RunV.assign rfl) rfl ?_
  refine At.nil (At.keep (.cons (t := 0) rfl <| .cons (t := 1) rfl <| .cons (t := 2) rfl <| .cons (t := 7) rfl <| .nil) ?_)
  refine At.seq ?_
  refine At.seq (At.reg ?_)
  refine At.v (RunV.move rfl) rfl ?_
  refine At.v (RunV.eqI rfl rfl) rfl ?_
  refine At.nil (At.keep (.cons (t := 0) rfl <| .cons (t := 1) rfl <| .cons (t := 2) rfl <| .cons (t := 7) rfl <| .cons (t := 16) rfl <| .nil) ?_)
  refine At.cond rfl (fun h1 => absurd h1 (by decide)) (fun h1 => ?_)
  refine At.skip ?_
  refine At.seq (At.reg ?_)
  refine At.v (RunV.move rfl) rfl ?_
  refine At.v (RunV.lenSl rfl isl97) rfl ?_
  refine At.v (RunV.assign rfl) rfl ?_
  refine At.nil (At.keep (.cons (t := 0) rfl <| .cons (t := 1) rfl <| .cons (t := 2) rfl <| .cons (t := 7) rfl <| .cons (t := 8) rfl <| .nil) ?_)
  refine At.seq ?_
  refine At.seq (At.reg ?_)
  refine At.v (RunV.move rfl) rfl ?_
  refine At.v (RunV.move rfl) rfl ?_
  refine At.v (RunV.eqI rfl rfl) rfl ?_
  refine At.nil (At.keep (.cons (t := 0) rfl <| .cons (t := 1) rfl <| .cons (t := 2) rfl <| .cons (t := 7) rfl <| .cons (t := 8) rfl <| .cons (t := 22) rfl <| .nil) ?_)
  refine At.cond rfl (fun h2 => absurd h2 (by have := of_decide_eq_true h2; omega)) (fun h2 => ?_)
  refine At.skip ?_
  refine At.seq ?_
  refine At.seq (At.reg ?_)
  refine At.v (RunV.move rfl) rfl ?_
  refine At.v (RunV.move rfl) rfl ?_
  refine At.v (RunV.addI rfl rfl (wrap_in (by omega) (by omega))) rfl ?_
  refine At.v (RunV.move rfl) rfl ?_
  refine At.v (RunV.capSl rfl isl97) rfl ?_
  refine At.v (RunV.gtI rfl rfl) rfl ?_
  refine At.nil (At.keep (.cons (t := 0) rfl <| .cons (t := 1) rfl <| .cons (t := 2) rfl <| .cons (t := 7) rfl <| .cons (t := 8) rfl <| .cons (t := 31) rfl <| .nil) ?_)
  refine At.cond rfl (fun hc => ?_) (fun hc => ?_)
  · have hg : cap < n + 1 := by have := of_decide_eq_true hc; omega
    refine At.seq (At.reg ?_)
    refine At.v (RunV.move rfl) rfl ?_
    refine At.v (RunV.move rfl) rfl ?_
    refine At.v (RunV.sliceHi (j := 0) st97_3_1 rfl rfl rfl (by omega)) rfl ?_
    refine At.v (RunV.move rfl) rfl ?_
    refine At.v (RunV.move rfl) rfl ?_
    refine At.v (RunV.addI rfl rfl (wrap_in (by omega) (by omega))) rfl ?_
    refine At.v (RunV.move rfl) rfl ?_
    refine At.v (RunV.subI rfl rfl (wrap_in (by omega) (by omega))) rfl ?_
    refine At.step rfl (Step.appendZ (m := n + 1) st97_3_1 el3_1 zt3 un3 rfl rfl (by omega) (by omega) hg ?_)
    intro g nc cs2 w1 hl2 hg2 hb2 hl3 hn3 ha2
    refine At.v (RunV.assign rfl) rfl ?_
    refine At.nil (At.keep (.cons (t := 0) rfl <| .cons (t := 1) rfl <| .cons (t := 2) rfl <| .cons (t := 7) rfl <| .cons (t := 9) rfl <| .nil) ?_)
    refine At.seq (At.reg ?_)
    refine At.v (RunV.move rfl) rfl ?_
    refine At.v (RunV.move rfl) rfl ?_
    refine At.v (RunV.sliceLo0 st97_3_1 rfl rfl) rfl ?_
    refine At.v (RunV.move rfl) rfl ?_
    refine At.step rfl (Step.copy st97_3_1 rfl rfl hb2 (hbv.le hl2).row (by simp) (by simp; omega) hx1 ?_)
    intro w2 hB3 hb3
    refine At.nil (At.keep (.cons (t := 0) rfl <| .cons (t := 1) rfl <| .cons (t := 7) rfl <| .cons (t := 9) rfl <| .nil) ?_)
    have hl4 : Le w w2 := hB3.le hl2 hg2
    replace hO := hO.on hl4
    refine At.seq (At.pi hmix (.take 0 (.take 1 (.take 2 (.take 3 (.take 4 (.take 5 (.take 6 (.take 7 (.free 8 .done))))))))) (by kernel_rfl) (by kernel_rfl) ?_)
    intro w3 hs
    have hs0 := hs
    have hR := hO
    replace hO := hO.on hs
    refine At.take rfl (fun w' hs' => RunV.move rfl) rfl ?_
    refine At.take rfl (fun w' hs' => RunV.move rfl) rfl ?_
    refine At.take rfl (fun w' hs' => RunV.move rfl) rfl ?_
    refine At.take rfl (fun w' hs' => RunV.addI rfl rfl (wrap_in (by omega) (by omega))) rfl ?_
    refine At.take rfl (fun w' hs' => RunV.sliceLoN (j := 1) st97_3_1 rfl rfl (by omega) (by omega) (by omega)) rfl ?_
    refine At.take rfl (fun w' hs' => RunV.move rfl) rfl ?_
    refine At.take rfl (fun w' hs' => RunV.move rfl) rfl ?_
    refine At.take rfl (fun w' hs' => RunV.sliceLo0 st97_3_1 rfl rfl) rfl ?_
    refine At.pfree rfl rfl (Step.copy (cs := cs.take n) st97_3_1 rfl rfl (hb3.le hs) (Row.take ((hb.le hl4).le hs).row) (by simp; omega) (by simp; omega) hcs ?_)
    intro w4 hB4 hb4
    refine ⟨fun _ => True, trivial, ?_⟩
    refine At.pdone (At.keep (.cons (t := 9) rfl <| .nil) ?_)
    refine At.seq (At.reg ?_)
    refine At.v (RunV.move rfl) rfl ?_
    refine At.v (RunV.assign rfl) rfl ?_
    refine At.nil (At.keep (.cons (t := 6) rfl <| .nil) ?_)
    refine At.ret ?_
    refine At.result1 rfl rfl ?_
    refine ⟨x :: cs.take n, .inr ⟨g, nc, _, rfl, hb4, ?_, hn3, ?_⟩, all_cons hx1 hcs, .new rfl hg2 ?_⟩
    · simp; omega
    · rw [Nat.mul_one, Nat.mul_one]; exact take_ins hl3 hn3 (by omega)
    · exact hB4.le (hl4.tr hs) hg2
  · have hg : n + 1 ≤ cap := by have := of_decide_eq_false hc; omega
    refine At.skip ?_
    refine At.seq (At.reg ?_)
    refine At.v (RunV.move rfl) rfl ?_
    refine At.v (RunV.move rfl) rfl ?_
    refine At.v (RunV.move rfl) rfl ?_
    refine At.v (RunV.addI rfl rfl (wrap_in (by omega) (by omega))) rfl ?_
    refine At.v (RunV.sliceHi st97_3_1 rfl rfl rfl (by omega)) rfl ?_
    refine At.v (RunV.assign rfl) rfl ?_
    refine At.nil (At.keep (.cons (t := 0) rfl <| .cons (t := 1) rfl <| .cons (t := 2) rfl <| .cons (t := 7) rfl <| .cons (t := 8) rfl <| .nil) ?_)
    refine At.seq ?_
    refine At.seq (At.reg ?_)
    refine At.v (RunV.move rfl) rfl ?_
    refine At.v (RunV.move rfl) rfl ?_
    refine At.v (RunV.move rfl) rfl ?_
    refine At.v (RunV.move rfl) rfl ?_
    refine At.v (RunV.addI rfl rfl (wrap_in (by omega) (by omega))) rfl ?_
    refine At.v (RunV.sliceLoN (j := 1) st97_3_1 rfl rfl (by omega) (by omega) (by omega)) rfl ?_
    refine At.step rfl (Step.overlaps rfl rfl hne hbv hb (by omega) ?_)
    refine At.v (RunV.not rfl) rfl ?_
    refine At.nil (At.keep (.cons (t := 0) rfl <| .cons (t := 1) rfl <| .cons (t := 2) rfl <| .cons (t := 7) rfl <| .cons (t := 8) rfl <| .cons (t := 68) rfl <| .nil) ?_)
    refine At.cond rfl (fun h2 => ?_) (fun h2 => absurd h2 (by decide))
    refine At.seq (At.pi hmix (.take 0 (.take 1 (.take 2 (.take 3 (.take 4 (.take 5 (.take 6 (.take 7 (.free 8 .done))))))))) (by kernel_rfl) (by kernel_rfl) ?_)
    intro w6 hs
    have hs0 := hs
    have hR := hO
    replace hO := hO.on hs
    refine At.take rfl (fun w' hs' => RunV.move rfl) rfl ?_
    refine At.take rfl (fun w' hs' => RunV.move rfl) rfl ?_
    refine At.take rfl (fun w' hs' => RunV.move rfl) rfl ?_
    refine At.take rfl (fun w' hs' => RunV.addI rfl rfl (wrap_in (by omega) (by omega))) rfl ?_
    refine At.take rfl (fun w' hs' => RunV.sliceLoN (j := 1) st97_3_1 rfl rfl (by omega) (by omega) (by omega)) rfl ?_
    refine At.take rfl (fun w' hs' => RunV.move rfl) rfl ?_
    refine At.take rfl (fun w' hs' => RunV.move rfl) rfl ?_
    refine At.take rfl (fun w' hs' => RunV.sliceLo0 st97_3_1 rfl rfl) rfl ?_
    refine At.pfree rfl rfl (Step.copy (cs := cs.take n) st97_3_1 rfl rfl (hb.le hs) (Row.take (hb.le hs).row) (by simp; omega) (by simp; omega) hcs ?_)
    intro w7 hB4 hb4
    refine ⟨fun _ => True, trivial, ?_⟩
    refine At.pdone (At.keep (.cons (t := 0) rfl <| .cons (t := 1) rfl <| .cons (t := 2) rfl <| .nil) ?_)
    refine At.seq (At.reg ?_)
    refine At.v (RunV.move rfl) rfl ?_
    refine At.v (RunV.move rfl) rfl ?_
    refine At.v (RunV.sliceLo0 st97_3_1 rfl rfl) rfl ?_
    refine At.v (RunV.move rfl) rfl ?_
    refine At.step rfl (Step.copy st97_3_1 rfl rfl hb4 ((hbv.le hs).but hB4 hne).row (by simp) (by simp; omega) hx1 ?_)
    intro w8 hB5 hb5
    refine At.nil (At.keep (.cons (t := 0) rfl <| .nil) ?_)
    refine At.seq (At.reg ?_)
    refine At.v (RunV.move rfl) rfl ?_
    refine At.v (RunV.assign rfl) rfl ?_
    refine At.nil (At.keep (.cons (t := 6) rfl <| .nil) ?_)
    refine At.ret ?_
    refine At.result1 rfl rfl ?_
    refine ⟨x :: cs.take n, .inr ⟨b, cap, _, rfl, hb5, ?_, hg, ?_⟩, all_cons hx1 hcs, .here rfl rfl ?_⟩
    · simp; omega
    · rw [Nat.mul_one, Nat.mul_one]; exact take_ins2 hl hg (by omega)
    · exact But.trans (But.trans (Le.but hs) hB4) hB5

theorem insert_c (wv : Value) (n bv : Nat) (xs : List Value) (x : Value) (w : World) (hS : Sl w wv 3 1 n xs) (hx : xs.all (·.oneCell') = true) (hm : n ≤ 1000000) (hbv : Blk w bv [x] 3) (hne : ∀ a m c, wv = .slice (some a) m c → bv ≠ a.block) (hx1 : [x].all (·.oneCell') = true) :
    Ret Try.prog 65 [wv, .int .i64 0, .slice (some ⟨bv, 0, none⟩) 1 1] w fun v w' => ∃ ys, Sl w' v 3 1 (n + 1) ys ∧ ys.all (·.oneCell') = true ∧ Moved w w' wv v := by
  have hv : Src w (.slice (some ⟨bv, 0, none⟩) 1 1) 1 [x] := ⟨_, _, rfl, .inr ⟨bv, 0, rfl, hbv.row⟩⟩
  rcases hS with ⟨rfl, rfl, rfl⟩ | ⟨b, cap, cs, rfl, hb, hl, hn, he⟩
  · exact insert0_c none 0 bv x w (.inl ⟨rfl, rfl, rfl⟩) hv hx1
  · rw [Nat.mul_one] at hl he
    subst he
    rcases Nat.eq_zero_or_pos n with rfl | h0
    · exact insert0_c _ cap bv x w (.inr ⟨b, cap, cs, rfl, hb, by omega, hn, by simp⟩) hv hx1
    · exact insert1_c b cap n bv cs x w hb hl hn h0 hm hx hbv (hne _ _ _ rfl) hx1

end Go.Proofs.Ytglilmcfhkedbaa
