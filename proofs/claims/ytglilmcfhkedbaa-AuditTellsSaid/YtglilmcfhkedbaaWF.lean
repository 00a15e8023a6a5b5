/- The walks of check.Program and of what it calls; no condition. -/
import Derived.Test.YtglilmcfhkedbaaWE
namespace Go.Proofs.Ytglilmcfhkedbaa
open Go Go.RowKit

theorem ct61 : cellT Try.prog 61 = true := by kernel_rfl
theorem ct65 : cellT Try.prog 65 = true := by kernel_rfl
theorem ft63_1_1 : fieldT Try.prog 63 1 1 = true := by kernel_rfl
theorem ft67_1_1 : fieldT Try.prog 67 1 1 = true := by kernel_rfl
theorem ft67_2_2 : fieldT Try.prog 67 2 2 = true := by kernel_rfl
theorem ft67_3_3 : fieldT Try.prog 67 3 3 = true := by kernel_rfl
theorem sz103_2 : sizeT Try.prog 103 2 = true := by kernel_rfl
theorem sz60_4 : sizeT Try.prog 60 4 = true := by kernel_rfl
theorem sz63_2 : sizeT Try.prog 63 2 = true := by kernel_rfl
theorem sz67_5 : sizeT Try.prog 67 5 = true := by kernel_rfl
theorem zt103 : zeroT Try.prog 103 [.string ByteArray.empty, .int .i64 0] := by unfold zeroT; kernel_rfl
theorem zt60 : zeroT Try.prog 60 [.string ByteArray.empty, .bool false, .int .i64 0, .slice none 0 0] := by unfold zeroT; kernel_rfl
theorem zt63 : zeroT Try.prog 63 [.string ByteArray.empty, .slice none 0 0] := by unfold zeroT; kernel_rfl
theorem zt67 : zeroT Try.prog 67 [.string ByteArray.empty, .int .i64 0, .int .i64 0, .slice none 0 0, .slice none 0 0] := by unfold zeroT; kernel_rfl

set_option maxHeartbeats 1000000 in
theorem row_c (p : Prg) (k : Knd) (s : Stt) (i : Nat) (hi : i < s.rows.length) (pv kv ku sv : Value) (w : World) (hP : PrgR G0 w pv p) (hU : SlOf G0 2 (SttR G0) w ku k.states) (hS : SlOf G0 4 (RwR G0) w sv s.rows) :
    Ret Try.prog 72 [.agg [pv].toArray, .agg (k.cells kv ku).toArray, .agg (s.cells sv).toArray, .int .i64 (i : Int)] w fun v w' => PartP (rowOk p k s i) 1 w v w' := by
  refine Ret.enter Try.func72 rfl Try.ntmps72 rfl rfl ?_
  have hO := Own.start w
  obtain ⟨r, hx⟩ : ∃ r, s.rows[i]? = some r := ⟨_, List.getElem?_eq_getElem hi⟩
  obtain ⟨b, off, cap, cs, rfl, hle, hcl, hR, hrow⟩ := hS.at hx
  obtain ⟨rv, rfl, hE⟩ := hR
  obtain ⟨ea, ecap, rfl, hele, hecap⟩ := hE.val
  refine At.seq (At.reg ?_)
  refine At.step rfl (Step.box hO rfl rfl ?_)
  intro b4 w1 hO hlb4 hnb4
  refine At.step rfl (Step.box hO rfl rfl ?_)
  intro b5 w2 hO hlb5 hnb5
  refine At.step rfl (Step.box hO rfl rfl ?_)
  intro b6 w3 hO hlb6 hnb6
  refine At.v (RunV.assign rfl) rfl ?_
  refine At.nil (At.keep (.cons (t := 3) rfl <| .cons (t := 4) rfl <| .cons (t := 5) rfl <| .cons (t := 6) rfl <| .nil) ?_)
  refine At.seq (At.reg ?_)
  refine At.v (RunV.field ft63_1_1 rfl rfl) rfl ?_
  refine At.v (RunV.load ct61 rfl ((hO.at (i := 0) rfl).cell rfl)) rfl ?_
  refine At.v (RunV.move rfl) rfl ?_
  refine At.v (RunV.index st61_60_4 rfl rfl rfl hi rfl) rfl ?_
  refine At.v (RunV.loadAgg ag60_4 rfl (Row.le hrow hO.le) rfl) rfl ?_
  refine At.step rfl (Step.alloc hO zt60 ?_)
  intro b9 w4 hO hlb9 hnb9
  refine At.step_ (Step.storeAll hO rfl rfl rfl sz60_4 .here rfl rfl ?_)
  intro w5 hO hbut
  refine At.nil (At.keep (.cons (t := 3) rfl <| .cons (t := 4) rfl <| .cons (t := 5) rfl <| .cons (t := 6) rfl <| .cons (t := 9) rfl <| .nil) ?_)
  refine At.seq (At.reg ?_)
  refine At.v (RunV.field ft60_3_3 rfl rfl) rfl ?_
  refine At.v (RunV.load ct58 rfl ((hO.at (i := 0) rfl).cell rfl)) rfl ?_
  refine At.callE hO rfl pf86 rfl (contfE_c (R := EffR) (fun e => decide (e.act = 4)) r.effs _ 87 [] pf87 _ (hE.le hO.le (fun _ _ _ h => h)) (fun i x cs w' _ _ hl hR => by cases hR; exact row1_c x _)) rfl ?_
  intro w6 hO hl
  refine At.v (RunV.assign rfl) rfl ?_
  refine At.nil (At.keep (.cons (t := 3) rfl <| .cons (t := 4) rfl <| .cons (t := 5) rfl <| .cons (t := 6) rfl <| .cons (t := 9) rfl <| .cons (t := 10) rfl <| .nil) ?_)
  refine At.seq (At.pi hmix (.take 0 (.take 1 (.take 2 (.take 3 (.take 4 (.take 5 (.take 6 (.take 7 (.take 8 (.take 9 (.take 10 (.take 11 (.take 12 (.take 13 (.take 14 (.take 15 (.take 16 (.take 17 (.take 18 (.take 19 (.take 20 (.take 21 (.take 22 (.take 23 (.take 24 (.take 25 (.take 26 (.take 27 (.take 28 (.take 29 (.take 30 (.take 31 (.take 32 (.take 33 (.take 34 (.take 35 (.take 36 (.take 37 (.take 38 (.take 41 (.take 42 (.take 43 (.take 44 (.take 45 (.take 46 (.run 39 (.take 40 (.take 47 (.take 48 (.take 49 (.take 50 (.take 51 (.take 52 (.take 53 (.run 54 (.run 55 (.take 56 .done))))))))))))))))))))))))))))))))))))))))))))))))))))))))) (by kernel_rfl) (by kernel_rfl) ?_)
  intro w7 hs
  have hs0 := hs
  have hR := hO
  replace hO := hO.on hs
  refine At.take rfl (fun w' hs' => RunV.field ft60_0_0 rfl rfl) rfl ?_
  refine At.take rfl (fun w' hs' => RunV.load ct9 rfl (((hR.at (i := 0) rfl).le hs').cell rfl)) rfl ?_
  refine At.takeCall rfl rfl pf48 rfl (fun w' hs' => named_c _ _) rfl ?_
  refine At.take rfl (fun w' hs' => RunV.not rfl) rfl ?_
  refine At.take rfl (fun w' hs' => RunV.move rfl) rfl ?_
  refine At.takeG rfl (Guard.f rfl rfl rfl) (fun hc w' hs' => RunV.field ft60_1_1 rfl rfl) rfl ?_
  refine At.takeG rfl (Guard.f rfl rfl rfl) (fun hc w' hs' => RunV.load ct4 (gvE rfl hc) (((hR.at (i := 0) rfl).le hs').cell rfl)) rfl ?_
  refine At.takeG rfl (Guard.f rfl rfl rfl) (fun hc w' hs' => RunV.move (gvE rfl hc)) rfl ?_
  refine At.takeG rfl (Guard.gt rfl rfl rfl) (fun hc w' hs' => RunV.field ft60_0_0 rfl rfl) rfl ?_
  refine At.takeG rfl (Guard.gt rfl rfl rfl) (fun hc w' hs' => RunV.load ct9 (gvE rfl hc) (((hR.at (i := 0) rfl).le hs').cell rfl)) rfl ?_
  refine At.keep (.cons (t := 3) rfl <| .cons (t := 4) rfl <| .cons (t := 5) rfl <| .cons (t := 6) rfl <| .cons (t := 9) rfl <| .cons (t := 10) rfl <| .cons (t := 24) rfl <| .cons (t := 27) rfl <| .cons (t := 29) rfl <| .nil) ?_
  refine At.takeG rfl (Guard.gt rfl rfl rfl) (fun hc w' hs' => RunV.eqS (gvE rfl hc) rfl) rfl ?_
  refine At.takeG rfl (Guard.f rfl rfl rfl) (fun hc w' hs' => RunV.pickAnd (gvE rfl hc) (gvE2 rfl hc)) rfl ?_
  refine At.take rfl (fun w' hs' => RunV.pickOr rfl rfl) rfl ?_
  refine At.take rfl (fun w' hs' => RunV.move rfl) rfl ?_
  refine At.takeG rfl (Guard.f rfl rfl rfl) (fun hc w' hs' => RunV.field ft60_2_2 rfl rfl) rfl ?_
  refine At.takeG rfl (Guard.f rfl rfl rfl) (fun hc w' hs' => RunV.load ct3 (gvE rfl hc) (((hR.at (i := 0) rfl).le hs').cell rfl)) rfl ?_
  refine At.takeG rfl (Guard.f rfl rfl rfl) (fun hc w' hs' => RunV.ltI (gvE rfl hc) rfl) rfl ?_
  refine At.take rfl (fun w' hs' => RunV.pickOr rfl rfl) rfl ?_
  refine At.take rfl (fun w' hs' => RunV.move rfl) rfl ?_
  refine At.takeG rfl (Guard.f rfl rfl rfl) (fun hc w' hs' => RunV.field ft60_2_2 rfl rfl) rfl ?_
  refine At.keep (.cons (t := 3) rfl <| .cons (t := 4) rfl <| .cons (t := 5) rfl <| .cons (t := 6) rfl <| .cons (t := 9) rfl <| .cons (t := 10) rfl <| .cons (t := 38) rfl <| .cons (t := 39) rfl <| .nil) ?_
  refine At.takeG rfl (Guard.f rfl rfl rfl) (fun hc w' hs' => RunV.load ct3 (gvE rfl hc) (((hR.at (i := 0) rfl).le hs').cell rfl)) rfl ?_
  refine At.takeG rfl (Guard.f rfl rfl rfl) (fun hc w' hs' => RunV.gtI (gvE rfl hc) rfl) rfl ?_
  refine At.take rfl (fun w' hs' => RunV.pickOr rfl rfl) rfl ?_
  refine At.take rfl (fun w' hs' => RunV.move rfl) rfl ?_
  refine At.takeG rfl (Guard.f rfl rfl rfl) (fun hc w' hs' => RunV.field ft60_1_1 rfl rfl) rfl ?_
  refine At.takeG rfl (Guard.f rfl rfl rfl) (fun hc w' hs' => RunV.load ct4 (gvE rfl hc) (((hR.at (i := 0) rfl).le hs').cell rfl)) rfl ?_
  refine At.takeG rfl (Guard.f rfl rfl rfl) (fun hc w' hs' => RunV.not (gvE rfl hc)) rfl ?_
  refine At.takeG rfl (Guard.f rfl rfl rfl) (fun hc w' hs' => RunV.move (gvE rfl hc)) rfl ?_
  refine At.takeG rfl (Guard.gt rfl rfl rfl) (fun hc w' hs' => RunV.field ft60_2_2 rfl rfl) rfl ?_
  refine At.takeG rfl (Guard.gt rfl rfl rfl) (fun hc w' hs' => RunV.load ct3 (gvE rfl hc) (((hR.at (i := 0) rfl).le hs').cell rfl)) rfl ?_
  refine At.keep (.cons (t := 3) rfl <| .cons (t := 4) rfl <| .cons (t := 5) rfl <| .cons (t := 6) rfl <| .cons (t := 9) rfl <| .cons (t := 10) rfl <| .cons (t := 43) rfl <| .cons (t := 47) rfl <| .cons (t := 49) rfl <| .nil) ?_
  refine At.takeG rfl (Guard.gt rfl rfl rfl) (fun hc w' hs' => RunV.neI (gvE rfl hc) rfl) rfl ?_
  refine At.takeG rfl (Guard.f rfl rfl rfl) (fun hc w' hs' => RunV.pickAnd (gvE rfl hc) (gvE2 rfl hc)) rfl ?_
  refine At.take rfl (fun w' hs' => RunV.pickOr rfl rfl) rfl ?_
  refine At.take rfl (fun w' hs' => RunV.build pl71 zt71 rfl rfl) rfl ?_
  refine At.take rfl (fun w' hs' => RunV.field ft63_1_1 rfl rfl) rfl ?_
  refine At.take rfl (fun w' hs' => RunV.load ct61 rfl (((hR.at (i := 1) rfl).le hs').cell rfl)) rfl ?_
  refine At.take rfl (fun w' hs' => RunV.move rfl) rfl ?_
  refine At.take rfl (fun w' hs' => RunV.sliceHi st61_60_4 rfl rfl rfl (by omega)) rfl ?_
  refine At.take rfl (fun w' hs' => RunV.makeFunc rfl) rfl ?_
  refine At.take rfl (fun w' hs' => RunV.field ft60_3_3 rfl rfl) rfl ?_
  refine At.keep (.cons (t := 4) rfl <| .cons (t := 5) rfl <| .cons (t := 9) rfl <| .cons (t := 10) rfl <| .cons (t := 53) rfl <| .cons (t := 57) rfl <| .cons (t := 58) rfl <| .cons (t := 61) rfl <| .nil) ?_
  refine At.take rfl (fun w' hs' => RunV.load ct58 rfl (((hR.at (i := 0) rfl).le hs').cell rfl)) rfl ?_
  refine At.take rfl (fun w' hs' => RunV.lenSl rfl isl58) rfl ?_
  refine At.take rfl (fun w' hs' => RunV.gtI rfl rfl) rfl ?_
  refine At.take rfl (fun w' hs' => RunV.build pl71 zt71 rfl rfl) rfl ?_
  refine At.take rfl (fun w' hs' => RunV.move rfl) rfl ?_
  refine At.prunE hO hs rfl rfl pf88 rfl (contfR_c (R := RwR G0) (sameRow r) (s.rows.take i) _ 89 [_] pf89 _ ((hS.le hO.le (fun _ _ _ h => h.le hO.le)).take (by omega)) (fun i x cs w' _ _ hl hR => by obtain ⟨v1, rfl, _⟩ := hR; exact row2_c x r v1 _ _ _ ((hO.at (i := 0) rfl).row.le hl))) rfl ?_
  intro w8 hO hs
  refine At.take rfl (fun w' hs' => RunV.build pl71 zt71 rfl rfl) rfl ?_
  refine At.take rfl (fun w' hs' => RunV.move rfl) rfl ?_
  refine At.takeG rfl (Guard.t rfl rfl rfl) (fun hc w' hs' => RunV.field ft60_3_3 rfl rfl) rfl ?_
  refine At.takeG rfl (Guard.t rfl rfl rfl) (fun hc w' hs' => RunV.load ct58 (gvE rfl hc) (((hR.at (i := 0) rfl).le hs').cell rfl)) rfl ?_
  refine At.keep (.cons (t := 4) rfl <| .cons (t := 5) rfl <| .cons (t := 9) rfl <| .cons (t := 53) rfl <| .cons (t := 60) rfl <| .cons (t := 65) rfl <| .cons (t := 67) rfl <| .cons (t := 69) rfl <| .nil) ?_
  refine At.takeG rfl (Guard.t rfl rfl rfl) (fun hc w' hs' => RunV.lenSl (gvE rfl hc) isl58) rfl ?_
  refine At.takeG rfl (Guard.t rfl rfl rfl) (fun hc w' hs' => RunV.gtI (gvE rfl hc) rfl) rfl ?_
  refine At.take rfl (fun w' hs' => RunV.pickAnd rfl rfl) rfl ?_
  refine At.take rfl (fun w' hs' => RunV.build pl71 zt71 rfl rfl) rfl ?_
  refine At.prun rfl rfl (Step.buildSlice hO st96_71_2 zt71 rfl rfl rfl rfl (fill_full rfl rfl) ?_)
  intro b74 w9 hO hlb74 hnb74
  refine ⟨hs.tr hlb74, ?_⟩
  replace hs := hs.tr hlb74
  refine At.prunE hO hs rfl rfl pf31 rfl (first_c _ _ (rowRules s i r) (Nat.le_of_ble_eq_true rfl) _ (hO.at (i := 0) rfl).row) rfl ?_
  intro w10 hO hs
  refine At.take rfl (fun w' hs' => RunV.assign rfl) rfl ?_
  refine At.pdone (At.keep (.cons (t := 4) rfl <| .cons (t := 5) rfl <| .cons (t := 9) rfl <| .cons (t := 11) rfl <| .nil) ?_)
  refine At.seq (At.reg ?_)
  refine At.v (RunV.move rfl) rfl ?_
  refine At.v (RunV.field ft60_3_3 rfl rfl) rfl ?_
  refine At.v (RunV.load ct58 rfl ((hO.at (i := 1) rfl).cell rfl)) rfl ?_
  refine At.v (RunV.lenSl rfl isl58) rfl ?_
  refine At.v (RunV.makeFunc rfl) rfl ?_
  refine At.step rfl (Step.call rfl pf32 rfl (within_c (rowOwn s i r) r.effs.length 0 (by omega) 90 [_, _, _] pf90 (effOk p k r) (fun h => by have := rowOwn_len h; omega) _ (fun j hj w' hl => row3_c p k r j hj pv kv ku _ _ _ _ _ ((hO.at (i := 4) rfl).row.le hl) ((hO.at (i := 3) rfl).row.le hl) ((hO.at (i := 1) rfl).row.le hl) (hP.le (hO.le.tr hl)) (hU.le (hO.le.tr hl) (fun _ _ _ h => h.le (hO.le.tr hl))) (hE.le (hO.le.tr hl) (fun _ _ _ h => h)))) ?_)
  intro v w11 hr
  replace hr := hr.base hO.le
  refine At.v (RunV.assign rfl) rfl ?_
  refine At.nil (At.keep (.cons (t := 8) rfl <| .nil) ?_)
  refine At.ret ?_
  refine At.result1 rfl rfl ?_
  have e : rowOk p k s i = withinOk (rowOwn s i r) r.effs.length (effOk p k r) := by unfold rowOk; rw [hx]
  rw [e]
  exact hr

theorem state2_c (p : Prg) (k : Knd) (s : Stt) (i : Nat) (hi : i < s.rows.length) (pv kv ku sv : Value) (bp bk bs : Nat) (w : World) (hp0 : Row w bp 0 [pv]) (hk0 : Row w bk 0 (k.cells kv ku)) (hs0 : Row w bs 0 (s.cells sv)) (hP : PrgR G0 w pv p) (hU : SlOf G0 2 (SttR G0) w ku k.states) (hS : SlOf G0 4 (RwR G0) w sv s.rows) :
    Ret Try.prog 71 [.int .i64 (i : Int), .pointer (some ⟨bp, 0, none⟩), .pointer (some ⟨bk, 0, none⟩), .pointer (some ⟨bs, 0, none⟩)] w fun v w' => PartP (rowOk p k s i) 1 w v w' := by
  refine Ret.enter Try.func71 rfl Try.ntmps71 rfl rfl ?_
  have hO := Own.start w
  refine At.seq (At.reg ?_)
  refine At.v (RunV.assign rfl) rfl ?_
  refine At.nil (At.keep (.cons (t := 0) rfl <| .cons (t := 1) rfl <| .cons (t := 2) rfl <| .cons (t := 3) rfl <| .nil) ?_)
  refine At.seq (At.reg ?_)
  refine At.v (RunV.loadAgg ag24_1 rfl (Row.le hp0 hO.le) rfl) rfl ?_
  refine At.v (RunV.loadAgg ag67_5 rfl (Row.le hk0 hO.le) rfl) rfl ?_
  refine At.v (RunV.loadAgg ag63_2 rfl (Row.le hs0 hO.le) rfl) rfl ?_
  refine At.v (RunV.move rfl) rfl ?_
  refine At.step rfl (Step.call rfl pf72 rfl (row_c p k s i hi pv kv ku sv _ hP hU hS) ?_)
  intro v w1 hr
  refine At.v (RunV.assign rfl) rfl ?_
  refine At.nil (At.keep (.cons (t := 5) rfl <| .nil) ?_)
  refine At.ret ?_
  refine At.result1 rfl rfl ?_
  exact hr

set_option maxHeartbeats 1000000 in
theorem state_c (p : Prg) (k : Knd) (i : Nat) (hi : i < k.states.length) (pv kv ku : Value) (w : World) (hP : PrgR G0 w pv p) (hU : SlOf G0 2 (SttR G0) w ku k.states) :
    Ret Try.prog 54 [.agg [pv].toArray, .agg (k.cells kv ku).toArray, .int .i64 (i : Int)] w fun v w' => PartP (stateOk p k i) 2 w v w' := by
  refine Ret.enter Try.func54 rfl Try.ntmps54 rfl rfl ?_
  have hO := Own.start w
  obtain ⟨s, hx⟩ : ∃ s, k.states[i]? = some s := ⟨_, List.getElem?_eq_getElem hi⟩
  obtain ⟨b, off, cap, cs, rfl, hle, hcl, hR, hrow⟩ := hU.at hx
  obtain ⟨sv, rfl, hS⟩ := hR
  obtain ⟨ea, ecap, rfl, hele, hecap⟩ := hS.val
  refine At.seq (At.reg ?_)
  refine At.step rfl (Step.box hO rfl rfl ?_)
  intro b3 w1 hO hlb3 hnb3
  refine At.step rfl (Step.box hO rfl rfl ?_)
  intro b4 w2 hO hlb4 hnb4
  refine At.v (RunV.assign rfl) rfl ?_
  refine At.nil (At.keep (.cons (t := 2) rfl <| .cons (t := 3) rfl <| .cons (t := 4) rfl <| .nil) ?_)
  refine At.seq (At.reg ?_)
  refine At.v (RunV.field ft67_4_4 rfl rfl) rfl ?_
  refine At.v (RunV.load ct64 rfl ((hO.at (i := 0) rfl).cell rfl)) rfl ?_
  refine At.v (RunV.move rfl) rfl ?_
  refine At.v (RunV.index st64_63_2 rfl rfl rfl hi rfl) rfl ?_
  refine At.v (RunV.loadAgg ag63_2 rfl (Row.le hrow hO.le) rfl) rfl ?_
  refine At.step rfl (Step.alloc hO zt63 ?_)
  intro b7 w3 hO hlb7 hnb7
  refine At.step_ (Step.storeAll hO rfl rfl rfl sz63_2 .here rfl rfl ?_)
  intro w4 hO hbut
  refine At.nil (At.keep (.cons (t := 2) rfl <| .cons (t := 3) rfl <| .cons (t := 4) rfl <| .cons (t := 7) rfl <| .nil) ?_)
  refine At.seq (At.pi hmix (.take 0 (.take 1 (.take 2 (.take 3 (.take 4 (.take 5 (.take 6 (.take 7 (.take 8 (.take 9 (.take 12 (.take 13 (.take 14 (.take 15 (.take 16 (.run 10 (.take 11 (.run 17 (.run 18 (.take 19 .done)))))))))))))))))))) (by kernel_rfl) (by kernel_rfl) ?_)
  intro w5 hs
  have hs0 := hs
  have hR := hO
  replace hO := hO.on hs
  refine At.take rfl (fun w' hs' => RunV.field ft63_0_0 rfl rfl) rfl ?_
  refine At.take rfl (fun w' hs' => RunV.load ct9 rfl (((hR.at (i := 0) rfl).le hs').cell rfl)) rfl ?_
  refine At.takeCall rfl rfl pf50 rfl (fun w' hs' => name_c _ _) rfl ?_
  refine At.take rfl (fun w' hs' => RunV.not rfl) rfl ?_
  refine At.take rfl (fun w' hs' => RunV.build pl71 zt71 rfl rfl) rfl ?_
  refine At.take rfl (fun w' hs' => RunV.field ft67_4_4 rfl rfl) rfl ?_
  refine At.take rfl (fun w' hs' => RunV.load ct64 rfl (((hR.at (i := 1) rfl).le hs').cell rfl)) rfl ?_
  refine At.take rfl (fun w' hs' => RunV.move rfl) rfl ?_
  refine At.take rfl (fun w' hs' => RunV.sliceHi st64_63_2 rfl rfl rfl (by omega)) rfl ?_
  refine At.take rfl (fun w' hs' => RunV.makeFunc rfl) rfl ?_
  refine At.keep (.cons (t := 3) rfl <| .cons (t := 4) rfl <| .cons (t := 7) rfl <| .cons (t := 18) rfl <| .cons (t := 22) rfl <| .cons (t := 23) rfl <| .nil) ?_
  refine At.take rfl (fun w' hs' => RunV.field ft63_1_1 rfl rfl) rfl ?_
  refine At.take rfl (fun w' hs' => RunV.load ct61 rfl (((hR.at (i := 0) rfl).le hs').cell rfl)) rfl ?_
  refine At.take rfl (fun w' hs' => RunV.lenSl rfl isl61) rfl ?_
  refine At.take rfl (fun w' hs' => RunV.gtI rfl rfl) rfl ?_
  refine At.take rfl (fun w' hs' => RunV.build pl71 zt71 rfl rfl) rfl ?_
  refine At.prunE hO hs rfl rfl pf69 rfl (contfS_c (R := SttR G0) (fun o => seq o.name s.name) (k.states.take i) _ 70 [_] pf70 _ ((hU.le hO.le (fun _ _ _ h => h.le hO.le)).take (by omega)) (fun i x cs w' _ _ hl hR => by obtain ⟨v1, rfl, _⟩ := hR; exact state1_c x s v1 _ _ _ ((hO.at (i := 0) rfl).row.le hl))) rfl ?_
  intro w6 hO hs
  refine At.take rfl (fun w' hs' => RunV.build pl71 zt71 rfl rfl) rfl ?_
  refine At.prun rfl rfl (Step.buildSlice hO st96_71_2 zt71 rfl rfl rfl rfl (fill_full rfl rfl) ?_)
  intro b31 w7 hO hlb31 hnb31
  refine ⟨hs.tr hlb31, ?_⟩
  replace hs := hs.tr hlb31
  refine At.prunE hO hs rfl rfl pf31 rfl (first_c _ _ (stateRules k i s) (Nat.le_of_ble_eq_true rfl) _ (hO.at (i := 0) rfl).row) rfl ?_
  intro w8 hO hs
  refine At.take rfl (fun w' hs' => RunV.assign rfl) rfl ?_
  refine At.pdone (At.keep (.cons (t := 3) rfl <| .cons (t := 4) rfl <| .cons (t := 7) rfl <| .cons (t := 8) rfl <| .nil) ?_)
  refine At.seq (At.reg ?_)
  refine At.v (RunV.move rfl) rfl ?_
  refine At.v (RunV.field ft63_1_1 rfl rfl) rfl ?_
  refine At.v (RunV.load ct61 rfl ((hO.at (i := 1) rfl).cell rfl)) rfl ?_
  refine At.v (RunV.lenSl rfl isl61) rfl ?_
  refine At.v (RunV.makeFunc rfl) rfl ?_
  refine At.step rfl (Step.call rfl pf32 rfl (within_c (stateOwn k i s) s.rows.length 1 (by omega) 71 [_, _, _] pf71 (rowOk p k s) (fun h => by have := stateOwn_len h; omega) _ (fun j hj w' hl => state2_c p k s j hj pv kv _ _ _ _ _ _ ((hO.at (i := 3) rfl).row.le hl) ((hO.at (i := 2) rfl).row.le hl) ((hO.at (i := 1) rfl).row.le hl) (hP.le (hO.le.tr hl)) (hU.le (hO.le.tr hl) (fun _ _ _ h => h.le (hO.le.tr hl))) (hS.le (hO.le.tr hl) (fun _ _ _ h => h.le (hO.le.tr hl))))) ?_)
  intro v w9 hr
  replace hr := hr.base hO.le
  refine At.v (RunV.assign rfl) rfl ?_
  refine At.nil (At.keep (.cons (t := 6) rfl <| .nil) ?_)
  refine At.ret ?_
  refine At.result1 rfl rfl ?_
  have e : stateOk p k i = withinOk (stateOwn k i s) s.rows.length (rowOk p k s) := by unfold stateOk; rw [hx]
  rw [e]
  exact hr

theorem kind4_c (p : Prg) (k : Knd) (i : Nat) (hi : i < k.states.length) (pv kv ku : Value) (bp bk : Nat) (w : World) (hp0 : Row w bp 0 [pv]) (hk0 : Row w bk 0 (k.cells kv ku)) (hP : PrgR G0 w pv p) (hU : SlOf G0 2 (SttR G0) w ku k.states) :
    Ret Try.prog 53 [.int .i64 (i : Int), .pointer (some ⟨bp, 0, none⟩), .pointer (some ⟨bk, 0, none⟩)] w fun v w' => PartP (stateOk p k i) 2 w v w' := by
  refine Ret.enter Try.func53 rfl Try.ntmps53 rfl rfl ?_
  have hO := Own.start w
  refine At.seq (At.reg ?_)
  refine At.v (RunV.assign rfl) rfl ?_
  refine At.nil (At.keep (.cons (t := 0) rfl <| .cons (t := 1) rfl <| .cons (t := 2) rfl <| .nil) ?_)
  refine At.seq (At.reg ?_)
  refine At.v (RunV.loadAgg ag24_1 rfl (Row.le hp0 hO.le) rfl) rfl ?_
  refine At.v (RunV.loadAgg ag67_5 rfl (Row.le hk0 hO.le) rfl) rfl ?_
  refine At.v (RunV.move rfl) rfl ?_
  refine At.step rfl (Step.call rfl pf54 rfl (state_c p k i hi pv kv ku _ hP hU) ?_)
  intro v w1 hr
  refine At.v (RunV.assign rfl) rfl ?_
  refine At.nil (At.keep (.cons (t := 4) rfl <| .nil) ?_)
  refine At.ret ?_
  refine At.result1 rfl rfl ?_
  exact hr

set_option maxHeartbeats 1000000 in
theorem kind_c (p : Prg) (i : Nat) (hi : i < p.length) (pv : Value) (w : World) (hP : PrgR G0 w pv p) :
    Ret Try.prog 34 [.agg [pv].toArray, .int .i64 (i : Int)] w fun v w' => PartP (kindOk p i) 3 w v w' := by
  refine Ret.enter Try.func34 rfl Try.ntmps34 rfl rfl ?_
  have hO := Own.start w
  obtain ⟨k, hx⟩ : ∃ k, p[i]? = some k := ⟨_, List.getElem?_eq_getElem hi⟩
  obtain ⟨b, off, cap, cs, rfl, hle, hcl, hR, hrow⟩ := SlOf.at hP hx
  obtain ⟨kv, ku, rfl, hC, hU⟩ := hR
  obtain ⟨ca, ccap, rfl, hcle0, hccap⟩ := hC.val
  obtain ⟨ua, ucap, rfl, hule, hucap⟩ := hU.val
  refine At.seq (At.reg ?_)
  refine At.step rfl (Step.box hO rfl rfl ?_)
  intro b2 w1 hO hlb2 hnb2
  refine At.v (RunV.assign rfl) rfl ?_
  refine At.nil (At.keep (.cons (t := 1) rfl <| .cons (t := 2) rfl <| .nil) ?_)
  refine At.seq (At.reg ?_)
  refine At.v (RunV.field ft24_0_0 rfl rfl) rfl ?_
  refine At.v (RunV.load ct22 rfl ((hO.at (i := 0) rfl).cell rfl)) rfl ?_
  refine At.v (RunV.move rfl) rfl ?_
  refine At.v (RunV.index st22_67_5 rfl rfl rfl hi rfl) rfl ?_
  refine At.v (RunV.loadAgg ag67_5 rfl (Row.le hrow hO.le) rfl) rfl ?_
  refine At.step rfl (Step.alloc hO zt67 ?_)
  intro b5 w2 hO hlb5 hnb5
  refine At.step_ (Step.storeAll hO rfl rfl rfl sz67_5 .here rfl rfl ?_)
  intro w3 hO hbut
  refine At.nil (At.keep (.cons (t := 1) rfl <| .cons (t := 2) rfl <| .cons (t := 5) rfl <| .nil) ?_)
  refine At.seq (At.reg ?_)
  refine At.v (RunV.field ft67_3_3 rfl rfl) rfl ?_
  refine At.v (RunV.load ct65 rfl ((hO.at (i := 0) rfl).cell rfl)) rfl ?_
  refine At.callE hO rfl pf46 rfl (contfC_c (R := CasR) oddCase k.cases _ 47 [] pf47 _ (hC.le hO.le (fun _ _ _ h => h)) (fun i x cs w' _ _ hl hR => by cases hR; exact kind1_c x _)) rfl ?_
  intro w4 hO hl
  refine At.v (RunV.assign rfl) rfl ?_
  refine At.nil (At.keep (.cons (t := 1) rfl <| .cons (t := 2) rfl <| .cons (t := 5) rfl <| .cons (t := 6) rfl <| .nil) ?_)
  refine At.seq (At.reg ?_)
  refine At.v (RunV.assign rfl) rfl ?_
  refine At.nil (At.keep (.cons (t := 1) rfl <| .cons (t := 2) rfl <| .cons (t := 5) rfl <| .cons (t := 6) rfl <| .cons (t := 7) rfl <| .nil) ?_)
  refine At.seq ?_
  refine At.seq (At.reg ?_)
  refine At.v (RunV.field ft67_3_3 rfl rfl) rfl ?_
  refine At.v (RunV.load ct65 rfl ((hO.at (i := 0) rfl).cell rfl)) rfl ?_
  refine At.v (RunV.lenSl rfl isl65) rfl ?_
  refine At.v (RunV.move rfl) rfl ?_
  refine At.nil (At.keep (.cons (t := 1) rfl <| .cons (t := 2) rfl <| .cons (t := 5) rfl <| .cons (t := 6) rfl <| .cons (t := 7) rfl <| .cons (t := 20) rfl <| .cons (t := 21) rfl <| .cons (t := 22) rfl <| .nil) ?_)
  refine At.block ?_
  refine At.loopC (σ := Nat) (.cons (t := 1) rfl <| .cons (t := 2) rfl <| .cons (t := 5) rfl <| .cons (t := 6) rfl <| .cons (t := 20) rfl <| .cons (t := 21) rfl <| .nil) (fun j => [(7, .bool (twiceTo k j)), (22, .int .i64 (j : Int))]) (fun j wl => Own w [(b5, k.cells (.slice ca k.cases.length ccap) (.slice ua k.states.length ucap), 67), (b2, [.slice (some ⟨b, off, none⟩) p.length cap], 24)] wl ∧ j ≤ k.cases.length) (fun j => k.cases.length - j) 0 (.cons (t := 7) rfl <| .cons (t := 22) rfl <| .nil) ⟨hO, Nat.zero_le _⟩ ?_
  intro j w5 hinv
  refine At.keep (.cons (t := 1) rfl <| .cons (t := 2) rfl <| .cons (t := 5) rfl <| .cons (t := 6) rfl <| .cons (t := 7) rfl <| .cons (t := 20) rfl <| .cons (t := 21) rfl <| .cons (t := 22) rfl <| .nil) ?_
  have hO := hinv.1
  have hi2 := hinv.2
  refine At.seq (At.reg ?_)
  refine At.v (RunV.ltI rfl rfl) rfl ?_
  refine At.nil (At.keep (.cons (t := 1) rfl <| .cons (t := 2) rfl <| .cons (t := 5) rfl <| .cons (t := 6) rfl <| .cons (t := 7) rfl <| .cons (t := 20) rfl <| .cons (t := 21) rfl <| .cons (t := 22) rfl <| .cons (t := 23) rfl <| .nil) ?_)
  refine At.seq ?_
  refine At.cond rfl (fun hj2 => ?_) (fun hj2 => ?_)
  · refine At.skip ?_
    refine At.seq ?_
    refine At.block ?_
    have hk : j < k.cases.length := by have := of_decide_eq_true hj2; omega
    obtain ⟨c, hc1⟩ : ∃ c, k.cases[j]? = some c := ⟨_, List.getElem?_eq_getElem hk⟩
    obtain ⟨cb, coff, ccap, cs, hv, hcle, hccl, hcR, hcrow⟩ := hC.at hc1
    cases hv
    cases hcR
    refine At.seq (At.reg ?_)
    refine At.v (RunV.move rfl) rfl ?_
    refine At.v (RunV.index st65_103_2 rfl rfl rfl hk rfl) rfl ?_
    refine At.v (RunV.loadAgg ag103_2 rfl (Row.le hcrow hO.le) rfl) rfl ?_
    refine At.step rfl (Step.alloc hO zt103 ?_)
    intro b9 w6 hO hlb9 hnb9
    refine At.v (RunV.assign rfl) rfl ?_
    refine At.step_ (Step.storeAll hO rfl rfl rfl sz103_2 .here rfl rfl ?_)
    intro w7 hO hbut
    refine At.nil (At.keep (.cons (t := 1) rfl <| .cons (t := 2) rfl <| .cons (t := 5) rfl <| .cons (t := 6) rfl <| .cons (t := 7) rfl <| .cons (t := 8) rfl <| .cons (t := 9) rfl <| .cons (t := 20) rfl <| .cons (t := 21) rfl <| .cons (t := 22) rfl <| .nil) ?_)
    refine At.reg ?_
    refine At.v (RunV.move rfl) rfl ?_
    refine At.v (RunV.move rfl) rfl ?_
    refine At.g (Guard.f rfl rfl rfl) (fun hc => RunV.field ft67_3_3 rfl rfl) rfl ?_
    refine At.g (Guard.f rfl rfl rfl) (fun hc => RunV.load ct65 (gvE rfl hc) ((hO.at (i := 1) rfl).cell rfl)) rfl ?_
    refine At.g (Guard.f rfl rfl rfl) (fun hc => RunV.move rfl) rfl ?_
    refine At.g (Guard.f rfl rfl rfl) (fun hc => RunV.sliceHi st65_103_2 (gvE rfl hc) (gvE rfl hc) rfl (by omega)) rfl ?_
    refine At.g (Guard.f rfl rfl rfl) (fun hc => RunV.makeFunc rfl) rfl ?_
    refine At.gcallE hO (Guard.f rfl rfl rfl) (fun hc => rfl) pf46 (fun hc => (evL2 (gvE rfl hc) (gvE rfl hc))) (fun hc => contfC_c (R := CasR) (fun d => seq d.reason c.reason) (k.cases.take j) _ 49 [_] pf49 _ ((hC.le hO.le (fun _ _ _ h => h)).take (by omega)) (fun i x cs w' _ _ hl hR => by cases hR; exact kind2_c x c _ _ ((hO.at (i := 0) rfl).row.le hl))) rfl ?_
    intro w8 hO hl
    refine At.v (RunV.pickOr rfl rfl) rfl ?_
    refine At.v (RunV.assign rfl) rfl ?_
    refine At.nil (At.keep (.cons (t := 1) rfl <| .cons (t := 2) rfl <| .cons (t := 5) rfl <| .cons (t := 6) rfl <| .cons (t := 7) rfl <| .cons (t := 20) rfl <| .cons (t := 21) rfl <| .cons (t := 22) rfl <| .nil) ?_)
    refine At.reg ?_
    refine At.v (RunV.inc rfl rfl (by omega)) rfl ?_
    refine At.v (RunV.move rfl) rfl ?_
    refine At.nil (At.keep (.cons (t := 1) rfl <| .cons (t := 2) rfl <| .cons (t := 5) rfl <| .cons (t := 6) rfl <| .cons (t := 7) rfl <| .cons (t := 20) rfl <| .cons (t := 21) rfl <| .cons (t := 22) rfl <| .nil) ?_)
    replace hO := hO.drop
    exact At.againC (.cons (t := 1) rfl <| .cons (t := 2) rfl <| .cons (t := 5) rfl <| .cons (t := 6) rfl <| .cons (t := 20) rfl <| .cons (t := 21) rfl <| .nil) (j + 1) (.cons (t := 7) (congrArg (fun b => some (Value.bool b)) (show (twiceTo k j || (k.cases.take j).any (fun d => seq d.reason c.reason)) = twiceTo k (j + 1) by simp only [twiceTo, hc1])) <| .cons (t := 22) rfl <| .nil) ⟨hO, hk⟩ (by omega)
  · obtain rfl : j = k.cases.length := by have := of_decide_eq_false hj2; omega
    refine At.exit rfl ?_
    refine At.seq (At.pi hmix (.take 0 (.take 1 (.take 2 (.take 3 (.take 4 (.take 5 (.take 6 (.take 7 (.take 8 (.take 9 (.take 10 (.take 11 (.take 12 (.take 13 (.take 14 (.take 15 (.take 16 (.take 17 (.take 18 (.take 19 (.take 20 (.take 21 (.take 22 (.take 23 (.take 24 (.take 25 (.take 26 (.take 27 (.take 28 (.take 29 (.take 32 (.take 33 (.take 34 (.take 35 (.take 49 (.take 50 (.take 51 (.take 52 (.run 30 (.take 31 (.take 36 (.take 37 (.take 38 (.take 39 (.take 40 (.take 41 (.take 42 (.take 43 (.take 44 (.take 45 (.take 46 (.take 47 (.take 48 (.run 53 (.run 54 (.take 55 .done)))))))))))))))))))))))))))))))))))))))))))))))))))))))) (by kernel_rfl) (by kernel_rfl) ?_)
    intro w9 hs
    have hs0 := hs
    have hR := hO
    replace hO := hO.on hs
    refine At.take rfl (fun w' hs' => RunV.field ft67_0_0 rfl rfl) rfl ?_
    refine At.take rfl (fun w' hs' => RunV.load ct9 rfl (((hR.at (i := 0) rfl).le hs').cell rfl)) rfl ?_
    refine At.takeCall rfl rfl pf50 rfl (fun w' hs' => name_c _ _) rfl ?_
    refine At.take rfl (fun w' hs' => RunV.not rfl) rfl ?_
    refine At.take rfl (fun w' hs' => RunV.move rfl) rfl ?_
    refine At.takeG rfl (Guard.f rfl rfl rfl) (fun hc w' hs' => RunV.field ft67_1_1 rfl rfl) rfl ?_
    refine At.takeG rfl (Guard.f rfl rfl rfl) (fun hc w' hs' => RunV.load ct3 (gvE rfl hc) (((hR.at (i := 0) rfl).le hs').cell rfl)) rfl ?_
    refine At.takeG rfl (Guard.f rfl rfl rfl) (fun hc w' hs' => RunV.ltI (gvE rfl hc) rfl) rfl ?_
    refine At.take rfl (fun w' hs' => RunV.pickOr rfl rfl) rfl ?_
    refine At.take rfl (fun w' hs' => RunV.move rfl) rfl ?_
    refine At.keep (.cons (t := 1) rfl <| .cons (t := 2) rfl <| .cons (t := 5) rfl <| .cons (t := 6) rfl <| .cons (t := 7) rfl <| .cons (t := 46) rfl <| .nil) ?_
    refine At.takeG rfl (Guard.f rfl rfl rfl) (fun hc w' hs' => RunV.field ft67_1_1 rfl rfl) rfl ?_
    refine At.takeG rfl (Guard.f rfl rfl rfl) (fun hc w' hs' => RunV.load ct3 (gvE rfl hc) (((hR.at (i := 0) rfl).le hs').cell rfl)) rfl ?_
    refine At.takeG rfl (Guard.f rfl rfl rfl) (fun hc w' hs' => RunV.gtI (gvE rfl hc) rfl) rfl ?_
    refine At.take rfl (fun w' hs' => RunV.pickOr rfl rfl) rfl ?_
    refine At.take rfl (fun w' hs' => RunV.move rfl) rfl ?_
    refine At.takeG rfl (Guard.f rfl rfl rfl) (fun hc w' hs' => RunV.field ft67_2_2 rfl rfl) rfl ?_
    refine At.takeG rfl (Guard.f rfl rfl rfl) (fun hc w' hs' => RunV.load ct3 (gvE rfl hc) (((hR.at (i := 0) rfl).le hs').cell rfl)) rfl ?_
    refine At.takeG rfl (Guard.f rfl rfl rfl) (fun hc w' hs' => RunV.ltI (gvE rfl hc) rfl) rfl ?_
    refine At.take rfl (fun w' hs' => RunV.pickOr rfl rfl) rfl ?_
    refine At.take rfl (fun w' hs' => RunV.move rfl) rfl ?_
    refine At.keep (.cons (t := 1) rfl <| .cons (t := 2) rfl <| .cons (t := 5) rfl <| .cons (t := 6) rfl <| .cons (t := 7) rfl <| .cons (t := 56) rfl <| .nil) ?_
    refine At.takeG rfl (Guard.f rfl rfl rfl) (fun hc w' hs' => RunV.field ft67_2_2 rfl rfl) rfl ?_
    refine At.takeG rfl (Guard.f rfl rfl rfl) (fun hc w' hs' => RunV.load ct3 (gvE rfl hc) (((hR.at (i := 0) rfl).le hs').cell rfl)) rfl ?_
    refine At.takeG rfl (Guard.f rfl rfl rfl) (fun hc w' hs' => RunV.gtI (gvE rfl hc) rfl) rfl ?_
    refine At.take rfl (fun w' hs' => RunV.pickOr rfl rfl) rfl ?_
    refine At.take rfl (fun w' hs' => RunV.build pl71 zt71 rfl rfl) rfl ?_
    refine At.take rfl (fun w' hs' => RunV.field ft24_0_0 rfl rfl) rfl ?_
    refine At.take rfl (fun w' hs' => RunV.load ct22 rfl (((hR.at (i := 1) rfl).le hs').cell rfl)) rfl ?_
    refine At.take rfl (fun w' hs' => RunV.move rfl) rfl ?_
    refine At.take rfl (fun w' hs' => RunV.sliceHi st22_67_5 rfl rfl rfl (by omega)) rfl ?_
    refine At.take rfl (fun w' hs' => RunV.makeFunc rfl) rfl ?_
    refine At.keep (.cons (t := 2) rfl <| .cons (t := 5) rfl <| .cons (t := 6) rfl <| .cons (t := 7) rfl <| .cons (t := 61) rfl <| .cons (t := 65) rfl <| .cons (t := 66) rfl <| .nil) ?_
    refine At.take rfl (fun w' hs' => RunV.field ft67_3_3 rfl rfl) rfl ?_
    refine At.take rfl (fun w' hs' => RunV.load ct65 rfl (((hR.at (i := 0) rfl).le hs').cell rfl)) rfl ?_
    refine At.take rfl (fun w' hs' => RunV.lenSl rfl isl65) rfl ?_
    refine At.take rfl (fun w' hs' => RunV.gtI rfl rfl) rfl ?_
    refine At.take rfl (fun w' hs' => RunV.move rfl) rfl ?_
    refine At.take rfl (fun w' hs' => RunV.build pl71 zt71 rfl rfl) rfl ?_
    refine At.take rfl (fun w' hs' => RunV.move rfl) rfl ?_
    refine At.take rfl (fun w' hs' => RunV.build pl71 zt71 rfl rfl) rfl ?_
    refine At.prunE hO hs rfl rfl pf51 rfl (contfK_c (R := KndR G0) (fun o => seq o.name k.name) (p.take i) _ 52 [_] pf52 _ (SlOf.take (hP.le hO.le) (by omega)) (fun i x cs w' _ _ hl hR => by obtain ⟨v1, u1, rfl, _⟩ := hR; exact kind3_c x k v1 u1 _ _ _ _ ((hO.at (i := 0) rfl).row.le hl))) rfl ?_
    intro w10 hO hs
    refine At.take rfl (fun w' hs' => RunV.build pl71 zt71 rfl rfl) rfl ?_
    refine At.keep (.cons (t := 2) rfl <| .cons (t := 5) rfl <| .cons (t := 61) rfl <| .cons (t := 68) rfl <| .cons (t := 72) rfl <| .cons (t := 87) rfl <| .cons (t := 89) rfl <| .nil) ?_
    refine At.take rfl (fun w' hs' => RunV.move rfl) rfl ?_
    refine At.takeG rfl (Guard.f rfl rfl rfl) (fun hc w' hs' => RunV.field ft67_4_4 rfl rfl) rfl ?_
    refine At.takeG rfl (Guard.f rfl rfl rfl) (fun hc w' hs' => RunV.load ct64 (gvE rfl hc) (((hR.at (i := 0) rfl).le hs').cell rfl)) rfl ?_
    refine At.takeG rfl (Guard.f rfl rfl rfl) (fun hc w' hs' => RunV.lenSl (gvE rfl hc) isl64) rfl ?_
    refine At.takeG rfl (Guard.f rfl rfl rfl) (fun hc w' hs' => RunV.ltI (gvE rfl hc) rfl) rfl ?_
    refine At.take rfl (fun w' hs' => RunV.pickOr rfl rfl) rfl ?_
    refine At.take rfl (fun w' hs' => RunV.move rfl) rfl ?_
    refine At.takeG rfl (Guard.f rfl rfl rfl) (fun hc w' hs' => RunV.field ft67_4_4 rfl rfl) rfl ?_
    refine At.takeG rfl (Guard.f rfl rfl rfl) (fun hc w' hs' => RunV.load ct64 (gvE rfl hc) (((hR.at (i := 0) rfl).le hs').cell rfl)) rfl ?_
    refine At.takeG rfl (Guard.f rfl rfl rfl) (fun hc w' hs' => RunV.lenSl (gvE rfl hc) isl64) rfl ?_
    refine At.keep (.cons (t := 2) rfl <| .cons (t := 5) rfl <| .cons (t := 61) rfl <| .cons (t := 68) rfl <| .cons (t := 79) rfl <| .cons (t := 82) rfl <| .cons (t := 87) rfl <| .cons (t := 89) rfl <| .nil) ?_
    refine At.takeG rfl (Guard.f rfl rfl rfl) (fun hc w' hs' => RunV.gtI (gvE rfl hc) rfl) rfl ?_
    refine At.take rfl (fun w' hs' => RunV.pickOr rfl rfl) rfl ?_
    refine At.take rfl (fun w' hs' => RunV.build pl71 zt71 rfl rfl) rfl ?_
    refine At.prun rfl rfl (Step.buildSlice hO st96_71_2 zt71 rfl rfl rfl rfl (fill_full rfl rfl) ?_)
    intro b90 w11 hO hlb90 hnb90
    refine ⟨hs.tr hlb90, ?_⟩
    replace hs := hs.tr hlb90
    refine At.prunE hO hs rfl rfl pf31 rfl (first_c _ _ (kindRules p i k) (Nat.le_of_ble_eq_true rfl) _ (hO.at (i := 0) rfl).row) rfl ?_
    intro w12 hO hs
    refine At.take rfl (fun w' hs' => RunV.assign rfl) rfl ?_
    refine At.pdone (At.keep (.cons (t := 2) rfl <| .cons (t := 5) rfl <| .cons (t := 10) rfl <| .nil) ?_)
    refine At.seq (At.reg ?_)
    refine At.v (RunV.move rfl) rfl ?_
    refine At.v (RunV.field ft67_4_4 rfl rfl) rfl ?_
    refine At.v (RunV.load ct64 rfl ((hO.at (i := 1) rfl).cell rfl)) rfl ?_
    refine At.v (RunV.lenSl rfl isl64) rfl ?_
    refine At.v (RunV.makeFunc rfl) rfl ?_
    refine At.step rfl (Step.call rfl pf32 rfl (within_c (kindOwn p i k) k.states.length 2 (by omega) 53 [_, _] pf53 (stateOk p k) (fun h => by have := kindOwn_len h; omega) _ (fun j hj w' hl => kind4_c p k j hj _ _ _ _ _ _ ((hO.at (i := 2) rfl).row.le hl) ((hO.at (i := 1) rfl).row.le hl) (hP.le (hO.le.tr hl)) (hU.le (hO.le.tr hl) (fun _ _ _ h => h.le (hO.le.tr hl))))) ?_)
    intro v w13 hr
    replace hr := hr.base hO.le
    refine At.v (RunV.assign rfl) rfl ?_
    refine At.nil (At.keep (.cons (t := 4) rfl <| .nil) ?_)
    refine At.ret ?_
    refine At.result1 rfl rfl ?_
    have e : kindOk p i = withinOk (kindOwn p i k) k.states.length (stateOk p k) := by unfold kindOk; rw [hx]
    rw [e]
    exact hr

theorem prog1_c (p : Prg) (i : Nat) (hi : i < p.length) (pv : Value) (bp : Nat) (w : World) (hp0 : Row w bp 0 [pv]) (hP : PrgR G0 w pv p) :
    Ret Try.prog 33 [.int .i64 (i : Int), .pointer (some ⟨bp, 0, none⟩)] w fun v w' => PartP (kindOk p i) 3 w v w' := by
  refine Ret.enter Try.func33 rfl Try.ntmps33 rfl rfl ?_
  have hO := Own.start w
  refine At.seq (At.reg ?_)
  refine At.v (RunV.assign rfl) rfl ?_
  refine At.nil (At.keep (.cons (t := 0) rfl <| .cons (t := 1) rfl <| .nil) ?_)
  refine At.seq (At.reg ?_)
  refine At.v (RunV.loadAgg ag24_1 rfl (Row.le hp0 hO.le) rfl) rfl ?_
  refine At.v (RunV.move rfl) rfl ?_
  refine At.step rfl (Step.call rfl pf34 rfl (kind_c p i hi pv _ hP) ?_)
  intro v w1 hr
  refine At.v (RunV.assign rfl) rfl ?_
  refine At.nil (At.keep (.cons (t := 3) rfl <| .nil) ?_)
  refine At.ret ?_
  refine At.result1 rfl rfl ?_
  exact hr

theorem program_c (p : Prg) (pv : Value) (w : World) (hP : PrgR G0 w pv p) :
    Ret Try.prog 15 [.agg [pv].toArray] w fun v w' => ((progOk p = true ∧ v = .nilIface) ∨ (progOk p = false ∧ ∃ q, v = .iface 72 (.pointer q))) ∧ Le w w' := by
  refine Ret.enter Try.func15 rfl Try.ntmps15 rfl rfl ?_
  have hO := Own.start w
  obtain ⟨a, cap, rfl, hle, hcap⟩ := SlOf.val hP
  refine At.seq (At.reg ?_)
  refine At.step rfl (Step.box hO rfl rfl ?_)
  intro b1 w1 hO hlb1 hnb1
  refine At.v (RunV.assign rfl) rfl ?_
  refine At.nil (At.keep (.cons (t := 1) rfl <| .nil) ?_)
  refine At.seq (At.reg ?_)
  refine At.v (RunV.field ft24_0_0 rfl rfl) rfl ?_
  refine At.v (RunV.load ct22 rfl ((hO.at (i := 0) rfl).cell rfl)) rfl ?_
  refine At.v (RunV.lenSl rfl isl22) rfl ?_
  refine At.v (RunV.ltI rfl rfl) rfl ?_
  refine At.v (RunV.move rfl) rfl ?_
  refine At.g (Guard.f rfl rfl rfl) (fun hc => RunV.field ft24_0_0 rfl rfl) rfl ?_
  refine At.g (Guard.f rfl rfl rfl) (fun hc => RunV.load ct22 (gvE rfl hc) ((hO.at (i := 0) rfl).cell rfl)) rfl ?_
  refine At.g (Guard.f rfl rfl rfl) (fun hc => RunV.lenSl (gvE rfl hc) isl22) rfl ?_
  refine At.g (Guard.f rfl rfl rfl) (fun hc => RunV.gtI (gvE rfl hc) rfl) rfl ?_
  refine At.v (RunV.pickOr rfl rfl) rfl ?_
  refine At.keep (.cons (t := 1) rfl <| .cons (t := 14) rfl <| .nil) ?_
  refine At.v (RunV.build pl71 zt71 rfl rfl) rfl ?_
  refine At.step rfl (Step.buildSlice hO st96_71_2 zt71 rfl rfl rfl rfl (fill_full rfl rfl) ?_)
  intro b16 w2 hO hlb16 hnb16
  refine At.callE hO rfl pf31 rfl (first_c _ _ (progRules p) (Nat.le_of_ble_eq_true rfl) _ (hO.at (i := 0) rfl).row) rfl ?_
  intro w3 hO hl
  refine At.v (RunV.assign rfl) rfl ?_
  refine At.nil (At.keep (.cons (t := 1) rfl <| .cons (t := 3) rfl <| .nil) ?_)
  refine At.seq ?_
  refine At.seq (At.reg ?_)
  refine At.v (RunV.move rfl) rfl ?_
  refine At.v (RunV.field ft24_0_0 rfl rfl) rfl ?_
  refine At.v (RunV.load ct22 rfl ((hO.at (i := 1) rfl).cell rfl)) rfl ?_
  refine At.v (RunV.lenSl rfl isl22) rfl ?_
  refine At.v (RunV.makeFunc rfl) rfl ?_
  refine At.step rfl (Step.call rfl pf32 rfl (within_c (progOwn p) p.length 3 (by omega) 33 [_] pf33 (kindOk p) (fun h => by have := progOwn_len h; omega) _ (fun j hj w' hl => prog1_c p j hj _ _ _ ((hO.at (i := 1) rfl).row.le hl) (hP.le (hO.le.tr hl)))) ?_)
  intro v w4 hr
  replace hr := hr.base hO.le
  obtain ⟨q, rfl, hq, hl, _⟩ := hr
  replace hO := Own.of hl
  refine At.v (RunV.assign rfl) rfl ?_
  refine At.nil (At.keep (.cons (t := 4) rfl <| .nil) ?_)
  refine At.seq (At.reg ?_)
  refine At.v (RunV.move rfl) rfl ?_
  refine At.v (RunV.neNil rfl un72) rfl ?_
  refine At.nil (At.keep (.cons (t := 4) rfl <| .cons (t := 25) rfl <| .nil) ?_)
  refine At.cond rfl (fun h1 => ?_) (fun h1 => ?_)
  · refine At.seq (At.reg ?_)
    refine At.v (RunV.move rfl) rfl ?_
    refine At.v (RunV.makeIface rfl un72) rfl ?_
    refine At.v (RunV.assign rfl) rfl ?_
    refine At.nil (At.keep (.cons (t := 2) rfl <| .nil) ?_)
    refine At.ret ?_
    refine At.result1 rfl rfl ?_
    refine ⟨.inr ⟨?_, q, rfl⟩, hO.le⟩
    have e : progOk p = q.isNone := hq.symm
    rw [e]; cases q with | none => cases h1 | some a => rfl
  · refine At.skip ?_
    refine At.seq (At.reg ?_)
    refine At.v (RunV.assign rfl) rfl ?_
    refine At.nil (At.keep (.cons (t := 2) rfl <| .nil) ?_)
    refine At.ret ?_
    refine At.result1 rfl rfl ?_
    refine ⟨.inl ⟨?_, rfl⟩, hO.le⟩
    have e : progOk p = q.isNone := hq.symm
    rw [e]; cases q with | none => rfl | some a => cases h1

end Go.Proofs.Ytglilmcfhkedbaa
