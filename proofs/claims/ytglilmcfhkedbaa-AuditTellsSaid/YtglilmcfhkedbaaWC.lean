/- The walks of check.effect and of the small closures of check; no condition. -/
import Derived.Test.YtglilmcfhkedbaaWB
namespace Go.Proofs.Ytglilmcfhkedbaa
open Go Go.RowKit

theorem ct22 : cellT Try.prog 22 = true := by kernel_rfl
theorem ct64 : cellT Try.prog 64 = true := by kernel_rfl
theorem ft103_0_0 : fieldT Try.prog 103 0 0 = true := by kernel_rfl
theorem ft103_1_1 : fieldT Try.prog 103 1 1 = true := by kernel_rfl
theorem ft24_0_0 : fieldT Try.prog 24 0 0 = true := by kernel_rfl
theorem ft57_0_0 : fieldT Try.prog 57 0 0 = true := by kernel_rfl
theorem ft57_1_1 : fieldT Try.prog 57 1 1 = true := by kernel_rfl
theorem ft57_2_2 : fieldT Try.prog 57 2 2 = true := by kernel_rfl
theorem ft57_3_3 : fieldT Try.prog 57 3 3 = true := by kernel_rfl
theorem ft57_4_4 : fieldT Try.prog 57 4 4 = true := by kernel_rfl
theorem ft57_5_5 : fieldT Try.prog 57 5 5 = true := by kernel_rfl
theorem ft57_6_6 : fieldT Try.prog 57 6 6 = true := by kernel_rfl
theorem ft60_0_0 : fieldT Try.prog 60 0 0 = true := by kernel_rfl
theorem ft60_1_1 : fieldT Try.prog 60 1 1 = true := by kernel_rfl
theorem ft60_2_2 : fieldT Try.prog 60 2 2 = true := by kernel_rfl
theorem ft63_0_0 : fieldT Try.prog 63 0 0 = true := by kernel_rfl
theorem ft67_0_0 : fieldT Try.prog 67 0 0 = true := by kernel_rfl
theorem ft67_4_4 : fieldT Try.prog 67 4 4 = true := by kernel_rfl
theorem pf31 : plainFn Try.prog 31 = true := by kernel_rfl
theorem pf47 : plainFn Try.prog 47 = true := by kernel_rfl
theorem pf48 : plainFn Try.prog 48 = true := by kernel_rfl
theorem pf49 : plainFn Try.prog 49 = true := by kernel_rfl
theorem pf51 : plainFn Try.prog 51 = true := by kernel_rfl
theorem pf52 : plainFn Try.prog 52 = true := by kernel_rfl
theorem pf69 : plainFn Try.prog 69 = true := by kernel_rfl
theorem pf70 : plainFn Try.prog 70 = true := by kernel_rfl
theorem pf87 : plainFn Try.prog 87 = true := by kernel_rfl
theorem pf89 : plainFn Try.prog 89 = true := by kernel_rfl
theorem pf94 : plainFn Try.prog 94 = true := by kernel_rfl
theorem pf95 : plainFn Try.prog 95 = true := by kernel_rfl
theorem pf96 : plainFn Try.prog 96 = true := by kernel_rfl
theorem pf97 : plainFn Try.prog 97 = true := by kernel_rfl
theorem pl71 : placesT Try.prog 71 = some [(0, 1), (1, 1)] := by kernel_rfl
theorem un4 : Try.prog.underlying 4 = some (.bool) := by kernel_rfl
theorem zt9 : zeroT Try.prog 9 [.string ByteArray.empty] := by unfold zeroT; kernel_rfl

theorem row1_c (e : Eff) (w : World) :
    Ret Try.prog 87 [.agg (e.cells).toArray] w fun v w' => v = .bool (decide (e.act = 4)) ∧ Le w w' := by
  refine Ret.enter Try.func87 rfl Try.ntmps87 rfl rfl ?_
  have hO := Own.start w
  refine At.seq (At.reg ?_)
  refine At.step rfl (Step.box hO rfl rfl ?_)
  intro b1 w1 hO hlb1 hnb1
  refine At.v (RunV.assign rfl) rfl ?_
  refine At.nil (At.keep (.cons (t := 1) rfl <| .nil) ?_)
  refine At.seq (At.reg ?_)
  refine At.v (RunV.field ft57_0_0 rfl rfl) rfl ?_
  refine At.v (RunV.load ct3 rfl ((hO.at (i := 0) rfl).cell rfl)) rfl ?_
  refine At.v (RunV.eqI rfl rfl) rfl ?_
  refine At.v (RunV.assign rfl) rfl ?_
  refine At.nil (At.keep (.cons (t := 2) rfl <| .nil) ?_)
  refine At.ret ?_
  refine At.result1 rfl rfl ?_
  exact ⟨rfl, hO.le⟩

theorem row2_c (o r : Rw) (v1 v2 : Value) (b : Nat) (w : World) (h : Row w b 0 (r.cells v2)) :
    Ret Try.prog 89 [.agg (o.cells v1).toArray, .pointer (some ⟨b, 0, none⟩)] w fun v w' => v = .bool (sameRow r o) ∧ Le w w' := by
  refine Ret.enter Try.func89 rfl Try.ntmps89 rfl rfl ?_
  have hO := Own.start w
  refine At.seq (At.reg ?_)
  refine At.step rfl (Step.box hO rfl rfl ?_)
  intro b2 w1 hO hlb2 hnb2
  refine At.v (RunV.assign rfl) rfl ?_
  refine At.nil (At.keep (.cons (t := 1) rfl <| .cons (t := 2) rfl <| .nil) ?_)
  refine At.seq (At.reg ?_)
  refine At.v (RunV.field ft60_0_0 rfl rfl) rfl ?_
  refine At.v (RunV.load ct9 rfl ((hO.at (i := 0) rfl).cell rfl)) rfl ?_
  refine At.v (RunV.field ft60_0_0 rfl rfl) rfl ?_
  refine At.v (RunV.load ct9 rfl (cell_le (h.cell (i := 0) rfl) hO.le)) rfl ?_
  refine At.v (RunV.eqS rfl rfl) rfl ?_
  refine At.v (RunV.move rfl) rfl ?_
  refine At.g (Guard.t rfl rfl rfl) (fun hc => RunV.field ft60_1_1 rfl rfl) rfl ?_
  refine At.g (Guard.t rfl rfl rfl) (fun hc => RunV.load ct4 (gvE rfl hc) ((hO.at (i := 0) rfl).cell rfl)) rfl ?_
  refine At.g (Guard.t rfl rfl rfl) (fun hc => RunV.field ft60_1_1 rfl rfl) rfl ?_
  refine At.g (Guard.t rfl rfl rfl) (fun hc => RunV.load ct4 (gvE rfl hc) (cell_le (h.cell (i := 1) rfl) hO.le)) rfl ?_
  refine At.keep (.cons (t := 1) rfl <| .cons (t := 2) rfl <| .cons (t := 9) rfl <| .cons (t := 11) rfl <| .cons (t := 13) rfl <| .nil) ?_
  refine At.g (Guard.t rfl rfl rfl) (fun hc => RunV.eqB (gvE rfl hc) (gvE rfl hc) un4) rfl ?_
  refine At.v (RunV.pickAnd rfl rfl) rfl ?_
  refine At.v (RunV.move rfl) rfl ?_
  refine At.g (Guard.t rfl rfl rfl) (fun hc => RunV.field ft60_2_2 rfl rfl) rfl ?_
  refine At.g (Guard.t rfl rfl rfl) (fun hc => RunV.load ct3 (gvE rfl hc) ((hO.at (i := 0) rfl).cell rfl)) rfl ?_
  refine At.g (Guard.t rfl rfl rfl) (fun hc => RunV.field ft60_2_2 rfl rfl) rfl ?_
  refine At.g (Guard.t rfl rfl rfl) (fun hc => RunV.load ct3 (gvE rfl hc) (cell_le (h.cell (i := 2) rfl) hO.le)) rfl ?_
  refine At.g (Guard.t rfl rfl rfl) (fun hc => RunV.eqI (gvE rfl hc) (gvE rfl hc)) rfl ?_
  refine At.v (RunV.pickAnd rfl rfl) rfl ?_
  refine At.v (RunV.assign rfl) rfl ?_
  refine At.nil (At.keep (.cons (t := 3) rfl <| .nil) ?_)
  refine At.ret ?_
  refine At.result1 rfl rfl ?_
  exact ⟨rfl, hO.le⟩

theorem state1_c (o s : Stt) (v1 v2 : Value) (b : Nat) (w : World) (h : Row w b 0 (s.cells v2)) :
    Ret Try.prog 70 [.agg (o.cells v1).toArray, .pointer (some ⟨b, 0, none⟩)] w fun v w' => v = .bool (seq o.name s.name) ∧ Le w w' := by
  refine Ret.enter Try.func70 rfl Try.ntmps70 rfl rfl ?_
  have hO := Own.start w
  refine At.seq (At.reg ?_)
  refine At.step rfl (Step.box hO rfl rfl ?_)
  intro b2 w1 hO hlb2 hnb2
  refine At.v (RunV.assign rfl) rfl ?_
  refine At.nil (At.keep (.cons (t := 1) rfl <| .cons (t := 2) rfl <| .nil) ?_)
  refine At.seq (At.reg ?_)
  refine At.v (RunV.field ft63_0_0 rfl rfl) rfl ?_
  refine At.v (RunV.load ct9 rfl ((hO.at (i := 0) rfl).cell rfl)) rfl ?_
  refine At.v (RunV.field ft63_0_0 rfl rfl) rfl ?_
  refine At.v (RunV.load ct9 rfl (cell_le (h.cell (i := 0) rfl) hO.le)) rfl ?_
  refine At.v (RunV.eqS rfl rfl) rfl ?_
  refine At.v (RunV.assign rfl) rfl ?_
  refine At.nil (At.keep (.cons (t := 3) rfl <| .nil) ?_)
  refine At.ret ?_
  refine At.result1 rfl rfl ?_
  exact ⟨rfl, hO.le⟩

theorem kind3_c (o k : Knd) (v1 u1 v2 u2 : Value) (b : Nat) (w : World) (h : Row w b 0 (k.cells v2 u2)) :
    Ret Try.prog 52 [.agg (o.cells v1 u1).toArray, .pointer (some ⟨b, 0, none⟩)] w fun v w' => v = .bool (seq o.name k.name) ∧ Le w w' := by
  refine Ret.enter Try.func52 rfl Try.ntmps52 rfl rfl ?_
  have hO := Own.start w
  refine At.seq (At.reg ?_)
  refine At.step rfl (Step.box hO rfl rfl ?_)
  intro b2 w1 hO hlb2 hnb2
  refine At.v (RunV.assign rfl) rfl ?_
  refine At.nil (At.keep (.cons (t := 1) rfl <| .cons (t := 2) rfl <| .nil) ?_)
  refine At.seq (At.reg ?_)
  refine At.v (RunV.field ft67_0_0 rfl rfl) rfl ?_
  refine At.v (RunV.load ct9 rfl ((hO.at (i := 0) rfl).cell rfl)) rfl ?_
  refine At.v (RunV.field ft67_0_0 rfl rfl) rfl ?_
  refine At.v (RunV.load ct9 rfl (cell_le (h.cell (i := 0) rfl) hO.le)) rfl ?_
  refine At.v (RunV.eqS rfl rfl) rfl ?_
  refine At.v (RunV.assign rfl) rfl ?_
  refine At.nil (At.keep (.cons (t := 3) rfl <| .nil) ?_)
  refine At.ret ?_
  refine At.result1 rfl rfl ?_
  exact ⟨rfl, hO.le⟩

theorem kind2_c (d c : Cas) (b : Nat) (w : World) (h : Row w b 0 (c.cells)) :
    Ret Try.prog 49 [.agg (d.cells).toArray, .pointer (some ⟨b, 0, none⟩)] w fun v w' => v = .bool (seq d.reason c.reason) ∧ Le w w' := by
  refine Ret.enter Try.func49 rfl Try.ntmps49 rfl rfl ?_
  have hO := Own.start w
  refine At.seq (At.reg ?_)
  refine At.step rfl (Step.box hO rfl rfl ?_)
  intro b2 w1 hO hlb2 hnb2
  refine At.v (RunV.assign rfl) rfl ?_
  refine At.nil (At.keep (.cons (t := 1) rfl <| .cons (t := 2) rfl <| .nil) ?_)
  refine At.seq (At.reg ?_)
  refine At.v (RunV.field ft103_0_0 rfl rfl) rfl ?_
  refine At.v (RunV.load ct9 rfl ((hO.at (i := 0) rfl).cell rfl)) rfl ?_
  refine At.v (RunV.field ft103_0_0 rfl rfl) rfl ?_
  refine At.v (RunV.load ct9 rfl (cell_le (h.cell (i := 0) rfl) hO.le)) rfl ?_
  refine At.v (RunV.eqS rfl rfl) rfl ?_
  refine At.v (RunV.assign rfl) rfl ?_
  refine At.nil (At.keep (.cons (t := 3) rfl <| .nil) ?_)
  refine At.ret ?_
  refine At.result1 rfl rfl ?_
  exact ⟨rfl, hO.le⟩

theorem effect1_c (o : Knd) (e : Eff) (v1 u1 : Value) (b : Nat) (w : World) (h : Row w b 0 (e.cells)) :
    Ret Try.prog 95 [.agg (o.cells v1 u1).toArray, .pointer (some ⟨b, 0, none⟩)] w fun v w' => v = .bool (seq o.name e.name) ∧ Le w w' := by
  refine Ret.enter Try.func95 rfl Try.ntmps95 rfl rfl ?_
  have hO := Own.start w
  refine At.seq (At.reg ?_)
  refine At.step rfl (Step.box hO rfl rfl ?_)
  intro b2 w1 hO hlb2 hnb2
  refine At.v (RunV.assign rfl) rfl ?_
  refine At.nil (At.keep (.cons (t := 1) rfl <| .cons (t := 2) rfl <| .nil) ?_)
  refine At.seq (At.reg ?_)
  refine At.v (RunV.field ft67_0_0 rfl rfl) rfl ?_
  refine At.v (RunV.load ct9 rfl ((hO.at (i := 0) rfl).cell rfl)) rfl ?_
  refine At.v (RunV.field ft57_3_3 rfl rfl) rfl ?_
  refine At.v (RunV.load ct9 rfl (cell_le (h.cell (i := 3) rfl) hO.le)) rfl ?_
  refine At.v (RunV.eqS rfl rfl) rfl ?_
  refine At.v (RunV.assign rfl) rfl ?_
  refine At.nil (At.keep (.cons (t := 3) rfl <| .nil) ?_)
  refine At.ret ?_
  refine At.result1 rfl rfl ?_
  exact ⟨rfl, hO.le⟩

theorem effect2_c (o : Stt) (e : Eff) (v1 : Value) (b : Nat) (w : World) (h : Row w b 0 (e.cells)) :
    Ret Try.prog 96 [.agg (o.cells v1).toArray, .pointer (some ⟨b, 0, none⟩)] w fun v w' => v = .bool (seq o.name e.name) ∧ Le w w' := by
  refine Ret.enter Try.func96 rfl Try.ntmps96 rfl rfl ?_
  have hO := Own.start w
  refine At.seq (At.reg ?_)
  refine At.step rfl (Step.box hO rfl rfl ?_)
  intro b2 w1 hO hlb2 hnb2
  refine At.v (RunV.assign rfl) rfl ?_
  refine At.nil (At.keep (.cons (t := 1) rfl <| .cons (t := 2) rfl <| .nil) ?_)
  refine At.seq (At.reg ?_)
  refine At.v (RunV.field ft63_0_0 rfl rfl) rfl ?_
  refine At.v (RunV.load ct9 rfl ((hO.at (i := 0) rfl).cell rfl)) rfl ?_
  refine At.v (RunV.field ft57_3_3 rfl rfl) rfl ?_
  refine At.v (RunV.load ct9 rfl (cell_le (h.cell (i := 3) rfl) hO.le)) rfl ?_
  refine At.v (RunV.eqS rfl rfl) rfl ?_
  refine At.v (RunV.assign rfl) rfl ?_
  refine At.nil (At.keep (.cons (t := 3) rfl <| .nil) ?_)
  refine At.ret ?_
  refine At.result1 rfl rfl ?_
  exact ⟨rfl, hO.le⟩

theorem kind1_c (c : Cas) (w : World) :
    Ret Try.prog 47 [.agg (c.cells).toArray] w fun v w' => v = .bool (oddCase c) ∧ Le w w' := by
  refine Ret.enter Try.func47 rfl Try.ntmps47 rfl rfl ?_
  have hO := Own.start w
  refine At.seq (At.reg ?_)
  refine At.step rfl (Step.box hO rfl rfl ?_)
  intro b1 w1 hO hlb1 hnb1
  refine At.v (RunV.assign rfl) rfl ?_
  refine At.nil (At.keep (.cons (t := 1) rfl <| .nil) ?_)
  refine At.seq (At.reg ?_)
  refine At.v (RunV.field ft103_0_0 rfl rfl) rfl ?_
  refine At.v (RunV.load ct9 rfl ((hO.at (i := 0) rfl).cell rfl)) rfl ?_
  refine At.callS rfl pf48 rfl (named_c _ _) rfl ?_
  refine At.v (RunV.not rfl) rfl ?_
  refine At.v (RunV.move rfl) rfl ?_
  refine At.g (Guard.f rfl rfl rfl) (fun hc => RunV.field ft103_1_1 rfl rfl) rfl ?_
  refine At.g (Guard.f rfl rfl rfl) (fun hc => RunV.load ct3 (gvE rfl hc) ((hO.at (i := 0) rfl).cell rfl)) rfl ?_
  refine At.g (Guard.f rfl rfl rfl) (fun hc => RunV.ltI (gvE rfl hc) rfl) rfl ?_
  refine At.v (RunV.pickOr rfl rfl) rfl ?_
  refine At.v (RunV.move rfl) rfl ?_
  refine At.keep (.cons (t := 1) rfl <| .cons (t := 12) rfl <| .nil) ?_
  refine At.g (Guard.f rfl rfl rfl) (fun hc => RunV.field ft103_1_1 rfl rfl) rfl ?_
  refine At.g (Guard.f rfl rfl rfl) (fun hc => RunV.load ct3 (gvE rfl hc) ((hO.at (i := 0) rfl).cell rfl)) rfl ?_
  refine At.g (Guard.f rfl rfl rfl) (fun hc => RunV.gtI (gvE rfl hc) rfl) rfl ?_
  refine At.v (RunV.pickOr rfl rfl) rfl ?_
  refine At.v (RunV.assign rfl) rfl ?_
  refine At.nil (At.keep (.cons (t := 2) rfl <| .nil) ?_)
  refine At.ret ?_
  refine At.result1 rfl rfl ?_
  exact ⟨rfl, hO.le⟩

set_option maxHeartbeats 1000000 in
theorem effect_c (p : Prg) (k : Knd) (e : Eff) (last : Bool) (pv kv ku : Value) (w : World) (hP : PrgR G0 w pv p) (hU : SlOf G0 2 (SttR G0) w ku k.states) :
    Ret Try.prog 91 [.agg [pv].toArray, .agg (k.cells kv ku).toArray, .agg (e.cells).toArray, .bool last] w fun v w' => v = .int .i64 (effectE p k e last) ∧ Le w w' := by
  refine Ret.enter Try.func91 rfl Try.ntmps91 rfl rfl ?_
  have hO := Own.start w
  refine At.seq (At.reg ?_)
  refine At.step rfl (Step.box hO rfl rfl ?_)
  intro b4 w1 hO hlb4 hnb4
  refine At.step rfl (Step.box hO rfl rfl ?_)
  intro b5 w2 hO hlb5 hnb5
  refine At.step rfl (Step.box hO rfl rfl ?_)
  intro b6 w3 hO hlb6 hnb6
  refine At.v (RunV.assign rfl) rfl ?_
  refine At.nil (At.keep (.cons (t := 3) rfl <| .cons (t := 4) rfl <| .cons (t := 5) rfl <| .cons (t := 6) rfl <| .nil) ?_)
  refine At.seq (At.reg ?_)
  refine At.v (RunV.field ft57_0_0 rfl rfl) rfl ?_
  refine At.v (RunV.load ct3 rfl ((hO.at (i := 0) rfl).cell rfl)) rfl ?_
  refine At.callS rfl pf94 rfl (parts_c _ _) rfl ?_
  refine At.v (RunV.move rfl) rfl ?_
  refine At.v (RunV.extract rfl rfl) rfl ?_
  refine At.v (RunV.extract rfl rfl) rfl ?_
  refine At.v (RunV.extract rfl rfl) rfl ?_
  refine At.v (RunV.extract rfl rfl) rfl ?_
  refine At.v (RunV.extract rfl rfl) rfl ?_
  refine At.v (RunV.assign rfl) rfl ?_
  refine At.keep (.cons (t := 3) rfl <| .cons (t := 4) rfl <| .cons (t := 5) rfl <| .cons (t := 6) rfl <| .cons (t := 9) rfl <| .cons (t := 22) rfl <| .cons (t := 23) rfl <| .cons (t := 24) rfl <| .cons (t := 25) rfl <| .nil) ?_
  refine At.v (RunV.assign rfl) rfl ?_
  refine At.v (RunV.assign rfl) rfl ?_
  refine At.v (RunV.assign rfl) rfl ?_
  refine At.v (RunV.assign rfl) rfl ?_
  refine At.nil (At.keep (.cons (t := 3) rfl <| .cons (t := 4) rfl <| .cons (t := 5) rfl <| .cons (t := 6) rfl <| .cons (t := 9) rfl <| .cons (t := 10) rfl <| .cons (t := 11) rfl <| .cons (t := 12) rfl <| .cons (t := 13) rfl <| .nil) ?_)
  refine At.seq (At.reg ?_)
  refine At.v (RunV.field ft24_0_0 rfl rfl) rfl ?_
  refine At.v (RunV.load ct22 rfl ((hO.at (i := 2) rfl).cell rfl)) rfl ?_
  refine At.v (RunV.makeFunc rfl) rfl ?_
  refine At.callE hO rfl pf51 rfl (contfK_c (fun o => seq o.name e.name) p pv 95 [_] pf95 _ (hP.le hO.le) (fun i x cs w' _ _ hl hR => by obtain ⟨v1, u1, rfl, _⟩ := hR; exact effect1_c x e v1 u1 _ _ ((hO.at (i := 0) rfl).row.le hl))) rfl ?_
  intro w4 hO hl
  refine At.v (RunV.assign rfl) rfl ?_
  refine At.nil (At.keep (.cons (t := 3) rfl <| .cons (t := 5) rfl <| .cons (t := 6) rfl <| .cons (t := 9) rfl <| .cons (t := 10) rfl <| .cons (t := 11) rfl <| .cons (t := 12) rfl <| .cons (t := 13) rfl <| .cons (t := 14) rfl <| .nil) ?_)
  refine At.seq (At.reg ?_)
  refine At.v (RunV.field ft67_4_4 rfl rfl) rfl ?_
  refine At.v (RunV.load ct64 rfl ((hO.at (i := 1) rfl).cell rfl)) rfl ?_
  refine At.v (RunV.makeFunc rfl) rfl ?_
  refine At.callE hO rfl pf69 rfl (contfS_c (fun o => seq o.name e.name) k.states ku 96 [_] pf96 _ (hU.le hO.le fun _ _ _ h => h.le hO.le) (fun i x cs w' _ _ hl hR => by obtain ⟨v1, rfl, _⟩ := hR; exact effect2_c x e v1 _ _ ((hO.at (i := 0) rfl).row.le hl))) rfl ?_
  intro w5 hO hl
  refine At.v (RunV.assign rfl) rfl ?_
  refine At.nil (At.keep (.cons (t := 3) rfl <| .cons (t := 6) rfl <| .cons (t := 9) rfl <| .cons (t := 10) rfl <| .cons (t := 11) rfl <| .cons (t := 12) rfl <| .cons (t := 13) rfl <| .cons (t := 14) rfl <| .cons (t := 15) rfl <| .nil) ?_)
  refine At.seq (At.reg ?_)
  refine At.v (RunV.field ft57_4_4 rfl rfl) rfl ?_
  refine At.v (RunV.load ct3 rfl ((hO.at (i := 0) rfl).cell rfl)) rfl ?_
  refine At.v (RunV.eqI rfl rfl) rfl ?_
  refine At.v (RunV.assign rfl) rfl ?_
  refine At.nil (At.keep (.cons (t := 3) rfl <| .cons (t := 6) rfl <| .cons (t := 9) rfl <| .cons (t := 10) rfl <| .cons (t := 11) rfl <| .cons (t := 12) rfl <| .cons (t := 13) rfl <| .cons (t := 14) rfl <| .cons (t := 15) rfl <| .cons (t := 16) rfl <| .nil) ?_)
  refine At.seq (At.pi hmix (.take 0 (.take 1 (.take 2 (.take 3 (.take 4 (.take 5 (.take 6 (.take 7 (.take 8 (.take 9 (.take 10 (.take 12 (.take 13 (.take 27 (.take 45 (.take 62 (.take 83 (.take 84 (.take 85 (.take 101 (.take 102 (.take 103 (.take 119 (.take 120 (.take 121 (.take 136 (.take 137 (.take 138 (.run 11 (.run 14 (.take 15 (.take 16 (.take 17 (.take 18 (.take 19 (.take 20 (.take 21 (.take 22 (.take 23 (.take 24 (.take 25 (.take 26 (.take 28 (.take 30 (.take 31 (.run 29 (.run 32 (.take 33 (.take 34 (.take 35 (.take 36 (.take 37 (.take 38 (.take 39 (.take 40 (.take 41 (.take 42 (.take 43 (.take 44 (.take 46 (.take 47 (.take 48 (.take 49 (.take 50 (.take 51 (.take 52 (.take 53 (.take 54 (.take 55 (.take 56 (.take 57 (.take 58 (.take 59 (.take 60 (.take 61 (.take 63 (.take 64 (.take 65 (.take 66 (.take 67 (.take 68 (.take 69 (.take 70 (.take 71 (.take 72 (.take 73 (.take 74 (.take 75 (.take 76 (.take 77 (.take 78 (.take 79 (.take 80 (.take 81 (.take 82 (.take 86 (.take 87 (.take 88 (.take 89 (.take 90 (.take 91 (.take 92 (.take 93 (.take 94 (.take 95 (.take 96 (.take 97 (.take 98 (.take 99 (.take 100 (.take 104 (.take 105 (.take 106 (.take 107 (.take 108 (.take 109 (.take 110 (.take 111 (.take 112 (.take 113 (.take 114 (.take 115 (.take 116 (.take 117 (.take 118 (.take 122 (.take 123 (.take 124 (.take 125 (.take 126 (.take 127 (.take 128 (.take 129 (.take 130 (.take 131 (.take 132 (.take 133 (.take 134 (.take 135 (.take 139 (.take 140 (.take 141 (.take 142 (.take 143 (.take 144 (.take 145 (.take 146 (.take 147 (.take 148 (.run 149 (.run 150 (.take 151 .done)))))))))))))))))))))))))))))))))))))))))))))))))))))))))))))))))))))))))))))))))))))))))))))))))))))))))))))))))))))))))))))))))))))))))))))))))))))))) (by kernel_rfl) (by kernel_rfl) ?_)
  intro w6 hs
  have hs0 := hs
  have hR := hO
  replace hO := hO.on hs
  refine At.take rfl (fun w' hs' => RunV.field ft57_0_0 rfl rfl) rfl ?_
  refine At.take rfl (fun w' hs' => RunV.load ct3 rfl (((hR.at (i := 0) rfl).le hs').cell rfl)) rfl ?_
  refine At.take rfl (fun w' hs' => RunV.ltI rfl rfl) rfl ?_
  refine At.take rfl (fun w' hs' => RunV.move rfl) rfl ?_
  refine At.takeG rfl (Guard.f rfl rfl rfl) (fun hc w' hs' => RunV.field ft57_0_0 rfl rfl) rfl ?_
  refine At.takeG rfl (Guard.f rfl rfl rfl) (fun hc w' hs' => RunV.load ct3 (gvE rfl hc) (((hR.at (i := 0) rfl).le hs').cell rfl)) rfl ?_
  refine At.takeG rfl (Guard.f rfl rfl rfl) (fun hc w' hs' => RunV.gtI (gvE rfl hc) rfl) rfl ?_
  refine At.take rfl (fun w' hs' => RunV.pickOr rfl rfl) rfl ?_
  refine At.take rfl (fun w' hs' => RunV.build pl71 zt71 rfl rfl) rfl ?_
  refine At.take rfl (fun w' hs' => RunV.move rfl) rfl ?_
  refine At.keep (.cons (t := 3) rfl <| .cons (t := 6) rfl <| .cons (t := 9) rfl <| .cons (t := 10) rfl <| .cons (t := 11) rfl <| .cons (t := 12) rfl <| .cons (t := 13) rfl <| .cons (t := 14) rfl <| .cons (t := 15) rfl <| .cons (t := 16) rfl <| .cons (t := 45) rfl <| .cons (t := 46) rfl <| .nil) ?_
  refine At.take rfl (fun w' hs' => RunV.move rfl) rfl ?_
  refine At.takeG rfl (Guard.t rfl rfl rfl) (fun hc w' hs' => RunV.field ft57_1_1 rfl rfl) rfl ?_
  refine At.takeG rfl (Guard.t rfl rfl rfl) (fun hc w' hs' => RunV.load ct9 (gvE rfl hc) (((hR.at (i := 0) rfl).le hs').cell rfl)) rfl ?_
  refine At.take rfl (fun w' hs' => RunV.move rfl) rfl ?_
  refine At.take rfl (fun w' hs' => RunV.move rfl) rfl ?_
  refine At.take rfl (fun w' hs' => RunV.move rfl) rfl ?_
  refine At.take rfl (fun w' hs' => RunV.field ft57_4_4 rfl rfl) rfl ?_
  refine At.take rfl (fun w' hs' => RunV.load ct3 rfl (((hR.at (i := 0) rfl).le hs').cell rfl)) rfl ?_
  refine At.take rfl (fun w' hs' => RunV.ltI rfl rfl) rfl ?_
  refine At.take rfl (fun w' hs' => RunV.field ft57_5_5 rfl rfl) rfl ?_
  refine At.keep (.cons (t := 3) rfl <| .cons (t := 6) rfl <| .cons (t := 9) rfl <| .cons (t := 10) rfl <| .cons (t := 11) rfl <| .cons (t := 12) rfl <| .cons (t := 13) rfl <| .cons (t := 14) rfl <| .cons (t := 15) rfl <| .cons (t := 16) rfl <| .cons (t := 45) rfl <| .cons (t := 47) rfl <| .cons (t := 50) rfl <| .cons (t := 64) rfl <| .cons (t := 82) rfl <| .cons (t := 99) rfl <| .cons (t := 122) rfl <| .cons (t := 138) rfl <| .nil) ?_
  refine At.take rfl (fun w' hs' => RunV.load ct3 rfl (((hR.at (i := 0) rfl).le hs').cell rfl)) rfl ?_
  refine At.take rfl (fun w' hs' => RunV.ltI rfl rfl) rfl ?_
  refine At.take rfl (fun w' hs' => RunV.field ft57_0_0 rfl rfl) rfl ?_
  refine At.take rfl (fun w' hs' => RunV.load ct3 rfl (((hR.at (i := 0) rfl).le hs').cell rfl)) rfl ?_
  refine At.take rfl (fun w' hs' => RunV.eqI rfl rfl) rfl ?_
  refine At.take rfl (fun w' hs' => RunV.field ft57_0_0 rfl rfl) rfl ?_
  refine At.take rfl (fun w' hs' => RunV.load ct3 rfl (((hR.at (i := 0) rfl).le hs').cell rfl)) rfl ?_
  refine At.take rfl (fun w' hs' => RunV.eqI rfl rfl) rfl ?_
  refine At.prunGB hO hs rfl (Guard.t rfl rfl rfl) st116_9_1 zt9 rfl rfl rfl rfl (fill_full rfl rfl) rfl ?_
  intro b48 w7 hO hs hblk48
  refine At.prunGE hO hs rfl (Guard.t rfl rfl rfl) (fun hc => rfl) pf97 (fun hc => (evL2 (gvE rfl hc) (gvE rfl hc))) (fun hc => (containsS_c _ _ refs e.ref (by decide) _ (hblk48 hc).row).mono fun _ _ h => ⟨h.1, h.2 ▸ Le.rfl' _⟩) rfl ?_
  intro w8 hO hs
  refine At.keep (.cons (t := 3) rfl <| .cons (t := 6) rfl <| .cons (t := 9) rfl <| .cons (t := 10) rfl <| .cons (t := 11) rfl <| .cons (t := 12) rfl <| .cons (t := 13) rfl <| .cons (t := 14) rfl <| .cons (t := 15) rfl <| .cons (t := 16) rfl <| .cons (t := 45) rfl <| .cons (t := 47) rfl <| .cons (t := 51) rfl <| .cons (t := 64) rfl <| .cons (t := 82) rfl <| .cons (t := 99) rfl <| .cons (t := 122) rfl <| .cons (t := 140) rfl <| .cons (t := 158) rfl <| .cons (t := 175) rfl <| .nil) ?_
  refine At.takeG rfl (Guard.t rfl rfl rfl) (fun hc w' hs' => RunV.not (gvE rfl hc)) rfl ?_
  refine At.take rfl (fun w' hs' => RunV.pickAnd rfl rfl) rfl ?_
  refine At.take rfl (fun w' hs' => RunV.move rfl) rfl ?_
  refine At.takeG rfl (Guard.f rfl rfl rfl) (fun hc w' hs' => RunV.move rfl) rfl ?_
  refine At.takeG rfl (Guard.f rfl rfl rfl) (fun hc w' hs' => RunV.not (gvE rfl hc)) rfl ?_
  refine At.takeG rfl (Guard.f rfl rfl rfl) (fun hc w' hs' => RunV.move (gvE rfl hc)) rfl ?_
  refine At.takeG rfl (Guard.gt rfl rfl rfl) (fun hc w' hs' => RunV.field ft57_1_1 rfl rfl) rfl ?_
  refine At.takeG rfl (Guard.gt rfl rfl rfl) (fun hc w' hs' => RunV.load ct9 (gvE rfl hc) (((hR.at (i := 0) rfl).le hs').cell rfl)) rfl ?_
  refine At.takeG rfl (Guard.gt rfl rfl rfl) (fun hc w' hs' => RunV.neS (gvE rfl hc) rfl) rfl ?_
  refine At.takeG rfl (Guard.f rfl rfl rfl) (fun hc w' hs' => RunV.pickAnd (gvE rfl hc) (gvE2 rfl hc)) rfl ?_
  refine At.keep (.cons (t := 3) rfl <| .cons (t := 6) rfl <| .cons (t := 10) rfl <| .cons (t := 11) rfl <| .cons (t := 12) rfl <| .cons (t := 13) rfl <| .cons (t := 14) rfl <| .cons (t := 15) rfl <| .cons (t := 16) rfl <| .cons (t := 45) rfl <| .cons (t := 54) rfl <| .cons (t := 61) rfl <| .cons (t := 64) rfl <| .cons (t := 82) rfl <| .cons (t := 99) rfl <| .cons (t := 122) rfl <| .cons (t := 140) rfl <| .cons (t := 158) rfl <| .cons (t := 175) rfl <| .nil) ?_
  refine At.take rfl (fun w' hs' => RunV.pickOr rfl rfl) rfl ?_
  refine At.take rfl (fun w' hs' => RunV.build pl71 zt71 rfl rfl) rfl ?_
  refine At.take rfl (fun w' hs' => RunV.move rfl) rfl ?_
  refine At.takeG rfl (Guard.t rfl rfl rfl) (fun hc w' hs' => RunV.field ft57_2_2 rfl rfl) rfl ?_
  refine At.takeG rfl (Guard.t rfl rfl rfl) (fun hc w' hs' => RunV.load ct9 (gvE rfl hc) (((hR.at (i := 0) rfl).le hs').cell rfl)) rfl ?_
  refine At.prunGB hO hs rfl (Guard.t rfl rfl rfl) st116_9_1 zt9 rfl rfl rfl rfl (fill_full rfl rfl) rfl ?_
  intro b66 w9 hO hs hblk66
  refine At.prunGE hO hs rfl (Guard.t rfl rfl rfl) (fun hc => rfl) pf97 (fun hc => (evL2 (gvE rfl hc) (gvE rfl hc))) (fun hc => (containsS_c _ _ slots e.slot (by decide) _ (hblk66 hc).row).mono fun _ _ h => ⟨h.1, h.2 ▸ Le.rfl' _⟩) rfl ?_
  intro w10 hO hs
  refine At.takeG rfl (Guard.t rfl rfl rfl) (fun hc w' hs' => RunV.not (gvE rfl hc)) rfl ?_
  refine At.take rfl (fun w' hs' => RunV.pickAnd rfl rfl) rfl ?_
  refine At.take rfl (fun w' hs' => RunV.move rfl) rfl ?_
  refine At.keep (.cons (t := 3) rfl <| .cons (t := 6) rfl <| .cons (t := 10) rfl <| .cons (t := 11) rfl <| .cons (t := 12) rfl <| .cons (t := 13) rfl <| .cons (t := 14) rfl <| .cons (t := 15) rfl <| .cons (t := 16) rfl <| .cons (t := 45) rfl <| .cons (t := 63) rfl <| .cons (t := 72) rfl <| .cons (t := 82) rfl <| .cons (t := 99) rfl <| .cons (t := 122) rfl <| .cons (t := 140) rfl <| .cons (t := 158) rfl <| .cons (t := 175) rfl <| .nil) ?_
  refine At.takeG rfl (Guard.f rfl rfl rfl) (fun hc w' hs' => RunV.move rfl) rfl ?_
  refine At.takeG rfl (Guard.f rfl rfl rfl) (fun hc w' hs' => RunV.not (gvE rfl hc)) rfl ?_
  refine At.takeG rfl (Guard.f rfl rfl rfl) (fun hc w' hs' => RunV.move (gvE rfl hc)) rfl ?_
  refine At.takeG rfl (Guard.gt rfl rfl rfl) (fun hc w' hs' => RunV.field ft57_2_2 rfl rfl) rfl ?_
  refine At.takeG rfl (Guard.gt rfl rfl rfl) (fun hc w' hs' => RunV.load ct9 (gvE rfl hc) (((hR.at (i := 0) rfl).le hs').cell rfl)) rfl ?_
  refine At.takeG rfl (Guard.gt rfl rfl rfl) (fun hc w' hs' => RunV.neS (gvE rfl hc) rfl) rfl ?_
  refine At.takeG rfl (Guard.f rfl rfl rfl) (fun hc w' hs' => RunV.pickAnd (gvE rfl hc) (gvE2 rfl hc)) rfl ?_
  refine At.take rfl (fun w' hs' => RunV.pickOr rfl rfl) rfl ?_
  refine At.take rfl (fun w' hs' => RunV.build pl71 zt71 rfl rfl) rfl ?_
  refine At.take rfl (fun w' hs' => RunV.move rfl) rfl ?_
  refine At.keep (.cons (t := 3) rfl <| .cons (t := 6) rfl <| .cons (t := 11) rfl <| .cons (t := 12) rfl <| .cons (t := 13) rfl <| .cons (t := 14) rfl <| .cons (t := 15) rfl <| .cons (t := 16) rfl <| .cons (t := 45) rfl <| .cons (t := 63) rfl <| .cons (t := 81) rfl <| .cons (t := 83) rfl <| .cons (t := 99) rfl <| .cons (t := 122) rfl <| .cons (t := 140) rfl <| .cons (t := 158) rfl <| .cons (t := 175) rfl <| .nil) ?_
  refine At.takeG rfl (Guard.t rfl rfl rfl) (fun hc w' hs' => RunV.field ft57_3_3 rfl rfl) rfl ?_
  refine At.takeG rfl (Guard.t rfl rfl rfl) (fun hc w' hs' => RunV.load ct9 (gvE rfl hc) (((hR.at (i := 0) rfl).le hs').cell rfl)) rfl ?_
  refine At.takeCallG rfl (Guard.t rfl rfl rfl) pf50 (fun hc => rfl) (fun hc => (evL1 (gvE rfl hc))) (fun hc w' hs' => name_c _ _) rfl ?_
  refine At.takeG rfl (Guard.t rfl rfl rfl) (fun hc w' hs' => RunV.not (gvE rfl hc)) rfl ?_
  refine At.take rfl (fun w' hs' => RunV.pickAnd rfl rfl) rfl ?_
  refine At.take rfl (fun w' hs' => RunV.move rfl) rfl ?_
  refine At.takeG rfl (Guard.f rfl rfl rfl) (fun hc w' hs' => RunV.move rfl) rfl ?_
  refine At.takeG rfl (Guard.f rfl rfl rfl) (fun hc w' hs' => RunV.not (gvE rfl hc)) rfl ?_
  refine At.takeG rfl (Guard.f rfl rfl rfl) (fun hc w' hs' => RunV.move (gvE rfl hc)) rfl ?_
  refine At.takeG rfl (Guard.gt rfl rfl rfl) (fun hc w' hs' => RunV.field ft57_3_3 rfl rfl) rfl ?_
  refine At.keep (.cons (t := 3) rfl <| .cons (t := 6) rfl <| .cons (t := 12) rfl <| .cons (t := 13) rfl <| .cons (t := 14) rfl <| .cons (t := 15) rfl <| .cons (t := 16) rfl <| .cons (t := 45) rfl <| .cons (t := 63) rfl <| .cons (t := 81) rfl <| .cons (t := 89) rfl <| .cons (t := 92) rfl <| .cons (t := 93) rfl <| .cons (t := 99) rfl <| .cons (t := 122) rfl <| .cons (t := 140) rfl <| .cons (t := 158) rfl <| .cons (t := 175) rfl <| .nil) ?_
  refine At.takeG rfl (Guard.gt rfl rfl rfl) (fun hc w' hs' => RunV.load ct9 (gvE rfl hc) (((hR.at (i := 0) rfl).le hs').cell rfl)) rfl ?_
  refine At.takeG rfl (Guard.gt rfl rfl rfl) (fun hc w' hs' => RunV.neS (gvE rfl hc) rfl) rfl ?_
  refine At.takeG rfl (Guard.f rfl rfl rfl) (fun hc w' hs' => RunV.pickAnd (gvE rfl hc) (gvE2 rfl hc)) rfl ?_
  refine At.take rfl (fun w' hs' => RunV.pickOr rfl rfl) rfl ?_
  refine At.take rfl (fun w' hs' => RunV.build pl71 zt71 rfl rfl) rfl ?_
  refine At.take rfl (fun w' hs' => RunV.move rfl) rfl ?_
  refine At.takeG rfl (Guard.t rfl rfl rfl) (fun hc w' hs' => RunV.field ft57_6_6 rfl rfl) rfl ?_
  refine At.takeG rfl (Guard.t rfl rfl rfl) (fun hc w' hs' => RunV.load ct3 (gvE rfl hc) (((hR.at (i := 0) rfl).le hs').cell rfl)) rfl ?_
  refine At.takeG rfl (Guard.t rfl rfl rfl) (fun hc w' hs' => RunV.ltI (gvE rfl hc) rfl) rfl ?_
  refine At.takeG rfl (Guard.t rfl rfl rfl) (fun hc w' hs' => RunV.move (gvE rfl hc)) rfl ?_
  refine At.keep (.cons (t := 3) rfl <| .cons (t := 6) rfl <| .cons (t := 12) rfl <| .cons (t := 13) rfl <| .cons (t := 14) rfl <| .cons (t := 15) rfl <| .cons (t := 16) rfl <| .cons (t := 45) rfl <| .cons (t := 63) rfl <| .cons (t := 81) rfl <| .cons (t := 98) rfl <| .cons (t := 100) rfl <| .cons (t := 104) rfl <| .cons (t := 122) rfl <| .cons (t := 140) rfl <| .cons (t := 158) rfl <| .cons (t := 175) rfl <| .nil) ?_
  refine At.takeG rfl (Guard.gf rfl rfl rfl) (fun hc w' hs' => RunV.field ft57_6_6 rfl rfl) rfl ?_
  refine At.takeG rfl (Guard.gf rfl rfl rfl) (fun hc w' hs' => RunV.load ct3 (gvE rfl hc) (((hR.at (i := 0) rfl).le hs').cell rfl)) rfl ?_
  refine At.takeG rfl (Guard.gf rfl rfl rfl) (fun hc w' hs' => RunV.gtI (gvE rfl hc) rfl) rfl ?_
  refine At.takeG rfl (Guard.t rfl rfl rfl) (fun hc w' hs' => RunV.pickOr (gvE rfl hc) (gvE2 rfl hc)) rfl ?_
  refine At.take rfl (fun w' hs' => RunV.pickAnd rfl rfl) rfl ?_
  refine At.take rfl (fun w' hs' => RunV.move rfl) rfl ?_
  refine At.takeG rfl (Guard.f rfl rfl rfl) (fun hc w' hs' => RunV.move rfl) rfl ?_
  refine At.takeG rfl (Guard.f rfl rfl rfl) (fun hc w' hs' => RunV.not (gvE rfl hc)) rfl ?_
  refine At.takeG rfl (Guard.f rfl rfl rfl) (fun hc w' hs' => RunV.move (gvE rfl hc)) rfl ?_
  refine At.takeG rfl (Guard.gt rfl rfl rfl) (fun hc w' hs' => RunV.field ft57_6_6 rfl rfl) rfl ?_
  refine At.keep (.cons (t := 3) rfl <| .cons (t := 6) rfl <| .cons (t := 12) rfl <| .cons (t := 14) rfl <| .cons (t := 15) rfl <| .cons (t := 16) rfl <| .cons (t := 45) rfl <| .cons (t := 63) rfl <| .cons (t := 81) rfl <| .cons (t := 98) rfl <| .cons (t := 110) rfl <| .cons (t := 113) rfl <| .cons (t := 114) rfl <| .cons (t := 122) rfl <| .cons (t := 140) rfl <| .cons (t := 158) rfl <| .cons (t := 175) rfl <| .nil) ?_
  refine At.takeG rfl (Guard.gt rfl rfl rfl) (fun hc w' hs' => RunV.load ct3 (gvE rfl hc) (((hR.at (i := 0) rfl).le hs').cell rfl)) rfl ?_
  refine At.takeG rfl (Guard.gt rfl rfl rfl) (fun hc w' hs' => RunV.neI (gvE rfl hc) rfl) rfl ?_
  refine At.takeG rfl (Guard.f rfl rfl rfl) (fun hc w' hs' => RunV.pickAnd (gvE rfl hc) (gvE2 rfl hc)) rfl ?_
  refine At.take rfl (fun w' hs' => RunV.pickOr rfl rfl) rfl ?_
  refine At.take rfl (fun w' hs' => RunV.build pl71 zt71 rfl rfl) rfl ?_
  refine At.take rfl (fun w' hs' => RunV.move rfl) rfl ?_
  refine At.takeG rfl (Guard.f rfl rfl rfl) (fun hc w' hs' => RunV.field ft57_4_4 rfl rfl) rfl ?_
  refine At.takeG rfl (Guard.f rfl rfl rfl) (fun hc w' hs' => RunV.load ct3 (gvE rfl hc) (((hR.at (i := 0) rfl).le hs').cell rfl)) rfl ?_
  refine At.takeG rfl (Guard.f rfl rfl rfl) (fun hc w' hs' => RunV.gtI (gvE rfl hc) rfl) rfl ?_
  refine At.take rfl (fun w' hs' => RunV.pickOr rfl rfl) rfl ?_
  refine At.keep (.cons (t := 3) rfl <| .cons (t := 6) rfl <| .cons (t := 12) rfl <| .cons (t := 14) rfl <| .cons (t := 15) rfl <| .cons (t := 16) rfl <| .cons (t := 45) rfl <| .cons (t := 63) rfl <| .cons (t := 81) rfl <| .cons (t := 98) rfl <| .cons (t := 119) rfl <| .cons (t := 127) rfl <| .cons (t := 140) rfl <| .cons (t := 158) rfl <| .cons (t := 175) rfl <| .nil) ?_
  refine At.take rfl (fun w' hs' => RunV.move rfl) rfl ?_
  refine At.takeG rfl (Guard.f rfl rfl rfl) (fun hc w' hs' => RunV.move rfl) rfl ?_
  refine At.takeG rfl (Guard.f rfl rfl rfl) (fun hc w' hs' => RunV.not (gvE rfl hc)) rfl ?_
  refine At.takeG rfl (Guard.f rfl rfl rfl) (fun hc w' hs' => RunV.move (gvE rfl hc)) rfl ?_
  refine At.takeG rfl (Guard.gt rfl rfl rfl) (fun hc w' hs' => RunV.field ft57_4_4 rfl rfl) rfl ?_
  refine At.takeG rfl (Guard.gt rfl rfl rfl) (fun hc w' hs' => RunV.load ct3 (gvE rfl hc) (((hR.at (i := 0) rfl).le hs').cell rfl)) rfl ?_
  refine At.takeG rfl (Guard.gt rfl rfl rfl) (fun hc w' hs' => RunV.neI (gvE rfl hc) rfl) rfl ?_
  refine At.takeG rfl (Guard.f rfl rfl rfl) (fun hc w' hs' => RunV.pickAnd (gvE rfl hc) (gvE2 rfl hc)) rfl ?_
  refine At.take rfl (fun w' hs' => RunV.pickOr rfl rfl) rfl ?_
  refine At.take rfl (fun w' hs' => RunV.build pl71 zt71 rfl rfl) rfl ?_
  refine At.keep (.cons (t := 3) rfl <| .cons (t := 6) rfl <| .cons (t := 14) rfl <| .cons (t := 15) rfl <| .cons (t := 16) rfl <| .cons (t := 45) rfl <| .cons (t := 63) rfl <| .cons (t := 81) rfl <| .cons (t := 98) rfl <| .cons (t := 119) rfl <| .cons (t := 137) rfl <| .cons (t := 140) rfl <| .cons (t := 158) rfl <| .cons (t := 175) rfl <| .nil) ?_
  refine At.take rfl (fun w' hs' => RunV.move rfl) rfl ?_
  refine At.takeG rfl (Guard.f rfl rfl rfl) (fun hc w' hs' => RunV.field ft57_5_5 rfl rfl) rfl ?_
  refine At.takeG rfl (Guard.f rfl rfl rfl) (fun hc w' hs' => RunV.load ct3 (gvE rfl hc) (((hR.at (i := 0) rfl).le hs').cell rfl)) rfl ?_
  refine At.takeG rfl (Guard.f rfl rfl rfl) (fun hc w' hs' => RunV.gtI (gvE rfl hc) rfl) rfl ?_
  refine At.take rfl (fun w' hs' => RunV.pickOr rfl rfl) rfl ?_
  refine At.take rfl (fun w' hs' => RunV.move rfl) rfl ?_
  refine At.takeG rfl (Guard.f rfl rfl rfl) (fun hc w' hs' => RunV.move rfl) rfl ?_
  refine At.takeG rfl (Guard.f rfl rfl rfl) (fun hc w' hs' => RunV.not (gvE rfl hc)) rfl ?_
  refine At.takeG rfl (Guard.f rfl rfl rfl) (fun hc w' hs' => RunV.move (gvE rfl hc)) rfl ?_
  refine At.takeG rfl (Guard.gt rfl rfl rfl) (fun hc w' hs' => RunV.field ft57_5_5 rfl rfl) rfl ?_
  refine At.keep (.cons (t := 3) rfl <| .cons (t := 6) rfl <| .cons (t := 14) rfl <| .cons (t := 15) rfl <| .cons (t := 45) rfl <| .cons (t := 63) rfl <| .cons (t := 81) rfl <| .cons (t := 98) rfl <| .cons (t := 119) rfl <| .cons (t := 137) rfl <| .cons (t := 146) rfl <| .cons (t := 149) rfl <| .cons (t := 150) rfl <| .cons (t := 158) rfl <| .cons (t := 175) rfl <| .nil) ?_
  refine At.takeG rfl (Guard.gt rfl rfl rfl) (fun hc w' hs' => RunV.load ct3 (gvE rfl hc) (((hR.at (i := 0) rfl).le hs').cell rfl)) rfl ?_
  refine At.takeG rfl (Guard.gt rfl rfl rfl) (fun hc w' hs' => RunV.neI (gvE rfl hc) rfl) rfl ?_
  refine At.takeG rfl (Guard.f rfl rfl rfl) (fun hc w' hs' => RunV.pickAnd (gvE rfl hc) (gvE2 rfl hc)) rfl ?_
  refine At.take rfl (fun w' hs' => RunV.pickOr rfl rfl) rfl ?_
  refine At.take rfl (fun w' hs' => RunV.build pl71 zt71 rfl rfl) rfl ?_
  refine At.take rfl (fun w' hs' => RunV.move rfl) rfl ?_
  refine At.takeG rfl (Guard.t rfl rfl rfl) (fun hc w' hs' => RunV.move rfl) rfl ?_
  refine At.takeG rfl (Guard.t rfl rfl rfl) (fun hc w' hs' => RunV.not (gvE rfl hc)) rfl ?_
  refine At.take rfl (fun w' hs' => RunV.pickAnd rfl rfl) rfl ?_
  refine At.take rfl (fun w' hs' => RunV.move rfl) rfl ?_
  refine At.keep (.cons (t := 3) rfl <| .cons (t := 6) rfl <| .cons (t := 15) rfl <| .cons (t := 45) rfl <| .cons (t := 63) rfl <| .cons (t := 81) rfl <| .cons (t := 98) rfl <| .cons (t := 119) rfl <| .cons (t := 137) rfl <| .cons (t := 155) rfl <| .cons (t := 163) rfl <| .cons (t := 175) rfl <| .nil) ?_
  refine At.takeG rfl (Guard.f rfl rfl rfl) (fun hc w' hs' => RunV.field ft57_0_0 rfl rfl) rfl ?_
  refine At.takeG rfl (Guard.f rfl rfl rfl) (fun hc w' hs' => RunV.load ct3 (gvE rfl hc) (((hR.at (i := 0) rfl).le hs').cell rfl)) rfl ?_
  refine At.takeG rfl (Guard.f rfl rfl rfl) (fun hc w' hs' => RunV.eqI (gvE rfl hc) rfl) rfl ?_
  refine At.takeG rfl (Guard.f rfl rfl rfl) (fun hc w' hs' => RunV.move (gvE rfl hc)) rfl ?_
  refine At.takeG rfl (Guard.gt rfl rfl rfl) (fun hc w' hs' => RunV.move rfl) rfl ?_
  refine At.takeG rfl (Guard.gt rfl rfl rfl) (fun hc w' hs' => RunV.not (gvE rfl hc)) rfl ?_
  refine At.takeG rfl (Guard.f rfl rfl rfl) (fun hc w' hs' => RunV.pickAnd (gvE rfl hc) (gvE2 rfl hc)) rfl ?_
  refine At.take rfl (fun w' hs' => RunV.pickOr rfl rfl) rfl ?_
  refine At.take rfl (fun w' hs' => RunV.build pl71 zt71 rfl rfl) rfl ?_
  refine At.take rfl (fun w' hs' => RunV.move rfl) rfl ?_
  refine At.keep (.cons (t := 3) rfl <| .cons (t := 6) rfl <| .cons (t := 45) rfl <| .cons (t := 63) rfl <| .cons (t := 81) rfl <| .cons (t := 98) rfl <| .cons (t := 119) rfl <| .cons (t := 137) rfl <| .cons (t := 155) rfl <| .cons (t := 172) rfl <| .cons (t := 176) rfl <| .nil) ?_
  refine At.takeG rfl (Guard.f rfl rfl rfl) (fun hc w' hs' => RunV.field ft57_0_0 rfl rfl) rfl ?_
  refine At.takeG rfl (Guard.f rfl rfl rfl) (fun hc w' hs' => RunV.load ct3 (gvE rfl hc) (((hR.at (i := 0) rfl).le hs').cell rfl)) rfl ?_
  refine At.takeG rfl (Guard.f rfl rfl rfl) (fun hc w' hs' => RunV.eqI (gvE rfl hc) rfl) rfl ?_
  refine At.take rfl (fun w' hs' => RunV.pickOr rfl rfl) rfl ?_
  refine At.take rfl (fun w' hs' => RunV.move rfl) rfl ?_
  refine At.takeG rfl (Guard.t rfl rfl rfl) (fun hc w' hs' => RunV.move rfl) rfl ?_
  refine At.takeG rfl (Guard.t rfl rfl rfl) (fun hc w' hs' => RunV.not (gvE rfl hc)) rfl ?_
  refine At.take rfl (fun w' hs' => RunV.pickAnd rfl rfl) rfl ?_
  refine At.take rfl (fun w' hs' => RunV.build pl71 zt71 rfl rfl) rfl ?_
  refine At.prun rfl rfl (Step.buildSlice hO st96_71_2 zt71 rfl rfl rfl rfl (fill_full rfl rfl) ?_)
  intro b186 w11 hO hlb186 hnb186
  refine ⟨hs.tr hlb186, ?_⟩
  replace hs := hs.tr hlb186
  refine At.prunE hO hs rfl rfl pf31 rfl (first_c _ _ (effectRules p k e last) (Nat.le_of_ble_eq_true rfl) _ (hO.at (i := 0) rfl).row) rfl ?_
  intro w12 hO hs
  refine At.take rfl (fun w' hs' => RunV.assign rfl) rfl ?_
  refine At.pdone (At.keep (.cons (t := 8) rfl <| .nil) ?_)
  refine At.ret ?_
  refine At.result1 rfl rfl ?_
  exact ⟨rfl, hO.le⟩

end Go.Proofs.Ytglilmcfhkedbaa
