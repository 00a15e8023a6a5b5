/- The walks of slices.Clone, of act.Row, act.Number, and of the closures of act and mercy; no condition. -/
import Derived.Test.YtglilmcfhkedbaaCl
namespace Go.Proofs.Ytglilmcfhkedbaa
open Go Go.RowKit

theorem ag87_5 : aggT Try.prog 87 5 = true := by kernel_rfl
theorem el103_2 : elemT Try.prog 103 2 = true := by kernel_rfl
theorem el57_7 : elemT Try.prog 57 7 = true := by kernel_rfl
theorem el60_4 : elemT Try.prog 60 4 = true := by kernel_rfl
theorem el63_2 : elemT Try.prog 63 2 = true := by kernel_rfl
theorem pf56 : plainFn Try.prog 56 = true := by kernel_rfl
theorem pf57 : plainFn Try.prog 57 = true := by kernel_rfl
theorem pf59 : plainFn Try.prog 59 = true := by kernel_rfl
theorem pf60 : plainFn Try.prog 60 = true := by kernel_rfl
theorem pf62 : plainFn Try.prog 62 = true := by kernel_rfl
theorem pf75 : plainFn Try.prog 75 = true := by kernel_rfl
theorem pf77 : plainFn Try.prog 77 = true := by kernel_rfl
theorem pf78 : plainFn Try.prog 78 = true := by kernel_rfl
theorem pf79 : plainFn Try.prog 79 = true := by kernel_rfl
theorem pf80 : plainFn Try.prog 80 = true := by kernel_rfl
theorem pf81 : plainFn Try.prog 81 = true := by kernel_rfl
theorem sz58_1 : sizeT Try.prog 58 1 = true := by kernel_rfl
theorem pl60 : placesT Try.prog 60 = some [(0, 1), (1, 1), (2, 1), (3, 1)] := by kernel_rfl
theorem un58 : Try.prog.underlying 58 = some (.slice 57) := by kernel_rfl
theorem un61 : Try.prog.underlying 61 = some (.slice 60) := by kernel_rfl
theorem un64 : Try.prog.underlying 64 = some (.slice 63) := by kernel_rfl
theorem un65 : Try.prog.underlying 65 = some (.slice 103) := by kernel_rfl

theorem cloneE_c {α : Type} {R : World → α → List Value → Prop} (xs : List α) (v : Value) (w : World) (hs : SlOf G0 7 R w v xs) (hm : xs.length ≤ 1000) (h1c : ∀ x cs, x ∈ xs → R w x cs → cs.all (·.oneCell') = true) :
    Ret Try.prog 78 [v] w fun u w' => Le w w' ∧ NewOf 57 7 R w w' u xs := by
  refine Ret.enter Try.func78 rfl Try.ntmps78 rfl rfl ?_
  have hO := Own.start w
  obtain ⟨a, cap, rfl, hle, hcap⟩ := hs.val
  refine At.seq (At.reg ?_)
  refine At.v (RunV.assign rfl) rfl ?_
  refine At.nil (At.keep (.cons (t := 0) rfl <| .nil) ?_)
  refine At.seq ?_
  refine At.seq (At.reg ?_)
  refine At.v (RunV.move rfl) rfl ?_
  refine At.v (RunV.eqNilS rfl un58) rfl ?_
  refine At.nil (At.keep (.cons (t := 0) rfl <| .cons (t := 4) rfl <| .nil) ?_)
  refine At.cond rfl (fun h1 => ?_) (fun h1 => ?_)
  · have hx : a = none := by cases a with | none => rfl | some a => cases h1
    refine At.seq (At.reg ?_)
    refine At.v (RunV.assign rfl) rfl ?_
    refine At.nil (At.keep (.cons (t := 2) rfl <| .nil) ?_)
    refine At.ret ?_
    refine At.result1 rfl rfl ?_
    refine ⟨hO.le, .inl ⟨rfl, ?_⟩⟩
    rcases hs with ⟨_, _, h2⟩ | ⟨b2, off2, cap2, h2, _, _, h3⟩
    · exact h2
    · rw [hx] at h2; cases h2
  · obtain ⟨ys, hyl, hsrc, hyx, hyc⟩ := hs.src
    have hy1 : ys.all (·.oneCell') = true := by
      rw [List.all_eq_true]
      intro v hv
      obtain ⟨x, cs, e1, e2, e3⟩ := hyc v hv
      exact List.all_eq_true.1 (h1c x cs e1 e2) v e3
    refine At.skip ?_
    refine At.seq (At.reg ?_)
    refine At.step rfl (Step.buildSlice0 hO st58_57_7 ?_)
    intro b w1 hO hl0 hS0 hb0
    refine At.v (RunV.move rfl) rfl ?_
    refine At.step rfl (Step.append st58_57_7 isl58 el57_7 rfl rfl hS0 (hsrc.le hl0) hyl hy1 (by omega) ?_)
    intro u w2 hS hM
    refine At.v (RunV.assign rfl) rfl ?_
    refine At.nil (At.keep (.cons (t := 2) rfl <| .nil) ?_)
    refine At.ret ?_
    refine At.result1 rfl rfl ?_
    have hf := hM.fresh hl0 (.inr ⟨b, 0, 0, rfl, hb0⟩)
    rw [Nat.zero_add, List.nil_append] at hS
    exact ⟨hf.1, .ofSl hS hf.2 hyx⟩

theorem cloneC_c {α : Type} {R : World → α → List Value → Prop} (xs : List α) (v : Value) (w : World) (hs : SlOf G0 2 R w v xs) (hm : xs.length ≤ 1000) (h1c : ∀ x cs, x ∈ xs → R w x cs → cs.all (·.oneCell') = true) :
    Ret Try.prog 79 [v] w fun u w' => Le w w' ∧ NewOf 103 2 R w w' u xs := by
  refine Ret.enter Try.func79 rfl Try.ntmps79 rfl rfl ?_
  have hO := Own.start w
  obtain ⟨a, cap, rfl, hle, hcap⟩ := hs.val
  refine At.seq (At.reg ?_)
  refine At.v (RunV.assign rfl) rfl ?_
  refine At.nil (At.keep (.cons (t := 0) rfl <| .nil) ?_)
  refine At.seq ?_
  refine At.seq (At.reg ?_)
  refine At.v (RunV.move rfl) rfl ?_
  refine At.v (RunV.eqNilS rfl un65) rfl ?_
  refine At.nil (At.keep (.cons (t := 0) rfl <| .cons (t := 4) rfl <| .nil) ?_)
  refine At.cond rfl (fun h1 => ?_) (fun h1 => ?_)
  · have hx : a = none := by cases a with | none => rfl | some a => cases h1
    refine At.seq (At.reg ?_)
    refine At.v (RunV.assign rfl) rfl ?_
    refine At.nil (At.keep (.cons (t := 2) rfl <| .nil) ?_)
    refine At.ret ?_
    refine At.result1 rfl rfl ?_
    refine ⟨hO.le, .inl ⟨rfl, ?_⟩⟩
    rcases hs with ⟨_, _, h2⟩ | ⟨b2, off2, cap2, h2, _, _, h3⟩
    · exact h2
    · rw [hx] at h2; cases h2
  · obtain ⟨ys, hyl, hsrc, hyx, hyc⟩ := hs.src
    have hy1 : ys.all (·.oneCell') = true := by
      rw [List.all_eq_true]
      intro v hv
      obtain ⟨x, cs, e1, e2, e3⟩ := hyc v hv
      exact List.all_eq_true.1 (h1c x cs e1 e2) v e3
    refine At.skip ?_
    refine At.seq (At.reg ?_)
    refine At.step rfl (Step.buildSlice0 hO st65_103_2 ?_)
    intro b w1 hO hl0 hS0 hb0
    refine At.v (RunV.move rfl) rfl ?_
    refine At.step rfl (Step.append st65_103_2 isl65 el103_2 rfl rfl hS0 (hsrc.le hl0) hyl hy1 (by omega) ?_)
    intro u w2 hS hM
    refine At.v (RunV.assign rfl) rfl ?_
    refine At.nil (At.keep (.cons (t := 2) rfl <| .nil) ?_)
    refine At.ret ?_
    refine At.result1 rfl rfl ?_
    have hf := hM.fresh hl0 (.inr ⟨b, 0, 0, rfl, hb0⟩)
    rw [Nat.zero_add, List.nil_append] at hS
    exact ⟨hf.1, .ofSl hS hf.2 hyx⟩

theorem cloneS_c {α : Type} {R : World → α → List Value → Prop} (xs : List α) (v : Value) (w : World) (hs : SlOf G0 2 R w v xs) (hm : xs.length ≤ 1000) (h1c : ∀ x cs, x ∈ xs → R w x cs → cs.all (·.oneCell') = true) :
    Ret Try.prog 80 [v] w fun u w' => Le w w' ∧ NewOf 63 2 R w w' u xs := by
  refine Ret.enter Try.func80 rfl Try.ntmps80 rfl rfl ?_
  have hO := Own.start w
  obtain ⟨a, cap, rfl, hle, hcap⟩ := hs.val
  refine At.seq (At.reg ?_)
  refine At.v (RunV.assign rfl) rfl ?_
  refine At.nil (At.keep (.cons (t := 0) rfl <| .nil) ?_)
  refine At.seq ?_
  refine At.seq (At.reg ?_)
  refine At.v (RunV.move rfl) rfl ?_
  refine At.v (RunV.eqNilS rfl un64) rfl ?_
  refine At.nil (At.keep (.cons (t := 0) rfl <| .cons (t := 4) rfl <| .nil) ?_)
  refine At.cond rfl (fun h1 => ?_) (fun h1 => ?_)
  · have hx : a = none := by cases a with | none => rfl | some a => cases h1
    refine At.seq (At.reg ?_)
    refine At.v (RunV.assign rfl) rfl ?_
    refine At.nil (At.keep (.cons (t := 2) rfl <| .nil) ?_)
    refine At.ret ?_
    refine At.result1 rfl rfl ?_
    refine ⟨hO.le, .inl ⟨rfl, ?_⟩⟩
    rcases hs with ⟨_, _, h2⟩ | ⟨b2, off2, cap2, h2, _, _, h3⟩
    · exact h2
    · rw [hx] at h2; cases h2
  · obtain ⟨ys, hyl, hsrc, hyx, hyc⟩ := hs.src
    have hy1 : ys.all (·.oneCell') = true := by
      rw [List.all_eq_true]
      intro v hv
      obtain ⟨x, cs, e1, e2, e3⟩ := hyc v hv
      exact List.all_eq_true.1 (h1c x cs e1 e2) v e3
    refine At.skip ?_
    refine At.seq (At.reg ?_)
    refine At.step rfl (Step.buildSlice0 hO st64_63_2 ?_)
    intro b w1 hO hl0 hS0 hb0
    refine At.v (RunV.move rfl) rfl ?_
    refine At.step rfl (Step.append st64_63_2 isl64 el63_2 rfl rfl hS0 (hsrc.le hl0) hyl hy1 (by omega) ?_)
    intro u w2 hS hM
    refine At.v (RunV.assign rfl) rfl ?_
    refine At.nil (At.keep (.cons (t := 2) rfl <| .nil) ?_)
    refine At.ret ?_
    refine At.result1 rfl rfl ?_
    have hf := hM.fresh hl0 (.inr ⟨b, 0, 0, rfl, hb0⟩)
    rw [Nat.zero_add, List.nil_append] at hS
    exact ⟨hf.1, .ofSl hS hf.2 hyx⟩

theorem cloneR_c {α : Type} {R : World → α → List Value → Prop} (xs : List α) (v : Value) (w : World) (hs : SlOf G0 4 R w v xs) (hm : xs.length ≤ 1000) (h1c : ∀ x cs, x ∈ xs → R w x cs → cs.all (·.oneCell') = true) :
    Ret Try.prog 81 [v] w fun u w' => Le w w' ∧ NewOf 60 4 R w w' u xs := by
  refine Ret.enter Try.func81 rfl Try.ntmps81 rfl rfl ?_
  have hO := Own.start w
  obtain ⟨a, cap, rfl, hle, hcap⟩ := hs.val
  refine At.seq (At.reg ?_)
  refine At.v (RunV.assign rfl) rfl ?_
  refine At.nil (At.keep (.cons (t := 0) rfl <| .nil) ?_)
  refine At.seq ?_
  refine At.seq (At.reg ?_)
  refine At.v (RunV.move rfl) rfl ?_
  refine At.v (RunV.eqNilS rfl un61) rfl ?_
  refine At.nil (At.keep (.cons (t := 0) rfl <| .cons (t := 4) rfl <| .nil) ?_)
  refine At.cond rfl (fun h1 => ?_) (fun h1 => ?_)
  · have hx : a = none := by cases a with | none => rfl | some a => cases h1
    refine At.seq (At.reg ?_)
    refine At.v (RunV.assign rfl) rfl ?_
    refine At.nil (At.keep (.cons (t := 2) rfl <| .nil) ?_)
    refine At.ret ?_
    refine At.result1 rfl rfl ?_
    refine ⟨hO.le, .inl ⟨rfl, ?_⟩⟩
    rcases hs with ⟨_, _, h2⟩ | ⟨b2, off2, cap2, h2, _, _, h3⟩
    · exact h2
    · rw [hx] at h2; cases h2
  · obtain ⟨ys, hyl, hsrc, hyx, hyc⟩ := hs.src
    have hy1 : ys.all (·.oneCell') = true := by
      rw [List.all_eq_true]
      intro v hv
      obtain ⟨x, cs, e1, e2, e3⟩ := hyc v hv
      exact List.all_eq_true.1 (h1c x cs e1 e2) v e3
    refine At.skip ?_
    refine At.seq (At.reg ?_)
    refine At.step rfl (Step.buildSlice0 hO st61_60_4 ?_)
    intro b w1 hO hl0 hS0 hb0
    refine At.v (RunV.move rfl) rfl ?_
    refine At.step rfl (Step.append st61_60_4 isl61 el60_4 rfl rfl hS0 (hsrc.le hl0) hyl hy1 (by omega) ?_)
    intro u w2 hS hM
    refine At.v (RunV.assign rfl) rfl ?_
    refine At.nil (At.keep (.cons (t := 2) rfl <| .nil) ?_)
    refine At.ret ?_
    refine At.result1 rfl rfl ?_
    have hf := hM.fresh hl0 (.inr ⟨b, 0, 0, rfl, hb0⟩)
    rw [Nat.zero_add, List.nil_append] at hS
    exact ⟨hf.1, .ofSl hS hf.2 hyx⟩

theorem aRow1_c (s : Stt) (v1 : Value) (state : ByteArray) (b : Nat) (w : World) (h : Row w b 0 [.string state]) :
    Ret Try.prog 75 [.agg (s.cells v1).toArray, .pointer (some ⟨b, 0, none⟩)] w fun v w' => v = .bool (seq s.name state) ∧ Le w w' := by
  refine Ret.enter Try.func75 rfl Try.ntmps75 rfl rfl ?_
  have hO := Own.start w
  refine At.seq (At.reg ?_)
  refine At.step rfl (Step.box hO rfl rfl ?_)
  intro b2 w1 hO hlb2 hnb2
  refine At.v (RunV.assign rfl) rfl ?_
  refine At.nil (At.keep (.cons (t := 1) rfl <| .cons (t := 2) rfl <| .nil) ?_)
  refine At.seq (At.reg ?_)
  refine At.v (RunV.field ft63_0_0 rfl rfl) rfl ?_
  refine At.v (RunV.load ct9 rfl ((hO.at (i := 0) rfl).cell rfl)) rfl ?_
  refine At.v (RunV.load ct9 rfl (cell_le (h.cell (i := 0) rfl) hO.le)) rfl ?_
  refine At.v (RunV.eqS rfl rfl) rfl ?_
  refine At.v (RunV.assign rfl) rfl ?_
  refine At.nil (At.keep (.cons (t := 3) rfl <| .nil) ?_)
  refine At.ret ?_
  refine At.result1 rfl rfl ?_
  exact ⟨rfl, hO.le⟩

theorem aRow2_c (r : Rw) (v1 : Value) (tag : ByteArray) (n : Int) (bt bn : Nat) (w : World) (ht : Row w bt 0 [.string tag]) (hn : Row w bn 0 [.int .i64 n]) :
    Ret Try.prog 77 [.agg (r.cells v1).toArray, .pointer (some ⟨bt, 0, none⟩), .pointer (some ⟨bn, 0, none⟩)] w fun v w' => v = .bool (meets tag n r) ∧ Le w w' := by
  refine Ret.enter Try.func77 rfl Try.ntmps77 rfl rfl ?_
  have hO := Own.start w
  refine At.seq (At.reg ?_)
  refine At.step rfl (Step.box hO rfl rfl ?_)
  intro b3 w1 hO hlb3 hnb3
  refine At.v (RunV.assign rfl) rfl ?_
  refine At.nil (At.keep (.cons (t := 1) rfl <| .cons (t := 2) rfl <| .cons (t := 3) rfl <| .nil) ?_)
  refine At.seq (At.reg ?_)
  refine At.v (RunV.field ft60_0_0 rfl rfl) rfl ?_
  refine At.v (RunV.load ct9 rfl ((hO.at (i := 0) rfl).cell rfl)) rfl ?_
  refine At.v (RunV.eqS rfl rfl) rfl ?_
  refine At.v (RunV.move rfl) rfl ?_
  refine At.g (Guard.f rfl rfl rfl) (fun hc => RunV.field ft60_0_0 rfl rfl) rfl ?_
  refine At.g (Guard.f rfl rfl rfl) (fun hc => RunV.load ct9 (gvE rfl hc) ((hO.at (i := 0) rfl).cell rfl)) rfl ?_
  refine At.g (Guard.f rfl rfl rfl) (fun hc => RunV.load ct9 rfl (cell_le (ht.cell (i := 0) rfl) hO.le)) rfl ?_
  refine At.g (Guard.f rfl rfl rfl) (fun hc => RunV.eqS (gvE rfl hc) (gvE rfl hc)) rfl ?_
  refine At.g (Guard.f rfl rfl rfl) (fun hc => RunV.move (gvE rfl hc)) rfl ?_
  refine At.g (Guard.gt rfl rfl rfl) (fun hc => RunV.field ft60_1_1 rfl rfl) rfl ?_
  refine At.keep (.cons (t := 2) rfl <| .cons (t := 3) rfl <| .cons (t := 8) rfl <| .cons (t := 13) rfl <| .cons (t := 14) rfl <| .nil) ?_
  refine At.g (Guard.gt rfl rfl rfl) (fun hc => RunV.load ct4 (gvE rfl hc) ((hO.at (i := 0) rfl).cell rfl)) rfl ?_
  refine At.g (Guard.gt rfl rfl rfl) (fun hc => RunV.not (gvE rfl hc)) rfl ?_
  refine At.g (Guard.gt rfl rfl rfl) (fun hc => RunV.move (gvE rfl hc)) rfl ?_
  refine At.g (Guard.gf rfl rfl rfl) (fun hc => RunV.field ft60_2_2 rfl rfl) rfl ?_
  refine At.g (Guard.gf rfl rfl rfl) (fun hc => RunV.load ct3 (gvE rfl hc) ((hO.at (i := 0) rfl).cell rfl)) rfl ?_
  refine At.g (Guard.gf rfl rfl rfl) (fun hc => RunV.load ct3 rfl (cell_le (hn.cell (i := 0) rfl) hO.le)) rfl ?_
  refine At.g (Guard.gf rfl rfl rfl) (fun hc => RunV.eqI (gvE rfl hc) (gvE rfl hc)) rfl ?_
  refine At.g (Guard.gt rfl rfl rfl) (fun hc => RunV.pickOr (gvE rfl hc) (gvE2 rfl hc)) rfl ?_
  refine At.g (Guard.f rfl rfl rfl) (fun hc => RunV.pickAnd (gvE rfl hc) (gvE2 rfl hc)) rfl ?_
  refine At.v (RunV.pickOr rfl rfl) rfl ?_
  refine At.v (RunV.assign rfl) rfl ?_
  refine At.nil (At.keep (.cons (t := 4) rfl <| .nil) ?_)
  refine At.ret ?_
  refine At.result1 rfl rfl ?_
  exact ⟨rfl, hO.le⟩

theorem find1_c (k : Knd) (v1 u1 : Value) (name : ByteArray) (b : Nat) (w : World) (h : Row w b 0 [.string name]) :
    Ret Try.prog 59 [.agg (k.cells v1 u1).toArray, .pointer (some ⟨b, 0, none⟩)] w fun v w' => v = .bool (seq k.name name) ∧ Le w w' := by
  refine Ret.enter Try.func59 rfl Try.ntmps59 rfl rfl ?_
  have hO := Own.start w
  refine At.seq (At.reg ?_)
  refine At.step rfl (Step.box hO rfl rfl ?_)
  intro b2 w1 hO hlb2 hnb2
  refine At.v (RunV.assign rfl) rfl ?_
  refine At.nil (At.keep (.cons (t := 1) rfl <| .cons (t := 2) rfl <| .nil) ?_)
  refine At.seq (At.reg ?_)
  refine At.v (RunV.field ft67_0_0 rfl rfl) rfl ?_
  refine At.v (RunV.load ct9 rfl ((hO.at (i := 0) rfl).cell rfl)) rfl ?_
  refine At.v (RunV.load ct9 rfl (cell_le (h.cell (i := 0) rfl) hO.le)) rfl ?_
  refine At.v (RunV.eqS rfl rfl) rfl ?_
  refine At.v (RunV.assign rfl) rfl ?_
  refine At.nil (At.keep (.cons (t := 3) rfl <| .nil) ?_)
  refine At.ret ?_
  refine At.result1 rfl rfl ?_
  exact ⟨rfl, hO.le⟩

theorem dir1_c (c : Cas) (reason : ByteArray) (b : Nat) (w : World) (h : Row w b 0 [.string reason]) :
    Ret Try.prog 62 [.agg (c.cells).toArray, .pointer (some ⟨b, 0, none⟩)] w fun v w' => v = .bool (seq c.reason reason) ∧ Le w w' := by
  refine Ret.enter Try.func62 rfl Try.ntmps62 rfl rfl ?_
  have hO := Own.start w
  refine At.seq (At.reg ?_)
  refine At.step rfl (Step.box hO rfl rfl ?_)
  intro b2 w1 hO hlb2 hnb2
  refine At.v (RunV.assign rfl) rfl ?_
  refine At.nil (At.keep (.cons (t := 1) rfl <| .cons (t := 2) rfl <| .nil) ?_)
  refine At.seq (At.reg ?_)
  refine At.v (RunV.field ft103_0_0 rfl rfl) rfl ?_
  refine At.v (RunV.load ct9 rfl ((hO.at (i := 0) rfl).cell rfl)) rfl ?_
  refine At.v (RunV.load ct9 rfl (cell_le (h.cell (i := 0) rfl) hO.le)) rfl ?_
  refine At.v (RunV.eqS rfl rfl) rfl ?_
  refine At.v (RunV.assign rfl) rfl ?_
  refine At.nil (At.keep (.cons (t := 3) rfl <| .nil) ?_)
  refine At.ret ?_
  refine At.result1 rfl rfl ?_
  exact ⟨rfl, hO.le⟩

theorem number_c (e : Eff) (n : Int) (w : World) :
    Ret Try.prog 57 [.agg (e.cells).toArray, .int .i64 n] w fun v w' => (∃ m : Int, v = .int .i64 m) ∧ Le w w' := by
  refine Ret.enter Try.func57 rfl Try.ntmps57 rfl rfl ?_
  have hO := Own.start w
  refine At.seq (At.reg ?_)
  refine At.step rfl (Step.box hO rfl rfl ?_)
  intro b2 w1 hO hlb2 hnb2
  refine At.v (RunV.assign rfl) rfl ?_
  refine At.nil (At.keep (.cons (t := 1) rfl <| .cons (t := 2) rfl <| .nil) ?_)
  refine At.seq ?_
  refine At.seq (At.reg ?_)
  refine At.v (RunV.field ft57_4_4 rfl rfl) rfl ?_
  refine At.v (RunV.load ct3 rfl ((hO.at (i := 0) rfl).cell rfl)) rfl ?_
  refine At.nil (At.keep (.cons (t := 1) rfl <| .cons (t := 2) rfl <| .cons (t := 6) rfl <| .nil) ?_)
  refine At.block ?_
  refine At.seq (At.reg ?_)
  refine At.v (RunV.eqI rfl rfl) rfl ?_
  refine At.v (RunV.assign rfl) rfl ?_
  refine At.nil (At.keep (.cons (t := 1) rfl <| .cons (t := 2) rfl <| .cons (t := 6) rfl <| .cons (t := 7) rfl <| .nil) ?_)
  refine At.cond rfl (fun h1 => ?_) (fun h1 => ?_)
  · refine At.seq (At.reg ?_)
    refine At.v (RunV.move rfl) rfl ?_
    refine At.v (RunV.assign rfl) rfl ?_
    refine At.nil (At.keep (.cons (t := 4) rfl <| .nil) ?_)
    refine At.ret ?_
    refine At.result1 rfl rfl ?_
    exact ⟨⟨_, rfl⟩, hO.le⟩
  · refine At.seq (At.reg ?_)
    refine At.v (RunV.eqI rfl rfl) rfl ?_
    refine At.v (RunV.assign rfl) rfl ?_
    refine At.nil (At.keep (.cons (t := 1) rfl <| .cons (t := 2) rfl <| .cons (t := 10) rfl <| .nil) ?_)
    refine At.cond rfl (fun h2 => ?_) (fun h2 => ?_)
    · refine At.seq ?_
      refine At.seq (At.reg ?_)
      refine At.v (RunV.move rfl) rfl ?_
      refine At.v (RunV.ltI rfl rfl) rfl ?_
      refine At.nil (At.keep (.cons (t := 1) rfl <| .cons (t := 13) rfl <| .nil) ?_)
      refine At.cond rfl (fun h3 => ?_) (fun h3 => ?_)
      · refine At.seq (At.reg ?_)
        refine At.v (RunV.assign rfl) rfl ?_
        refine At.nil (At.keep (.cons (t := 4) rfl <| .nil) ?_)
        refine At.ret ?_
        refine At.result1 rfl rfl ?_
        exact ⟨⟨_, rfl⟩, hO.le⟩
      · refine At.skip ?_
        refine At.seq (At.reg ?_)
        refine At.v (RunV.move rfl) rfl ?_
        refine At.v (RunV.subI rfl rfl rfl) rfl ?_
        refine At.v (RunV.assign rfl) rfl ?_
        refine At.nil (At.keep (.cons (t := 4) rfl <| .nil) ?_)
        refine At.ret ?_
        refine At.result1 rfl rfl ?_
        exact ⟨⟨_, rfl⟩, hO.le⟩
    · refine At.skip ?_
      refine At.seq (At.reg ?_)
      refine At.v (RunV.field ft57_5_5 rfl rfl) rfl ?_
      refine At.v (RunV.load ct3 rfl ((hO.at (i := 0) rfl).cell rfl)) rfl ?_
      refine At.v (RunV.assign rfl) rfl ?_
      refine At.nil (At.keep (.cons (t := 4) rfl <| .nil) ?_)
      refine At.ret ?_
      refine At.result1 rfl rfl ?_
      exact ⟨⟨_, rfl⟩, hO.le⟩

set_option maxHeartbeats 800000 in
theorem aRow_c (k : Knd) (state tag : ByteArray) (n : Int) (kv ku : Value) (w : World) (hU : SlOf G0 2 (SttR G0) w ku k.states) (hsm : ∀ s ∈ k.states, ∀ r ∈ s.rows, r.effs.length ≤ 8) :
    Ret Try.prog 56 [.agg (k.cells kv ku).toArray, .string state, .string tag, .int .i64 n] w fun v w' => Le w w' ∧ match findRow k state tag n with
      | none => v = .tuple #[.agg ((⟨e0, false, 0, []⟩ : Rw).cells (.slice none 0 0)).toArray, .bool false]
      | some r => ∃ rv, v = .tuple #[.agg (r.cells rv).toArray, .bool true] ∧ NewOf 57 7 EffR w w' rv r.effs := by
  refine Ret.enter Try.func56 rfl Try.ntmps56 rfl rfl ?_
  have hO := Own.start w
  obtain ⟨ua, ucap, rfl, hule, hucap⟩ := hU.val
  refine At.seq (At.reg ?_)
  refine At.step rfl (Step.box hO rfl rfl ?_)
  intro b4 w1 hO hlb4 hnb4
  refine At.step rfl (Step.box hO rfl rfl ?_)
  intro b5 w2 hO hlb5 hnb5
  refine At.step rfl (Step.box hO rfl rfl ?_)
  intro b6 w3 hO hlb6 hnb6
  refine At.step rfl (Step.box hO rfl rfl ?_)
  intro b7 w4 hO hlb7 hnb7
  refine At.step rfl (Step.alloc hO zt60 ?_)
  intro b8 w5 hO hlb8 hnb8
  refine At.v (RunV.assign rfl) rfl ?_
  refine At.nil (At.keep (.cons (t := 4) rfl <| .cons (t := 5) rfl <| .cons (t := 6) rfl <| .cons (t := 7) rfl <| .cons (t := 8) rfl <| .nil) ?_)
  refine At.seq (At.reg ?_)
  refine At.v (RunV.field ft67_4_4 rfl rfl) rfl ?_
  refine At.v (RunV.load ct64 rfl ((hO.at (i := 4) rfl).cell rfl)) rfl ?_
  refine At.v (RunV.makeFunc rfl) rfl ?_
  refine At.callE hO rfl pf74 rfl (idxfS_c (R := SttR G0) (fun s => seq s.name state) k.states _ 75 [_] pf75 _ (hU.le hO.le fun _ _ _ h => h.le hO.le) (fun i x cs w' _ _ hl hR => by obtain ⟨v1, rfl, _⟩ := hR; exact aRow1_c x v1 state _ _ ((hO.at (i := 3) rfl).row.le hl))) rfl ?_
  intro w6 hO hl
  refine At.v (RunV.assign rfl) rfl ?_
  refine At.nil (At.keep (.cons (t := 4) rfl <| .cons (t := 6) rfl <| .cons (t := 7) rfl <| .cons (t := 8) rfl <| .cons (t := 10) rfl <| .nil) ?_)
  refine At.seq ?_
  have hcase := idxOf_cases (fun s => seq s.name state) k.states
  refine At.seq (At.reg ?_)
  refine At.v (RunV.move rfl) rfl ?_
  refine At.v (RunV.ltI rfl rfl) rfl ?_
  refine At.nil (At.keep (.cons (t := 4) rfl <| .cons (t := 6) rfl <| .cons (t := 7) rfl <| .cons (t := 8) rfl <| .cons (t := 10) rfl <| .cons (t := 18) rfl <| .nil) ?_)
  refine At.cond rfl (fun h1 => ?_) (fun h1 => ?_)
  · have hf1 : k.states.find? (fun s => seq s.name state) = none := by
      rcases hcase with ⟨_, h⟩ | ⟨i, x, h, _⟩
      · exact h
      · have := of_decide_eq_true h1; omega
    refine At.seq (At.reg ?_)
    refine At.v (RunV.build pl60 zt60 rfl rfl) rfl ?_
    refine At.step_ (Step.storeAll hO rfl rfl rfl sz60_4 .here rfl rfl ?_)
    intro w7 hO hbut
    refine At.v (RunV.assign rfl) rfl ?_
    refine At.nil (At.keep (.cons (t := 8) rfl <| .cons (t := 9) rfl <| .nil) ?_)
    refine At.ret ?_
    refine At.resultC2 rfl rfl ag60_4 (hO.at (i := 0) rfl).row rfl rfl ?_
    refine ⟨hO.le, ?_⟩
    unfold findRow
    rw [hf1]
    exact rfl
  · obtain ⟨i, s, hi1, hi2, hf1⟩ : ∃ (i : Nat) (x : Stt), idxOf (fun s => seq s.name state) k.states = (i : Int) ∧ k.states[i]? = some x ∧ k.states.find? (fun s => seq s.name state) = some x := by
      rcases hcase with ⟨h, _⟩ | h
      · have := of_decide_eq_false h1; omega
      · exact h
    obtain ⟨b, off, cap, cs, hv, hle, hcl, hR, hrow⟩ := hU.at hi2
    cases hv
    obtain ⟨sv, rfl, hS⟩ := hR
    refine At.skip ?_
    refine At.seq (At.reg ?_)
    refine At.v (RunV.field ft67_4_4 rfl rfl) rfl ?_
    refine At.v (RunV.load ct64 rfl ((hO.at (i := 4) rfl).cell rfl)) rfl ?_
    refine At.v (RunV.move rfl) rfl ?_
    refine At.v (RunV.index st64_63_2 rfl rfl hi1 (by have := (List.getElem?_eq_some_iff.1 hi2).1; omega) rfl) rfl ?_
    refine At.v (RunV.field ft63_1_1 rfl rfl) rfl ?_
    refine At.v (RunV.load ct61 rfl (cell_le (hrow.cell (i := 1) rfl) hO.le)) rfl ?_
    refine At.v (RunV.makeFunc rfl) rfl ?_
    refine At.callE hO rfl pf76 rfl (idxfR_c (R := RwR G0) (meets tag n) s.rows _ 77 [_, _] pf77 _ (hS.le hO.le fun _ _ _ h => h.le hO.le) (fun i x cs w' _ _ hl hR => by obtain ⟨v1, rfl, _⟩ := hR; exact aRow2_c x v1 tag n _ _ _ ((hO.at (i := 2) rfl).row.le hl) ((hO.at (i := 1) rfl).row.le hl))) rfl ?_
    intro w8 hO hl
    refine At.v (RunV.assign rfl) rfl ?_
    refine At.nil (At.keep (.cons (t := 4) rfl <| .cons (t := 8) rfl <| .cons (t := 10) rfl <| .cons (t := 11) rfl <| .nil) ?_)
    refine At.seq ?_
    have hcase2 := idxOf_cases (meets tag n) s.rows
    refine At.seq (At.reg ?_)
    refine At.v (RunV.move rfl) rfl ?_
    refine At.v (RunV.ltI rfl rfl) rfl ?_
    refine At.nil (At.keep (.cons (t := 4) rfl <| .cons (t := 8) rfl <| .cons (t := 10) rfl <| .cons (t := 11) rfl <| .cons (t := 29) rfl <| .nil) ?_)
    refine At.cond rfl (fun h2 => ?_) (fun h2 => ?_)
    · have hf2 : s.rows.find? (meets tag n) = none := by
        rcases hcase2 with ⟨_, h⟩ | ⟨i, x, h, _⟩
        · exact h
        · have := of_decide_eq_true h2; omega
      refine At.seq (At.reg ?_)
      refine At.v (RunV.build pl60 zt60 rfl rfl) rfl ?_
      refine At.step_ (Step.storeAll hO rfl rfl rfl sz60_4 .here rfl rfl ?_)
      intro w9 hO hbut
      refine At.v (RunV.assign rfl) rfl ?_
      refine At.nil (At.keep (.cons (t := 8) rfl <| .cons (t := 9) rfl <| .nil) ?_)
      refine At.ret ?_
      refine At.resultC2 rfl rfl ag60_4 (hO.at (i := 0) rfl).row rfl rfl ?_
      refine ⟨hO.le, ?_⟩
      unfold findRow
      rw [hf1, Option.bind_some, hf2]
      exact rfl
    · obtain ⟨j, r, hj1, hj2, hf2⟩ : ∃ (i : Nat) (x : Rw), idxOf (meets tag n) s.rows = (i : Int) ∧ s.rows[i]? = some x ∧ s.rows.find? (meets tag n) = some x := by
        rcases hcase2 with ⟨h, _⟩ | h
        · have := of_decide_eq_false h2; omega
        · exact h
      obtain ⟨rb, roff, rcap, rcs, rfl, hrle, hrcl, hrR, hrrow⟩ := hS.at hj2
      obtain ⟨rv, rfl, hE⟩ := hrR
      obtain ⟨ea, ecap, rfl, hele, hecap⟩ := hE.val
      have hrsz := hsm s (List.mem_of_getElem? hi2) r (List.mem_of_getElem? hj2)
      refine At.skip ?_
      refine At.seq (At.reg ?_)
      refine At.v (RunV.field ft67_4_4 rfl rfl) rfl ?_
      refine At.v (RunV.load ct64 rfl ((hO.at (i := 4) rfl).cell rfl)) rfl ?_
      refine At.v (RunV.move rfl) rfl ?_
      refine At.v (RunV.index st64_63_2 rfl rfl hi1 (by have := (List.getElem?_eq_some_iff.1 hi2).1; omega) rfl) rfl ?_
      refine At.v (RunV.field ft63_1_1 rfl rfl) rfl ?_
      refine At.v (RunV.load ct61 rfl (cell_le (hrow.cell (i := 1) rfl) hO.le)) rfl ?_
      refine At.v (RunV.move rfl) rfl ?_
      refine At.v (RunV.index st61_60_4 rfl rfl hj1 (by have := (List.getElem?_eq_some_iff.1 hj2).1; omega) rfl) rfl ?_
      refine At.v (RunV.loadAgg ag60_4 rfl (Row.le hrrow hO.le) rfl) rfl ?_
      refine At.step rfl (Step.alloc hO zt60 ?_)
      intro b12 w10 hO hlb12 hnb12
      refine At.step_ (Step.storeAll hO rfl rfl rfl sz60_4 .here rfl rfl ?_)
      intro w11 hO hbut
      refine At.nil (At.keep (.cons (t := 8) rfl <| .cons (t := 12) rfl <| .nil) ?_)
      refine At.seq (At.reg ?_)
      refine At.v (RunV.field ft60_3_3 rfl rfl) rfl ?_
      refine At.v (RunV.load ct58 rfl ((hO.at (i := 0) rfl).cell rfl)) rfl ?_
      refine At.step rfl (Step.call rfl pf78 rfl (cloneE_c (R := EffR) r.effs _ _ (hE.le hO.le fun _ _ _ h => h) (by omega) (fun x cs _ h => by cases h; rfl)) ?_)
      have hb12 := (hO.at (i := 0) rfl).lt
      have hb8 := (hO.at (i := 1) rfl).lt
      have hlc := hO.le.size
      intro ev w12 hr
      obtain ⟨hl, hN⟩ := hr
      obtain ⟨eva, evc, rfl⟩ := hN.val
      replace hO := hO.on hl
      refine At.v (RunV.field ft60_3_3 rfl rfl) rfl ?_
      refine At.step_ (Step.store1 hO rfl rfl rfl sz58_1 .here (.there (.there (.there .here))) rfl ?_)
      intro w13 hO hbut
      replace hN := hN.but hbut hb12
      refine At.nil (At.keep (.cons (t := 8) rfl <| .cons (t := 12) rfl <| .nil) ?_)
      refine At.seq (At.reg ?_)
      refine At.v (RunV.loadAgg ag60_4 rfl ((hO.at (i := 0) rfl).row) rfl) rfl ?_
      refine At.step_ (Step.storeAll hO rfl rfl rfl sz60_4 (.there .here) rfl rfl ?_)
      intro w14 hO hbut
      replace hN := (hN.but hbut hb8).base (R' := EffR) hlc (fun _ _ _ h => h)
      refine At.v (RunV.assign rfl) rfl ?_
      refine At.nil (At.keep (.cons (t := 8) rfl <| .cons (t := 9) rfl <| .nil) ?_)
      refine At.ret ?_
      refine At.resultC2 rfl rfl ag60_4 (hO.at (i := 1) rfl).row rfl rfl ?_
      refine ⟨hO.le, ?_⟩
      unfold findRow
      rw [hf1, Option.bind_some, hf2]
      exact ⟨_, rfl, hN⟩

end Go.Proofs.Ytglilmcfhkedbaa
