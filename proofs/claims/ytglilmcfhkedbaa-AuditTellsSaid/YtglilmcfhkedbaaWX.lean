/- The walks of the example and of alive; no condition. -/
import Derived.Test.YtglilmcfhkedbaaEvs
namespace Go.Proofs.Ytglilmcfhkedbaa
open Go Go.RowKit

theorem el32_9 : elemT Try.prog 32 9 = true := by kernel_rfl
theorem pf14 : plainFn Try.prog 14 = true := by kernel_rfl
theorem pf7 : plainFn Try.prog 7 = true := by kernel_rfl
theorem pf8 : plainFn Try.prog 8 = true := by kernel_rfl
theorem sz24_1 : sizeT Try.prog 24 1 = true := by kernel_rfl
theorem pl24 : placesT Try.prog 24 = some [(0, 1)] := by kernel_rfl
theorem pl32 : placesT Try.prog 32 = some [(0, 1), (1, 1), (2, 1), (3, 1), (4, 1), (5, 1), (6, 1), (7, 1), (8, 1)] := by kernel_rfl
theorem pl57 : placesT Try.prog 57 = some [(0, 1), (1, 1), (2, 1), (3, 1), (4, 1), (5, 1), (6, 1)] := by kernel_rfl
theorem pl63 : placesT Try.prog 63 = some [(0, 1), (1, 1)] := by kernel_rfl
theorem zt24 : zeroT Try.prog 24 [.slice none 0 0] := by unfold zeroT; kernel_rfl

set_option maxHeartbeats 800000 in
theorem example_c (w : World) :
    Ret Try.prog 14 [] w fun v w' => ∃ b k4 k3 k2 k1, v = .tuple #[.agg [.slice (some ⟨k4, 0, none⟩) 1 1].toArray, .slice (some ⟨b, 0, none⟩) 6 6] ∧ Own w [(b, flatE exL, 32), (k4, exK.cells (.slice none 0 0) (.slice (some ⟨k3, 0, none⟩) 1 1), 67), (k3, exSt.cells (.slice (some ⟨k2, 0, none⟩) 1 1), 63), (k2, exRw.cells (.slice (some ⟨k1, 0, none⟩) 1 1), 60), (k1, exEff.cells, 57)] w' := by
  refine Ret.enter Try.func14 rfl Try.ntmps14 rfl rfl ?_
  have hO := Own.start w
  refine At.seq (At.reg ?_)
  refine At.step rfl (Step.alloc hO zt24 ?_)
  intro b0 w1 hO hlb0 hnb0
  refine At.v (RunV.assign rfl) rfl ?_
  refine At.nil (At.keep (.cons (t := 0) rfl <| .nil) ?_)
  refine At.seq (At.reg ?_)
  refine At.v (RunV.build pl57 zt57 rfl rfl) rfl ?_
  refine At.step rfl (Step.buildSlice hO st58_57_7 zt57 rfl rfl rfl rfl (fill_full rfl rfl) ?_)
  intro b5 w2 hO hlb5 hnb5
  refine At.v (RunV.build pl60 zt60 rfl rfl) rfl ?_
  refine At.step rfl (Step.buildSlice hO st61_60_4 zt60 rfl rfl rfl rfl (fill_full rfl rfl) ?_)
  intro b7 w3 hO hlb7 hnb7
  refine At.v (RunV.build pl63 zt63 rfl rfl) rfl ?_
  refine At.step rfl (Step.buildSlice hO st64_63_2 zt63 rfl rfl rfl rfl (fill_full rfl rfl) ?_)
  intro b9 w4 hO hlb9 hnb9
  refine At.v (RunV.build pl67 zt67 rfl rfl) rfl ?_
  refine At.step rfl (Step.buildSlice hO st22_67_5 zt67 rfl rfl rfl rfl (fill_full rfl rfl) ?_)
  intro b11 w5 hO hlb11 hnb11
  refine At.v (RunV.build pl24 zt24 rfl rfl) rfl ?_
  refine At.step rfl (Step.alloc hO zt24 ?_)
  intro b2 w6 hO hlb2 hnb2
  refine At.step_ (Step.storeAll hO rfl rfl rfl sz24_1 .here rfl rfl ?_)
  intro w7 hO hbut
  refine At.nil (At.keep (.cons (t := 0) rfl <| .cons (t := 2) rfl <| .nil) ?_)
  refine At.seq (At.reg ?_)
  refine At.v (RunV.build pl32 zt32 rfl rfl) rfl ?_
  refine At.v (RunV.build pl32 zt32 rfl rfl) rfl ?_
  refine At.v (RunV.build pl32 zt32 rfl rfl) rfl ?_
  refine At.v (RunV.build pl32 zt32 rfl rfl) rfl ?_
  refine At.v (RunV.build pl32 zt32 rfl rfl) rfl ?_
  refine At.v (RunV.build pl32 zt32 rfl rfl) rfl ?_
  refine At.step rfl (Step.buildSlice hO st25_32_9 zt32 rfl rfl rfl rfl (fill_full rfl rfl) ?_)
  intro b19 w8 hO hlb19 hnb19
  refine At.v (RunV.assign rfl) rfl ?_
  refine At.nil (At.keep (.cons (t := 0) rfl <| .cons (t := 2) rfl <| .cons (t := 3) rfl <| .nil) ?_)
  refine At.seq (At.reg ?_)
  refine At.v (RunV.loadAgg ag24_1 rfl ((hO.at (i := 1) rfl).row) rfl) rfl ?_
  refine At.v (RunV.move rfl) rfl ?_
  refine At.step_ (Step.storeAll hO rfl rfl rfl sz24_1 (.there (.there (.there (.there (.there (.there .here)))))) rfl rfl ?_)
  intro w9 hO hbut
  refine At.v (RunV.assign rfl) rfl ?_
  refine At.nil (At.keep (.cons (t := 0) rfl <| .cons (t := 1) rfl <| .nil) ?_)
  refine At.ret ?_
  refine At.resultC2 rfl rfl ag24_1 (hO.at (i := 6) rfl).row rfl rfl ?_
  exact ⟨b19, b11, b9, b7, b5, rfl, hO.le, fun x hx => hO.blk x (by
    simp only [List.mem_cons, List.not_mem_nil, or_false] at hx ⊢
    rcases hx with rfl | rfl | rfl | rfl | rfl
    · exact .inl rfl
    · exact .inr (.inr (.inl rfl))
    · exact .inr (.inr (.inr (.inl rfl)))
    · exact .inr (.inr (.inr (.inr (.inl rfl))))
    · exact .inr (.inr (.inr (.inr (.inr (.inl rfl)))))), fun x hx => hO.new x (by
    simp only [List.mem_cons, List.not_mem_nil, or_false] at hx ⊢
    rcases hx with rfl | rfl | rfl | rfl | rfl
    · exact .inl rfl
    · exact .inr (.inr (.inl rfl))
    · exact .inr (.inr (.inr (.inl rfl)))
    · exact .inr (.inr (.inr (.inr (.inl rfl))))
    · exact .inr (.inr (.inr (.inr (.inr (.inl rfl)))))), by
    have := hO.nd
    simp only [List.map_cons, List.map_nil, List.nodup_cons, List.mem_cons, List.not_mem_nil, or_false, not_or, List.nodup_nil, not_false_eq_true, and_true] at this ⊢
    refine ⟨⟨?_, ?_, ?_, ?_⟩, ⟨?_, ?_, ?_⟩, ⟨?_, ?_⟩, ?_⟩ <;> intro e <;> simp_all⟩

set_option maxHeartbeats 1600000 in
theorem alive_c (w : World) :
    Ret Try.prog 7 [] w fun v w' => v = .bool true ∧ Le w w' := by
  refine Ret.enter Try.func7 rfl Try.ntmps7 rfl rfl ?_
  have hO := Own.start w
  refine At.seq (At.reg ?_)
  refine At.v (RunV.assign rfl) rfl ?_
  refine At.nil (At.keep (.nil) ?_)
  refine At.seq (At.reg ?_)
  refine At.step rfl (Step.call rfl pf14 rfl (example_c _) ?_)
  intro v w1 hr
  obtain ⟨bl, k4, k3, k2, k1, rfl, hO⟩ := hr
  refine At.v (RunV.move rfl) rfl ?_
  refine At.v (RunV.extract rfl rfl) rfl ?_
  refine At.v (RunV.extract rfl rfl) rfl ?_
  refine At.step rfl (Step.alloc hO zt24 ?_)
  intro b1 w2 hO hlb1 hnb1
  refine At.step_ (Step.storeAll hO rfl rfl rfl sz24_1 .here rfl rfl ?_)
  intro w3 hO hbut
  refine At.v (RunV.assign rfl) rfl ?_
  refine At.nil (At.keep (.cons (t := 1) rfl <| .cons (t := 2) rfl <| .nil) ?_)
  refine At.seq (At.reg ?_)
  refine At.v (RunV.loadAgg ag24_1 rfl ((hO.at (i := 0) rfl).row) rfl) rfl ?_
  refine At.v (RunV.move rfl) rfl ?_
  refine At.callE hO rfl pf8 rfl ((check_c exP exL _ _ _ (ex_prg (hO.at (i := 5) rfl) (hO.at (i := 4) rfl) (hO.at (i := 3) rfl) (hO.at (i := 2) rfl)) (EvsR.ofBlk (hO.at (i := 1) rfl) rfl (by decide)) (by decide)).mono fun v w' h => by rw [ex_a] at h; exact h) rfl ?_
  intro w4 hO hl
  refine At.v (RunV.move rfl) rfl ?_
  refine At.v (RunV.extract rfl rfl) rfl ?_
  refine At.v (RunV.extract rfl rfl) rfl ?_
  refine At.v (RunV.assign rfl) rfl ?_
  refine At.v (RunV.assign rfl) rfl ?_
  refine At.nil (At.keep (.cons (t := 1) rfl <| .cons (t := 2) rfl <| .cons (t := 3) rfl <| .cons (t := 4) rfl <| .nil) ?_)
  refine At.seq (At.reg ?_)
  refine At.v (RunV.assign rfl) rfl ?_
  refine At.nil (At.keep (.cons (t := 1) rfl <| .cons (t := 2) rfl <| .cons (t := 3) rfl <| .cons (t := 4) rfl <| .cons (t := 5) rfl <| .nil) ?_)
  refine At.seq (At.reg ?_)
  refine At.v (RunV.move rfl) rfl ?_
  refine At.v (RunV.move rfl) rfl ?_
  refine At.v (RunV.index st25_32_9 rfl rfl rfl (by decide) rfl) rfl ?_
  refine At.v (RunV.loadAgg ag32_9 rfl ((hO.at (i := 1) rfl).rowAt (off := 0 + 0 * 9) (ds := ex0.cells) rfl) rfl) rfl ?_
  refine At.step rfl (Step.buildSlice hO st25_32_9 zt32 rfl rfl rfl rfl (fill_full rfl rfl) ?_)
  intro b27 w5 hO hlb27 hnb27
  have hS : Sl w5 (.slice none 0 0) 32 9 0 [] := .inl ⟨rfl, rfl, rfl⟩
  refine At.step rfl (Step.append st25_32_9 isl25 el32_9 rfl rfl hS ⟨_, _, rfl, .inr ⟨b27, 0, rfl, (hO.at (i := 0) rfl).row⟩⟩ rfl rfl (by decide) ?_)
  intro v w6 hS hM
  have hA1 := (Apart.nil (B := w.heap.size)).moved hM hO hO.le.size hS
  replace hO := hO.moved hM Apart.nil (Nat.le_refl _)
  refine At.v (RunV.assign rfl) rfl ?_
  refine At.nil (At.keep (.cons (t := 1) rfl <| .cons (t := 2) rfl <| .cons (t := 3) rfl <| .cons (t := 4) rfl <| .cons (t := 5) rfl <| .nil) ?_)
  refine At.seq (At.reg ?_)
  refine At.v (RunV.move rfl) rfl ?_
  refine At.v (RunV.move rfl) rfl ?_
  refine At.v (RunV.sliceLoN (j := 2) st25_32_9 rfl rfl rfl (by decide) (by decide)) rfl ?_
  refine At.step rfl (Step.append st25_32_9 isl25 el32_9 rfl rfl hS ⟨_, _, rfl, .inr ⟨bl, _, rfl, (hO.at (i := 2) rfl).rowAt (ds := flatE [ex2, ex3, ex4, ex5]) rfl⟩⟩ rfl rfl (by decide) ?_)
  intro v2 w7 hS hM
  replace hO := hO.moved hM hA1 (Nat.le_refl _)
  refine At.v (RunV.assign rfl) rfl ?_
  refine At.nil (At.keep (.cons (t := 1) rfl <| .cons (t := 2) rfl <| .cons (t := 3) rfl <| .cons (t := 4) rfl <| .cons (t := 5) rfl <| .nil) ?_)
  refine At.seq (At.reg ?_)
  refine At.v (RunV.loadAgg ag24_1 rfl ((hO.at (i := 1) rfl).row) rfl) rfl ?_
  refine At.v (RunV.move rfl) rfl ?_
  refine At.callE hO rfl pf8 rfl ((check_c exP [ex0, ex2, ex3, ex4, ex5] _ _ _ (ex_prg (hO.at (i := 6) rfl) (hO.at (i := 5) rfl) (hO.at (i := 4) rfl) (hO.at (i := 3) rfl)) (EvsR.ofSl hS rfl rfl (by decide)) (by decide)).mono fun v w' h => by rw [ex_b] at h; exact h) rfl ?_
  intro w8 hO hl
  refine At.v (RunV.move rfl) rfl ?_
  refine At.v (RunV.extract rfl rfl) rfl ?_
  refine At.v (RunV.extract rfl rfl) rfl ?_
  refine At.v (RunV.assign rfl) rfl ?_
  refine At.v (RunV.assign rfl) rfl ?_
  refine At.nil (At.keep (.cons (t := 1) rfl <| .cons (t := 2) rfl <| .cons (t := 3) rfl <| .cons (t := 4) rfl <| .cons (t := 6) rfl <| .cons (t := 7) rfl <| .nil) ?_)
  refine At.seq (At.reg ?_)
  refine At.v (RunV.move rfl) rfl ?_
  refine At.v (RunV.index st25_32_9 rfl rfl rfl (by decide) rfl) rfl ?_
  refine At.v (RunV.loadAgg ag32_9 rfl ((hO.at (i := 2) rfl).rowAt (off := 0 + 3 * 9) (ds := ex3.cells) rfl) rfl) rfl ?_
  refine At.step rfl (Step.alloc hO zt32 ?_)
  intro b8 w9 hO hlb8 hnb8
  refine At.step_ (Step.storeAll hO rfl rfl rfl sz32_9 .here rfl rfl ?_)
  intro w10 hO hbut
  refine At.nil (At.keep (.cons (t := 1) rfl <| .cons (t := 2) rfl <| .cons (t := 3) rfl <| .cons (t := 4) rfl <| .cons (t := 6) rfl <| .cons (t := 7) rfl <| .cons (t := 8) rfl <| .nil) ?_)
  refine At.seq (At.reg ?_)
  refine At.v (RunV.move rfl) rfl ?_
  refine At.v (RunV.move rfl) rfl ?_
  refine At.v (RunV.index st25_32_9 rfl rfl rfl (by decide) rfl) rfl ?_
  refine At.v (RunV.loadAgg ag32_9 rfl ((hO.at (i := 3) rfl).rowAt (off := 0 + 4 * 9) (ds := ex4.cells) rfl) rfl) rfl ?_
  refine At.v (RunV.index st25_32_9 rfl rfl rfl (by decide) rfl) rfl ?_
  refine At.step_ (Step.storeX (ds := ex4.cells) (hO.at (i := 3) rfl) rfl rfl rfl sz32_9 rfl rfl rfl ?_)
  intro w11 hbut hblk
  replace hblk : Blk w11 bl (flatE [ex0, ex1, ex2, ex4, ex4, ex5]) 32 := hblk
  replace hO := hO.set (.there (.there (.there .here))) hbut hblk
  refine At.nil (At.keep (.cons (t := 1) rfl <| .cons (t := 2) rfl <| .cons (t := 3) rfl <| .cons (t := 4) rfl <| .cons (t := 6) rfl <| .cons (t := 7) rfl <| .cons (t := 8) rfl <| .nil) ?_)
  refine At.seq (At.reg ?_)
  refine At.v (RunV.move rfl) rfl ?_
  refine At.v (RunV.loadAgg ag32_9 rfl ((hO.at (i := 0) rfl).row) rfl) rfl ?_
  refine At.v (RunV.index st25_32_9 rfl rfl rfl (by decide) rfl) rfl ?_
  refine At.step_ (Step.storeX (ds := ex3.cells) (hO.at (i := 3) rfl) rfl rfl rfl sz32_9 rfl rfl rfl ?_)
  intro w12 hbut hblk
  replace hblk : Blk w12 bl (flatE [ex0, ex1, ex2, ex4, ex3, ex5]) 32 := hblk
  replace hO := hO.set (.there (.there (.there .here))) hbut hblk
  refine At.nil (At.keep (.cons (t := 1) rfl <| .cons (t := 2) rfl <| .cons (t := 3) rfl <| .cons (t := 4) rfl <| .cons (t := 6) rfl <| .cons (t := 7) rfl <| .nil) ?_)
  refine At.seq (At.reg ?_)
  refine At.v (RunV.loadAgg ag24_1 rfl ((hO.at (i := 2) rfl).row) rfl) rfl ?_
  refine At.v (RunV.move rfl) rfl ?_
  refine At.callE hO rfl pf8 rfl ((check_c exP [ex0, ex1, ex2, ex4, ex3, ex5] _ _ _ (ex_prg (hO.at (i := 7) rfl) (hO.at (i := 6) rfl) (hO.at (i := 5) rfl) (hO.at (i := 4) rfl)) (EvsR.ofBlk (hO.at (i := 3) rfl) rfl (by decide)) (by decide)).mono fun v w' h => by rw [ex_c] at h; exact h) rfl ?_
  intro w13 hO hl
  refine At.v (RunV.move rfl) rfl ?_
  refine At.v (RunV.extract rfl rfl) rfl ?_
  refine At.v (RunV.extract rfl rfl) rfl ?_
  refine At.v (RunV.assign rfl) rfl ?_
  refine At.v (RunV.assign rfl) rfl ?_
  refine At.nil (At.keep (.cons (t := 1) rfl <| .cons (t := 3) rfl <| .cons (t := 4) rfl <| .cons (t := 6) rfl <| .cons (t := 7) rfl <| .cons (t := 9) rfl <| .cons (t := 10) rfl <| .nil) ?_)
  refine At.seq (At.reg ?_)
  refine At.step rfl (Step.call rfl pf14 rfl (example_c _) ?_)
  intro v w14 hr
  obtain ⟨bl2, k42, k32, k22, k12, rfl, hO2⟩ := hr
  replace hO := hO.add hO2.le (hO2.at (i := 0) rfl) (hO2.newAt (i := 0) rfl)
  refine At.v (RunV.move rfl) rfl ?_
  refine At.v (RunV.extract rfl rfl) rfl ?_
  refine At.v (RunV.extract rfl rfl) rfl ?_
  refine At.v (RunV.assign rfl) rfl ?_
  refine At.nil (At.keep (.cons (t := 1) rfl <| .cons (t := 2) rfl <| .cons (t := 3) rfl <| .cons (t := 4) rfl <| .cons (t := 6) rfl <| .cons (t := 7) rfl <| .cons (t := 9) rfl <| .cons (t := 10) rfl <| .nil) ?_)
  refine At.seq (At.reg ?_)
  refine At.v (RunV.move rfl) rfl ?_
  refine At.v (RunV.index st25_32_9 rfl rfl rfl (by decide) rfl) rfl ?_
  refine At.v (RunV.field ft32_5_5 rfl rfl) rfl ?_
  refine At.step_ (Step.storeX (ds := [.string nT]) (hO.at (i := 0) rfl) rfl rfl rfl sz9_1 rfl rfl rfl ?_)
  intro w15 hbut hblk
  replace hblk : Blk w15 bl2 (flatE [ex0, ex1, ex2, ex3t, ex4, ex5]) 32 := hblk
  replace hO := hO.set .here hbut hblk
  refine At.nil (At.keep (.cons (t := 1) rfl <| .cons (t := 2) rfl <| .cons (t := 3) rfl <| .cons (t := 4) rfl <| .cons (t := 6) rfl <| .cons (t := 7) rfl <| .cons (t := 9) rfl <| .cons (t := 10) rfl <| .nil) ?_)
  refine At.seq (At.reg ?_)
  refine At.v (RunV.loadAgg ag24_1 rfl ((hO.at (i := 3) rfl).row) rfl) rfl ?_
  refine At.v (RunV.move rfl) rfl ?_
  refine At.callE hO rfl pf8 rfl ((check_c exP [ex0, ex1, ex2, ex3t, ex4, ex5] _ _ _ (ex_prg (hO.at (i := 8) rfl) (hO.at (i := 7) rfl) (hO.at (i := 6) rfl) (hO.at (i := 5) rfl)) (EvsR.ofBlk (hO.at (i := 0) rfl) rfl (by decide)) (by decide)).mono fun v w' h => by rw [ex_d] at h; exact h) rfl ?_
  intro w16 hO hl
  refine At.v (RunV.move rfl) rfl ?_
  refine At.v (RunV.extract rfl rfl) rfl ?_
  refine At.v (RunV.extract rfl rfl) rfl ?_
  refine At.v (RunV.assign rfl) rfl ?_
  refine At.v (RunV.assign rfl) rfl ?_
  refine At.nil (At.keep (.cons (t := 3) rfl <| .cons (t := 4) rfl <| .cons (t := 6) rfl <| .cons (t := 7) rfl <| .cons (t := 9) rfl <| .cons (t := 10) rfl <| .cons (t := 11) rfl <| .cons (t := 12) rfl <| .nil) ?_)
  refine At.seq (At.reg ?_)
  refine At.v (RunV.move rfl) rfl ?_
  refine At.v (RunV.eqI rfl rfl) rfl ?_
  refine At.v (RunV.move rfl) rfl ?_
  refine At.g (Guard.t rfl rfl rfl) (fun hc => RunV.move rfl) rfl ?_
  refine At.g (Guard.t rfl rfl rfl) (fun hc => RunV.eqI (gvE rfl hc) rfl) rfl ?_
  refine At.v (RunV.pickAnd rfl rfl) rfl ?_
  refine At.v (RunV.move rfl) rfl ?_
  refine At.g (Guard.t rfl rfl rfl) (fun hc => RunV.move rfl) rfl ?_
  refine At.g (Guard.t rfl rfl rfl) (fun hc => RunV.eqI (gvE rfl hc) rfl) rfl ?_
  refine At.v (RunV.pickAnd rfl rfl) rfl ?_
  refine At.keep (.cons (t := 7) rfl <| .cons (t := 9) rfl <| .cons (t := 10) rfl <| .cons (t := 11) rfl <| .cons (t := 12) rfl <| .cons (t := 78) rfl <| .nil) ?_
  refine At.v (RunV.move rfl) rfl ?_
  refine At.g (Guard.t rfl rfl rfl) (fun hc => RunV.move rfl) rfl ?_
  refine At.g (Guard.t rfl rfl rfl) (fun hc => RunV.eqI (gvE rfl hc) rfl) rfl ?_
  refine At.v (RunV.pickAnd rfl rfl) rfl ?_
  refine At.v (RunV.move rfl) rfl ?_
  refine At.g (Guard.t rfl rfl rfl) (fun hc => RunV.move rfl) rfl ?_
  refine At.g (Guard.t rfl rfl rfl) (fun hc => RunV.eqI (gvE rfl hc) rfl) rfl ?_
  refine At.v (RunV.pickAnd rfl rfl) rfl ?_
  refine At.v (RunV.move rfl) rfl ?_
  refine At.g (Guard.t rfl rfl rfl) (fun hc => RunV.move rfl) rfl ?_
  refine At.keep (.cons (t := 11) rfl <| .cons (t := 12) rfl <| .cons (t := 87) rfl <| .cons (t := 88) rfl <| .nil) ?_
  refine At.g (Guard.t rfl rfl rfl) (fun hc => RunV.eqI (gvE rfl hc) rfl) rfl ?_
  refine At.v (RunV.pickAnd rfl rfl) rfl ?_
  refine At.v (RunV.move rfl) rfl ?_
  refine At.g (Guard.t rfl rfl rfl) (fun hc => RunV.move rfl) rfl ?_
  refine At.g (Guard.t rfl rfl rfl) (fun hc => RunV.eqI (gvE rfl hc) rfl) rfl ?_
  refine At.v (RunV.pickAnd rfl rfl) rfl ?_
  refine At.v (RunV.move rfl) rfl ?_
  refine At.g (Guard.t rfl rfl rfl) (fun hc => RunV.move rfl) rfl ?_
  refine At.g (Guard.t rfl rfl rfl) (fun hc => RunV.eqI (gvE rfl hc) rfl) rfl ?_
  refine At.v (RunV.pickAnd rfl rfl) rfl ?_
  refine At.v (RunV.assign rfl) rfl ?_
  refine At.nil (At.keep (.cons (t := 0) rfl <| .nil) ?_)
  refine At.ret ?_
  refine At.result1 rfl rfl ?_
  exact ⟨rfl, hO.le⟩

end Go.Proofs.Ytglilmcfhkedbaa
