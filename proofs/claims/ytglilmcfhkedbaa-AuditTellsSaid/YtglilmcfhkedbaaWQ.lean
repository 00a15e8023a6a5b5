/- The walks of audit's noRoom; no condition. -/
import Derived.Test.YtglilmcfhkedbaaWP
namespace Go.Proofs.Ytglilmcfhkedbaa
open Go Go.RowKit

theorem ft49_0_0 : fieldT Try.prog 49 0 0 = true := by kernel_rfl

theorem find2_c (p : Prg) (name : ByteArray) (pv : Value) (w : World) (hP : PrgR G0 w pv p) (hsm : ∀ k ∈ p, SmallK k) :
    Ret Try.prog 41 [.agg [pv].toArray, .string name] w fun v w' => ∃ k kp km kc up um uc, v = .tuple #[.agg (Knd.cells k (.slice kp km kc) (.slice up um uc)).toArray, .bool (findKnd p name).isSome] ∧ Le w w' ∧
      ((findKnd p name).isSome = true → findKnd p name = some k ∧ SlOf (GTy w.heap.size pK) 2 CasR w' (.slice kp km kc) k.cases ∧ SlOf (GTy w.heap.size pK) 2 (SttR (GTy w.heap.size pK)) w' (.slice up um uc) k.states) :=
  (find_c p name pv w hP hsm).mono fun v w' h => by
    obtain ⟨hl, h⟩ := h
    cases hf : findKnd p name with
    | none =>
      simp only [hf] at h
      exact ⟨⟨e0, 0, 0, [], []⟩, none, 0, 0, none, 0, 0, h, hl, fun h => by cases h⟩
    | some k =>
      simp only [hf] at h
      obtain ⟨kv, ku, h1, h2, h3⟩ := h
      obtain ⟨a, c, rfl, _, _⟩ := h2.val
      obtain ⟨a2, c2, rfl, _, _⟩ := h3.val
      exact ⟨k, _, _, _, _, _, _, h1, hl, fun _ => ⟨rfl, h2, h3⟩⟩

set_option maxHeartbeats 800000 in
theorem noRoom_c (B0 N bb : Nat) (b : Bk) (pv av lv : Value) (ab lb : List Nat) (e : Ev) (w : World) (hN : N ≤ 100000) (h : BR B0 N w bb b pv av lv ab lb) :
    Ret Try.prog 22 [.pointer (some ⟨bb, 0, none⟩), .agg (e.cells).toArray] w fun v w' => RuleP B0 N w bb (stNoRoom b e) v w' := by
  refine Ret.enter Try.func22 rfl Try.ntmps22 rfl rfl ?_
  have hO := Own.start w
  obtain ⟨oa, hoa, a, kv, ku, wx, ep, em, ec, st, ps, f, hA, hA2⟩ := h.actD e.actor
  have hrl : [(7, (findKnd b.prog e.name).isSome && worksB oa)] = noRoomRules b e := by unfold noRoomRules; rw [hoa]
  replace h := h
  have hlo := h.loa
  refine At.seq (At.reg ?_)
  refine At.step rfl (Step.box hO rfl rfl ?_)
  intro b3 w1 hO hlb3 hnb3
  refine At.v (RunV.assign rfl) rfl ?_
  refine At.nil (At.keep (.cons (t := 0) rfl <| .cons (t := 3) rfl <| .nil) ?_)
  refine At.seq (At.pi hmix (.take 0 (.take 1 (.take 2 (.take 3 (.take 4 (.take 5 (.fork 6 (.take 7 (.take 8 (.take 9 (.run 10 (.run 11 (.take 12 .done)))))) 10 (.run 6 (.take 7 (.take 8 (.take 9 (.run 11 (.take 12 .done))))))))))))) (by kernel_rfl) (by kernel_rfl) ?_)
  intro w2 hs
  have hs0 := hs
  have hR := hO
  replace hO := hO.on hs
  refine At.take rfl (fun w' hs' => RunV.move rfl) rfl ?_
  refine At.take rfl (fun w' hs' => RunV.nilCheck rfl) rfl ?_
  refine At.take rfl (fun w' hs' => RunV.field ft49_0_0 rfl rfl) rfl ?_
  refine At.take rfl (fun w' hs' => RunV.loadAgg ag24_1 rfl (Row.le (h.book.rowAt (ds := [pv]) rfl) (hR.le.tr hs')) rfl) rfl ?_
  refine At.take rfl (fun w' hs' => RunV.field ft32_5_5 rfl rfl) rfl ?_
  refine At.take rfl (fun w' hs' => RunV.load ct9 rfl (((hR.at (i := 0) rfl).le hs').cell rfl)) rfl ?_
  refine At.pfork ?_ ?_
  · refine At.prun rfl rfl (Step.call rfl pf41 rfl (find2_c b.prog e.name pv _ ((PrgR.any h.prg).le hO.le) h.small) ?_)
    have hsz := hO.le.size
    intro v w3 hr
    obtain ⟨k, kp, km, kc, up, um, uc, rfl, hl, hk⟩ := hr
    replace hk : (findKnd b.prog e.name).isSome = true → findKnd b.prog e.name = some k ∧ SlOf (GB B0) 2 CasR w3 (.slice kp km kc) k.cases ∧ SlOf (GB B0) 2 (SttR (GB B0)) w3 (.slice up um uc) k.states := fun hs9 => by
      obtain ⟨h1, h2, h3⟩ := hk hs9
      have hg : ∀ bq, GTy _ pK w3 bq → GB B0 w3 bq := fun bq hb => .inr (hb.mono (Nat.le_trans h.hB hsz) fun _ h => h)
      exact ⟨h1, h2.mono hg fun _ _ _ h => h, h3.mono hg fun _ _ _ h => h.mono hg⟩
    replace hO := hO.on hl
    replace hs := hs.tr hl
    refine ⟨hs, ?_⟩
    refine At.take rfl (fun w' hs' => RunV.move rfl) rfl ?_
    refine At.take rfl (fun w' hs' => RunV.extract rfl rfl) rfl ?_
    refine At.take rfl (fun w' hs' => RunV.extract rfl rfl) rfl ?_
    refine At.prun rfl rfl (Step.alloc hO zt67 ?_)
    intro b5 w4 hO hlb5 hnb5
    have hzb5 := Nat.le_trans hs.size hnb5
    refine ⟨hs.tr hlb5, ?_⟩
    replace hs := hs.tr hlb5
    refine At.prun_ rfl (Step.storeAll hO rfl rfl rfl sz67_5 .here rfl rfl ?_)
    intro w5 hO hbut
    have hs := hbut.le hs hzb5
    refine ⟨hs, ?_⟩
    refine At.take rfl (fun w' hs' => RunV.assign rfl) rfl ?_
    refine At.pdone (At.keep (.cons (t := 0) rfl <| .cons (t := 3) rfl <| .cons (t := 6) rfl <| .nil) ?_)
    refine At.seq (At.reg ?_)
    refine At.v (RunV.move rfl) rfl ?_
    refine At.v (RunV.move rfl) rfl ?_
    refine At.g (Guard.t rfl rfl rfl) (fun hc => RunV.move rfl) rfl ?_
    refine At.g (Guard.t rfl rfl rfl) (fun hc => RunV.field ft32_1_1 rfl rfl) rfl ?_
    refine At.g (Guard.t rfl rfl rfl) (fun hc => RunV.load ct3 (gvE rfl hc) ((hO.at (i := 1) rfl).cell rfl)) rfl ?_
    refine At.gcallS (Guard.t rfl rfl rfl) (fun hc => rfl) pf35 (fun hc => (evL2 (gvE rfl hc) (gvE rfl hc))) (fun hc => bactO_c oa e.actor hoa hN (h.le hO.le)) rfl ?_
    refine At.gcallS (Guard.t rfl rfl rfl) (fun hc => rfl) pf36 (fun hc => (evL1 (gvE rfl hc))) (fun hc => works_c oa _ a kv ku wx _ st ps f _ (hA.le hO.le)) rfl ?_
    refine At.v (RunV.pickAnd rfl rfl) rfl ?_
    refine At.v (RunV.build pl81 zt81 rfl rfl) rfl ?_
    refine At.step rfl (Step.buildSlice hO st110_81_2 zt81 rfl rfl rfl rfl (fill_full rfl rfl) ?_)
    intro b26 w6 hO hlb26 hnb26
    refine At.callE hO rfl pf38 rfl (broken_c _ _ [(7, (findKnd b.prog e.name).isSome && worksB oa)] (by simp) _ (hO.at (i := 0) rfl).row) rfl ?_
    intro w7 hO hl
    refine At.v (RunV.assign rfl) rfl ?_
    refine At.nil (At.keep (.cons (t := 4) rfl <| .nil) ?_)
    refine At.ret ?_
    refine At.result1 rfl rfl ?_
    exact RuleP.no h hO.le (by unfold stNoRoom; rw [hrl])
  · refine At.prun rfl rfl (Step.alloc hO zt67 ?_)
    intro b5 w8 hO hlb5 hnb5
    have hzb5 := Nat.le_trans hs.size hnb5
    refine ⟨hs.tr hlb5, ?_⟩
    replace hs := hs.tr hlb5
    refine At.prun rfl rfl (Step.call rfl pf41 rfl (find2_c b.prog e.name pv _ ((PrgR.any h.prg).le hO.le) h.small) ?_)
    have hsz := hO.le.size
    intro v w9 hr
    obtain ⟨k, kp, km, kc, up, um, uc, rfl, hl, hk⟩ := hr
    replace hk : (findKnd b.prog e.name).isSome = true → findKnd b.prog e.name = some k ∧ SlOf (GB B0) 2 CasR w9 (.slice kp km kc) k.cases ∧ SlOf (GB B0) 2 (SttR (GB B0)) w9 (.slice up um uc) k.states := fun hs9 => by
      obtain ⟨h1, h2, h3⟩ := hk hs9
      have hg : ∀ bq, GTy _ pK w9 bq → GB B0 w9 bq := fun bq hb => .inr (hb.mono (Nat.le_trans h.hB hsz) fun _ h => h)
      exact ⟨h1, h2.mono hg fun _ _ _ h => h, h3.mono hg fun _ _ _ h => h.mono hg⟩
    replace hO := hO.on hl
    replace hs := hs.tr hl
    refine ⟨hs, ?_⟩
    refine At.take rfl (fun w' hs' => RunV.move rfl) rfl ?_
    refine At.take rfl (fun w' hs' => RunV.extract rfl rfl) rfl ?_
    refine At.take rfl (fun w' hs' => RunV.extract rfl rfl) rfl ?_
    refine At.prun_ rfl (Step.storeAll hO rfl rfl rfl sz67_5 .here rfl rfl ?_)
    intro w10 hO hbut
    have hs := hbut.le hs hzb5
    refine ⟨hs, ?_⟩
    refine At.take rfl (fun w' hs' => RunV.assign rfl) rfl ?_
    refine At.pdone (At.keep (.cons (t := 0) rfl <| .cons (t := 3) rfl <| .cons (t := 6) rfl <| .nil) ?_)
    refine At.seq (At.reg ?_)
    refine At.v (RunV.move rfl) rfl ?_
    refine At.v (RunV.move rfl) rfl ?_
    refine At.g (Guard.t rfl rfl rfl) (fun hc => RunV.move rfl) rfl ?_
    refine At.g (Guard.t rfl rfl rfl) (fun hc => RunV.field ft32_1_1 rfl rfl) rfl ?_
    refine At.g (Guard.t rfl rfl rfl) (fun hc => RunV.load ct3 (gvE rfl hc) ((hO.at (i := 1) rfl).cell rfl)) rfl ?_
    refine At.gcallS (Guard.t rfl rfl rfl) (fun hc => rfl) pf35 (fun hc => (evL2 (gvE rfl hc) (gvE rfl hc))) (fun hc => bactO_c oa e.actor hoa hN (h.le hO.le)) rfl ?_
    refine At.gcallS (Guard.t rfl rfl rfl) (fun hc => rfl) pf36 (fun hc => (evL1 (gvE rfl hc))) (fun hc => works_c oa _ a kv ku wx _ st ps f _ (hA.le hO.le)) rfl ?_
    refine At.v (RunV.pickAnd rfl rfl) rfl ?_
    refine At.v (RunV.build pl81 zt81 rfl rfl) rfl ?_
    refine At.step rfl (Step.buildSlice hO st110_81_2 zt81 rfl rfl rfl rfl (fill_full rfl rfl) ?_)
    intro b26 w11 hO hlb26 hnb26
    refine At.callE hO rfl pf38 rfl (broken_c _ _ [(7, (findKnd b.prog e.name).isSome && worksB oa)] (by simp) _ (hO.at (i := 0) rfl).row) rfl ?_
    intro w12 hO hl
    refine At.v (RunV.assign rfl) rfl ?_
    refine At.nil (At.keep (.cons (t := 4) rfl <| .nil) ?_)
    refine At.ret ?_
    refine At.result1 rfl rfl ?_
    exact RuleP.no h hO.le (by unfold stNoRoom; rw [hrl])

end Go.Proofs.Ytglilmcfhkedbaa
