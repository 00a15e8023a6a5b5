/- The walk of act.Find; what check says of a program's numbers; no condition. -/
import Derived.Test.YtglilmcfhkedbaaWI
namespace Go.Proofs.Ytglilmcfhkedbaa
open Go Go.RowKit

theorem pl67 : placesT Try.prog 67 = some [(0, 1), (1, 1), (2, 1), (3, 1), (4, 1)] := by kernel_rfl

/-- The numbers of a kind's parts, as check bounds them. -/
def SmallK (k : Knd) : Prop := k.cases.length ≤ 8 ∧ k.states.length ≤ 8 ∧ 1 ≤ k.states.length ∧ ∀ s ∈ k.states, s.rows.length ≤ 16 ∧ ∀ r ∈ s.rows, r.effs.length ≤ 8
theorem within_all {own : Int} {n : Nat} {part : Nat → Bool} (h : withinOk own n part = true) : own = 0 ∧ ∀ i, i < n → part i = true := by
  unfold withinOk at h
  rw [Bool.and_eq_true, List.all_eq_true] at h
  exact ⟨by simpa using h.1, fun i hi => h.2 i (List.mem_range.2 hi)⟩
theorem progOk_small {p : Prg} (h : progOk p = true) : 1 ≤ p.length ∧ p.length ≤ 8 ∧ ∀ k ∈ p, SmallK k := by
  obtain ⟨h0, h1⟩ := within_all h
  refine ⟨?_, progOwn_len h0, fun k hk => ?_⟩
  · have := firstR_zero (rs := progRules p) rfl h0 (decide ((p.length : Int) < 1) || decide (8 < (p.length : Int)), 40) (by simp [progRules])
    simp at this
    omega
  · obtain ⟨i, hi, rfl⟩ := List.getElem_of_mem hk
    have h2 := h1 i hi
    unfold kindOk at h2
    rw [List.getElem?_eq_getElem hi] at h2
    obtain ⟨h3, h4⟩ := within_all h2
    have h5 := firstR_zero (rs := kindRules p i p[i]) rfl h3 ((decide (8 < (p[i].cases.length : Int)) || decide ((p[i].states.length : Int) < 1)) || decide (8 < (p[i].states.length : Int)), 40) (by simp [kindRules])
    simp at h5
    refine ⟨by omega, by omega, by omega, fun s hs => ?_⟩
    obtain ⟨j, hj, rfl⟩ := List.getElem_of_mem hs
    have h6 := h4 j hj
    unfold stateOk at h6
    rw [List.getElem?_eq_getElem hj] at h6
    obtain ⟨h7, h8⟩ := within_all h6
    refine ⟨stateOwn_len h7, fun r hr => ?_⟩
    obtain ⟨x, hx, rfl⟩ := List.getElem_of_mem hr
    have h9 := h8 x hx
    unfold rowOk at h9
    rw [List.getElem?_eq_getElem hx] at h9
    exact rowOwn_len (within_all h9).1

set_option maxHeartbeats 800000 in
theorem find_c (p : Prg) (name : ByteArray) (pv : Value) (w : World) (hP : PrgR G0 w pv p) (hsm : ∀ k ∈ p, SmallK k) :
    Ret Try.prog 41 [.agg [pv].toArray, .string name] w fun v w' => Le w w' ∧ match findKnd p name with
      | none => v = .tuple #[.agg ((⟨e0, 0, 0, [], []⟩ : Knd).cells (.slice none 0 0) (.slice none 0 0)).toArray, .bool false]
      | some k => ∃ kv ku, v = .tuple #[.agg (k.cells kv ku).toArray, .bool true] ∧ SlOf (GTy w.heap.size pK) 2 CasR w' kv k.cases ∧ SlOf (GTy w.heap.size pK) 2 (SttR (GTy w.heap.size pK)) w' ku k.states := by
  refine Ret.enter Try.func41 rfl Try.ntmps41 rfl rfl ?_
  have hO := Own.start w
  obtain ⟨a, cap, rfl, hple, hpcap⟩ := SlOf.val hP
  refine At.seq (At.reg ?_)
  refine At.step rfl (Step.box hO rfl rfl ?_)
  intro b2 w1 hO hlb2 hnb2
  refine At.step rfl (Step.box hO rfl rfl ?_)
  intro b3 w2 hO hlb3 hnb3
  refine At.step rfl (Step.alloc hO zt67 ?_)
  intro b4 w3 hO hlb4 hnb4
  refine At.v (RunV.assign rfl) rfl ?_
  refine At.nil (At.keep (.cons (t := 2) rfl <| .cons (t := 3) rfl <| .cons (t := 4) rfl <| .nil) ?_)
  refine At.seq (At.reg ?_)
  refine At.v (RunV.field ft24_0_0 rfl rfl) rfl ?_
  refine At.v (RunV.load ct22 rfl ((hO.at (i := 2) rfl).cell rfl)) rfl ?_
  refine At.v (RunV.makeFunc rfl) rfl ?_
  refine At.callE hO rfl pf58 rfl (idxfK_c (R := KndR G0) (fun k => seq k.name name) p _ 59 [_] pf59 _ (PrgR.le hP hO.le) (fun i x cs w' _ _ hl hR => by obtain ⟨v1, u1, rfl, _⟩ := hR; exact find1_c x v1 u1 name _ _ ((hO.at (i := 1) rfl).row.le hl))) rfl ?_
  intro w4 hO hl
  refine At.v (RunV.assign rfl) rfl ?_
  refine At.nil (At.keep (.cons (t := 2) rfl <| .cons (t := 4) rfl <| .cons (t := 6) rfl <| .nil) ?_)
  refine At.seq ?_
  have hcase := idxOf_cases (fun k => seq k.name name) p
  refine At.seq (At.reg ?_)
  refine At.v (RunV.move rfl) rfl ?_
  refine At.v (RunV.ltI rfl rfl) rfl ?_
  refine At.nil (At.keep (.cons (t := 2) rfl <| .cons (t := 4) rfl <| .cons (t := 6) rfl <| .cons (t := 12) rfl <| .nil) ?_)
  refine At.cond rfl (fun h1 => ?_) (fun h1 => ?_)
  · have hf1 : p.find? (fun k => seq k.name name) = none := by
      rcases hcase with ⟨_, h⟩ | ⟨i, x, h, _⟩
      · exact h
      · have := of_decide_eq_true h1; omega
    refine At.seq (At.reg ?_)
    refine At.v (RunV.build pl67 zt67 rfl rfl) rfl ?_
    refine At.step_ (Step.storeAll hO rfl rfl rfl sz67_5 .here rfl rfl ?_)
    intro w5 hO hbut
    refine At.v (RunV.assign rfl) rfl ?_
    refine At.nil (At.keep (.cons (t := 4) rfl <| .cons (t := 5) rfl <| .nil) ?_)
    refine At.ret ?_
    refine At.resultC2 rfl rfl ag67_5 (hO.at (i := 0) rfl).row rfl rfl ?_
    refine ⟨hO.le, ?_⟩
    unfold findKnd
    rw [hf1]
    exact rfl
  · obtain ⟨i, k, hi1, hi2, hf1⟩ : ∃ (i : Nat) (x : Knd), idxOf (fun k => seq k.name name) p = (i : Int) ∧ p[i]? = some x ∧ p.find? (fun k => seq k.name name) = some x := by
      rcases hcase with ⟨h, _⟩ | h
      · have := of_decide_eq_false h1; omega
      · exact h
    obtain ⟨b, off, cap, cs, hv, hle, hcl, hR, hrow⟩ := SlOf.at hP hi2
    cases hv
    obtain ⟨kv, ku, rfl, hC, hU⟩ := hR
    have hsk := hsm k (List.mem_of_getElem? hi2)
    refine At.skip ?_
    refine At.seq (At.reg ?_)
    refine At.v (RunV.field ft24_0_0 rfl rfl) rfl ?_
    refine At.v (RunV.load ct22 rfl ((hO.at (i := 2) rfl).cell rfl)) rfl ?_
    refine At.v (RunV.move rfl) rfl ?_
    refine At.v (RunV.index st22_67_5 rfl rfl hi1 (by have := (List.getElem?_eq_some_iff.1 hi2).1; omega) rfl) rfl ?_
    refine At.v (RunV.loadAgg ag67_5 rfl (Row.le hrow hO.le) rfl) rfl ?_
    refine At.step rfl (Step.call rfl pf60 rfl (copied_c k _ _ _ (hC.le hO.le fun _ _ _ h => h) (hU.le hO.le fun _ _ _ h => h.le hO.le) hsk.1 hsk.2.1 hsk.2.2.1 hsk.2.2.2) ?_)
    have hlc := hO.le.size
    have hb4 := hO.at (i := 0) rfl
    intro v w6 hr
    obtain ⟨kv', ku', rfl, hl, hc1, hc2⟩ := hr
    replace hb4 := hb4.le hl
    obtain ⟨ka', kc', rfl, _, _⟩ := hc1.val
    obtain ⟨ua', uc', rfl, _, _⟩ := hc2.val
    replace hO := hO.on hl
    refine At.step_ (Step.storeAll hO rfl rfl rfl sz67_5 .here rfl rfl ?_)
    intro w7 hO hbut
    replace hc1 := (hc1.stays (R' := CasR) (GTy.but hbut hb4 rfl) fun _ _ _ h => h).mono (G' := GTy w.heap.size pK) (R' := CasR) (fun b hb => hb.mono hlc fun _ h => h) fun _ _ _ h => h
    replace hc2 := (hc2.stays (R' := SttR _) (GTy.but hbut hb4 rfl) fun _ _ _ h => h.stays (GTy.but hbut hb4 rfl)).mono (G' := GTy w.heap.size pK) (R' := SttR (GTy w.heap.size pK)) (fun b hb => hb.mono hlc fun _ h => h) fun _ _ _ h => h.mono fun b hb => hb.mono hlc fun _ h => h
    refine At.v (RunV.assign rfl) rfl ?_
    refine At.nil (At.keep (.cons (t := 4) rfl <| .cons (t := 5) rfl <| .nil) ?_)
    refine At.ret ?_
    refine At.resultC2 rfl rfl ag67_5 (hO.at (i := 0) rfl).row rfl rfl ?_
    refine ⟨hO.le, ?_⟩
    unfold findKnd
    rw [hf1]
    exact ⟨_, _, rfl, hc1, hc2⟩

end Go.Proofs.Ytglilmcfhkedbaa
