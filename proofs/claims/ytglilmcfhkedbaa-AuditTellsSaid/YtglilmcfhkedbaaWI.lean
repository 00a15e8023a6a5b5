/- The walk of act.copied; no condition. -/
import Derived.Test.YtglilmcfhkedbaaCp
namespace Go.Proofs.Ytglilmcfhkedbaa
open Go Go.RowKit

theorem pf41 : plainFn Try.prog 41 = true := by kernel_rfl
theorem sz61_1 : sizeT Try.prog 61 1 = true := by kernel_rfl
theorem sz64_1 : sizeT Try.prog 64 1 = true := by kernel_rfl
theorem sz65_1 : sizeT Try.prog 65 1 = true := by kernel_rfl

set_option maxHeartbeats 1600000 in
theorem copied_c (k : Knd) (kv ku : Value) (w : World) (hC : SlOf G0 2 CasR w kv k.cases) (hU : SlOf G0 2 (SttR G0) w ku k.states) (hcm : k.cases.length ≤ 8) (hsl : k.states.length ≤ 8) (h1s : 1 ≤ k.states.length) (hsm : ∀ s ∈ k.states, s.rows.length ≤ 16 ∧ ∀ r ∈ s.rows, r.effs.length ≤ 8) :
    Ret Try.prog 60 [.agg (k.cells kv ku).toArray] w fun v w' => ∃ kv' ku', v = .agg (k.cells kv' ku').toArray ∧ Le w w' ∧ SlOf (GTy w.heap.size pK) 2 CasR w' kv' k.cases ∧ SlOf (GTy w.heap.size pK) 2 (SttR (GTy w.heap.size pK)) w' ku' k.states := by
  refine Ret.enter Try.func60 rfl Try.ntmps60 rfl rfl ?_
  have hO := Own.start w
  obtain ⟨ka0, kc0, rfl, _, _⟩ := hC.val
  obtain ⟨ua0, uc0, rfl, _, _⟩ := hU.val
  refine At.seq (At.reg ?_)
  refine At.step rfl (Step.box hO rfl rfl ?_)
  intro b1 w1 hO hlb1 hnb1
  refine At.step rfl (Step.alloc hO zt67 ?_)
  intro b2 w2 hO hlb2 hnb2
  refine At.nil (At.keep (.cons (t := 1) rfl <| .cons (t := 2) rfl <| .nil) ?_)
  refine At.seq (At.reg ?_)
  refine At.v (RunV.field ft67_3_3 rfl rfl) rfl ?_
  refine At.v (RunV.load ct65 rfl ((hO.at (i := 1) rfl).cell rfl)) rfl ?_
  refine At.step rfl (Step.call rfl pf79 rfl (cloneC_c (R := CasR) k.cases _ _ (hC.le hO.le fun _ _ _ h => h) (by omega) (fun x cs _ h => by cases h; rfl)) ?_)
  have hsz := hO.le.size
  intro kv2 w3 hr
  obtain ⟨hl, hN⟩ := hr
  have hCs : SlOf (GTy w.heap.size pC) 2 CasR w3 kv2 k.cases := hN.slOf (by omega) (fun b cs hb hblk => ⟨Nat.le_trans hsz hb, cs, _, hblk, rfl⟩) (fun _ _ _ h => h)
  obtain ⟨kva, kvc, rfl⟩ := hN.val
  replace hO := hO.on hl
  refine At.v (RunV.field ft67_3_3 rfl rfl) rfl ?_
  have hb1k := hO.at (i := 1) rfl
  refine At.step_ (Step.store1 hO rfl rfl rfl sz65_1 (.there .here) (.there (.there (.there .here))) rfl ?_)
  intro w4 hO hbut
  replace hCs := hCs.stays (R' := CasR) (GTy.but hbut hb1k rfl) fun _ _ _ h => h
  refine At.nil (At.keep (.cons (t := 1) rfl <| .cons (t := 2) rfl <| .nil) ?_)
  refine At.seq (At.reg ?_)
  refine At.v (RunV.field ft67_4_4 rfl rfl) rfl ?_
  refine At.v (RunV.load ct64 rfl ((hO.at (i := 1) rfl).cell rfl)) rfl ?_
  refine At.step rfl (Step.call rfl pf80 rfl (cloneS_c (R := fun _ => SttR G0 w) k.states _ _ (hU.le hO.le fun _ _ _ h => h) (by omega) (fun x cs _ h => by obtain ⟨v, rfl, h⟩ := h; obtain ⟨a, c, rfl, _⟩ := h.val; rfl)) ?_)
  have hsz2 := hO.le.size
  intro ku2 w5 hr
  obtain ⟨hl, hN⟩ := hr
  replace hCs := hCs.stays (R' := CasR) (GTy.le hl) fun _ _ _ h => h
  rcases hN with ⟨_, h0⟩ | ⟨sb, scap, scs, rfl, hscap, hsb, hsblk, hslen, hsel⟩
  · rw [h0] at h1s; exact absurd h1s (by decide)
  replace hO := hO.add hl hsblk hsb
  have hsbw : w.heap.size ≤ sb := Nat.le_trans hsz2 hsb
  have hSt : StsIn (GTy w.heap.size pR) w k.states 0 0 w5 scs := fun x s hx => by
    obtain ⟨ds, e1, e2, e3⟩ := hsel x s hx
    exact ⟨ds, e1, e3, fun h => absurd h (Nat.not_lt_zero _), fun _ => e2⟩
  refine At.v (RunV.field ft67_4_4 rfl rfl) rfl ?_
  have hb1k2 := hO.at (i := 2) rfl
  refine At.step_ (Step.store1 hO rfl rfl rfl sz64_1 (.there (.there .here)) (.there (.there (.there (.there .here)))) rfl ?_)
  intro w6 hO hbut
  replace hCs := hCs.stays (R' := CasR) (GTy.but hbut hb1k2 rfl) fun _ _ _ h => h
  replace hSt := hSt.stays (GTy.but hbut hb1k2 rfl)
  refine At.nil (At.keep (.cons (t := 1) rfl <| .cons (t := 2) rfl <| .nil) ?_)
  refine At.seq ?_
  refine At.seq (At.reg ?_)
  refine At.v (RunV.field ft67_4_4 rfl rfl) rfl ?_
  refine At.v (RunV.load ct64 rfl ((hO.at (i := 2) rfl).cell rfl)) rfl ?_
  refine At.v (RunV.lenSl rfl isl64) rfl ?_
  refine At.v (RunV.move rfl) rfl ?_
  refine At.nil (At.keep (.cons (t := 1) rfl <| .cons (t := 2) rfl <| .cons (t := 16) rfl <| .cons (t := 17) rfl <| .nil) ?_)
  refine At.block ?_
  refine At.loopC (σ := Nat) (.cons (t := 1) rfl <| .cons (t := 2) rfl <| .cons (t := 16) rfl <| .nil) (fun i => [(17, .int .i64 (i : Int))]) (fun i wl => ∃ scs, Own w [(sb, scs, 63), (b2, [.string e0, .int .i64 0, .int .i64 0, .slice none 0 0, .slice none 0 0], 67), (b1, k.cells (.slice kva k.cases.length kvc) (.slice (some ⟨sb, 0, none⟩) k.states.length scap), 67)] wl ∧ scs.length = scap * 2 ∧ i ≤ k.states.length ∧ StsIn (GTy w.heap.size pR) w k.states i i wl scs ∧ SlOf (GTy w.heap.size pC) 2 CasR wl (.slice kva k.cases.length kvc) k.cases) (fun i => k.states.length - i) 0 (.cons (t := 17) rfl <| .nil) ⟨scs, hO, hslen, Nat.zero_le _, hSt, hCs⟩ ?_
  intro i w7 hinv
  refine At.keep (.cons (t := 1) rfl <| .cons (t := 2) rfl <| .cons (t := 16) rfl <| .cons (t := 17) rfl <| .nil) ?_
  clear hslen hSt hsblk hsel
  obtain ⟨scs, hO, hslen, hi, hSt, hCs⟩ := hinv
  refine At.seq (At.reg ?_)
  refine At.v (RunV.ltI rfl rfl) rfl ?_
  refine At.nil (At.keep (.cons (t := 1) rfl <| .cons (t := 2) rfl <| .cons (t := 16) rfl <| .cons (t := 17) rfl <| .cons (t := 18) rfl <| .nil) ?_)
  refine At.seq ?_
  refine At.cond rfl (fun hlt => ?_) (fun hlt => ?_)
  · refine At.skip ?_
    refine At.seq ?_
    refine At.block ?_
    refine At.seq (At.reg ?_)
    refine At.v (RunV.move rfl) rfl ?_
    refine At.v (RunV.assign rfl) rfl ?_
    refine At.nil (At.keep (.cons (t := 1) rfl <| .cons (t := 2) rfl <| .cons (t := 3) rfl <| .cons (t := 16) rfl <| .cons (t := 17) rfl <| .nil) ?_)
    have hk : i < k.states.length := by have := of_decide_eq_true hlt; omega
    obtain ⟨s, hs1⟩ : ∃ s, k.states[i]? = some s := ⟨_, List.getElem?_eq_getElem hk⟩
    obtain ⟨ds, e1, e2, _, e4⟩ := hSt i s hs1
    obtain ⟨rv, rfl, hRv⟩ := e4 (Nat.le_refl _)
    have hget := getAt (j := 1) e2 rfl
    have hsm1 := hsm s (List.mem_of_getElem? hs1)
    have hscl : i * 2 + 1 < scs.length := by omega
    refine At.seq (At.reg ?_)
    refine At.v (RunV.field ft67_4_4 rfl rfl) rfl ?_
    refine At.v (RunV.load ct64 rfl ((hO.at (i := 2) rfl).cell rfl)) rfl ?_
    refine At.v (RunV.move rfl) rfl ?_
    refine At.v (RunV.index st64_63_2 rfl rfl rfl hk rfl) rfl ?_
    refine At.v (RunV.assign rfl) rfl ?_
    refine At.nil (At.keep (.cons (t := 1) rfl <| .cons (t := 2) rfl <| .cons (t := 4) rfl <| .cons (t := 16) rfl <| .cons (t := 17) rfl <| .nil) ?_)
    obtain ⟨lim, hlim⟩ : ∃ lim, (w7).heap.size = lim := ⟨_, rfl⟩
    have hStl : StsIn (GTl w.heap.size lim pR) w k.states i (i + 1) w7 scs := hSt.mono (fun b hb => by rw [← hlim]; exact hb.below) (Nat.le_succ _)
    have hlimw : w.heap.size ≤ lim := by rw [← hlim]; exact hO.le.size
    refine At.seq (At.reg ?_)
    refine At.v (RunV.move rfl) rfl ?_
    refine At.v (RunV.move rfl) rfl ?_
    refine At.v (RunV.nilCheck rfl) rfl ?_
    refine At.v (RunV.field ft63_1_1 rfl rfl) rfl ?_
    refine At.v (RunV.load ct61 rfl ((hO.at (i := 0) rfl).cell hget)) rfl ?_
    refine At.step rfl (Step.call rfl pf81 rfl (cloneR_c (R := fun _ => RwR G0 w) s.rows _ _ (hRv.le hO.le fun _ _ _ h => h) (by omega) (fun x cs _ h => by obtain ⟨v, rfl, h⟩ := h; obtain ⟨a, c, rfl, _⟩ := h.val; rfl)) ?_)
    have hblt : sb < lim ∧ b2 < lim ∧ b1 < lim := by rw [← hlim]; exact ⟨(hO.at (i := 0) rfl).lt, (hO.at (i := 1) rfl).lt, (hO.at (i := 2) rfl).lt⟩
    intro rv2 w8 hr
    obtain ⟨hl, hN⟩ := hr
    obtain ⟨ra, rc, rfl⟩ := hN.val
    have hRs := RowsAt.start hN
    rw [hlim] at hRs
    replace hO := hO.on hl
    replace hCs := hCs.stays (R' := CasR) (GTy.le hl) fun _ _ _ h => h
    replace hStl := hStl.stays (GTl.le hl)
    refine At.v (RunV.nilCheck rfl) rfl ?_
    refine At.v (RunV.field ft63_1_1 rfl rfl) rfl ?_
    refine At.step_ (Step.storeX (ds := [.slice ra s.rows.length rc]) (hO.at (i := 0) rfl) rfl rfl rfl sz61_1 rfl (by rw [Nat.ble_eq]; omega) rfl ?_)
    intro w9 hbut hblk
    have hsb0 := hO.at (i := 0) rfl
    rw [Nat.zero_add, set_eq (by omega)] at hblk
    replace hO := hO.set .here hbut hblk
    replace hCs := hCs.stays (R' := CasR) (GTy.but hbut hsb0 rfl) fun _ _ _ h => h
    replace hStl := (hStl.stays (GTl.but hbut hsb0 rfl)).set (rv := .slice ra s.rows.length rc)
    replace hRs := hRs.but hbut hblt.1 hsb0 rfl
    have hnew : ((scs.set (i * 2 + 1) (.slice ra s.rows.length rc)).drop (i * 2)).take 2 = s.cells (.slice ra s.rows.length rc) := by rw [set_take_same, e2]; rfl
    refine At.nil (At.keep (.cons (t := 1) rfl <| .cons (t := 2) rfl <| .cons (t := 4) rfl <| .cons (t := 16) rfl <| .cons (t := 17) rfl <| .nil) ?_)
    refine At.seq (At.reg ?_)
    refine At.v (RunV.move rfl) rfl ?_
    refine At.v (RunV.nilCheck rfl) rfl ?_
    refine At.v (RunV.field ft63_1_1 rfl rfl) rfl ?_
    refine At.v (RunV.load ct61 rfl ((hO.at (i := 0) rfl).cell (getAt hnew (j := 1) rfl))) rfl ?_
    refine At.v (RunV.lenSl rfl isl61) rfl ?_
    refine At.v (RunV.move rfl) rfl ?_
    refine At.nil (At.keep (.cons (t := 1) rfl <| .cons (t := 2) rfl <| .cons (t := 4) rfl <| .cons (t := 16) rfl <| .cons (t := 17) rfl <| .cons (t := 36) rfl <| .cons (t := 37) rfl <| .nil) ?_)
    refine At.block ?_
    refine At.loopC (σ := Nat) (.cons (t := 1) rfl <| .cons (t := 2) rfl <| .cons (t := 4) rfl <| .cons (t := 16) rfl <| .cons (t := 17) rfl <| .cons (t := 36) rfl <| .nil) (fun j => [(37, .int .i64 (j : Int))]) (fun j wl => Own w [(sb, scs.set (i * 2 + 1) (.slice ra s.rows.length rc), 63), (b2, [.string e0, .int .i64 0, .int .i64 0, .slice none 0 0, .slice none 0 0], 67), (b1, k.cells (.slice kva k.cases.length kvc) (.slice (some ⟨sb, 0, none⟩) k.states.length scap), 67)] wl ∧ RowsAt lim w s.rows j wl (.slice ra s.rows.length rc) ∧ j ≤ s.rows.length ∧ StsIn (GTl w.heap.size lim pR) w k.states i (i + 1) wl (scs.set (i * 2 + 1) (.slice ra s.rows.length rc)) ∧ SlOf (GTy w.heap.size pC) 2 CasR wl (.slice kva k.cases.length kvc) k.cases) (fun j => s.rows.length - j) 0 (.cons (t := 37) rfl <| .nil) ⟨hO, hRs, Nat.zero_le _, hStl, hCs⟩ ?_
    intro j w10 hinv
    refine At.keep (.cons (t := 1) rfl <| .cons (t := 2) rfl <| .cons (t := 4) rfl <| .cons (t := 16) rfl <| .cons (t := 17) rfl <| .cons (t := 36) rfl <| .cons (t := 37) rfl <| .nil) ?_
    clear hStl hCs hRs
    obtain ⟨hO, hRs, hj, hStl, hCs⟩ := hinv
    refine At.seq (At.reg ?_)
    refine At.v (RunV.ltI rfl rfl) rfl ?_
    refine At.nil (At.keep (.cons (t := 1) rfl <| .cons (t := 2) rfl <| .cons (t := 4) rfl <| .cons (t := 16) rfl <| .cons (t := 17) rfl <| .cons (t := 36) rfl <| .cons (t := 37) rfl <| .cons (t := 38) rfl <| .nil) ?_)
    refine At.seq ?_
    refine At.cond rfl (fun hlt2 => ?_) (fun hlt2 => ?_)
    · refine At.skip ?_
      refine At.seq ?_
      refine At.block ?_
      refine At.seq (At.reg ?_)
      refine At.v (RunV.move rfl) rfl ?_
      refine At.v (RunV.assign rfl) rfl ?_
      refine At.nil (At.keep (.cons (t := 1) rfl <| .cons (t := 2) rfl <| .cons (t := 4) rfl <| .cons (t := 5) rfl <| .cons (t := 16) rfl <| .cons (t := 17) rfl <| .cons (t := 36) rfl <| .cons (t := 37) rfl <| .nil) ?_)
      have hk2 : j < s.rows.length := by have := of_decide_eq_true hlt2; omega
      obtain ⟨r, hj1⟩ : ∃ r, s.rows[j]? = some r := ⟨_, List.getElem?_eq_getElem hk2⟩
      have hsc : (w10).cell? ⟨sb, 0 + i * 2 + 1, none⟩ = some (.slice ra s.rows.length rc) := (hO.at (i := 0) rfl).cell (getAt hnew (j := 1) rfl)
      rcases hRs with ⟨_, h0⟩ | ⟨rb, rcap, rcs, hv, hrcap, hlimb, hrblk, hrlen, hrel⟩
      · rw [h0] at hk2; exact absurd hk2 (Nat.not_lt_zero _)
      cases hv
      obtain ⟨ds, e1, hd, _, e4⟩ := hrel j r hj1
      obtain ⟨ev, rfl, hEv⟩ := e4 (Nat.le_refl _)
      have hrc : (w10).cell? ⟨rb, 0 + j * 4 + 3, none⟩ = some ev := hrblk.cell (getAt hd (j := 3) rfl)
      have hre := hsm1.2 r (List.mem_of_getElem? hj1)
      refine At.pi hmix (.take 0 (.take 1 (.take 2 (.take 3 (.take 4 (.take 5 (.take 6 (.take 7 (.take 8 (.take 9 (.take 10 (.take 11 (.take 12 (.run 13 (.take 14 (.take 15 (.free 16 .done))))))))))))))))) (by kernel_rfl) (by kernel_rfl) ?_
      intro w11 hs
      have hs0 := hs
      have hR := hO
      replace hO := hO.on hs
      refine At.take rfl (fun w' hs' => RunV.move rfl) rfl ?_
      refine At.take rfl (fun w' hs' => RunV.nilCheck rfl) rfl ?_
      refine At.take rfl (fun w' hs' => RunV.field ft63_1_1 rfl rfl) rfl ?_
      refine At.take rfl (fun w' hs' => RunV.load ct61 rfl (cell_le hsc hs')) rfl ?_
      refine At.take rfl (fun w' hs' => RunV.move rfl) rfl ?_
      refine At.take rfl (fun w' hs' => RunV.move rfl) rfl ?_
      refine At.take rfl (fun w' hs' => RunV.nilCheck rfl) rfl ?_
      refine At.take rfl (fun w' hs' => RunV.field ft63_1_1 rfl rfl) rfl ?_
      refine At.take rfl (fun w' hs' => RunV.load ct61 rfl (cell_le hsc hs')) rfl ?_
      refine At.take rfl (fun w' hs' => RunV.move rfl) rfl ?_
      refine At.keep (.cons (t := 1) rfl <| .cons (t := 2) rfl <| .cons (t := 4) rfl <| .cons (t := 16) rfl <| .cons (t := 17) rfl <| .cons (t := 36) rfl <| .cons (t := 37) rfl <| .cons (t := 43) rfl <| .cons (t := 44) rfl <| .cons (t := 48) rfl <| .cons (t := 49) rfl <| .nil) ?_
      refine At.take rfl (fun w' hs' => RunV.index st61_60_4 rfl rfl rfl hk2 rfl) rfl ?_
      refine At.take rfl (fun w' hs' => RunV.field ft60_3_3 rfl rfl) rfl ?_
      refine At.take rfl (fun w' hs' => RunV.load ct58 rfl (cell_le hrc hs')) rfl ?_
      refine At.prun rfl rfl (Step.call rfl pf78 rfl (cloneE_c (R := EffR) r.effs _ _ (hEv.le hO.le fun _ _ _ h => h) (by omega) (fun x cs _ h => by cases h; rfl)) ?_)
      have hszc := Nat.le_of_lt (Nat.lt_of_le_of_lt hlimb (hrblk.le hs).lt)
      intro ev2 w12 hr
      obtain ⟨hl, hN⟩ := hr
      replace hO := hO.on hl
      replace hs := hs.tr hl
      have hE2 : SlOf (GTy lim pE) 7 EffR w12 ev2 r.effs := hN.slOf (by omega) (fun b cs hb hblk => ⟨Nat.le_trans hszc hb, cs, _, hblk, rfl⟩) (fun _ _ _ h => h)
      obtain ⟨eva, evc, rfl⟩ := hN.val
      refine ⟨hs, ?_⟩
      refine At.take rfl (fun w' hs' => RunV.index st61_60_4 rfl rfl rfl hk2 rfl) rfl ?_
      refine At.take rfl (fun w' hs' => RunV.field ft60_3_3 rfl rfl) rfl ?_
      refine At.pfree_ rfl (Step.storeX (ds := [.slice eva r.effs.length evc]) (hrblk.le hs) rfl rfl rfl sz58_1 rfl (by rw [Nat.ble_eq]; omega) rfl ?_)
      intro w13 hbut hblk2
      refine ⟨fun _ => True, trivial, ?_⟩
      have hrb0 := hrblk.le hs
      rw [Nat.zero_add, set_eq (by omega)] at hblk2
      replace hO := hO.butx hbut (by omega) (by intro y hy; simp only [List.mem_cons, List.not_mem_nil, or_false] at hy; rcases hy with rfl | rfl | rfl <;> (dsimp only; omega))
      replace hCs := (hCs.stays (R' := CasR) (GTy.le hs) fun _ _ _ h => h).stays (R' := CasR) (GTy.but hbut hrb0 rfl) fun _ _ _ h => h
      replace hStl := (hStl.stays (GTl.le hs)).stays (GTl.butl hbut hlimb)
      have hRs2 := (hrel.stays (GTy.le hs)).step (GTy.but hbut hrb0 rfl) hj1 hd (hE2.stays (R' := EffR) (GTy.but hbut hrb0 rfl) fun _ _ _ h => h)
      refine At.pdone (At.keep (.cons (t := 1) rfl <| .cons (t := 2) rfl <| .cons (t := 4) rfl <| .cons (t := 16) rfl <| .cons (t := 17) rfl <| .cons (t := 36) rfl <| .cons (t := 37) rfl <| .nil) ?_)
      refine At.reg ?_
      refine At.v (RunV.inc rfl rfl (by omega)) rfl ?_
      refine At.v (RunV.move rfl) rfl ?_
      refine At.nil (At.keep (.cons (t := 1) rfl <| .cons (t := 2) rfl <| .cons (t := 4) rfl <| .cons (t := 16) rfl <| .cons (t := 17) rfl <| .cons (t := 36) rfl <| .cons (t := 37) rfl <| .nil) ?_)
      exact At.againC (.cons (t := 1) rfl <| .cons (t := 2) rfl <| .cons (t := 4) rfl <| .cons (t := 16) rfl <| .cons (t := 17) rfl <| .cons (t := 36) rfl <| .nil) (j + 1) (.cons (t := 37) rfl <| .nil) ⟨hO, .inr ⟨rb, _, _, rfl, hrcap, hlimb, hblk2, by rw [List.length_set]; exact hrlen, hRs2⟩, hk2, hStl, hCs⟩ (by omega)
    · have hjk : j = s.rows.length := by have := of_decide_eq_false hlt2; omega
      subst hjk
      have hSt2 := (hStl.mono (G' := GTy w.heap.size pR) (fun b hb => hb.2) (Nat.le_refl _)).done hs1 hnew (hRs.done hlimw hsm1.1)
      refine At.exit rfl ?_
      refine At.reg ?_
      refine At.v (RunV.inc rfl rfl (by omega)) rfl ?_
      refine At.v (RunV.move rfl) rfl ?_
      refine At.nil (At.keep (.cons (t := 1) rfl <| .cons (t := 2) rfl <| .cons (t := 16) rfl <| .cons (t := 17) rfl <| .nil) ?_)
      exact At.againC (.cons (t := 1) rfl <| .cons (t := 2) rfl <| .cons (t := 16) rfl <| .nil) (i + 1) (.cons (t := 17) rfl <| .nil) ⟨_, hO, by rw [List.length_set]; exact hslen, hk, hSt2, hCs⟩ (by omega)
  · have hik : i = k.states.length := by have := of_decide_eq_false hlt; omega
    refine At.exit rfl ?_
    refine At.seq (At.reg ?_)
    refine At.v (RunV.loadAgg ag67_5 rfl ((hO.at (i := 2) rfl).row) rfl) rfl ?_
    have hb2k := hO.at (i := 1) rfl
    refine At.step_ (Step.storeAll hO rfl rfl rfl sz67_5 (.there .here) rfl rfl ?_)
    intro w14 hO hbut
    replace hCs := hCs.stays (R' := CasR) (GTy.but hbut hb2k rfl) fun _ _ _ h => h
    replace hSt := hSt.stays (GTy.but hbut hb2k rfl)
    have hsbk := hO.at (i := 0) rfl
    refine At.nil (At.keep (.cons (t := 2) rfl <| .nil) ?_)
    refine At.ret ?_
    refine At.resultC1 rfl rfl ag67_5 (hO.at (i := 1) rfl).row rfl ?_
    refine ⟨_, _, rfl, hO.le, hCs.mono (fun b hb => hb.mono (Nat.le_refl _) (fun T h => by simp [pC, pK] at h ⊢; simp [h])) (fun _ _ _ h => h), .inr ⟨sb, 0, _, rfl, hscap, by omega, fun x s hx => ?_⟩⟩
    obtain ⟨ds, e1, e2, e3, _⟩ := hSt x s hx
    refine ⟨ds, e1, (e3 (by rw [hik]; exact (List.getElem?_eq_some_iff.1 hx).1)).mono fun b hb => hb.mono (Nat.le_refl _) (fun T h => ?_), by rw [Nat.zero_add]; exact hsbk.rowAt (by rw [e1]; exact e2), hsbw, _, _, hsbk, rfl⟩
    simp [pR, pK] at h ⊢
    rcases h with h | h <;> simp [h]

end Go.Proofs.Ytglilmcfhkedbaa
