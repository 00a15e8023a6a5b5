/- The walks of mercy.Directive and of act.Do; no condition. -/
import Derived.Test.YtglilmcfhkedbaaWG
namespace Go.Proofs.Ytglilmcfhkedbaa
open Go Go.RowKit

theorem ft87_1_1 : fieldT Try.prog 87 1 1 = true := by kernel_rfl
theorem ft87_2_2 : fieldT Try.prog 87 2 2 = true := by kernel_rfl
theorem ft87_3_3 : fieldT Try.prog 87 3 3 = true := by kernel_rfl
theorem ft87_4_4 : fieldT Try.prog 87 4 4 = true := by kernel_rfl
theorem pf40 : plainFn Try.prog 40 = true := by kernel_rfl
theorem pf42 : plainFn Try.prog 42 = true := by kernel_rfl
theorem sz3_1 : sizeT Try.prog 3 1 = true := by kernel_rfl
theorem sz4_1 : sizeT Try.prog 4 1 = true := by kernel_rfl
theorem sz57_7 : sizeT Try.prog 57 7 = true := by kernel_rfl
theorem sz87_5 : sizeT Try.prog 87 5 = true := by kernel_rfl
theorem sz9_1 : sizeT Try.prog 9 1 = true := by kernel_rfl
theorem pl87 : placesT Try.prog 87 = some [(0, 1), (1, 1), (2, 1), (3, 1), (4, 1)] := by kernel_rfl
theorem zt57 : zeroT Try.prog 57 [.int .i64 0, .string ByteArray.empty, .string ByteArray.empty, .string ByteArray.empty, .int .i64 0, .int .i64 0, .int .i64 0] := by unfold zeroT; kernel_rfl
theorem zt87 : zeroT Try.prog 87 [.bool false, .slice none 0 0, .string ByteArray.empty, .bool false, .string ByteArray.empty] := by unfold zeroT; kernel_rfl

theorem directive_c (k : Knd) (reason : ByteArray) (kv ku : Value) (w : World) (hC : SlOf G0 2 CasR w kv k.cases) :
    Ret Try.prog 42 [.agg (k.cells kv ku).toArray, .string reason] w fun v w' => v = .int .i64 (directive k reason) ∧ Le w w' := by
  refine Ret.enter Try.func42 rfl Try.ntmps42 rfl rfl ?_
  have hO := Own.start w
  obtain ⟨ca, ccap, rfl, hcle0, hccap⟩ := hC.val
  refine At.seq (At.reg ?_)
  refine At.step rfl (Step.box hO rfl rfl ?_)
  intro b2 w1 hO hlb2 hnb2
  refine At.v (RunV.assign rfl) rfl ?_
  refine At.nil (At.keep (.cons (t := 1) rfl <| .cons (t := 2) rfl <| .nil) ?_)
  refine At.seq ?_
  refine At.seq (At.reg ?_)
  refine At.v (RunV.move rfl) rfl ?_
  refine At.step rfl (Step.buildSlice hO st116_9_1 zt9 rfl rfl rfl rfl (fill_full rfl rfl) ?_)
  intro b9 w2 hO hlb9 hnb9
  refine At.v (RunV.lenSl rfl isl116) rfl ?_
  refine At.v (RunV.move rfl) rfl ?_
  refine At.nil (At.keep (.cons (t := 2) rfl <| .cons (t := 9) rfl <| .cons (t := 10) rfl <| .cons (t := 11) rfl <| .nil) ?_)
  refine At.block ?_
  refine At.loopC (σ := Nat) (.cons (t := 2) rfl <| .cons (t := 9) rfl <| .cons (t := 10) rfl <| .nil) (fun i => [(11, .int .i64 (i : Int))]) (fun i wl => Own w [(b9, [.string reason, .string e0], 9), (b2, k.cells (.slice ca k.cases.length ccap) ku, 67)] wl ∧ i ≤ 2 ∧ (1 ≤ i → k.cases.find? (fun c => seq c.reason reason) = none) ∧ (2 ≤ i → k.cases.find? (fun c => seq c.reason e0) = none)) (fun i => 2 - i) 0 (.cons (t := 11) rfl <| .nil) ⟨hO, by omega, fun h => by omega, fun h => by omega⟩ ?_
  intro i w3 hinv
  refine At.keep (.cons (t := 2) rfl <| .cons (t := 9) rfl <| .cons (t := 10) rfl <| .cons (t := 11) rfl <| .nil) ?_
  obtain ⟨hO, hi, hn1, hn2⟩ := hinv
  refine At.seq (At.reg ?_)
  refine At.v (RunV.ltI rfl rfl) rfl ?_
  refine At.nil (At.keep (.cons (t := 2) rfl <| .cons (t := 9) rfl <| .cons (t := 10) rfl <| .cons (t := 11) rfl <| .cons (t := 12) rfl <| .nil) ?_)
  refine At.seq ?_
  refine At.cond rfl (fun h1 => ?_) (fun h1 => ?_)
  · refine At.skip ?_
    refine At.seq ?_
    refine At.block ?_
    have hk : i < 2 := by have := of_decide_eq_true h1; omega
    obtain ⟨want, hw⟩ : ∃ want, [reason, e0][i]? = some want := ⟨_, List.getElem?_eq_getElem hk⟩
    have hcell : [Value.string reason, Value.string e0][0 + i * 1]? = some (.string want) := by
      have : i = 0 ∨ i = 1 := by omega
      rcases this with rfl | rfl
      · have : reason = want := by simpa using hw
        rw [this]; rfl
      · have : e0 = want := by simpa using hw
        rw [← this]; rfl
    refine At.seq (At.reg ?_)
    refine At.v (RunV.index st116_9_1 rfl rfl rfl hk rfl) rfl ?_
    refine At.v (RunV.load ct9 rfl (Blk.cell (hO.at (i := 0) rfl) hcell)) rfl ?_
    refine At.step rfl (Step.alloc hO zt9 ?_)
    intro b6 w4 hO hlb6 hnb6
    refine At.step_ (Step.storeAll hO rfl rfl rfl sz9_1 .here rfl rfl ?_)
    intro w5 hO hbut
    refine At.nil (At.keep (.cons (t := 2) rfl <| .cons (t := 6) rfl <| .cons (t := 9) rfl <| .cons (t := 10) rfl <| .cons (t := 11) rfl <| .nil) ?_)
    refine At.seq (At.reg ?_)
    refine At.v (RunV.field ft67_3_3 rfl rfl) rfl ?_
    refine At.v (RunV.load ct65 rfl ((hO.at (i := 2) rfl).cell rfl)) rfl ?_
    refine At.v (RunV.makeFunc rfl) rfl ?_
    refine At.callE hO rfl pf61 rfl (idxfC_c (R := CasR) (fun c => seq c.reason want) k.cases _ 62 [_] pf62 _ (hC.le hO.le fun _ _ _ h => h) (fun i x cs w' _ _ hl hR => by cases hR; exact dir1_c x want _ _ ((hO.at (i := 0) rfl).row.le hl))) rfl ?_
    intro w6 hO hl
    refine At.v (RunV.assign rfl) rfl ?_
    refine At.nil (At.keep (.cons (t := 2) rfl <| .cons (t := 7) rfl <| .cons (t := 9) rfl <| .cons (t := 10) rfl <| .cons (t := 11) rfl <| .nil) ?_)
    have hcase := idxOf_cases (fun c => seq c.reason want) k.cases
    refine At.seq (At.reg ?_)
    refine At.v (RunV.move rfl) rfl ?_
    refine At.v (RunV.geI rfl rfl) rfl ?_
    refine At.nil (At.keep (.cons (t := 2) rfl <| .cons (t := 7) rfl <| .cons (t := 9) rfl <| .cons (t := 10) rfl <| .cons (t := 11) rfl <| .cons (t := 20) rfl <| .nil) ?_)
    refine At.cond rfl (fun h2 => ?_) (fun h2 => ?_)
    · obtain ⟨j, c, hj1, hj2, hf⟩ : ∃ (j : Nat) (c : Cas), idxOf (fun c => seq c.reason want) k.cases = (j : Int) ∧ k.cases[j]? = some c ∧ k.cases.find? (fun c => seq c.reason want) = some c := by
        rcases hcase with ⟨h, _⟩ | h
        · have := of_decide_eq_true h2; omega
        · exact h
      obtain ⟨cb, coff, ccap', cs, hv, hcle, hccl, hcR, hcrow⟩ := hC.at hj2
      cases hv
      cases hcR
      refine At.seq (At.reg ?_)
      refine At.v (RunV.field ft67_3_3 rfl rfl) rfl ?_
      refine At.v (RunV.load ct65 rfl ((hO.at (i := 2) rfl).cell rfl)) rfl ?_
      refine At.v (RunV.move rfl) rfl ?_
      refine At.v (RunV.index st65_103_2 rfl rfl hj1 (by have := (List.getElem?_eq_some_iff.1 hj2).1; omega) rfl) rfl ?_
      refine At.v (RunV.field ft103_1_1 rfl rfl) rfl ?_
      refine At.v (RunV.load ct3 rfl (cell_le (hcrow.cell (i := 1) rfl) hO.le)) rfl ?_
      refine At.v (RunV.assign rfl) rfl ?_
      refine At.nil (At.keep (.cons (t := 4) rfl <| .nil) ?_)
      refine At.ret ?_
      refine At.result1 rfl rfl ?_
      refine ⟨?_, hO.le⟩
      have : i = 0 ∨ i = 1 := by omega
      unfold directive
      rcases this with rfl | rfl
      · have : reason = want := by simpa using hw
        rw [this, hf]
      · have : e0 = want := by simpa using hw
        rw [hn1 (by omega), this, hf]
    · have hf : k.cases.find? (fun c => seq c.reason want) = none := by
        rcases hcase with ⟨_, h⟩ | ⟨j, c, h, _⟩
        · exact h
        · have := of_decide_eq_false h2; omega
      refine At.skip ?_
      refine At.reg ?_
      refine At.v (RunV.inc rfl rfl (by omega)) rfl ?_
      refine At.v (RunV.move rfl) rfl ?_
      refine At.nil (At.keep (.cons (t := 2) rfl <| .cons (t := 9) rfl <| .cons (t := 10) rfl <| .cons (t := 11) rfl <| .nil) ?_)
      replace hO := hO.drop
      exact At.againC (.cons (t := 2) rfl <| .cons (t := 9) rfl <| .cons (t := 10) rfl <| .nil) (i + 1) (.cons (t := 11) rfl <| .nil) ⟨hO, hk, fun _ => by
            have : i = 0 ∨ i = 1 := by omega
            rcases this with rfl | rfl
            · have : reason = want := by simpa using hw
              rw [this]; exact hf
            · exact hn1 (by omega), fun h => by
            have : i = 1 := by omega
            subst this
            have : e0 = want := by simpa using hw
            rw [this]; exact hf⟩ (by omega)
  · have hi2 : i = 2 := by have := of_decide_eq_false h1; omega
    refine At.exit rfl ?_
    refine At.seq (At.reg ?_)
    refine At.v (RunV.assign rfl) rfl ?_
    refine At.nil (At.keep (.cons (t := 4) rfl <| .nil) ?_)
    refine At.ret ?_
    refine At.result1 rfl rfl ?_
    refine ⟨?_, hO.le⟩
    unfold directive
    rw [hn1 (by omega), hn2 (by omega)]

abbrev doH (b10 b9 b8 b4 : Nat) (c10 c4 : List Value) (ev : Value) (s : ByteArray) : Heap :=
  [(b10, c10, 60), (b9, [.bool false, ev, .string s, .bool false, .string e0], 87), (b8, [.bool false, .slice none 0 0, .string e0, .bool false, .string e0], 87), (b4, c4, 67)]
theorem drop_cons {α : Type} {xs : List α} {i : Nat} {x : α} (h : xs[i]? = some x) : xs.drop i = x :: xs.drop (i + 1) := by
  obtain ⟨hi, rfl⟩ := List.getElem?_eq_some_iff.1 h
  exact List.drop_eq_getElem_cons hi

set_option maxHeartbeats 1600000 in
theorem do_c (k : Knd) (state tag : ByteArray) (n : Int) (kv ku : Value) (w : World) (hU : SlOf G0 2 (SttR G0) w ku k.states) (hsm : ∀ s ∈ k.states, ∀ r ∈ s.rows, r.effs.length ≤ 8) :
    Ret Try.prog 40 [.agg (k.cells kv ku).toArray, .string state, .string tag, .int .i64 n] w fun v w' => (∃ ep em ec st f, v = .agg #[.bool (planOf k state tag n).1, .slice ep em ec, .string (planOf k state tag n).2, .bool st, .string f]) ∧ Le w w' := by
  refine Ret.enter Try.func40 rfl Try.ntmps40 rfl rfl ?_
  have hO := Own.start w
  refine At.seq (At.reg ?_)
  refine At.step rfl (Step.box hO rfl rfl ?_)
  intro b4 w1 hO hlb4 hnb4
  refine At.step rfl (Step.alloc hO zt87 ?_)
  intro b8 w2 hO hlb8 hnb8
  refine At.nil (At.keep (.cons (t := 1) rfl <| .cons (t := 2) rfl <| .cons (t := 3) rfl <| .cons (t := 4) rfl <| .cons (t := 8) rfl <| .nil) ?_)
  refine At.seq (At.reg ?_)
  refine At.v (RunV.move rfl) rfl ?_
  refine At.v (RunV.build pl87 zt87 rfl rfl) rfl ?_
  refine At.step rfl (Step.alloc hO zt87 ?_)
  intro b9 w3 hO hlb9 hnb9
  refine At.step_ (Step.storeAll hO rfl rfl rfl sz87_5 .here rfl rfl ?_)
  intro w4 hO hbut
  refine At.nil (At.keep (.cons (t := 1) rfl <| .cons (t := 2) rfl <| .cons (t := 3) rfl <| .cons (t := 4) rfl <| .cons (t := 8) rfl <| .cons (t := 9) rfl <| .nil) ?_)
  refine At.seq (At.reg ?_)
  refine At.v (RunV.loadAgg ag67_5 rfl ((hO.at (i := 2) rfl).row) rfl) rfl ?_
  refine At.v (RunV.move rfl) rfl ?_
  refine At.v (RunV.move rfl) rfl ?_
  refine At.v (RunV.move rfl) rfl ?_
  refine At.step rfl (Step.call rfl pf56 rfl (aRow_c k state tag n kv _ _ (hU.le hO.le fun _ _ _ h => h.le hO.le) hsm) ?_)
  have hb9 := (hO.at (i := 0) rfl).lt
  have hb8 := (hO.at (i := 1) rfl).lt
  have hb4 := (hO.at (i := 2) rfl).lt
  intro v wr hr
  obtain ⟨hl, hr⟩ := hr
  replace hO := hO.on hl
  obtain ⟨r, a, c, bb, rfl, hr8, hnone, hsome⟩ : ∃ r a c bb, v = .tuple #[.agg (Rw.cells r (.slice a r.effs.length c)).toArray, .bool bb] ∧ r.effs.length ≤ 8 ∧ (bb = false → findRow k state tag n = none) ∧ (bb = true → findRow k state tag n = some r ∧ SlOf (GA wr.heap.size b9) 7 EffR wr (.slice a r.effs.length c) r.effs) := by
    cases hf : findRow k state tag n with
    | none =>
      simp only [hf] at hr
      exact ⟨⟨e0, false, 0, []⟩, none, 0, false, hr, Nat.zero_le _, fun _ => rfl, fun h => by cases h⟩
    | some r =>
      simp only [hf] at hr
      obtain ⟨rv, h1, hN⟩ := hr
      obtain ⟨a, c, rfl⟩ := hN.val
      refine ⟨r, a, c, true, h1, ?h8, fun h => (by cases h), fun _ => ⟨rfl, hN.slOf (Nat.le_trans ?h8 (Nat.le_of_ble_eq_true rfl)) (fun b cs hb hblk => ⟨hblk.lt, by omega, hblk.lt⟩) fun _ _ _ h => h⟩⟩
      case h8 =>
        unfold findRow at hf
        cases hs : k.states.find? (fun s => seq s.name state) with
        | none => rw [hs] at hf; cases hf
        | some s =>
          rw [hs, Option.bind_some] at hf
          exact hsm s (List.mem_of_find?_eq_some hs) r (List.mem_of_find?_eq_some hf)
  have hlw := hO.le
  refine At.v (RunV.move rfl) rfl ?_
  refine At.v (RunV.extract rfl rfl) rfl ?_
  refine At.v (RunV.extract rfl rfl) rfl ?_
  refine At.step rfl (Step.alloc hO zt60 ?_)
  intro b10 w6 hO hlb10 hnb10
  replace hsome := fun h => And.intro (hsome h).1 ((hsome h).2.stays (R' := EffR) (GA.le hlb10) fun _ _ _ h => h)
  refine At.step_ (Step.storeAll hO rfl rfl rfl sz60_4 .here rfl rfl ?_)
  intro w7 hO hbut
  replace hsome := fun h => And.intro (hsome h).1 ((hsome h).2.stays (R' := EffR) (GA.but hbut (.inr hnb10)) fun _ _ _ h => h)
  refine At.v (RunV.assign rfl) rfl ?_
  refine At.nil (At.keep (.cons (t := 1) rfl <| .cons (t := 3) rfl <| .cons (t := 8) rfl <| .cons (t := 9) rfl <| .cons (t := 10) rfl <| .cons (t := 11) rfl <| .nil) ?_)
  refine At.seq ?_
  refine At.seq (At.reg ?_)
  refine At.v (RunV.move rfl) rfl ?_
  refine At.v (RunV.not rfl) rfl ?_
  refine At.nil (At.keep (.cons (t := 1) rfl <| .cons (t := 3) rfl <| .cons (t := 8) rfl <| .cons (t := 9) rfl <| .cons (t := 10) rfl <| .cons (t := 25) rfl <| .nil) ?_)
  refine At.cond rfl (fun h1 => ?_) (fun h1 => ?_)
  · refine At.seq (At.reg ?_)
    refine At.v (RunV.loadAgg ag87_5 rfl ((hO.at (i := 1) rfl).row) rfl) rfl ?_
    refine At.step_ (Step.storeAll hO rfl rfl rfl sz87_5 (.there (.there .here)) rfl rfl ?_)
    intro w8 hO hbut
    refine At.nil (At.keep (.cons (t := 8) rfl <| .nil) ?_)
    refine At.ret ?_
    refine At.resultC1 rfl rfl ag87_5 (hO.at (i := 2) rfl).row rfl ?_
    have hpl : planOf k state tag n = (false, state) := by unfold planOf; rw [hnone (by simpa using h1)]
    rw [hpl]
    exact ⟨⟨_, _, _, _, _, rfl⟩, hO.le⟩
  · refine At.skip ?_
    refine At.seq ?_
    obtain ⟨hfr, hsl⟩ := hsome (by simpa using h1)
    have hp0 : planOf k state tag n = planF state 0 r.effs state := by unfold planOf; rw [hfr]
    obtain ⟨B, hBdef⟩ : ∃ B, wr.heap.size = B := ⟨_, rfl⟩
    rw [hBdef] at hsl
    have hBw : w.heap.size ≤ B := by have := hlw.size; omega
    have hG0 : Gr B b9 [b10, b9, b8, b4] w7 (.slice none 0 0) 0 (.slice a r.effs.length c) r.effs := ⟨[], .inl ⟨rfl, rfl, rfl⟩, Apart.nil, by have := (hO.at (i := 0) rfl).lt; omega, hsl⟩
    refine At.seq (At.reg ?_)
    refine At.v (RunV.field ft60_3_3 rfl rfl) rfl ?_
    refine At.v (RunV.load ct58 rfl ((hO.at (i := 0) rfl).cell rfl)) rfl ?_
    refine At.v (RunV.lenSl rfl isl58) rfl ?_
    refine At.v (RunV.move rfl) rfl ?_
    refine At.nil (At.keep (.cons (t := 1) rfl <| .cons (t := 3) rfl <| .cons (t := 8) rfl <| .cons (t := 9) rfl <| .cons (t := 28) rfl <| .cons (t := 29) rfl <| .cons (t := 30) rfl <| .nil) ?_)
    refine At.block ?_
    refine At.loopC (σ := Nat) (.cons (t := 1) rfl <| .cons (t := 3) rfl <| .cons (t := 8) rfl <| .cons (t := 9) rfl <| .cons (t := 28) rfl <| .cons (t := 29) rfl <| .nil) (fun i => [(30, .int .i64 (i : Int))]) (fun i wl => ∃ ev s m, Own w (doH b10 b9 b8 b4 (r.cells (.slice a r.effs.length c)) (k.cells kv ku) ev s) wl ∧ Gr B b9 [b10, b9, b8, b4] wl ev m (.slice a r.effs.length c) r.effs ∧ m ≤ i ∧ i ≤ r.effs.length ∧ planOf k state tag n = planF state i (r.effs.drop i) s) (fun i => r.effs.length - i) 0 (.cons (t := 30) rfl <| .nil) ⟨_, _, 0, hO, hG0, Nat.le_refl _, Nat.zero_le _, hp0⟩ ?_
    intro i w9 hinv
    refine At.keep (.cons (t := 1) rfl <| .cons (t := 3) rfl <| .cons (t := 8) rfl <| .cons (t := 9) rfl <| .cons (t := 28) rfl <| .cons (t := 29) rfl <| .cons (t := 30) rfl <| .nil) ?_
    obtain ⟨ev, s, m, hO, hG, hm, hi, hp⟩ := hinv
    obtain ⟨va, vc, rfl⟩ : ∃ a c, ev = .slice a m c := by obtain ⟨ys, hS, _⟩ := hG; exact hS.val
    refine At.seq (At.reg ?_)
    refine At.v (RunV.ltI rfl rfl) rfl ?_
    refine At.nil (At.keep (.cons (t := 1) rfl <| .cons (t := 3) rfl <| .cons (t := 8) rfl <| .cons (t := 9) rfl <| .cons (t := 28) rfl <| .cons (t := 29) rfl <| .cons (t := 30) rfl <| .cons (t := 31) rfl <| .nil) ?_)
    refine At.seq ?_
    refine At.cond rfl (fun hlt => ?_) (fun hlt => ?_)
    · refine At.skip ?_
      refine At.seq ?_
      refine At.block ?_
      have hk : i < r.effs.length := by have := of_decide_eq_true hlt; omega
      obtain ⟨e, he⟩ : ∃ e, r.effs[i]? = some e := ⟨_, List.getElem?_eq_getElem hk⟩
      have hpl := hp
      rw [drop_cons he] at hpl
      obtain ⟨eb, eoff, ecap, ecs, hv, _, _, hR, herow⟩ : ∃ b off cap cs, Value.slice a r.effs.length c = .slice (some ⟨b, off, none⟩) r.effs.length cap ∧ r.effs.length ≤ cap ∧ cs.length = 7 ∧ EffR w9 e cs ∧ Row w9 b (off + i * 7) cs := by
        obtain ⟨ys, _, _, _, hE⟩ := hG
        exact hE.at he
      cases hv
      cases hR
      refine At.seq (At.reg ?_)
      refine At.v (RunV.move rfl) rfl ?_
      refine At.v (RunV.index st58_57_7 rfl rfl rfl hk rfl) rfl ?_
      refine At.v (RunV.loadAgg ag57_7 rfl herow rfl) rfl ?_
      refine At.step rfl (Step.alloc hO zt57 ?_)
      intro b13 w10 hO hlb13 hnb13
      have hb13 : B ≤ b13 := by obtain ⟨_, _, _, h, _⟩ := hG; omega
      replace hG := hG.add hlb13 hnb13
      refine At.v (RunV.assign rfl) rfl ?_
      refine At.step_ (Step.storeAll hO rfl rfl rfl sz57_7 .here rfl rfl ?_)
      intro w11 hO hbut
      replace hG := hG.but (i := 0) hbut rfl (.inr hb13)
      refine At.nil (At.keep (.cons (t := 1) rfl <| .cons (t := 3) rfl <| .cons (t := 8) rfl <| .cons (t := 9) rfl <| .cons (t := 12) rfl <| .cons (t := 13) rfl <| .cons (t := 28) rfl <| .cons (t := 29) rfl <| .cons (t := 30) rfl <| .nil) ?_)
      refine At.seq (At.reg ?_)
      refine At.v (RunV.field ft57_0_0 rfl rfl) rfl ?_
      refine At.v (RunV.load ct3 rfl ((hO.at (i := 0) rfl).cell rfl)) rfl ?_
      refine At.nil (At.keep (.cons (t := 1) rfl <| .cons (t := 3) rfl <| .cons (t := 8) rfl <| .cons (t := 9) rfl <| .cons (t := 12) rfl <| .cons (t := 13) rfl <| .cons (t := 28) rfl <| .cons (t := 29) rfl <| .cons (t := 30) rfl <| .cons (t := 36) rfl <| .nil) ?_)
      refine At.block ?_
      refine At.seq ?_
      refine At.block ?_
      refine At.seq ?_
      refine At.block ?_
      refine At.seq ?_
      refine At.block ?_
      refine At.seq ?_
      refine At.block ?_
      refine At.seq ?_
      refine At.block ?_
      refine At.seq ?_
      refine At.block ?_
      refine At.seq ?_
      refine At.seq ?_
      refine At.seq (At.reg ?_)
      refine At.v (RunV.eqI rfl rfl) rfl ?_
      refine At.v (RunV.assign rfl) rfl ?_
      refine At.nil (At.keep (.cons (t := 1) rfl <| .cons (t := 3) rfl <| .cons (t := 8) rfl <| .cons (t := 9) rfl <| .cons (t := 12) rfl <| .cons (t := 13) rfl <| .cons (t := 28) rfl <| .cons (t := 29) rfl <| .cons (t := 30) rfl <| .cons (t := 36) rfl <| .cons (t := 37) rfl <| .nil) ?_)
      refine At.cond rfl (fun a4 => ?_) (fun a4 => ?_)
      · replace a4 := of_decide_eq_true a4
        refine At.exit rfl ?_
        refine At.seq ?_
        refine At.seq (At.reg ?_)
        refine At.v (RunV.move rfl) rfl ?_
        refine At.v (RunV.eqI rfl rfl) rfl ?_
        refine At.nil (At.keep (.cons (t := 1) rfl <| .cons (t := 3) rfl <| .cons (t := 8) rfl <| .cons (t := 9) rfl <| .cons (t := 28) rfl <| .cons (t := 29) rfl <| .cons (t := 30) rfl <| .cons (t := 49) rfl <| .nil) ?_)
        refine At.cond rfl (fun hi0 => ?_) (fun hi0 => ?_)
        · replace hi0 : i = 0 := by have := of_decide_eq_true hi0; omega
          refine At.seq (At.reg ?_)
          refine At.v (RunV.move rfl) rfl ?_
          refine At.v (RunV.build pl87 zt87 rfl rfl) rfl ?_
          refine At.step_ (Step.storeAll hO rfl rfl rfl sz87_5 (.there (.there (.there .here))) rfl rfl ?_)
          intro w12 hO hbut
          refine At.nil (At.keep (.cons (t := 8) rfl <| .nil) ?_)
          refine At.ret ?_
          refine At.resultC1 rfl rfl ag87_5 (hO.at (i := 3) rfl).row rfl ?_
          have hpl2 : planOf k state tag n = (true, state) := by rw [hpl]; simp only [planF, if_pos a4, if_pos hi0]
          rw [hpl2]
          exact ⟨⟨_, _, _, _, _, rfl⟩, hO.le⟩
        · replace hi0 : ¬ i = 0 := by have := of_decide_eq_false hi0; omega
          have hgo : planOf k state tag n = planF state (i + 1) (r.effs.drop (i + 1)) s := by rw [hpl]; simp only [planF, if_pos a4, if_neg hi0]
          refine At.skip ?_
          refine At.exit rfl ?_
          refine At.reg ?_
          refine At.v (RunV.inc rfl rfl (by omega)) rfl ?_
          refine At.v (RunV.move rfl) rfl ?_
          refine At.nil (At.keep (.cons (t := 1) rfl <| .cons (t := 3) rfl <| .cons (t := 8) rfl <| .cons (t := 9) rfl <| .cons (t := 28) rfl <| .cons (t := 29) rfl <| .cons (t := 30) rfl <| .nil) ?_)
          replace hO := hO.drop
          exact At.againC (.cons (t := 1) rfl <| .cons (t := 3) rfl <| .cons (t := 8) rfl <| .cons (t := 9) rfl <| .cons (t := 28) rfl <| .cons (t := 29) rfl <| .nil) (i + 1) (.cons (t := 30) rfl <| .nil) ⟨_, _, _, hO, (by first | exact hG.drop.drop | exact hG.drop), by omega, hk, hgo⟩ (by omega)
      · replace a4 := of_decide_eq_false a4
        refine At.skip ?_
        refine At.seq ?_
        refine At.seq (At.reg ?_)
        refine At.v (RunV.eqI rfl rfl) rfl ?_
        refine At.v (RunV.assign rfl) rfl ?_
        refine At.nil (At.keep (.cons (t := 1) rfl <| .cons (t := 3) rfl <| .cons (t := 8) rfl <| .cons (t := 9) rfl <| .cons (t := 13) rfl <| .cons (t := 28) rfl <| .cons (t := 29) rfl <| .cons (t := 30) rfl <| .cons (t := 36) rfl <| .cons (t := 39) rfl <| .nil) ?_)
        refine At.cond rfl (fun a3 => ?_) (fun a3 => ?_)
        · replace a3 := of_decide_eq_true a3
          refine At.exit rfl ?_
          refine At.seq (At.reg ?_)
          refine At.v (RunV.field ft57_3_3 rfl rfl) rfl ?_
          refine At.v (RunV.load ct9 rfl ((hO.at (i := 0) rfl).cell rfl)) rfl ?_
          refine At.v (RunV.field ft87_2_2 rfl rfl) rfl ?_
          refine At.step_ (Step.store1 hO rfl rfl rfl sz9_1 (.there (.there .here)) (.there (.there .here)) rfl ?_)
          intro w13 hO hbut
          replace hG := hG.but (i := 2) hbut rfl (.inl rfl)
          refine At.nil (At.keep (.cons (t := 1) rfl <| .cons (t := 3) rfl <| .cons (t := 8) rfl <| .cons (t := 9) rfl <| .cons (t := 28) rfl <| .cons (t := 29) rfl <| .cons (t := 30) rfl <| .nil) ?_)
          have hgo : planOf k state tag n = planF state (i + 1) (r.effs.drop (i + 1)) e.name := by rw [hpl]; simp only [planF, if_neg a4, if_pos a3]
          refine At.exit rfl ?_
          refine At.reg ?_
          refine At.v (RunV.inc rfl rfl (by omega)) rfl ?_
          refine At.v (RunV.move rfl) rfl ?_
          refine At.nil (At.keep (.cons (t := 1) rfl <| .cons (t := 3) rfl <| .cons (t := 8) rfl <| .cons (t := 9) rfl <| .cons (t := 28) rfl <| .cons (t := 29) rfl <| .cons (t := 30) rfl <| .nil) ?_)
          replace hO := hO.drop
          exact At.againC (.cons (t := 1) rfl <| .cons (t := 3) rfl <| .cons (t := 8) rfl <| .cons (t := 9) rfl <| .cons (t := 28) rfl <| .cons (t := 29) rfl <| .nil) (i + 1) (.cons (t := 30) rfl <| .nil) ⟨_, _, _, hO, (by first | exact hG.drop.drop | exact hG.drop), by omega, hk, hgo⟩ (by omega)
        · replace a3 := of_decide_eq_false a3
          refine At.skip ?_
          refine At.seq ?_
          refine At.seq (At.reg ?_)
          refine At.v (RunV.eqI rfl rfl) rfl ?_
          refine At.v (RunV.assign rfl) rfl ?_
          refine At.nil (At.keep (.cons (t := 1) rfl <| .cons (t := 3) rfl <| .cons (t := 8) rfl <| .cons (t := 9) rfl <| .cons (t := 13) rfl <| .cons (t := 28) rfl <| .cons (t := 29) rfl <| .cons (t := 30) rfl <| .cons (t := 36) rfl <| .cons (t := 41) rfl <| .nil) ?_)
          refine At.cond rfl (fun a11 => ?_) (fun a11 => ?_)
          · replace a11 := of_decide_eq_true a11
            refine At.exit rfl ?_
            refine At.seq ?_
            refine At.seq (At.reg ?_)
            refine At.v (RunV.field ft87_3_3 rfl rfl) rfl ?_
            refine At.step_ (Step.store1 hO rfl rfl rfl sz4_1 (.there (.there .here)) (.there (.there (.there .here))) rfl ?_)
            intro w14 hO hbut
            refine At.nil (At.keep (.cons (t := 8) rfl <| .cons (t := 9) rfl <| .nil) ?_)
            refine At.seq (At.reg ?_)
            refine At.v (RunV.loadAgg ag87_5 rfl ((hO.at (i := 2) rfl).row) rfl) rfl ?_
            refine At.step_ (Step.storeAll hO rfl rfl rfl sz87_5 (.there (.there (.there .here))) rfl rfl ?_)
            intro w15 hO hbut
            refine At.nil (At.keep (.cons (t := 8) rfl <| .nil) ?_)
            refine At.ret ?_
            refine At.resultC1 rfl rfl ag87_5 (hO.at (i := 3) rfl).row rfl ?_
            have hpl2 : planOf k state tag n = (false, s) := by rw [hpl]; simp only [planF, if_neg a4, if_neg a3, if_pos a11]
            rw [hpl2]
            exact ⟨⟨_, _, _, _, _, rfl⟩, hO.le⟩
          · replace a11 := of_decide_eq_false a11
            refine At.skip ?_
            refine At.seq ?_
            refine At.seq (At.reg ?_)
            refine At.v (RunV.eqI rfl rfl) rfl ?_
            refine At.v (RunV.assign rfl) rfl ?_
            refine At.nil (At.keep (.cons (t := 1) rfl <| .cons (t := 3) rfl <| .cons (t := 8) rfl <| .cons (t := 9) rfl <| .cons (t := 13) rfl <| .cons (t := 28) rfl <| .cons (t := 29) rfl <| .cons (t := 30) rfl <| .cons (t := 36) rfl <| .cons (t := 43) rfl <| .nil) ?_)
            refine At.cond rfl (fun a12 => ?_) (fun a12 => ?_)
            · replace a12 := of_decide_eq_true a12
              refine At.exit rfl ?_
              refine At.seq ?_
              refine At.seq (At.reg ?_)
              refine At.v (RunV.field ft57_3_3 rfl rfl) rfl ?_
              refine At.v (RunV.load ct9 rfl ((hO.at (i := 0) rfl).cell rfl)) rfl ?_
              refine At.v (RunV.field ft87_4_4 rfl rfl) rfl ?_
              refine At.step_ (Step.store1 hO rfl rfl rfl sz9_1 (.there (.there .here)) (.there (.there (.there (.there .here)))) rfl ?_)
              intro w16 hO hbut
              refine At.nil (At.keep (.cons (t := 8) rfl <| .cons (t := 9) rfl <| .nil) ?_)
              refine At.seq (At.reg ?_)
              refine At.v (RunV.loadAgg ag87_5 rfl ((hO.at (i := 2) rfl).row) rfl) rfl ?_
              refine At.step_ (Step.storeAll hO rfl rfl rfl sz87_5 (.there (.there (.there .here))) rfl rfl ?_)
              intro w17 hO hbut
              refine At.nil (At.keep (.cons (t := 8) rfl <| .nil) ?_)
              refine At.ret ?_
              refine At.resultC1 rfl rfl ag87_5 (hO.at (i := 3) rfl).row rfl ?_
              have hpl2 : planOf k state tag n = (false, s) := by rw [hpl]; simp only [planF, if_neg a4, if_neg a3, if_neg a11, if_pos a12]
              rw [hpl2]
              exact ⟨⟨_, _, _, _, _, rfl⟩, hO.le⟩
            · replace a12 := of_decide_eq_false a12
              refine At.skip ?_
              refine At.seq ?_
              refine At.seq (At.reg ?_)
              refine At.v (RunV.eqI rfl rfl) rfl ?_
              refine At.v (RunV.assign rfl) rfl ?_
              refine At.nil (At.keep (.cons (t := 1) rfl <| .cons (t := 3) rfl <| .cons (t := 8) rfl <| .cons (t := 9) rfl <| .cons (t := 13) rfl <| .cons (t := 28) rfl <| .cons (t := 29) rfl <| .cons (t := 30) rfl <| .cons (t := 36) rfl <| .cons (t := 45) rfl <| .nil) ?_)
              refine At.cond rfl (fun h1 => ?_) (fun h1 => ?_)
              · refine At.skip ?_
                refine At.cond rfl (fun h2 => ?_) (fun h2 => ?_)
                · refine At.exit rfl ?_
                  refine At.seq (At.reg ?_)
                  refine At.v (RunV.loadAgg ag57_7 rfl ((hO.at (i := 0) rfl).row) rfl) rfl ?_
                  refine At.v (RunV.move rfl) rfl ?_
                  refine At.step rfl (Step.call rfl pf57 rfl (number_c _ _ _) ?_)
                  intro v w18 hr
                  obtain ⟨⟨mm, rfl⟩, hl⟩ := hr
                  replace hO := hO.on hl
                  replace hG := hG.le hl
                  refine At.v (RunV.field ft57_5_5 rfl rfl) rfl ?_
                  refine At.step_ (Step.store1 hO rfl rfl rfl sz3_1 .here (.there (.there (.there (.there (.there .here))))) rfl ?_)
                  intro w19 hO hbut
                  replace hG := hG.but (i := 0) hbut rfl (.inr hb13)
                  refine At.nil (At.keep (.cons (t := 1) rfl <| .cons (t := 3) rfl <| .cons (t := 8) rfl <| .cons (t := 9) rfl <| .cons (t := 13) rfl <| .cons (t := 28) rfl <| .cons (t := 29) rfl <| .cons (t := 30) rfl <| .nil) ?_)
                  refine At.reg ?_
                  refine At.v (RunV.field ft57_4_4 rfl rfl) rfl ?_
                  refine At.step_ (Step.store1 hO rfl rfl rfl sz3_1 .here (.there (.there (.there (.there .here)))) rfl ?_)
                  intro w20 hO hbut
                  replace hG := hG.but (i := 0) hbut rfl (.inr hb13)
                  refine At.nil (At.keep (.cons (t := 1) rfl <| .cons (t := 3) rfl <| .cons (t := 8) rfl <| .cons (t := 9) rfl <| .cons (t := 13) rfl <| .cons (t := 28) rfl <| .cons (t := 29) rfl <| .cons (t := 30) rfl <| .nil) ?_)
                  have hgo : planOf k state tag n = planF state (i + 1) (r.effs.drop (i + 1)) s := by rw [hpl]; simp only [planF, if_neg a4, if_neg a3, if_neg a11, if_neg a12]
                  refine At.seq (At.reg ?_)
                  refine At.v (RunV.field ft87_1_1 rfl rfl) rfl ?_
                  refine At.v (RunV.load ct58 rfl ((hO.at (i := 2) rfl).cell rfl)) rfl ?_
                  refine At.v (RunV.loadAgg ag57_7 rfl ((hO.at (i := 0) rfl).row) rfl) rfl ?_
                  refine At.step rfl (Step.buildSlice hO st58_57_7 zt57 rfl rfl rfl rfl (fill_full rfl rfl) ?_)
                  intro b69 w21 hO hlb69 hnb69
                  replace hG := hG.add hlb69 hnb69
                  obtain ⟨ys, hS, hA, hB, hE⟩ := hG
                  refine At.step rfl (Step.append st58_57_7 isl58 el57_7 rfl rfl hS ⟨_, _, rfl, .inr ⟨b69, 0, rfl, (hO.at (i := 0) rfl).row⟩⟩ rfl rfl (by omega) ?_)
                  intro ev2 w22 hS2 hM
                  replace hG : Gr B b9 [b69, b13, b10, b9, b8, b4] w22 ev2 (m + 1) _ r.effs := ⟨_, hS2, hA.moved hM hO hB hS2, Nat.le_trans hB hM.size, hE.stays (GA.moved hM hA) fun _ _ _ h => h⟩
                  replace hO := hO.moved hM hA hBw
                  obtain ⟨va2, vc2, rfl⟩ := hS2.val
                  refine At.v (RunV.field ft87_1_1 rfl rfl) rfl ?_
                  refine At.step_ (Step.store1 hO rfl rfl rfl sz58_1 (.there (.there (.there .here))) (.there .here) rfl ?_)
                  intro w23 hO hbut
                  replace hG := hG.but (i := 3) hbut rfl (.inl rfl)
                  refine At.nil (At.keep (.cons (t := 1) rfl <| .cons (t := 3) rfl <| .cons (t := 8) rfl <| .cons (t := 9) rfl <| .cons (t := 28) rfl <| .cons (t := 29) rfl <| .cons (t := 30) rfl <| .nil) ?_)
                  refine At.exit rfl ?_
                  refine At.reg ?_
                  refine At.v (RunV.inc rfl rfl (by omega)) rfl ?_
                  refine At.v (RunV.move rfl) rfl ?_
                  refine At.nil (At.keep (.cons (t := 1) rfl <| .cons (t := 3) rfl <| .cons (t := 8) rfl <| .cons (t := 9) rfl <| .cons (t := 28) rfl <| .cons (t := 29) rfl <| .cons (t := 30) rfl <| .nil) ?_)
                  replace hO := hO.drop
                  replace hO := hO.drop
                  exact At.againC (.cons (t := 1) rfl <| .cons (t := 3) rfl <| .cons (t := 8) rfl <| .cons (t := 9) rfl <| .cons (t := 28) rfl <| .cons (t := 29) rfl <| .nil) (i + 1) (.cons (t := 30) rfl <| .nil) ⟨_, _, _, hO, (by first | exact hG.drop.drop | exact hG.drop), by omega, hk, hgo⟩ (by omega)
                · refine At.skip ?_
                  refine At.exit rfl ?_
                  have hgo : planOf k state tag n = planF state (i + 1) (r.effs.drop (i + 1)) s := by rw [hpl]; simp only [planF, if_neg a4, if_neg a3, if_neg a11, if_neg a12]
                  refine At.seq (At.reg ?_)
                  refine At.v (RunV.field ft87_1_1 rfl rfl) rfl ?_
                  refine At.v (RunV.load ct58 rfl ((hO.at (i := 2) rfl).cell rfl)) rfl ?_
                  refine At.v (RunV.loadAgg ag57_7 rfl ((hO.at (i := 0) rfl).row) rfl) rfl ?_
                  refine At.step rfl (Step.buildSlice hO st58_57_7 zt57 rfl rfl rfl rfl (fill_full rfl rfl) ?_)
                  intro b69 w24 hO hlb69 hnb69
                  replace hG := hG.add hlb69 hnb69
                  obtain ⟨ys, hS, hA, hB, hE⟩ := hG
                  refine At.step rfl (Step.append st58_57_7 isl58 el57_7 rfl rfl hS ⟨_, _, rfl, .inr ⟨b69, 0, rfl, (hO.at (i := 0) rfl).row⟩⟩ rfl rfl (by omega) ?_)
                  intro ev2 w25 hS2 hM
                  replace hG : Gr B b9 [b69, b13, b10, b9, b8, b4] w25 ev2 (m + 1) _ r.effs := ⟨_, hS2, hA.moved hM hO hB hS2, Nat.le_trans hB hM.size, hE.stays (GA.moved hM hA) fun _ _ _ h => h⟩
                  replace hO := hO.moved hM hA hBw
                  obtain ⟨va2, vc2, rfl⟩ := hS2.val
                  refine At.v (RunV.field ft87_1_1 rfl rfl) rfl ?_
                  refine At.step_ (Step.store1 hO rfl rfl rfl sz58_1 (.there (.there (.there .here))) (.there .here) rfl ?_)
                  intro w26 hO hbut
                  replace hG := hG.but (i := 3) hbut rfl (.inl rfl)
                  refine At.nil (At.keep (.cons (t := 1) rfl <| .cons (t := 3) rfl <| .cons (t := 8) rfl <| .cons (t := 9) rfl <| .cons (t := 28) rfl <| .cons (t := 29) rfl <| .cons (t := 30) rfl <| .nil) ?_)
                  refine At.exit rfl ?_
                  refine At.reg ?_
                  refine At.v (RunV.inc rfl rfl (by omega)) rfl ?_
                  refine At.v (RunV.move rfl) rfl ?_
                  refine At.nil (At.keep (.cons (t := 1) rfl <| .cons (t := 3) rfl <| .cons (t := 8) rfl <| .cons (t := 9) rfl <| .cons (t := 28) rfl <| .cons (t := 29) rfl <| .cons (t := 30) rfl <| .nil) ?_)
                  replace hO := hO.drop
                  replace hO := hO.drop
                  exact At.againC (.cons (t := 1) rfl <| .cons (t := 3) rfl <| .cons (t := 8) rfl <| .cons (t := 9) rfl <| .cons (t := 28) rfl <| .cons (t := 29) rfl <| .nil) (i + 1) (.cons (t := 30) rfl <| .nil) ⟨_, _, _, hO, (by first | exact hG.drop.drop | exact hG.drop), by omega, hk, hgo⟩ (by omega)
              · refine At.reg ?_
                refine At.v (RunV.eqI rfl rfl) rfl ?_
                refine At.v (RunV.assign rfl) rfl ?_
                refine At.nil (At.keep (.cons (t := 1) rfl <| .cons (t := 3) rfl <| .cons (t := 8) rfl <| .cons (t := 9) rfl <| .cons (t := 13) rfl <| .cons (t := 28) rfl <| .cons (t := 29) rfl <| .cons (t := 30) rfl <| .cons (t := 45) rfl <| .nil) ?_)
                refine At.cond rfl (fun h3 => ?_) (fun h3 => ?_)
                · refine At.exit rfl ?_
                  refine At.seq (At.reg ?_)
                  refine At.v (RunV.loadAgg ag57_7 rfl ((hO.at (i := 0) rfl).row) rfl) rfl ?_
                  refine At.v (RunV.move rfl) rfl ?_
                  refine At.step rfl (Step.call rfl pf57 rfl (number_c _ _ _) ?_)
                  intro v w27 hr
                  obtain ⟨⟨mm, rfl⟩, hl⟩ := hr
                  replace hO := hO.on hl
                  replace hG := hG.le hl
                  refine At.v (RunV.field ft57_5_5 rfl rfl) rfl ?_
                  refine At.step_ (Step.store1 hO rfl rfl rfl sz3_1 .here (.there (.there (.there (.there (.there .here))))) rfl ?_)
                  intro w28 hO hbut
                  replace hG := hG.but (i := 0) hbut rfl (.inr hb13)
                  refine At.nil (At.keep (.cons (t := 1) rfl <| .cons (t := 3) rfl <| .cons (t := 8) rfl <| .cons (t := 9) rfl <| .cons (t := 13) rfl <| .cons (t := 28) rfl <| .cons (t := 29) rfl <| .cons (t := 30) rfl <| .nil) ?_)
                  refine At.reg ?_
                  refine At.v (RunV.field ft57_4_4 rfl rfl) rfl ?_
                  refine At.step_ (Step.store1 hO rfl rfl rfl sz3_1 .here (.there (.there (.there (.there .here)))) rfl ?_)
                  intro w29 hO hbut
                  replace hG := hG.but (i := 0) hbut rfl (.inr hb13)
                  refine At.nil (At.keep (.cons (t := 1) rfl <| .cons (t := 3) rfl <| .cons (t := 8) rfl <| .cons (t := 9) rfl <| .cons (t := 13) rfl <| .cons (t := 28) rfl <| .cons (t := 29) rfl <| .cons (t := 30) rfl <| .nil) ?_)
                  have hgo : planOf k state tag n = planF state (i + 1) (r.effs.drop (i + 1)) s := by rw [hpl]; simp only [planF, if_neg a4, if_neg a3, if_neg a11, if_neg a12]
                  refine At.seq (At.reg ?_)
                  refine At.v (RunV.field ft87_1_1 rfl rfl) rfl ?_
                  refine At.v (RunV.load ct58 rfl ((hO.at (i := 2) rfl).cell rfl)) rfl ?_
                  refine At.v (RunV.loadAgg ag57_7 rfl ((hO.at (i := 0) rfl).row) rfl) rfl ?_
                  refine At.step rfl (Step.buildSlice hO st58_57_7 zt57 rfl rfl rfl rfl (fill_full rfl rfl) ?_)
                  intro b69 w30 hO hlb69 hnb69
                  replace hG := hG.add hlb69 hnb69
                  obtain ⟨ys, hS, hA, hB, hE⟩ := hG
                  refine At.step rfl (Step.append st58_57_7 isl58 el57_7 rfl rfl hS ⟨_, _, rfl, .inr ⟨b69, 0, rfl, (hO.at (i := 0) rfl).row⟩⟩ rfl rfl (by omega) ?_)
                  intro ev2 w31 hS2 hM
                  replace hG : Gr B b9 [b69, b13, b10, b9, b8, b4] w31 ev2 (m + 1) _ r.effs := ⟨_, hS2, hA.moved hM hO hB hS2, Nat.le_trans hB hM.size, hE.stays (GA.moved hM hA) fun _ _ _ h => h⟩
                  replace hO := hO.moved hM hA hBw
                  obtain ⟨va2, vc2, rfl⟩ := hS2.val
                  refine At.v (RunV.field ft87_1_1 rfl rfl) rfl ?_
                  refine At.step_ (Step.store1 hO rfl rfl rfl sz58_1 (.there (.there (.there .here))) (.there .here) rfl ?_)
                  intro w32 hO hbut
                  replace hG := hG.but (i := 3) hbut rfl (.inl rfl)
                  refine At.nil (At.keep (.cons (t := 1) rfl <| .cons (t := 3) rfl <| .cons (t := 8) rfl <| .cons (t := 9) rfl <| .cons (t := 28) rfl <| .cons (t := 29) rfl <| .cons (t := 30) rfl <| .nil) ?_)
                  refine At.exit rfl ?_
                  refine At.reg ?_
                  refine At.v (RunV.inc rfl rfl (by omega)) rfl ?_
                  refine At.v (RunV.move rfl) rfl ?_
                  refine At.nil (At.keep (.cons (t := 1) rfl <| .cons (t := 3) rfl <| .cons (t := 8) rfl <| .cons (t := 9) rfl <| .cons (t := 28) rfl <| .cons (t := 29) rfl <| .cons (t := 30) rfl <| .nil) ?_)
                  replace hO := hO.drop
                  replace hO := hO.drop
                  exact At.againC (.cons (t := 1) rfl <| .cons (t := 3) rfl <| .cons (t := 8) rfl <| .cons (t := 9) rfl <| .cons (t := 28) rfl <| .cons (t := 29) rfl <| .nil) (i + 1) (.cons (t := 30) rfl <| .nil) ⟨_, _, _, hO, (by first | exact hG.drop.drop | exact hG.drop), by omega, hk, hgo⟩ (by omega)
                · refine At.skip ?_
                  refine At.exit rfl ?_
                  have hgo : planOf k state tag n = planF state (i + 1) (r.effs.drop (i + 1)) s := by rw [hpl]; simp only [planF, if_neg a4, if_neg a3, if_neg a11, if_neg a12]
                  refine At.seq (At.reg ?_)
                  refine At.v (RunV.field ft87_1_1 rfl rfl) rfl ?_
                  refine At.v (RunV.load ct58 rfl ((hO.at (i := 2) rfl).cell rfl)) rfl ?_
                  refine At.v (RunV.loadAgg ag57_7 rfl ((hO.at (i := 0) rfl).row) rfl) rfl ?_
                  refine At.step rfl (Step.buildSlice hO st58_57_7 zt57 rfl rfl rfl rfl (fill_full rfl rfl) ?_)
                  intro b69 w33 hO hlb69 hnb69
                  replace hG := hG.add hlb69 hnb69
                  obtain ⟨ys, hS, hA, hB, hE⟩ := hG
                  refine At.step rfl (Step.append st58_57_7 isl58 el57_7 rfl rfl hS ⟨_, _, rfl, .inr ⟨b69, 0, rfl, (hO.at (i := 0) rfl).row⟩⟩ rfl rfl (by omega) ?_)
                  intro ev2 w34 hS2 hM
                  replace hG : Gr B b9 [b69, b13, b10, b9, b8, b4] w34 ev2 (m + 1) _ r.effs := ⟨_, hS2, hA.moved hM hO hB hS2, Nat.le_trans hB hM.size, hE.stays (GA.moved hM hA) fun _ _ _ h => h⟩
                  replace hO := hO.moved hM hA hBw
                  obtain ⟨va2, vc2, rfl⟩ := hS2.val
                  refine At.v (RunV.field ft87_1_1 rfl rfl) rfl ?_
                  refine At.step_ (Step.store1 hO rfl rfl rfl sz58_1 (.there (.there (.there .here))) (.there .here) rfl ?_)
                  intro w35 hO hbut
                  replace hG := hG.but (i := 3) hbut rfl (.inl rfl)
                  refine At.nil (At.keep (.cons (t := 1) rfl <| .cons (t := 3) rfl <| .cons (t := 8) rfl <| .cons (t := 9) rfl <| .cons (t := 28) rfl <| .cons (t := 29) rfl <| .cons (t := 30) rfl <| .nil) ?_)
                  refine At.exit rfl ?_
                  refine At.reg ?_
                  refine At.v (RunV.inc rfl rfl (by omega)) rfl ?_
                  refine At.v (RunV.move rfl) rfl ?_
                  refine At.nil (At.keep (.cons (t := 1) rfl <| .cons (t := 3) rfl <| .cons (t := 8) rfl <| .cons (t := 9) rfl <| .cons (t := 28) rfl <| .cons (t := 29) rfl <| .cons (t := 30) rfl <| .nil) ?_)
                  replace hO := hO.drop
                  replace hO := hO.drop
                  exact At.againC (.cons (t := 1) rfl <| .cons (t := 3) rfl <| .cons (t := 8) rfl <| .cons (t := 9) rfl <| .cons (t := 28) rfl <| .cons (t := 29) rfl <| .nil) (i + 1) (.cons (t := 30) rfl <| .nil) ⟨_, _, _, hO, (by first | exact hG.drop.drop | exact hG.drop), by omega, hk, hgo⟩ (by omega)
    · have hge : r.effs.length ≤ i := by have := of_decide_eq_false hlt; omega
      refine At.exit rfl ?_
      refine At.seq (At.reg ?_)
      refine At.v (RunV.loadAgg ag87_5 rfl ((hO.at (i := 1) rfl).row) rfl) rfl ?_
      refine At.step_ (Step.storeAll hO rfl rfl rfl sz87_5 (.there (.there .here)) rfl rfl ?_)
      intro w36 hO hbut
      refine At.nil (At.keep (.cons (t := 8) rfl <| .nil) ?_)
      refine At.ret ?_
      refine At.resultC1 rfl rfl ag87_5 (hO.at (i := 2) rfl).row rfl ?_
      have hpl2 : planOf k state tag n = (false, s) := by rw [hp, List.drop_eq_nil_of_le (by omega)]; rfl
      rw [hpl2]
      exact ⟨⟨_, _, _, _, _, rfl⟩, hO.le⟩

end Go.Proofs.Ytglilmcfhkedbaa
