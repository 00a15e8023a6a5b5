/- The walks of check.in, check.within and of the last closure of check.row; no condition. -/
import Derived.Test.YtglilmcfhkedbaaWD
namespace Go.Proofs.Ytglilmcfhkedbaa
open Go Go.RowKit

theorem ag24_1 : aggT Try.prog 24 1 = true := by kernel_rfl
theorem ct58 : cellT Try.prog 58 = true := by kernel_rfl
theorem ct97 : cellT Try.prog 97 = true := by kernel_rfl
theorem ft60_3_3 : fieldT Try.prog 60 3 3 = true := by kernel_rfl
theorem ft99_1_1 : fieldT Try.prog 99 1 1 = true := by kernel_rfl
theorem pf15 : plainFn Try.prog 15 = true := by kernel_rfl
theorem pf32 : plainFn Try.prog 32 = true := by kernel_rfl
theorem pf33 : plainFn Try.prog 33 = true := by kernel_rfl
theorem pf34 : plainFn Try.prog 34 = true := by kernel_rfl
theorem pf45 : plainFn Try.prog 45 = true := by kernel_rfl
theorem pf46 : plainFn Try.prog 46 = true := by kernel_rfl
theorem pf53 : plainFn Try.prog 53 = true := by kernel_rfl
theorem pf54 : plainFn Try.prog 54 = true := by kernel_rfl
theorem pf65 : plainFn Try.prog 65 = true := by kernel_rfl
theorem pf71 : plainFn Try.prog 71 = true := by kernel_rfl
theorem pf72 : plainFn Try.prog 72 = true := by kernel_rfl
theorem pf86 : plainFn Try.prog 86 = true := by kernel_rfl
theorem pf88 : plainFn Try.prog 88 = true := by kernel_rfl
theorem pf90 : plainFn Try.prog 90 = true := by kernel_rfl
theorem pf91 : plainFn Try.prog 91 = true := by kernel_rfl
theorem sz97_1 : sizeT Try.prog 97 1 = true := by kernel_rfl
theorem pl99 : placesT Try.prog 99 = some [(0, 1), (1, 1)] := by kernel_rfl
theorem un72 : Try.prog.underlying 72 = some (.pointer 99) := by kernel_rfl
theorem zt99 : zeroT Try.prog 99 [.int .i64 0, .slice none 0 0] := by unfold zeroT; kernel_rfl

theorem PartP.base {ok : Bool} {d : Nat} {w0 w w' : World} {v : Value} (h : PartP ok d w v w') (hl : Le w0 w) : PartP ok d w0 v w' := by
  obtain ⟨p, h1, h2, h3, h4⟩ := h
  exact ⟨p, h1, h2, hl.tr h3, fun a ha => (h4 a ha).mono (Nat.le_refl _) hl.size⟩
theorem firstR_zero : ∀ {rs : List (Bool × Int)}, rs.all (fun r => !decide (r.2 = 0)) = true → firstR rs = 0 → ∀ r ∈ rs, r.1 = false
  | (b, c) :: rs, ha, h, r, hr => by
    rw [List.all_cons, Bool.and_eq_true] at ha
    cases b with
    | true =>
      have h0 : c = 0 := by simpa [firstR] using h
      have := ha.1
      simp [h0] at this
    | false =>
      have h' : firstR rs = 0 := by simpa [firstR] using h
      rcases List.mem_cons.1 hr with rfl | hr
      · rfl
      · exact firstR_zero ha.2 h' r hr
theorem rowOwn_len {s : Stt} {i : Nat} {r : Rw} (h : rowOwn s i r = 0) : r.effs.length ≤ 8 := by
  have := firstR_zero (rs := rowRules s i r) rfl h (decide (8 < (r.effs.length : Int)), 40) (by simp [rowRules])
  have := of_decide_eq_false this
  omega
theorem stateOwn_len {k : Knd} {i : Nat} {s : Stt} (h : stateOwn k i s = 0) : s.rows.length ≤ 16 := by
  have := firstR_zero (rs := stateRules k i s) rfl h (decide (16 < (s.rows.length : Int)), 40) (by simp [stateRules])
  have := of_decide_eq_false this
  omega
theorem kindOwn_len {p : Prg} {i : Nat} {k : Knd} (h : kindOwn p i k = 0) : k.states.length ≤ 8 := by
  have := firstR_zero (rs := kindRules p i k) rfl h ((decide (8 < (k.cases.length : Int)) || decide ((k.states.length : Int) < 1)) || decide (8 < (k.states.length : Int)), 40) (by simp [kindRules])
  simp at this
  omega
theorem progOwn_len {p : Prg} (h : progOwn p = 0) : p.length ≤ 8 := by
  have := firstR_zero (rs := progRules p) rfl h (decide ((p.length : Int) < 1) || decide (8 < (p.length : Int)), 40) (by simp [progRules])
  simp at this
  omega

theorem in_c (i : Nat) (hi : i ≤ 1048576) (p : Option Addr) (d : Nat) (hd : d ≤ 1000) (w0 w : World) (hl : Le w0 w) (hp : ∀ a, p = some a → BadV d w0.heap.size w a) :
    Ret Try.prog 45 [.int .i64 (i : Int), .pointer p] w fun v w' => v = .pointer p ∧ Le w0 w' ∧ ∀ a, p = some a → BadV (d + 1) w0.heap.size w' a := by
  refine Ret.enter Try.func45 rfl Try.ntmps45 rfl rfl ?_
  have hO := Own.of hl
  refine At.seq (At.reg ?_)
  refine At.v (RunV.assign rfl) rfl ?_
  refine At.nil (At.keep (.cons (t := 0) rfl <| .cons (t := 1) rfl <| .nil) ?_)
  refine At.seq ?_
  refine At.seq (At.reg ?_)
  refine At.v (RunV.move rfl) rfl ?_
  refine At.v (RunV.neNil rfl un72) rfl ?_
  refine At.nil (At.keep (.cons (t := 0) rfl <| .cons (t := 1) rfl <| .cons (t := 6) rfl <| .nil) ?_)
  refine At.cond rfl (fun h1 => ?_) (fun h1 => ?_)
  · obtain ⟨a, rfl⟩ : ∃ a, p = some a := by cases p with | none => cases h1 | some a => exact ⟨a, rfl⟩
    obtain ⟨bb, code, wv, rfl, hbb, hblk, n, xs, hn, hS, hx1, hfr⟩ := hp a rfl
    have hwv : ∀ a m c, wv = .slice (some a) m c → a.block < w.heap.size := fun a m c e => by
      rcases hS with ⟨h, _⟩ | ⟨b, cap, cs, h, hb, _⟩
      · rw [h] at e; cases e
      · rw [h] at e; cases e; exact hb.lt
    refine At.reg ?_
    refine At.v (RunV.move rfl) rfl ?_
    refine At.v (RunV.move rfl) rfl ?_
    refine At.v (RunV.nilCheck rfl) rfl ?_
    refine At.v (RunV.field ft99_1_1 rfl rfl) rfl ?_
    refine At.v (RunV.load ct97 rfl (hblk.cell rfl)) rfl ?_
    refine At.v (RunV.move rfl) rfl ?_
    refine At.v (RunV.inc rfl rfl (by omega)) rfl ?_
    refine At.step rfl (Step.buildSlice hO st97_3_1 zt3 rfl rfl rfl rfl (fill_full rfl rfl) ?_)
    intro b14 w1 hO hlb14 hnb14
    refine At.step rfl (Step.call rfl pf65 rfl (insert_c wv n b14 xs _ _ (hS.le hlb14) hx1 (by omega) (hO.at (i := 0) rfl) (fun a m c e => by have := (hfr a m c e).1; have := hwv a m c e; omega) rfl) ?_)
    have hO0 := hO
    intro v w2 hr
    obtain ⟨ys, hS2, hy1, hM⟩ := hr
    have hl0 : Le w0 w2 := hM.le0 (hO.le) (fun a m c e => (hfr a m c e).1)
    have hblk2 := hM.blk (hblk.le hlb14) (fun a m c e => (hfr a m c e).2)
    replace hO := Own.of hl0
    refine At.v (RunV.nilCheck rfl) rfl ?_
    refine At.v (RunV.field ft99_1_1 rfl rfl) rfl ?_
    refine At.step_ (Step.storeX hblk2 rfl rfl (Sl.one hS2).1 sz97_1 rfl rfl (by simp [(Sl.one hS2).2]) ?_)
    intro w3 hB hblk3
    replace hO := Own.of (hB.le hl0 hbb)
    refine At.nil (At.keep (.cons (t := 1) rfl <| .nil) ?_)
    refine At.seq (At.reg ?_)
    refine At.v (RunV.move rfl) rfl ?_
    refine At.v (RunV.assign rfl) rfl ?_
    refine At.nil (At.keep (.cons (t := 4) rfl <| .nil) ?_)
    refine At.ret ?_
    refine At.result1 rfl rfl ?_
    refine ⟨rfl, hO.le, fun a ha => ?_⟩
    cases ha
    refine ⟨bb, code, _, rfl, hbb, hblk3, n + 1, ys, by omega, hS2.but hB (fun a m c e => ?_), hy1, fun a m c e => ?_⟩
    · have h2 := (hM.old (hO0.le.size) (fun a m c e => (hfr a m c e).1) e).2
      rcases h2 with ⟨m, c, h2⟩ | h2
      · exact (hfr _ _ _ h2).2
      · have := (hblk.le hlb14).lt; omega
    · have h2 := hM.old (hO0.le.size) (fun a m c e => (hfr a m c e).1) e
      refine ⟨h2.1, ?_⟩
      rcases h2.2 with ⟨m, c, h2⟩ | h2
      · exact (hfr _ _ _ h2).2
      · have := (hblk.le hlb14).lt; omega
  · have hn : p = none := by cases p with | none => rfl | some a => cases h1
    refine At.skip ?_
    refine At.seq (At.reg ?_)
    refine At.v (RunV.move rfl) rfl ?_
    refine At.v (RunV.assign rfl) rfl ?_
    refine At.nil (At.keep (.cons (t := 4) rfl <| .nil) ?_)
    refine At.ret ?_
    refine At.result1 rfl rfl ?_
    exact ⟨rfl, hO.le, fun a ha => by rw [hn] at ha; cases ha⟩

theorem row3_c (p : Prg) (k : Knd) (r : Rw) (j : Nat) (hj : j < r.effs.length) (pv kv ku rv : Value) (bp bk br : Nat) (w : World) (hp0 : Row w bp 0 [pv]) (hk0 : Row w bk 0 (k.cells kv ku)) (hr0 : Row w br 0 (r.cells rv)) (hP : PrgR G0 w pv p) (hU : SlOf G0 2 (SttR G0) w ku k.states) (hE : SlOf G0 7 EffR w rv r.effs) :
    Ret Try.prog 90 [.int .i64 (j : Int), .pointer (some ⟨bp, 0, none⟩), .pointer (some ⟨bk, 0, none⟩), .pointer (some ⟨br, 0, none⟩)] w fun v w' => PartP (effOk p k r j) 0 w v w' := by
  refine Ret.enter Try.func90 rfl Try.ntmps90 rfl rfl ?_
  have hO := Own.start w
  obtain ⟨_, cap0, hv0, hle0, hcap0⟩ := hE.val
  obtain ⟨e, he⟩ : ∃ e, r.effs[j]? = some e := ⟨_, List.getElem?_eq_getElem hj⟩
  obtain ⟨b, off, cap, cs, hv, hle, hcl, hR, hrow⟩ := hE.at he
  cases hv
  cases hv0
  cases hR
  refine At.seq (At.reg ?_)
  refine At.v (RunV.assign rfl) rfl ?_
  refine At.nil (At.keep (.cons (t := 0) rfl <| .cons (t := 1) rfl <| .cons (t := 2) rfl <| .cons (t := 3) rfl <| .nil) ?_)
  refine At.seq ?_
  refine At.seq (At.pi hmix (.take 0 (.take 1 (.take 2 (.take 3 (.take 4 (.take 5 (.take 6 (.take 7 (.take 8 (.take 9 (.take 10 (.take 11 (.take 12 (.run 13 (.take 14 .done))))))))))))))) (by kernel_rfl) (by kernel_rfl) ?_)
  intro w1 hs
  have hs0 := hs
  have hR := hO
  replace hO := hO.on hs
  refine At.take rfl (fun w' hs' => RunV.loadAgg ag24_1 rfl (Row.le hp0 (hR.le.tr hs')) rfl) rfl ?_
  refine At.take rfl (fun w' hs' => RunV.loadAgg ag67_5 rfl (Row.le hk0 (hR.le.tr hs')) rfl) rfl ?_
  refine At.take rfl (fun w' hs' => RunV.field ft60_3_3 rfl rfl) rfl ?_
  refine At.take rfl (fun w' hs' => RunV.load ct58 rfl (cell_le (hr0.cell (i := 3) rfl) (hR.le.tr hs'))) rfl ?_
  refine At.take rfl (fun w' hs' => RunV.move rfl) rfl ?_
  refine At.take rfl (fun w' hs' => RunV.index st58_57_7 rfl rfl rfl hj rfl) rfl ?_
  refine At.take rfl (fun w' hs' => RunV.loadAgg ag57_7 rfl (Row.le hrow (hR.le.tr hs')) rfl) rfl ?_
  refine At.take rfl (fun w' hs' => RunV.move rfl) rfl ?_
  refine At.take rfl (fun w' hs' => RunV.field ft60_3_3 rfl rfl) rfl ?_
  refine At.take rfl (fun w' hs' => RunV.load ct58 rfl (cell_le (hr0.cell (i := 3) rfl) (hR.le.tr hs'))) rfl ?_
  refine At.keep (.cons (t := 7) rfl <| .cons (t := 8) rfl <| .cons (t := 13) rfl <| .cons (t := 14) rfl <| .cons (t := 16) rfl <| .nil) ?_
  refine At.take rfl (fun w' hs' => RunV.lenSl rfl isl58) rfl ?_
  refine At.take rfl (fun w' hs' => RunV.subI rfl rfl (wrap_in (by omega) (by omega))) rfl ?_
  refine At.take rfl (fun w' hs' => RunV.eqI rfl rfl) rfl ?_
  refine At.prunE hO hs rfl rfl pf91 rfl (effect_c p k e _ pv kv ku _ (hP.le hO.le) (hU.le hO.le fun _ _ _ h => h.le hO.le)) rfl ?_
  intro w2 hO hs
  refine At.take rfl (fun w' hs' => RunV.assign rfl) rfl ?_
  refine At.pdone (At.keep (.cons (t := 6) rfl <| .nil) ?_)
  refine At.seq (At.reg ?_)
  refine At.v (RunV.move rfl) rfl ?_
  refine At.v (RunV.neI rfl rfl) rfl ?_
  refine At.nil (At.keep (.cons (t := 6) rfl <| .cons (t := 22) rfl <| .nil) ?_)
  refine At.cond rfl (fun h1 => ?_) (fun h1 => ?_)
  · refine At.seq (At.reg ?_)
    refine At.v (RunV.move rfl) rfl ?_
    refine At.v (RunV.build pl99 zt99 rfl rfl) rfl ?_
    refine At.step rfl (Step.box hO rfl rfl ?_)
    intro b25 w3 hO hlb25 hnb25
    refine At.v (RunV.assign rfl) rfl ?_
    refine At.nil (At.keep (.cons (t := 5) rfl <| .nil) ?_)
    refine At.ret ?_
    refine At.result1 rfl rfl ?_
    exact ⟨_, rfl, (by unfold effOk; rw [he]; simpa using h1), hO.le, fun a ha => by cases ha; exact ⟨_, _, _, rfl, hO.newAt (i := 0) rfl, hO.at (i := 0) rfl, 0, [], Nat.zero_le _, .inl ⟨rfl, rfl, rfl⟩, rfl, fun _ _ _ h => by cases h⟩⟩
  · refine At.skip ?_
    refine At.seq (At.reg ?_)
    refine At.v (RunV.assign rfl) rfl ?_
    refine At.nil (At.keep (.cons (t := 5) rfl <| .nil) ?_)
    refine At.ret ?_
    refine At.result1 rfl rfl ?_
    exact ⟨none, rfl, (by unfold effOk; rw [he]; simpa using h1), hO.le, fun a ha => by cases ha⟩

theorem within_c (own : Int) (n d : Nat) (hd : d ≤ 1000) (K : FuncId) (cap : List Value) (hp : plainFn Try.prog K = true) (ok : Nat → Bool) (hn0 : own = 0 → n ≤ 1048576) (w : World)
    (hf : ∀ i, i < n → ∀ w', Le w w' → Ret Try.prog K (.int .i64 (i : Int) :: cap) w' fun v w'' => PartP (ok i) d w' v w'') :
    Ret Try.prog 32 [.int .i64 own, .int .i64 (n : Int), .func (.func K) #[] cap.toArray] w fun v w' => PartP (withinOk own n ok) (d + 1) w v w' := by
  refine Ret.enter Try.func32 rfl Try.ntmps32 rfl rfl ?_
  have hO := Own.start w
  refine At.seq (At.reg ?_)
  refine At.v (RunV.assign rfl) rfl ?_
  refine At.nil (At.keep (.cons (t := 0) rfl <| .cons (t := 1) rfl <| .cons (t := 2) rfl <| .nil) ?_)
  refine At.seq ?_
  refine At.seq (At.reg ?_)
  refine At.v (RunV.move rfl) rfl ?_
  refine At.v (RunV.neI rfl rfl) rfl ?_
  refine At.nil (At.keep (.cons (t := 0) rfl <| .cons (t := 1) rfl <| .cons (t := 2) rfl <| .cons (t := 10) rfl <| .nil) ?_)
  refine At.cond rfl (fun h1 => ?_) (fun h1 => ?_)
  · refine At.seq (At.reg ?_)
    refine At.v (RunV.move rfl) rfl ?_
    refine At.v (RunV.build pl99 zt99 rfl rfl) rfl ?_
    refine At.step rfl (Step.box hO rfl rfl ?_)
    intro b13 w1 hO hlb13 hnb13
    refine At.v (RunV.assign rfl) rfl ?_
    refine At.nil (At.keep (.cons (t := 6) rfl <| .nil) ?_)
    refine At.ret ?_
    refine At.result1 rfl rfl ?_
    exact ⟨_, rfl, (by unfold withinOk; simp [show own ≠ 0 by simpa using h1]), hO.le, fun a ha => by cases ha; exact ⟨_, _, _, rfl, hO.newAt (i := 0) rfl, hO.at (i := 0) rfl, 0, [], Nat.zero_le _, .inl ⟨rfl, rfl, rfl⟩, rfl, fun _ _ _ h => by cases h⟩⟩
  · have hown : own = 0 := by simpa using h1
    have hn := hn0 hown
    refine At.skip ?_
    refine At.seq ?_
    refine At.seq (At.reg ?_)
    refine At.v (RunV.move rfl) rfl ?_
    refine At.v (RunV.move rfl) rfl ?_
    refine At.nil (At.keep (.cons (t := 2) rfl <| .cons (t := 14) rfl <| .cons (t := 15) rfl <| .nil) ?_)
    refine At.block ?_
    refine At.loopC (σ := Nat) (.cons (t := 2) rfl <| .cons (t := 14) rfl <| .nil) (fun i => [(15, .int .i64 (i : Int))]) (fun i wl => Own w [] wl ∧ i ≤ n ∧ ∀ j, j < i → ok j = true) (fun i => n - i) 0 (.cons (t := 15) rfl <| .nil) ⟨hO, Nat.zero_le _, fun j hj => absurd hj (Nat.not_lt_zero _)⟩ ?_
    intro i w2 hinv
    refine At.keep (.cons (t := 2) rfl <| .cons (t := 14) rfl <| .cons (t := 15) rfl <| .nil) ?_
    have hO := hinv.1
    have hi := hinv.2.1
    refine At.seq (At.reg ?_)
    refine At.v (RunV.ltI rfl rfl) rfl ?_
    refine At.nil (At.keep (.cons (t := 2) rfl <| .cons (t := 14) rfl <| .cons (t := 15) rfl <| .cons (t := 16) rfl <| .nil) ?_)
    refine At.seq ?_
    refine At.cond rfl (fun h2 => ?_) (fun h2 => ?_)
    · have hk : i < n := by have := of_decide_eq_true h2; omega
      refine At.skip ?_
      refine At.seq ?_
      refine At.block ?_
      refine At.seq (At.reg ?_)
      refine At.v (RunV.move rfl) rfl ?_
      refine At.v (RunV.assign rfl) rfl ?_
      refine At.nil (At.keep (.cons (t := 2) rfl <| .cons (t := 7) rfl <| .cons (t := 14) rfl <| .cons (t := 15) rfl <| .nil) ?_)
      refine At.seq (At.reg ?_)
      refine At.v (RunV.move rfl) rfl ?_
      refine At.v (RunV.move rfl) rfl ?_
      refine At.v (RunV.move rfl) rfl ?_
      refine At.step rfl (Step.call rfl hp rfl (hf i hk _ hO.le) ?_)
      intro v w3 hr
      obtain ⟨q, rfl, hpo, hl, hbad⟩ := hr
      have hlq := hO.le
      replace hO := hO.on hl
      refine At.step rfl (Step.call rfl pf45 rfl (in_c i (by omega) q d hd w _ hO.le (fun a ha => (hbad a ha).mono (Nat.le_refl _) hlq.size)) ?_)
      intro v w4 hr
      obtain ⟨rfl, hl2, hbad2⟩ := hr
      replace hO := Own.of hl2
      refine At.v (RunV.assign rfl) rfl ?_
      refine At.nil (At.keep (.cons (t := 2) rfl <| .cons (t := 8) rfl <| .cons (t := 14) rfl <| .cons (t := 15) rfl <| .nil) ?_)
      refine At.seq (At.reg ?_)
      refine At.v (RunV.move rfl) rfl ?_
      refine At.v (RunV.neNil rfl un72) rfl ?_
      refine At.nil (At.keep (.cons (t := 2) rfl <| .cons (t := 8) rfl <| .cons (t := 14) rfl <| .cons (t := 15) rfl <| .cons (t := 24) rfl <| .nil) ?_)
      refine At.cond rfl (fun h3 => ?_) (fun h3 => ?_)
      · refine At.seq (At.reg ?_)
        refine At.v (RunV.move rfl) rfl ?_
        refine At.v (RunV.assign rfl) rfl ?_
        refine At.nil (At.keep (.cons (t := 6) rfl <| .nil) ?_)
        refine At.ret ?_
        refine At.result1 rfl rfl ?_
        obtain ⟨a, rfl⟩ : ∃ a, q = some a := by cases q with | none => cases h3 | some a => exact ⟨a, rfl⟩
        refine ⟨_, rfl, ?_, hO.le, hbad2⟩
        have hno : (List.range n).all ok = false := by
          rw [List.all_eq_false]
          exact ⟨i, List.mem_range.2 hk, by rw [← hpo]; exact Bool.false_ne_true⟩
        unfold withinOk; rw [hno, Bool.and_false]; rfl
      · have hgo : ok i = true := by rw [← hpo]; cases q with | none => rfl | some a => cases h3
        refine At.skip ?_
        refine At.reg ?_
        refine At.v (RunV.inc rfl rfl (by omega)) rfl ?_
        refine At.v (RunV.move rfl) rfl ?_
        refine At.nil (At.keep (.cons (t := 2) rfl <| .cons (t := 14) rfl <| .cons (t := 15) rfl <| .nil) ?_)
        exact At.againC (.cons (t := 2) rfl <| .cons (t := 14) rfl <| .nil) (i + 1) (.cons (t := 15) rfl <| .nil) ⟨hO, hk, fun j hj => by
              rcases Nat.lt_succ_iff_lt_or_eq.1 hj with hj | rfl
              · exact hinv.2.2 j hj
              · exact hgo⟩ (by omega)
    · have hk : n ≤ i := by have := of_decide_eq_false h2; omega
      refine At.exit rfl ?_
      refine At.seq (At.reg ?_)
      refine At.v (RunV.assign rfl) rfl ?_
      refine At.nil (At.keep (.cons (t := 6) rfl <| .nil) ?_)
      refine At.ret ?_
      refine At.result1 rfl rfl ?_
      exact ⟨none, rfl, (by
        unfold withinOk
        have : (List.range n).all ok = true := by
          rw [List.all_eq_true]
          intro j hj
          exact hinv.2.2 j (by have := List.mem_range.1 hj; omega)
        rw [this, hown]; rfl), hO.le, fun a ha => by cases ha⟩

end Go.Proofs.Ytglilmcfhkedbaa
