/- The walk of audit.Check; no condition. -/
import Derived.Test.YtglilmcfhkedbaaWU
namespace Go.Proofs.Ytglilmcfhkedbaa
open Go Go.RowKit

theorem ct50 : cellT Try.prog 50 = true := by kernel_rfl
theorem isl25 : islT Try.prog 25 = true := by kernel_rfl
theorem sz32_9 : sizeT Try.prog 32 9 = true := by kernel_rfl
theorem pl49 : placesT Try.prog 49 = some [(0, 1), (1, 1), (2, 1), (3, 1)] := by kernel_rfl
theorem un43 : Try.prog.underlying 43 = some (.interface #[("Error", 148)]) := by kernel_rfl
theorem zt32 : zeroT Try.prog 32 [.int .i64 0, .int .i64 0, .int .u64 0, .int .i64 0, .int .i64 0, .string ByteArray.empty, .int .i64 0, .int .i64 0, .bool false] := by unfold zeroT; kernel_rfl
theorem zt49 : zeroT Try.prog 49 [.slice none 0 0, .slice none 0 0, .slice none 0 0, .int .i64 0] := by unfold zeroT; kernel_rfl

theorem un52 : Try.prog.underlying 52 = some (.array 16 50) := by kernel_rfl

abbrev fcells : List Value := [.nilFunc, .func (.func 16) #[] #[], .func (.func 17) #[] #[], .func (.func 18) #[] #[], .func (.func 19) #[] #[], .func (.func 18) #[] #[], .func (.func 20) #[] #[], .func (.func 21) #[] #[], .func (.func 22) #[] #[], .func (.func 23) #[] #[], .func (.func 24) #[] #[], .func (.func 25) #[] #[], .func (.func 26) #[] #[], .func (.func 27) #[] #[], .func (.func 28) #[] #[], .func (.func 29) #[] #[]]

theorem fcells_at {k : Int} (h1 : 1 ≤ k) (h2 : k ≤ 15) : fcells[0 + k.toNat * 1]? = some (.func (.func (fnOf k)) #[] #[]) := by
  unfold fnOf
  by_cases h3 : k = 1
  · subst h3; rfl
  by_cases h4 : k = 2
  · subst h4; rfl
  by_cases h5 : k = 3
  · subst h5; rfl
  by_cases h6 : k = 4
  · subst h6; rfl
  by_cases h7 : k = 5
  · subst h7; rfl
  by_cases h8 : k = 6
  · subst h8; rfl
  by_cases h9 : k = 7
  · subst h9; rfl
  by_cases h10 : k = 8
  · subst h10; rfl
  by_cases h11 : k = 9
  · subst h11; rfl
  by_cases h12 : k = 10
  · subst h12; rfl
  by_cases h13 : k = 11
  · subst h13; rfl
  by_cases h14 : k = 12
  · subst h14; rfl
  by_cases h15 : k = 13
  · subst h15; rfl
  by_cases h16 : k = 14
  · subst h16; rfl
  by_cases h17 : k = 15
  · subst h17; rfl
  omega

set_option maxRecDepth 20000 in
set_option maxHeartbeats 1600000 in
theorem check_c (p : Prg) (l : List Ev) (pv ev : Value) (w : World) (hP : PrgR G0 w pv p) (hE : EvsR G0 w ev l) (hl : l.length ≤ 1000) :
    Ret Try.prog 8 [.agg [pv].toArray, ev] w fun v w' => v = .tuple #[.int .i64 (checkB p l).1, .int .i64 (checkB p l).2] ∧ Le w w' := by
  refine Ret.enter Try.func8 rfl Try.ntmps8 rfl rfl ?_
  have hO := Own.start w
  obtain ⟨ea, ec, rfl, hele, hecap⟩ := SlOf.val hE
  refine At.seq (At.reg ?_)
  refine At.step rfl (Step.box hO rfl rfl ?_)
  intro b2 w1 hO hlb2 hnb2
  refine At.v (RunV.assign rfl) rfl ?_
  refine At.v (RunV.assign rfl) rfl ?_
  refine At.nil (At.keep (.cons (t := 1) rfl <| .cons (t := 2) rfl <| .nil) ?_)
  refine At.seq ?_
  refine At.seq (At.reg ?_)
  refine At.v (RunV.loadAgg ag24_1 rfl ((hO.at (i := 0) rfl).row) rfl) rfl ?_
  refine At.step rfl (Step.call rfl pf15 rfl (program_c p pv _ (hP.le hO.le)) ?_)
  intro v w2 hr
  obtain ⟨hv, hl9⟩ := hr
  replace hO := hO.on hl9
  refine At.v (RunV.neNilI rfl (by rcases hv with ⟨_, h⟩ | ⟨_, q, h⟩; exact .inl h; exact .inr ⟨_, _, h⟩) un43) rfl ?_
  refine At.nil (At.keep (.cons (t := 1) rfl <| .cons (t := 2) rfl <| .cons (t := 13) rfl <| .nil) ?_)
  refine At.cond rfl (fun hc => ?_) (fun hc => ?_)
  · have hok : progOk p = false := by
      rcases hv with ⟨_, h⟩ | ⟨h, _⟩
      · rw [h] at hc; cases hc
      · exact h
    refine At.seq (At.reg ?_)
    refine At.v (RunV.assign rfl) rfl ?_
    refine At.v (RunV.assign rfl) rfl ?_
    refine At.nil (At.keep (.cons (t := 4) rfl <| .cons (t := 5) rfl <| .nil) ?_)
    refine At.ret ?_
    refine At.result2 rfl rfl rfl ?_
    refine ⟨?_, hO.le⟩
    unfold checkB; rw [hok]; rfl
  · have hok : progOk p = true := by
      rcases hv with ⟨h, _⟩ | ⟨_, q, h⟩
      · exact h
      · rw [h] at hc; cases hc
    refine At.skip ?_
    refine At.seq (At.reg ?_)
    refine At.v (RunV.loadAgg ag24_1 rfl ((hO.at (i := 0) rfl).row) rfl) rfl ?_
    refine At.v (RunV.build pl49 zt49 rfl rfl) rfl ?_
    refine At.step rfl (Step.box hO rfl rfl ?_)
    intro b16 w3 hO hlb16 hnb16
    have hbk := hO.at (i := 0) rfl
    have hbn := hO.newAt (i := 0) rfl
    have hbr := BR.start hP hok hO.le hbk hbn
    replace hO := hO.drop
    refine At.v (RunV.assign rfl) rfl ?_
    refine At.nil (At.keep (.cons (t := 1) rfl <| .cons (t := 6) rfl <| .nil) ?_)
    refine At.seq (At.reg ?_)
    refine At.v (RunV.buildA un52 sz50_1 zt52 rfl rfl) rfl ?_
    refine At.step rfl (Step.alloc hO zt52 ?_)
    intro b7 w4 hO hlb7 hnb7
    replace hbr := hbr.le hlb7
    have hb7k := hO.at (i := 0) rfl
    refine At.step_ (Step.storeAll hO rfl rfl rfl sz52_16 .here rfl rfl ?_)
    intro w5 hO hbut
    replace hbr := hbr.other hbut (hO.newAt (i := 0) rfl) hb7k rfl rfl
    refine At.nil (At.keep (.cons (t := 1) rfl <| .cons (t := 6) rfl <| .cons (t := 7) rfl <| .nil) ?_)
    refine At.seq ?_
    refine At.seq (At.reg ?_)
    refine At.v (RunV.move rfl) rfl ?_
    refine At.v (RunV.lenSl rfl isl25) rfl ?_
    refine At.v (RunV.move rfl) rfl ?_
    refine At.nil (At.keep (.cons (t := 1) rfl <| .cons (t := 6) rfl <| .cons (t := 7) rfl <| .cons (t := 18) rfl <| .cons (t := 19) rfl <| .cons (t := 20) rfl <| .nil) ?_)
    refine At.block ?_
    refine At.loopC (σ := Nat) (.cons (t := 1) rfl <| .cons (t := 6) rfl <| .cons (t := 7) rfl <| .cons (t := 18) rfl <| .cons (t := 19) rfl <| .nil) (fun i => [(20, .int .i64 (i : Int))]) (fun i wl => ∃ b, Own w [(b7, fcells, 52), (b2, [pv], 24)] wl ∧ BR' w.heap.size i wl b16 b ∧ i ≤ l.length ∧ goB ⟨p, [], [], 0⟩ 0 l = goB b i (l.drop i)) (fun i => l.length - i) 0 (.cons (t := 20) rfl <| .nil) ⟨_, hO, ⟨_, _, _, _, _, hbr⟩, Nat.zero_le _, rfl⟩ ?_
    intro i w6 hinv
    refine At.keep (.cons (t := 1) rfl <| .cons (t := 6) rfl <| .cons (t := 7) rfl <| .cons (t := 18) rfl <| .cons (t := 19) rfl <| .cons (t := 20) rfl <| .nil) ?_
    clear hbr
    obtain ⟨b, hO, ⟨pv2, av, lv, ab, lb, hbr⟩, hi, hgo⟩ := hinv
    refine At.seq (At.reg ?_)
    refine At.v (RunV.ltI rfl rfl) rfl ?_
    refine At.nil (At.keep (.cons (t := 1) rfl <| .cons (t := 6) rfl <| .cons (t := 7) rfl <| .cons (t := 18) rfl <| .cons (t := 19) rfl <| .cons (t := 20) rfl <| .cons (t := 21) rfl <| .nil) ?_)
    refine At.seq ?_
    refine At.cond rfl (fun hlt => ?_) (fun hlt => ?_)
    · refine At.skip ?_
      refine At.seq ?_
      refine At.block ?_
      have hk : i < l.length := by have := of_decide_eq_true hlt; omega
      obtain ⟨e, he⟩ : ∃ e, l[i]? = some e := ⟨_, List.getElem?_eq_getElem hk⟩
      rw [drop_cons he] at hgo
      obtain ⟨eb, eoff, ecap, ecs, hv9, _, _, hR9, herow⟩ := SlOf.at (hE.le hO.le) he
      cases hv9
      cases hR9
      refine At.seq (At.reg ?_)
      refine At.v (RunV.move rfl) rfl ?_
      refine At.v (RunV.index st25_32_9 rfl rfl rfl hk rfl) rfl ?_
      refine At.v (RunV.loadAgg ag32_9 rfl herow rfl) rfl ?_
      refine At.step rfl (Step.alloc hO zt32 ?_)
      intro b9 w7 hO hlb9 hnb9
      replace hbr := hbr.le hlb9
      refine At.v (RunV.assign rfl) rfl ?_
      have hb9k := hO.at (i := 0) rfl
      refine At.step_ (Step.storeAll hO rfl rfl rfl sz32_9 .here rfl rfl ?_)
      intro w8 hO hbut
      replace hbr := hbr.other hbut (hO.newAt (i := 0) rfl) hb9k rfl rfl
      refine At.nil (At.keep (.cons (t := 1) rfl <| .cons (t := 6) rfl <| .cons (t := 7) rfl <| .cons (t := 8) rfl <| .cons (t := 9) rfl <| .cons (t := 18) rfl <| .cons (t := 19) rfl <| .cons (t := 20) rfl <| .nil) ?_)
      refine At.seq ?_
      refine At.seq (At.reg ?_)
      refine At.v (RunV.field ft32_0_0 rfl rfl) rfl ?_
      refine At.v (RunV.load ct3 rfl ((hO.at (i := 0) rfl).cell rfl)) rfl ?_
      refine At.v (RunV.ltI rfl rfl) rfl ?_
      refine At.v (RunV.move rfl) rfl ?_
      refine At.g (Guard.f rfl rfl rfl) (fun hc => RunV.field ft32_0_0 rfl rfl) rfl ?_
      refine At.g (Guard.f rfl rfl rfl) (fun hc => RunV.load ct3 (gvE rfl hc) ((hO.at (i := 0) rfl).cell rfl)) rfl ?_
      refine At.g (Guard.f rfl rfl rfl) (fun hc => RunV.gtI (gvE rfl hc) rfl) rfl ?_
      refine At.v (RunV.pickOr rfl rfl) rfl ?_
      refine At.v (RunV.move rfl) rfl ?_
      refine At.g (Guard.f rfl rfl rfl) (fun hc => RunV.move rfl) rfl ?_
      refine At.keep (.cons (t := 1) rfl <| .cons (t := 6) rfl <| .cons (t := 7) rfl <| .cons (t := 8) rfl <| .cons (t := 9) rfl <| .cons (t := 18) rfl <| .cons (t := 19) rfl <| .cons (t := 20) rfl <| .cons (t := 33) rfl <| .cons (t := 34) rfl <| .nil) ?_
      refine At.g (Guard.f rfl rfl rfl) (fun hc => RunV.eqI (gvE rfl hc) rfl) rfl ?_
      refine At.g (Guard.f rfl rfl rfl) (fun hc => RunV.move (gvE rfl hc)) rfl ?_
      refine At.g (Guard.gt rfl rfl rfl) (fun hc => RunV.field ft32_0_0 rfl rfl) rfl ?_
      refine At.g (Guard.gt rfl rfl rfl) (fun hc => RunV.load ct3 (gvE rfl hc) ((hO.at (i := 0) rfl).cell rfl)) rfl ?_
      refine At.g (Guard.gt rfl rfl rfl) (fun hc => RunV.neI (gvE rfl hc) rfl) rfl ?_
      refine At.g (Guard.f rfl rfl rfl) (fun hc => RunV.pickAnd (gvE rfl hc) (gvE2 rfl hc)) rfl ?_
      refine At.v (RunV.pickOr rfl rfl) rfl ?_
      refine At.nil (At.keep (.cons (t := 1) rfl <| .cons (t := 6) rfl <| .cons (t := 7) rfl <| .cons (t := 8) rfl <| .cons (t := 9) rfl <| .cons (t := 18) rfl <| .cons (t := 19) rfl <| .cons (t := 20) rfl <| .cons (t := 41) rfl <| .nil) ?_)
      refine At.cond rfl (fun hbad => ?_) (fun hbad => ?_)
      · have hbd : badB i e = true := hbad
        refine At.seq (At.reg ?_)
        refine At.v (RunV.move rfl) rfl ?_
        refine At.v (RunV.assign rfl) rfl ?_
        refine At.v (RunV.assign rfl) rfl ?_
        refine At.nil (At.keep (.cons (t := 4) rfl <| .cons (t := 5) rfl <| .nil) ?_)
        refine At.ret ?_
        refine At.result2 rfl rfl rfl ?_
        refine ⟨?_, hO.le⟩
        have e1 : checkB p l = (1, (i : Int)) := by
          unfold checkB; rw [if_pos hok, hgo]; show (if badB i e then _ else _) = _; rw [if_pos hbd]
        rw [e1]
      · have hbd : badB i e = false := hbad
        have hkd : 1 ≤ e.kind ∧ e.kind ≤ 15 := by
          unfold badB at hbd
          simp at hbd
          omega
        refine At.skip ?_
        have hb7 := hO.at (i := 1) rfl
        have hfk := fcells_at hkd.1 hkd.2
        have hpK := plain_fnOf e.kind
        have hrule : ∀ w', Le w8 w' → Ret Try.prog (fnOf e.kind) [.pointer (some ⟨b16, 0, none⟩), .agg (e.cells).toArray] w' fun v w'' => RuleP w.heap.size i w' b16 (stepB b e) v w'' := fun w' hl9 => rule_c w.heap.size i b16 b pv2 av lv ab lb e _ (by omega) (hbr.le hl9)
        generalize fnOf e.kind = K at hfk hpK hrule
        refine At.seq (At.pi hmix (.take 0 (.take 1 (.take 2 (.take 3 (.take 4 (.take 5 (.free 6 (.take 7 .done)))))))) (by kernel_rfl) (by kernel_rfl) ?_)
        intro w9 hs
        have hs0 := hs
        have hR := hO
        replace hO := hO.on hs
        refine At.take rfl (fun w' hs' => RunV.field ft32_0_0 rfl rfl) rfl ?_
        refine At.take rfl (fun w' hs' => RunV.load ct3 rfl (((hR.at (i := 0) rfl).le hs').cell rfl)) rfl ?_
        refine At.take rfl (fun w' hs' => RunV.indexA at52_16_1 rfl rfl (show e.kind = ((e.kind.toNat : Nat) : Int) by omega) (by omega) rfl) rfl ?_
        refine At.take rfl (fun w' hs' => RunV.load ct50 rfl (Blk.cell (hb7.le hs') hfk)) rfl ?_
        refine At.take rfl (fun w' hs' => RunV.move rfl) rfl ?_
        refine At.take rfl (fun w' hs' => RunV.loadAgg ag32_9 rfl (((hR.at (i := 0) rfl).le hs').row) rfl) rfl ?_
        refine At.pfree rfl rfl (Step.call rfl hpK rfl (hrule _ hs) ?_)
        intro v w10 hr
        obtain ⟨rfl, ⟨hbel, hkp⟩, hbr2⟩ := hr
        replace hO : Own w [(b9, e.cells, 32), (b7, fcells, 52), (b2, [pv], 24)] w10 := ⟨hO.le.trans hbel, fun x hx => hkp _ _ _ (hO.blk x hx) (by
          simp only [List.mem_cons, List.not_mem_nil, or_false] at hx
          rcases hx with rfl | rfl | rfl <;> rfl), hO.new, hO.nd⟩
        refine ⟨fun _ => True, trivial, ?_⟩
        refine At.take rfl (fun w' hs' => RunV.assign rfl) rfl ?_
        refine At.pdone (At.keep (.cons (t := 1) rfl <| .cons (t := 6) rfl <| .cons (t := 7) rfl <| .cons (t := 8) rfl <| .cons (t := 10) rfl <| .cons (t := 18) rfl <| .cons (t := 19) rfl <| .cons (t := 20) rfl <| .nil) ?_)
        refine At.seq (At.reg ?_)
        refine At.v (RunV.move rfl) rfl ?_
        refine At.v (RunV.neI rfl rfl) rfl ?_
        refine At.nil (At.keep (.cons (t := 1) rfl <| .cons (t := 6) rfl <| .cons (t := 7) rfl <| .cons (t := 8) rfl <| .cons (t := 10) rfl <| .cons (t := 18) rfl <| .cons (t := 19) rfl <| .cons (t := 20) rfl <| .cons (t := 51) rfl <| .nil) ?_)
        refine At.cond rfl (fun hn => ?_) (fun hn => ?_)
        · replace hn : ¬ (stepB b e).1 = 0 := by simpa using hn
          refine At.seq (At.reg ?_)
          refine At.v (RunV.move rfl) rfl ?_
          refine At.v (RunV.move rfl) rfl ?_
          refine At.v (RunV.assign rfl) rfl ?_
          refine At.v (RunV.assign rfl) rfl ?_
          refine At.nil (At.keep (.cons (t := 4) rfl <| .cons (t := 5) rfl <| .nil) ?_)
          refine At.ret ?_
          refine At.result2 rfl rfl rfl ?_
          refine ⟨?_, hO.le⟩
          have e1 : checkB p l = ((stepB b e).1, (i : Int)) := by
            unfold checkB; rw [if_pos hok, hgo]; show (if badB i e then _ else _) = _; rw [if_neg (by rw [hbd]; exact Bool.false_ne_true), if_neg hn]
          rw [e1]
        · replace hn : (stepB b e).1 = 0 := by simpa using hn
          refine At.skip ?_
          refine At.reg ?_
          refine At.v (RunV.inc rfl rfl (by omega)) rfl ?_
          refine At.v (RunV.move rfl) rfl ?_
          refine At.nil (At.keep (.cons (t := 1) rfl <| .cons (t := 6) rfl <| .cons (t := 7) rfl <| .cons (t := 18) rfl <| .cons (t := 19) rfl <| .cons (t := 20) rfl <| .nil) ?_)
          replace hO := hO.drop
          exact At.againC (.cons (t := 1) rfl <| .cons (t := 6) rfl <| .cons (t := 7) rfl <| .cons (t := 18) rfl <| .cons (t := 19) rfl <| .nil) (i + 1) (.cons (t := 20) rfl <| .nil) ⟨_, hO, hbr2, hk, by rw [hgo]; show (if badB i e then _ else _) = _; rw [if_neg (by rw [hbd]; exact Bool.false_ne_true), if_pos hn]⟩ (by omega)
    · have hik : i = l.length := by have := of_decide_eq_false hlt; omega
      refine At.exit rfl ?_
      refine At.seq (At.reg ?_)
      refine At.v (RunV.move rfl) rfl ?_
      refine At.v (RunV.lenSl rfl isl25) rfl ?_
      refine At.v (RunV.assign rfl) rfl ?_
      refine At.v (RunV.assign rfl) rfl ?_
      refine At.nil (At.keep (.cons (t := 4) rfl <| .cons (t := 5) rfl <| .nil) ?_)
      refine At.ret ?_
      refine At.result2 rfl rfl rfl ?_
      refine ⟨?_, hO.le⟩
      have e1 : checkB p l = (0, (l.length : Int)) := by
        unfold checkB; rw [if_pos hok, hgo, List.drop_eq_nil_of_le (by omega), hik]; rfl
      rw [e1]

end Go.Proofs.Ytglilmcfhkedbaa
