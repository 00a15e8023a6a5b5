/- The walk of audit's spawned; no condition. -/
import Derived.Test.YtglilmcfhkedbaaWQ
namespace Go.Proofs.Ytglilmcfhkedbaa
open Go Go.RowKit

theorem el76_1 : elemT Try.prog 76 1 = true := by kernel_rfl
theorem sz46_1 : sizeT Try.prog 46 1 = true := by kernel_rfl
theorem pl90 : placesT Try.prog 90 = some [(0, 1), (1, 1), (2, 5), (7, 1), (8, 1), (9, 1), (10, 5), (15, 1), (16, 1), (17, 1)] := by kernel_rfl
theorem zt76 : zeroT Try.prog 76 [.pointer none] := by unfold zeroT; kernel_rfl
theorem zt90 : zeroT Try.prog 90 [.int .i64 0, .int .i64 0, .string ByteArray.empty, .int .i64 0, .int .i64 0, .slice none 0 0, .slice none 0 0, .string ByteArray.empty, .int .i64 0, .pointer none, .bool false, .slice none 0 0, .string ByteArray.empty, .bool false, .string ByteArray.empty, .string ByteArray.empty, .bool false, .int .i64 0] := by unfold zeroT; kernel_rfl

theorem brokenR_zero : ∀ {rs : List (Int × Bool)}, rs.all (fun r => !decide (r.1 = 0)) = true → brokenR rs = 0 → ∀ r ∈ rs, r.2 = true
  | (c, b) :: rs, ha, h, r, hr => by
    rw [List.all_cons, Bool.and_eq_true] at ha
    cases b with
    | false =>
      have h0 : c = 0 := by simpa [brokenR] using h
      have := ha.1
      simp [h0] at this
    | true =>
      have h' : brokenR rs = 0 := by simpa [brokenR] using h
      rcases List.mem_cons.1 hr with rfl | hr
      · rfl
      · exact brokenR_zero ha.2 h' r hr
def SpS (B0 bb b3 b5 tb toff : Nat) (c1 c2 c3 : List Value) (nm : ByteArray) (k : Knd) (kv ku : Value) (w : World) : Prop :=
  Blk w bb c1 49 ∧ Blk w b3 c2 32 ∧ Blk w b5 c3 67 ∧ w.cell? ⟨tb, toff + 0 * 2 + 0, none⟩ = some (.string nm) ∧ GB B0 w tb ∧ SlOf (GB B0) 2 CasR w kv k.cases ∧ SlOf (GB B0) 2 (SttR (GB B0)) w ku k.states
section
variable {B0 bb b3 b5 tb toff : Nat} {c1 c2 c3 : List Value} {nm : ByteArray} {k : Knd} {kv ku : Value} {w w' : World}
theorem SpS.le (h : SpS B0 bb b3 b5 tb toff c1 c2 c3 nm k kv ku w) (hl : Le w w') : SpS B0 bb b3 b5 tb toff c1 c2 c3 nm k kv ku w' := by
  obtain ⟨h1, h2, h3, h4, h5, h6, h7⟩ := h
  exact ⟨h1.le hl, h2.le hl, h3.le hl, cell_le h4 hl, (GB.le hl tb h5).1, h6.stays (GB.le hl) fun _ _ _ h => h, h7.stays (GB.le hl) fun _ _ _ h => h.stays (GB.le hl)⟩
theorem SpS.moved {s v : Value} {n : Nat} {xs : List Value} (h : SpS B0 bb b3 b5 tb toff c1 c2 c3 nm k kv ku w) (hM : Moved w w' s v) (hS : Sl w s 76 1 n xs) (hlo : ∀ p m c, s = .slice (some p) m c → B0 ≤ p.block) : SpS B0 bb b3 b5 tb toff c1 c2 c3 nm k kv ku w' := by
  obtain ⟨h1, h2, h3, h4, h5, h6, h7⟩ := h
  have hst : Stays (GB B0) w w' := hM.stays hS hlo rfl
  refine ⟨hM.blkT hS h1 rfl, hM.blkT hS h2 rfl, hM.blkT hS h3 rfl, ?_, (hst tb h5).1, h6.stays hst fun _ _ _ h => h, h7.stays hst fun _ _ _ h => h.stays hst⟩
  rw [World.cell?_of_block (w := w) ((hst tb h5).2)]; exact h4
end

set_option maxHeartbeats 1600000 in
theorem spawned_c (B0 N bb : Nat) (b : Bk) (pv av lv : Value) (ab lb : List Nat) (e : Ev) (w : World) (hN : N ≤ 100000) (h : BR B0 N w bb b pv av lv ab lb) :
    Ret Try.prog 21 [.pointer (some ⟨bb, 0, none⟩), .agg (e.cells).toArray] w fun v w' => RuleP B0 N w bb (stSpawned b e) v w' := by
  refine Ret.enter Try.func21 rfl Try.ntmps21 rfl rfl ?_
  have hO := Own.start w
  obtain ⟨oa, hoa, a, kv, ku, wx, ep, em, ec, st, ps, f, hA, hA2⟩ := h.actD e.frm
  have hna := h.na
  obtain ⟨k0, hk0⟩ : ∃ k, b.prog[0]? = some k := ⟨_, List.getElem?_eq_getElem (by have := h.prog1; omega)⟩
  obtain ⟨pb, poff, pcap, pcs, rfl, hple, hpcl, hpR, hprow⟩ := SlOf.at h.prg hk0
  obtain ⟨pkv, pku, rfl, _, _⟩ := hpR
  obtain ⟨sa, sc, rfl⟩ := h.asl.val
  have hrl : [(1, (decide ((b.actors.length : Int) = 0) == decide (e.frm = 0)) && (!decide ((b.actors.length : Int) = 0) || ((decide (e.actor = 1) && decide (e.frm = 0)) && seq e.name k0.name))), (7, decide ((b.actors.length : Int) = 0) || (decide (e.actor = (b.actors.length : Int) + 1) && worksB oa)), (7, (findKnd b.prog e.name).isSome)] = spawnedRules b e := by unfold spawnedRules rootB; rw [hoa, hk0]
  replace h := h
  have hlo := h.loa
  refine At.seq (At.reg ?_)
  refine At.step rfl (Step.box hO rfl rfl ?_)
  intro b3 w1 hO hlb3 hnb3
  refine At.v (RunV.assign rfl) rfl ?_
  refine At.nil (At.keep (.cons (t := 0) rfl <| .cons (t := 3) rfl <| .nil) ?_)
  refine At.seq (At.pi hmix (.take 0 (.take 1 (.take 2 (.take 3 (.take 4 (.take 5 (.fork 6 (.take 7 (.take 8 (.take 9 (.run 10 (.run 11 (.take 12 .done)))))) 10 (.run 6 (.take 7 (.take 8 (.take 9 (.run 11 (.take 12 .done))))))))))))) (by kernel_rfl) (by kernel_rfl) ?_)
  intro w2 hs
  have hs0 := hs
  have hR := hO
  replace hO := hO.on hs
  refine At.take rfl (fun w' hs' => RunV.move rfl) rfl ?_
  refine At.take rfl (fun w' hs' => RunV.nilCheck rfl) rfl ?_
  refine At.take rfl (fun w' hs' => RunV.field ft49_0_0 rfl rfl) rfl ?_
  refine At.take rfl (fun w' hs' => RunV.loadAgg ag24_1 rfl (Row.le (h.book.rowAt (ds := [.slice (some ⟨pb, poff, none⟩) b.prog.length pcap]) rfl) (hR.le.tr hs')) rfl) rfl ?_
  refine At.take rfl (fun w' hs' => RunV.field ft32_5_5 rfl rfl) rfl ?_
  refine At.take rfl (fun w' hs' => RunV.load ct9 rfl (((hR.at (i := 0) rfl).le hs').cell rfl)) rfl ?_
  refine At.pfork ?_ ?_
  · refine At.prun rfl rfl (Step.call rfl pf41 rfl (find2_c b.prog e.name _ _ ((PrgR.any h.prg).le hO.le) h.small) ?_)
    have hsz := hO.le.size
    intro v w3 hr
    obtain ⟨k, kp, km, kc, up, um, uc, rfl, hl, hk⟩ := hr
    replace hk : (findKnd b.prog e.name).isSome = true → findKnd b.prog e.name = some k ∧ SlOf (GB B0) 2 CasR w3 (.slice kp km kc) k.cases ∧ SlOf (GB B0) 2 (SttR (GB B0)) w3 (.slice up um uc) k.states := fun hs9 => by
      obtain ⟨h1, h2, h3⟩ := hk hs9
      have hg : ∀ bq, GTy _ pK w3 bq → GB B0 w3 bq := fun bq hb => .inr (hb.mono (Nat.le_trans h.hB hsz) fun _ h => h)
      exact ⟨h1, h2.mono hg fun _ _ _ h => h, h3.mono hg fun _ _ _ h => h.mono hg⟩
    replace hO := hO.on hl
    replace hs := hs.tr hl
    refine ⟨hs, ?_⟩
    refine At.take rfl (fun w' hs' => RunV.move rfl) rfl ?_
    refine At.take rfl (fun w' hs' => RunV.extract rfl rfl) rfl ?_
    refine At.take rfl (fun w' hs' => RunV.extract rfl rfl) rfl ?_
    refine At.prun rfl rfl (Step.alloc hO zt67 ?_)
    intro b5 w4 hO hlb5 hnb5
    have hzb5 := Nat.le_trans hs.size hnb5
    refine ⟨hs.tr hlb5, ?_⟩
    replace hs := hs.tr hlb5
    try (replace hk := fun hs9 => And.intro (hk hs9).1 (And.intro ((hk hs9).2.1.stays (R' := CasR) (GB.le hlb5) fun _ _ _ h => h) ((hk hs9).2.2.stays (R' := SttR (GB B0)) (GB.le hlb5) fun _ _ _ h => h.stays (GB.le hlb5))))
    have hb5k := hO.at (i := 0) rfl
    have hb5B : B0 ≤ b5 := Nat.le_trans h.hB (hO.newAt (i := 0) rfl)
    refine At.prun_ rfl (Step.storeAll hO rfl rfl rfl sz67_5 .here rfl rfl ?_)
    intro w5 hO hbut
    have hs := hbut.le hs hzb5
    refine ⟨hs, ?_⟩
    try (replace hk := fun hs9 => And.intro (hk hs9).1 (And.intro ((hk hs9).2.1.stays (R' := CasR) (GB.but hbut hb5B hb5k rfl) fun _ _ _ h => h) ((hk hs9).2.2.stays (R' := SttR (GB B0)) (GB.but hbut hb5B hb5k rfl) fun _ _ _ h => h.stays (GB.but hbut hb5B hb5k rfl))))
    refine At.take rfl (fun w' hs' => RunV.assign rfl) rfl ?_
    refine At.pdone (At.keep (.cons (t := 0) rfl <| .cons (t := 3) rfl <| .cons (t := 5) rfl <| .cons (t := 6) rfl <| .nil) ?_)
    refine At.seq (At.reg ?_)
    refine At.v (RunV.move rfl) rfl ?_
    refine At.v (RunV.nilCheck rfl) rfl ?_
    refine At.v (RunV.field ft49_1_1 rfl rfl) rfl ?_
    refine At.v (RunV.load ct46 rfl (cell_le (h.book.cell (i := 1) rfl) hO.le)) rfl ?_
    refine At.v (RunV.lenSl rfl isl46) rfl ?_
    refine At.v (RunV.eqI rfl rfl) rfl ?_
    refine At.v (RunV.assign rfl) rfl ?_
    refine At.nil (At.keep (.cons (t := 0) rfl <| .cons (t := 3) rfl <| .cons (t := 5) rfl <| .cons (t := 6) rfl <| .cons (t := 7) rfl <| .nil) ?_)
    refine At.seq (At.pi hmix (.take 0 (.take 1 (.take 2 (.take 3 (.take 4 (.take 5 (.take 6 (.take 7 (.take 8 (.take 9 (.take 10 (.take 11 (.take 12 (.take 13 (.take 14 (.take 15 (.take 16 (.take 17 (.take 18 (.take 19 (.take 20 (.take 21 .done)))))))))))))))))))))) (by kernel_rfl) (by kernel_rfl) ?_)
    intro w6 hs
    have hs0 := hs
    have hR := hO
    replace hO := hO.on hs
    refine At.take rfl (fun w' hs' => RunV.field ft32_1_1 rfl rfl) rfl ?_
    refine At.take rfl (fun w' hs' => RunV.load ct3 rfl (((hR.at (i := 1) rfl).le hs').cell rfl)) rfl ?_
    refine At.take rfl (fun w' hs' => RunV.eqI rfl rfl) rfl ?_
    refine At.take rfl (fun w' hs' => RunV.move rfl) rfl ?_
    refine At.takeG rfl (Guard.t rfl rfl rfl) (fun hc w' hs' => RunV.field ft32_3_3 rfl rfl) rfl ?_
    refine At.takeG rfl (Guard.t rfl rfl rfl) (fun hc w' hs' => RunV.load ct3 (gvE rfl hc) (((hR.at (i := 1) rfl).le hs').cell rfl)) rfl ?_
    refine At.takeG rfl (Guard.t rfl rfl rfl) (fun hc w' hs' => RunV.eqI (gvE rfl hc) rfl) rfl ?_
    refine At.take rfl (fun w' hs' => RunV.pickAnd rfl rfl) rfl ?_
    refine At.take rfl (fun w' hs' => RunV.move rfl) rfl ?_
    refine At.takeG rfl (Guard.t rfl rfl rfl) (fun hc w' hs' => RunV.field ft32_5_5 rfl rfl) rfl ?_
    refine At.keep (.cons (t := 0) rfl <| .cons (t := 3) rfl <| .cons (t := 5) rfl <| .cons (t := 6) rfl <| .cons (t := 7) rfl <| .cons (t := 34) rfl <| .cons (t := 35) rfl <| .nil) ?_
    refine At.takeG rfl (Guard.t rfl rfl rfl) (fun hc w' hs' => RunV.load ct9 (gvE rfl hc) (((hR.at (i := 1) rfl).le hs').cell rfl)) rfl ?_
    refine At.takeG rfl (Guard.t rfl rfl rfl) (fun hc w' hs' => RunV.move rfl) rfl ?_
    refine At.takeG rfl (Guard.t rfl rfl rfl) (fun hc w' hs' => RunV.nilCheck (gvE rfl hc)) rfl ?_
    refine At.takeG rfl (Guard.t rfl rfl rfl) (fun hc w' hs' => RunV.field ft49_0_0 (gvE rfl hc) rfl) rfl ?_
    refine At.takeG rfl (Guard.t rfl rfl rfl) (fun hc w' hs' => RunV.field ft24_0_0 (gvE rfl hc) rfl) rfl ?_
    refine At.takeG rfl (Guard.t rfl rfl rfl) (fun hc w' hs' => RunV.load ct22 (gvE rfl hc) (cell_le (h.book.cell (i := 0) rfl) (hR.le.tr hs'))) rfl ?_
    refine At.takeG rfl (Guard.t rfl rfl rfl) (fun hc w' hs' => RunV.index st22_67_5 (gvE rfl hc) rfl rfl (List.getElem?_eq_some_iff.1 hk0).1 rfl) rfl ?_
    refine At.takeG rfl (Guard.t rfl rfl rfl) (fun hc w' hs' => RunV.field ft67_0_0 (gvE rfl hc) rfl) rfl ?_
    refine At.takeG rfl (Guard.t rfl rfl rfl) (fun hc w' hs' => RunV.load ct9 (gvE rfl hc) (cell_le (hprow.cell (i := 0) rfl) (hR.le.tr hs'))) rfl ?_
    refine At.takeG rfl (Guard.t rfl rfl rfl) (fun hc w' hs' => RunV.eqS (gvE rfl hc) (gvE rfl hc)) rfl ?_
    refine At.take rfl (fun w' hs' => RunV.pickAnd rfl rfl) rfl ?_
    refine At.take rfl (fun w' hs' => RunV.assign rfl) rfl ?_
    refine At.pdone (At.keep (.cons (t := 0) rfl <| .cons (t := 3) rfl <| .cons (t := 5) rfl <| .cons (t := 6) rfl <| .cons (t := 7) rfl <| .cons (t := 8) rfl <| .nil) ?_)
    replace hk := fun hs9 => And.intro (hk hs9).1 (And.intro ((hk hs9).2.1.stays (R' := CasR) (GB.le hs) fun _ _ _ h => h) ((hk hs9).2.2.stays (R' := SttR (GB B0)) (GB.le hs) fun _ _ _ h => h.stays (GB.le hs)))
    refine At.seq (At.pi hmix (.take 0 (.take 1 (.take 2 (.take 3 (.take 4 (.take 5 (.take 6 (.take 7 (.take 8 (.take 9 (.take 10 (.take 11 (.take 12 (.take 13 (.take 14 (.take 15 (.take 16 (.take 17 (.take 18 (.take 19 (.take 20 (.take 21 (.take 22 (.take 23 (.take 24 (.take 25 (.take 26 (.take 27 (.take 28 (.take 29 (.take 30 (.take 31 (.take 32 (.take 33 (.take 34 (.run 35 (.run 36 (.take 37 .done)))))))))))))))))))))))))))))))))))))) (by kernel_rfl) (by kernel_rfl) ?_)
    intro w7 hs
    have hs0 := hs
    have hR := hO
    replace hO := hO.on hs
    refine At.take rfl (fun w' hs' => RunV.move rfl) rfl ?_
    refine At.take rfl (fun w' hs' => RunV.field ft32_3_3 rfl rfl) rfl ?_
    refine At.take rfl (fun w' hs' => RunV.load ct3 rfl (((hR.at (i := 1) rfl).le hs').cell rfl)) rfl ?_
    refine At.take rfl (fun w' hs' => RunV.eqI rfl rfl) rfl ?_
    refine At.take rfl (fun w' hs' => RunV.eqB rfl rfl un4) rfl ?_
    refine At.take rfl (fun w' hs' => RunV.move rfl) rfl ?_
    refine At.takeG rfl (Guard.t rfl rfl rfl) (fun hc w' hs' => RunV.move rfl) rfl ?_
    refine At.takeG rfl (Guard.t rfl rfl rfl) (fun hc w' hs' => RunV.not (gvE rfl hc)) rfl ?_
    refine At.takeG rfl (Guard.t rfl rfl rfl) (fun hc w' hs' => RunV.move (gvE rfl hc)) rfl ?_
    refine At.takeG rfl (Guard.gf rfl rfl rfl) (fun hc w' hs' => RunV.move rfl) rfl ?_
    refine At.keep (.cons (t := 0) rfl <| .cons (t := 3) rfl <| .cons (t := 5) rfl <| .cons (t := 6) rfl <| .cons (t := 7) rfl <| .cons (t := 52) rfl <| .cons (t := 55) rfl <| .cons (t := 56) rfl <| .nil) ?_
    refine At.takeG rfl (Guard.t rfl rfl rfl) (fun hc w' hs' => RunV.pickOr (gvE rfl hc) (gvE2 rfl hc)) rfl ?_
    refine At.take rfl (fun w' hs' => RunV.pickAnd rfl rfl) rfl ?_
    refine At.take rfl (fun w' hs' => RunV.build pl81 zt81 rfl rfl) rfl ?_
    refine At.take rfl (fun w' hs' => RunV.move rfl) rfl ?_
    refine At.take rfl (fun w' hs' => RunV.move rfl) rfl ?_
    refine At.takeG rfl (Guard.f rfl rfl rfl) (fun hc w' hs' => RunV.field ft32_1_1 rfl rfl) rfl ?_
    refine At.takeG rfl (Guard.f rfl rfl rfl) (fun hc w' hs' => RunV.load ct3 (gvE rfl hc) (((hR.at (i := 1) rfl).le hs').cell rfl)) rfl ?_
    refine At.takeG rfl (Guard.f rfl rfl rfl) (fun hc w' hs' => RunV.move rfl) rfl ?_
    refine At.takeG rfl (Guard.f rfl rfl rfl) (fun hc w' hs' => RunV.nilCheck (gvE rfl hc)) rfl ?_
    refine At.takeG rfl (Guard.f rfl rfl rfl) (fun hc w' hs' => RunV.field ft49_1_1 (gvE rfl hc) rfl) rfl ?_
    refine At.keep (.cons (t := 0) rfl <| .cons (t := 3) rfl <| .cons (t := 5) rfl <| .cons (t := 6) rfl <| .cons (t := 59) rfl <| .cons (t := 61) rfl <| .cons (t := 63) rfl <| .cons (t := 66) rfl <| .nil) ?_
    refine At.takeG rfl (Guard.f rfl rfl rfl) (fun hc w' hs' => RunV.load ct46 (gvE rfl hc) (cell_le (h.book.cell (i := 1) rfl) (hR.le.tr hs'))) rfl ?_
    refine At.takeG rfl (Guard.f rfl rfl rfl) (fun hc w' hs' => RunV.lenSl (gvE rfl hc) isl46) rfl ?_
    refine At.takeG rfl (Guard.f rfl rfl rfl) (fun hc w' hs' => RunV.addI (gvE rfl hc) rfl (wrap_in (by omega) (by omega))) rfl ?_
    refine At.takeG rfl (Guard.f rfl rfl rfl) (fun hc w' hs' => RunV.eqI (gvE rfl hc) (gvE rfl hc)) rfl ?_
    refine At.takeG rfl (Guard.f rfl rfl rfl) (fun hc w' hs' => RunV.move (gvE rfl hc)) rfl ?_
    refine At.takeG rfl (Guard.gt rfl rfl rfl) (fun hc w' hs' => RunV.move rfl) rfl ?_
    refine At.takeG rfl (Guard.gt rfl rfl rfl) (fun hc w' hs' => RunV.field ft32_3_3 rfl rfl) rfl ?_
    refine At.takeG rfl (Guard.gt rfl rfl rfl) (fun hc w' hs' => RunV.load ct3 (gvE rfl hc) (((hR.at (i := 1) rfl).le hs').cell rfl)) rfl ?_
    refine At.takeCallG rfl (Guard.gt rfl rfl rfl) pf35 (fun hc => rfl) (fun hc => (evL2 (gvE rfl hc) (gvE rfl hc))) (fun hc w' hs' => bactO_c oa e.frm hoa hN (h.le (hR.le.tr hs'))) rfl ?_
    refine At.takeCallG rfl (Guard.gt rfl rfl rfl) pf36 (fun hc => rfl) (fun hc => (evL1 (gvE rfl hc))) (fun hc w' hs' => works_c oa _ a kv ku wx _ st ps f _ (hA.le (hR.le.tr hs'))) rfl ?_
    refine At.keep (.cons (t := 0) rfl <| .cons (t := 3) rfl <| .cons (t := 5) rfl <| .cons (t := 6) rfl <| .cons (t := 59) rfl <| .cons (t := 61) rfl <| .cons (t := 71) rfl <| .cons (t := 76) rfl <| .nil) ?_
    refine At.takeG rfl (Guard.f rfl rfl rfl) (fun hc w' hs' => RunV.pickAnd (gvE rfl hc) (gvE2 rfl hc)) rfl ?_
    refine At.take rfl (fun w' hs' => RunV.pickOr rfl rfl) rfl ?_
    refine At.take rfl (fun w' hs' => RunV.build pl81 zt81 rfl rfl) rfl ?_
    refine At.take rfl (fun w' hs' => RunV.move rfl) rfl ?_
    refine At.take rfl (fun w' hs' => RunV.build pl81 zt81 rfl rfl) rfl ?_
    refine At.prun rfl rfl (Step.buildSlice hO st110_81_2 zt81 rfl rfl rfl rfl (fill_full rfl rfl) ?_)
    intro b82 w8 hO hlb82 hnb82
    have hzb82 := Nat.le_trans hs.size hnb82
    refine ⟨hs.tr hlb82, ?_⟩
    replace hs := hs.tr hlb82
    refine At.prunE hO hs rfl rfl pf38 rfl (broken_c _ _ [(1, (decide ((b.actors.length : Int) = 0) == decide (e.frm = 0)) && (!decide ((b.actors.length : Int) = 0) || ((decide (e.actor = 1) && decide (e.frm = 0)) && seq e.name k0.name))), (7, decide ((b.actors.length : Int) = 0) || (decide (e.actor = (b.actors.length : Int) + 1) && worksB oa)), (7, (findKnd b.prog e.name).isSome)] (by simp) _ (hO.at (i := 0) rfl).row) rfl ?_
    intro w9 hO hs
    refine At.take rfl (fun w' hs' => RunV.assign rfl) rfl ?_
    refine At.pdone (At.keep (.cons (t := 0) rfl <| .cons (t := 3) rfl <| .cons (t := 5) rfl <| .cons (t := 9) rfl <| .nil) ?_)
    replace hk := fun hs9 => And.intro (hk hs9).1 (And.intro ((hk hs9).2.1.stays (R' := CasR) (GB.le hs) fun _ _ _ h => h) ((hk hs9).2.2.stays (R' := SttR (GB B0)) (GB.le hs) fun _ _ _ h => h.stays (GB.le hs)))
    refine At.seq ?_
    refine At.seq (At.reg ?_)
    refine At.v (RunV.move rfl) rfl ?_
    refine At.v (RunV.eqI rfl rfl) rfl ?_
    refine At.nil (At.keep (.cons (t := 0) rfl <| .cons (t := 3) rfl <| .cons (t := 5) rfl <| .cons (t := 9) rfl <| .cons (t := 85) rfl <| .nil) ?_)
    refine At.cond rfl (fun hc => ?_) (fun hc => ?_)
    · rw [hrl] at hc ⊢
      have hc0 : brokenR (spawnedRules b e) = 0 := of_decide_eq_true hc
      rw [hc0]
      have hfs : (findKnd b.prog e.name).isSome = true := brokenR_zero (rs := spawnedRules b e) rfl hc0 (7, (findKnd b.prog e.name).isSome) (by simp [spawnedRules])
      obtain ⟨hf, hkc, hks⟩ := hk hfs
      have hsmk := h.small k (List.mem_of_find?_eq_some hf)
      obtain ⟨s0, hs0t⟩ : ∃ s, k.states[0]? = some s := ⟨_, List.getElem?_eq_getElem (by have := hsmk.2.2.1; omega)⟩
      obtain ⟨tb, toff, tcap, hv, hel⟩ : ∃ tb toff tcap, Value.slice up um uc = .slice (some ⟨tb, toff, none⟩) k.states.length tcap ∧ ∀ i x, k.states[i]? = some x → ∃ cs, cs.length = 2 ∧ SttR (GB B0) w9 x cs ∧ Row w9 tb (toff + i * 2) cs ∧ GB B0 w9 tb := by
        rcases hks with ⟨_, _, h0⟩ | ⟨tb, toff, tcap, h1, _, _, h2⟩
        · rw [h0] at hs0t; cases hs0t
        · exact ⟨tb, toff, tcap, h1, h2⟩
      cases hv
      obtain ⟨tcs, _, ⟨tv, rfl, _⟩, htrow, hgood⟩ := hel 0 s0 hs0t
      have hS0 : SpS B0 bb b3 b5 tb toff [.slice (some ⟨pb, poff, none⟩) b.prog.length pcap, .slice sa b.actors.length sc, lv, .int .i64 b.ticks] e.cells (k.cells (.slice kp km kc) (.slice (some ⟨tb, toff, none⟩) k.states.length uc)) s0.name k (.slice kp km kc) (.slice (some ⟨tb, toff, none⟩) k.states.length uc) w9 := ⟨h.book.le hO.le, hO.at (i := 2) rfl, hO.at (i := 1) rfl, htrow.cell (i := 0) rfl, hgood, hkc, hks⟩
      refine At.piS hmix (.take 0 (.take 1 (.take 2 (.take 3 (.take 4 (.take 5 (.take 6 (.take 7 (.take 8 (.take 9 (.take 10 (.take 11 (.take 12 (.take 13 (.take 14 (.take 15 (.run 16 (.run 17 (.run 18 (.take 19 (.take 20 (.free 21 .done)))))))))))))))))))))) (SpS B0 bb b3 b5 tb toff [.slice (some ⟨pb, poff, none⟩) b.prog.length pcap, .slice sa b.actors.length sc, lv, .int .i64 b.ticks] e.cells (k.cells (.slice kp km kc) (.slice (some ⟨tb, toff, none⟩) k.states.length uc)) s0.name k (.slice kp km kc) (.slice (some ⟨tb, toff, none⟩) k.states.length uc)) (by kernel_rfl) (by kernel_rfl) (fun w1 hl => hS0.le hl) ?_
      intro w10 hs9
      have hs := hS0.le hs9
      replace hO := hO.on hs9
      refine At.take rfl (fun w' hs' => RunV.move rfl) rfl ?_
      refine At.take rfl (fun w' hs' => RunV.move rfl) rfl ?_
      refine At.take rfl (fun w' hs' => RunV.nilCheck rfl) rfl ?_
      refine At.take rfl (fun w' hs' => RunV.field ft49_1_1 rfl rfl) rfl ?_
      refine At.take rfl (fun w' hs' => RunV.load ct46 rfl (Blk.cell (i := 1) hs'.1 rfl)) rfl ?_
      refine At.take rfl (fun w' hs' => RunV.field ft32_1_1 rfl rfl) rfl ?_
      refine At.take rfl (fun w' hs' => RunV.load ct3 rfl (Blk.cell (i := 1) hs'.2.1 rfl)) rfl ?_
      refine At.take rfl (fun w' hs' => RunV.field ft32_3_3 rfl rfl) rfl ?_
      refine At.take rfl (fun w' hs' => RunV.load ct3 rfl (Blk.cell (i := 3) hs'.2.1 rfl)) rfl ?_
      refine At.take rfl (fun w' hs' => RunV.loadAgg ag67_5 rfl (hs'.2.2.1.row) rfl) rfl ?_
      refine At.keep (.cons (t := 5) rfl <| .cons (t := 9) rfl <| .cons (t := 86) rfl <| .cons (t := 90) rfl <| .cons (t := 92) rfl <| .cons (t := 94) rfl <| .cons (t := 95) rfl <| .nil) ?_
      refine At.take rfl (fun w' hs' => RunV.field ft67_4_4 rfl rfl) rfl ?_
      refine At.take rfl (fun w' hs' => RunV.load ct64 rfl (Blk.cell (i := 4) hs'.2.2.1 rfl)) rfl ?_
      refine At.take rfl (fun w' hs' => RunV.index st64_63_2 rfl rfl rfl (List.getElem?_eq_some_iff.1 hs0t).1 rfl) rfl ?_
      refine At.take rfl (fun w' hs' => RunV.field ft63_0_0 rfl rfl) rfl ?_
      refine At.take rfl (fun w' hs' => RunV.load ct9 rfl (hs'.2.2.2.1)) rfl ?_
      refine At.take rfl (fun w' hs' => RunV.build pl90 zt90 rfl rfl) rfl ?_
      refine At.prun rfl rfl (Step.box hO rfl rfl ?_)
      intro b102 w11 hO hlb102 hnb102
      refine ⟨hs.le hlb102, ?_⟩
      replace hs := hs.le hlb102
      refine At.prun rfl rfl (Step.buildSlice hO st46_76_1 zt76 rfl rfl rfl rfl (fill_full rfl rfl) ?_)
      intro b103 w12 hO hlb103 hnb103
      refine ⟨hs.le hlb103, ?_⟩
      replace hs := hs.le hlb103
      refine At.prun rfl rfl (Step.append st46_76_1 isl46 el76_1 rfl rfl (h.asl.le hO.le) ⟨_, _, rfl, .inr ⟨b103, 0, rfl, (hO.at (i := 0) rfl).row⟩⟩ rfl rfl (by omega) ?_)
      intro av2 w13 hS2 hM2
      refine ⟨hs.moved hM2 (h.asl.le hO.le) h.losa, ?_⟩
      have hl0 := hO.le
      have hxb := hO.at (i := 1) rfl
      have hx0 := hO.newAt (i := 1) rfl
      have hKs := hs.2.2.2.2.2
      obtain ⟨sa2, sc2, rfl⟩ := hS2.val
      clear hO
      refine At.take rfl (fun w' hs' => RunV.nilCheck rfl) rfl ?_
      refine At.take rfl (fun w' hs' => RunV.field ft49_1_1 rfl rfl) rfl ?_
      refine At.pfree_ rfl (Step.storeX (ds := [.slice sa2 (b.actors.length + 1) sc2]) (hM2.blkT (h.asl.le hl0) (h.book.le hl0) rfl) rfl rfl rfl sz46_1 rfl rfl rfl ?_)
      intro w14 hbut hblk2
      refine ⟨fun _ => True, trivial, ?_⟩
      refine At.pdone (At.keep (.cons (t := 9) rfl <| .nil) ?_)
      refine At.seq (At.reg ?_)
      refine At.v (RunV.move rfl) rfl ?_
      refine At.v (RunV.assign rfl) rfl ?_
      refine At.nil (At.keep (.cons (t := 4) rfl <| .nil) ?_)
      refine At.ret ?_
      refine At.result1 rfl rfl ?_
      have hb1 := h.le hl0
      have e1 : stSpawned b e = (0, { b with actors := b.actors ++ [⟨e.actor, e.frm, k, s0.name, 1, none, e0, e0, false, 0⟩] }) := by
        unfold stSpawned; rw [if_pos hc0, hf]; dsimp only; rw [hs0t]
      have hfin := hb1.addA (a := ⟨e.actor, e.frm, k, s0.name, 1, none, e0, e0, false, 0⟩) ⟨_, _, .pointer none, .slice none 0 0, false, e0, false, hxb, hKs.1, hKs.2, hsmk, rfl, ⟨_, _, _, rfl⟩⟩ (Nat.le_trans h.hB hx0) (fun hy => by
        obtain ⟨i, hi, hx⟩ := List.getElem_of_mem hy
        obtain ⟨_, _, _, _, _, _, _, h9⟩ := h.acts i _ _ (List.getElem?_eq_getElem (by rw [← h.alen]; exact hi)) (List.getElem?_eq_getElem hi)
        have := h9.blk.lt
        rw [hx] at this; omega) hM2 hS2 hbut hblk2
      unfold RuleP
      rw [e1]
      exact ⟨rfl, ⟨((hl0.mono h.hB).trans (hM2.below hb1.losa hb1.hB)).trans (hbut.below h.lo (Nat.le_trans hb1.hB hM2.size)), (Kp.le hl0).trans ((Kp.moved hM2 hb1.asl rfl).trans (Kp.but hbut (hM2.blkT hb1.asl hb1.book rfl) rfl))⟩, _, _, _, _, _, hfin⟩
    · rw [hrl] at hc ⊢
      refine At.skip ?_
      refine At.seq (At.reg ?_)
      refine At.v (RunV.move rfl) rfl ?_
      refine At.v (RunV.assign rfl) rfl ?_
      refine At.nil (At.keep (.cons (t := 4) rfl <| .nil) ?_)
      refine At.ret ?_
      refine At.result1 rfl rfl ?_
      refine RuleP.no (st := stSpawned b e) (n := brokenR (spawnedRules b e)) h hO.le ?_
      unfold stSpawned; rw [if_neg (by simpa using hc)]
  · refine At.prun rfl rfl (Step.alloc hO zt67 ?_)
    intro b5 w15 hO hlb5 hnb5
    have hzb5 := Nat.le_trans hs.size hnb5
    refine ⟨hs.tr hlb5, ?_⟩
    replace hs := hs.tr hlb5
    try (replace hk := fun hs9 => And.intro (hk hs9).1 (And.intro ((hk hs9).2.1.stays (R' := CasR) (GB.le hlb5) fun _ _ _ h => h) ((hk hs9).2.2.stays (R' := SttR (GB B0)) (GB.le hlb5) fun _ _ _ h => h.stays (GB.le hlb5))))
    refine At.prun rfl rfl (Step.call rfl pf41 rfl (find2_c b.prog e.name _ _ ((PrgR.any h.prg).le hO.le) h.small) ?_)
    have hsz := hO.le.size
    intro v w16 hr
    obtain ⟨k, kp, km, kc, up, um, uc, rfl, hl, hk⟩ := hr
    replace hk : (findKnd b.prog e.name).isSome = true → findKnd b.prog e.name = some k ∧ SlOf (GB B0) 2 CasR w16 (.slice kp km kc) k.cases ∧ SlOf (GB B0) 2 (SttR (GB B0)) w16 (.slice up um uc) k.states := fun hs9 => by
      obtain ⟨h1, h2, h3⟩ := hk hs9
      have hg : ∀ bq, GTy _ pK w16 bq → GB B0 w16 bq := fun bq hb => .inr (hb.mono (Nat.le_trans h.hB hsz) fun _ h => h)
      exact ⟨h1, h2.mono hg fun _ _ _ h => h, h3.mono hg fun _ _ _ h => h.mono hg⟩
    replace hO := hO.on hl
    replace hs := hs.tr hl
    refine ⟨hs, ?_⟩
    refine At.take rfl (fun w' hs' => RunV.move rfl) rfl ?_
    refine At.take rfl (fun w' hs' => RunV.extract rfl rfl) rfl ?_
    refine At.take rfl (fun w' hs' => RunV.extract rfl rfl) rfl ?_
    have hb5k := hO.at (i := 0) rfl
    have hb5B : B0 ≤ b5 := Nat.le_trans h.hB (hO.newAt (i := 0) rfl)
    refine At.prun_ rfl (Step.storeAll hO rfl rfl rfl sz67_5 .here rfl rfl ?_)
    intro w17 hO hbut
    have hs := hbut.le hs hzb5
    refine ⟨hs, ?_⟩
    try (replace hk := fun hs9 => And.intro (hk hs9).1 (And.intro ((hk hs9).2.1.stays (R' := CasR) (GB.but hbut hb5B hb5k rfl) fun _ _ _ h => h) ((hk hs9).2.2.stays (R' := SttR (GB B0)) (GB.but hbut hb5B hb5k rfl) fun _ _ _ h => h.stays (GB.but hbut hb5B hb5k rfl))))
    refine At.take rfl (fun w' hs' => RunV.assign rfl) rfl ?_
    refine At.pdone (At.keep (.cons (t := 0) rfl <| .cons (t := 3) rfl <| .cons (t := 5) rfl <| .cons (t := 6) rfl <| .nil) ?_)
    refine At.seq (At.reg ?_)
    refine At.v (RunV.move rfl) rfl ?_
    refine At.v (RunV.nilCheck rfl) rfl ?_
    refine At.v (RunV.field ft49_1_1 rfl rfl) rfl ?_
    refine At.v (RunV.load ct46 rfl (cell_le (h.book.cell (i := 1) rfl) hO.le)) rfl ?_
    refine At.v (RunV.lenSl rfl isl46) rfl ?_
    refine At.v (RunV.eqI rfl rfl) rfl ?_
    refine At.v (RunV.assign rfl) rfl ?_
    refine At.nil (At.keep (.cons (t := 0) rfl <| .cons (t := 3) rfl <| .cons (t := 5) rfl <| .cons (t := 6) rfl <| .cons (t := 7) rfl <| .nil) ?_)
    refine At.seq (At.pi hmix (.take 0 (.take 1 (.take 2 (.take 3 (.take 4 (.take 5 (.take 6 (.take 7 (.take 8 (.take 9 (.take 10 (.take 11 (.take 12 (.take 13 (.take 14 (.take 15 (.take 16 (.take 17 (.take 18 (.take 19 (.take 20 (.take 21 .done)))))))))))))))))))))) (by kernel_rfl) (by kernel_rfl) ?_)
    intro w18 hs
    have hs0 := hs
    have hR := hO
    replace hO := hO.on hs
    refine At.take rfl (fun w' hs' => RunV.field ft32_1_1 rfl rfl) rfl ?_
    refine At.take rfl (fun w' hs' => RunV.load ct3 rfl (((hR.at (i := 1) rfl).le hs').cell rfl)) rfl ?_
    refine At.take rfl (fun w' hs' => RunV.eqI rfl rfl) rfl ?_
    refine At.take rfl (fun w' hs' => RunV.move rfl) rfl ?_
    refine At.takeG rfl (Guard.t rfl rfl rfl) (fun hc w' hs' => RunV.field ft32_3_3 rfl rfl) rfl ?_
    refine At.takeG rfl (Guard.t rfl rfl rfl) (fun hc w' hs' => RunV.load ct3 (gvE rfl hc) (((hR.at (i := 1) rfl).le hs').cell rfl)) rfl ?_
    refine At.takeG rfl (Guard.t rfl rfl rfl) (fun hc w' hs' => RunV.eqI (gvE rfl hc) rfl) rfl ?_
    refine At.take rfl (fun w' hs' => RunV.pickAnd rfl rfl) rfl ?_
    refine At.take rfl (fun w' hs' => RunV.move rfl) rfl ?_
    refine At.takeG rfl (Guard.t rfl rfl rfl) (fun hc w' hs' => RunV.field ft32_5_5 rfl rfl) rfl ?_
    refine At.keep (.cons (t := 0) rfl <| .cons (t := 3) rfl <| .cons (t := 5) rfl <| .cons (t := 6) rfl <| .cons (t := 7) rfl <| .cons (t := 34) rfl <| .cons (t := 35) rfl <| .nil) ?_
    refine At.takeG rfl (Guard.t rfl rfl rfl) (fun hc w' hs' => RunV.load ct9 (gvE rfl hc) (((hR.at (i := 1) rfl).le hs').cell rfl)) rfl ?_
    refine At.takeG rfl (Guard.t rfl rfl rfl) (fun hc w' hs' => RunV.move rfl) rfl ?_
    refine At.takeG rfl (Guard.t rfl rfl rfl) (fun hc w' hs' => RunV.nilCheck (gvE rfl hc)) rfl ?_
    refine At.takeG rfl (Guard.t rfl rfl rfl) (fun hc w' hs' => RunV.field ft49_0_0 (gvE rfl hc) rfl) rfl ?_
    refine At.takeG rfl (Guard.t rfl rfl rfl) (fun hc w' hs' => RunV.field ft24_0_0 (gvE rfl hc) rfl) rfl ?_
    refine At.takeG rfl (Guard.t rfl rfl rfl) (fun hc w' hs' => RunV.load ct22 (gvE rfl hc) (cell_le (h.book.cell (i := 0) rfl) (hR.le.tr hs'))) rfl ?_
    refine At.takeG rfl (Guard.t rfl rfl rfl) (fun hc w' hs' => RunV.index st22_67_5 (gvE rfl hc) rfl rfl (List.getElem?_eq_some_iff.1 hk0).1 rfl) rfl ?_
    refine At.takeG rfl (Guard.t rfl rfl rfl) (fun hc w' hs' => RunV.field ft67_0_0 (gvE rfl hc) rfl) rfl ?_
    refine At.takeG rfl (Guard.t rfl rfl rfl) (fun hc w' hs' => RunV.load ct9 (gvE rfl hc) (cell_le (hprow.cell (i := 0) rfl) (hR.le.tr hs'))) rfl ?_
    refine At.takeG rfl (Guard.t rfl rfl rfl) (fun hc w' hs' => RunV.eqS (gvE rfl hc) (gvE rfl hc)) rfl ?_
    refine At.take rfl (fun w' hs' => RunV.pickAnd rfl rfl) rfl ?_
    refine At.take rfl (fun w' hs' => RunV.assign rfl) rfl ?_
    refine At.pdone (At.keep (.cons (t := 0) rfl <| .cons (t := 3) rfl <| .cons (t := 5) rfl <| .cons (t := 6) rfl <| .cons (t := 7) rfl <| .cons (t := 8) rfl <| .nil) ?_)
    replace hk := fun hs9 => And.intro (hk hs9).1 (And.intro ((hk hs9).2.1.stays (R' := CasR) (GB.le hs) fun _ _ _ h => h) ((hk hs9).2.2.stays (R' := SttR (GB B0)) (GB.le hs) fun _ _ _ h => h.stays (GB.le hs)))
    refine At.seq (At.pi hmix (.take 0 (.take 1 (.take 2 (.take 3 (.take 4 (.take 5 (.take 6 (.take 7 (.take 8 (.take 9 (.take 10 (.take 11 (.take 12 (.take 13 (.take 14 (.take 15 (.take 16 (.take 17 (.take 18 (.take 19 (.take 20 (.take 21 (.take 22 (.take 23 (.take 24 (.take 25 (.take 26 (.take 27 (.take 28 (.take 29 (.take 30 (.take 31 (.take 32 (.take 33 (.take 34 (.run 35 (.run 36 (.take 37 .done)))))))))))))))))))))))))))))))))))))) (by kernel_rfl) (by kernel_rfl) ?_)
    intro w19 hs
    have hs0 := hs
    have hR := hO
    replace hO := hO.on hs
    refine At.take rfl (fun w' hs' => RunV.move rfl) rfl ?_
    refine At.take rfl (fun w' hs' => RunV.field ft32_3_3 rfl rfl) rfl ?_
    refine At.take rfl (fun w' hs' => RunV.load ct3 rfl (((hR.at (i := 1) rfl).le hs').cell rfl)) rfl ?_
    refine At.take rfl (fun w' hs' => RunV.eqI rfl rfl) rfl ?_
    refine At.take rfl (fun w' hs' => RunV.eqB rfl rfl un4) rfl ?_
    refine At.take rfl (fun w' hs' => RunV.move rfl) rfl ?_
    refine At.takeG rfl (Guard.t rfl rfl rfl) (fun hc w' hs' => RunV.move rfl) rfl ?_
    refine At.takeG rfl (Guard.t rfl rfl rfl) (fun hc w' hs' => RunV.not (gvE rfl hc)) rfl ?_
    refine At.takeG rfl (Guard.t rfl rfl rfl) (fun hc w' hs' => RunV.move (gvE rfl hc)) rfl ?_
    refine At.takeG rfl (Guard.gf rfl rfl rfl) (fun hc w' hs' => RunV.move rfl) rfl ?_
    refine At.keep (.cons (t := 0) rfl <| .cons (t := 3) rfl <| .cons (t := 5) rfl <| .cons (t := 6) rfl <| .cons (t := 7) rfl <| .cons (t := 52) rfl <| .cons (t := 55) rfl <| .cons (t := 56) rfl <| .nil) ?_
    refine At.takeG rfl (Guard.t rfl rfl rfl) (fun hc w' hs' => RunV.pickOr (gvE rfl hc) (gvE2 rfl hc)) rfl ?_
    refine At.take rfl (fun w' hs' => RunV.pickAnd rfl rfl) rfl ?_
    refine At.take rfl (fun w' hs' => RunV.build pl81 zt81 rfl rfl) rfl ?_
    refine At.take rfl (fun w' hs' => RunV.move rfl) rfl ?_
    refine At.take rfl (fun w' hs' => RunV.move rfl) rfl ?_
    refine At.takeG rfl (Guard.f rfl rfl rfl) (fun hc w' hs' => RunV.field ft32_1_1 rfl rfl) rfl ?_
    refine At.takeG rfl (Guard.f rfl rfl rfl) (fun hc w' hs' => RunV.load ct3 (gvE rfl hc) (((hR.at (i := 1) rfl).le hs').cell rfl)) rfl ?_
    refine At.takeG rfl (Guard.f rfl rfl rfl) (fun hc w' hs' => RunV.move rfl) rfl ?_
    refine At.takeG rfl (Guard.f rfl rfl rfl) (fun hc w' hs' => RunV.nilCheck (gvE rfl hc)) rfl ?_
    refine At.takeG rfl (Guard.f rfl rfl rfl) (fun hc w' hs' => RunV.field ft49_1_1 (gvE rfl hc) rfl) rfl ?_
    refine At.keep (.cons (t := 0) rfl <| .cons (t := 3) rfl <| .cons (t := 5) rfl <| .cons (t := 6) rfl <| .cons (t := 59) rfl <| .cons (t := 61) rfl <| .cons (t := 63) rfl <| .cons (t := 66) rfl <| .nil) ?_
    refine At.takeG rfl (Guard.f rfl rfl rfl) (fun hc w' hs' => RunV.load ct46 (gvE rfl hc) (cell_le (h.book.cell (i := 1) rfl) (hR.le.tr hs'))) rfl ?_
    refine At.takeG rfl (Guard.f rfl rfl rfl) (fun hc w' hs' => RunV.lenSl (gvE rfl hc) isl46) rfl ?_
    refine At.takeG rfl (Guard.f rfl rfl rfl) (fun hc w' hs' => RunV.addI (gvE rfl hc) rfl (wrap_in (by omega) (by omega))) rfl ?_
    refine At.takeG rfl (Guard.f rfl rfl rfl) (fun hc w' hs' => RunV.eqI (gvE rfl hc) (gvE rfl hc)) rfl ?_
    refine At.takeG rfl (Guard.f rfl rfl rfl) (fun hc w' hs' => RunV.move (gvE rfl hc)) rfl ?_
    refine At.takeG rfl (Guard.gt rfl rfl rfl) (fun hc w' hs' => RunV.move rfl) rfl ?_
    refine At.takeG rfl (Guard.gt rfl rfl rfl) (fun hc w' hs' => RunV.field ft32_3_3 rfl rfl) rfl ?_
    refine At.takeG rfl (Guard.gt rfl rfl rfl) (fun hc w' hs' => RunV.load ct3 (gvE rfl hc) (((hR.at (i := 1) rfl).le hs').cell rfl)) rfl ?_
    refine At.takeCallG rfl (Guard.gt rfl rfl rfl) pf35 (fun hc => rfl) (fun hc => (evL2 (gvE rfl hc) (gvE rfl hc))) (fun hc w' hs' => bactO_c oa e.frm hoa hN (h.le (hR.le.tr hs'))) rfl ?_
    refine At.takeCallG rfl (Guard.gt rfl rfl rfl) pf36 (fun hc => rfl) (fun hc => (evL1 (gvE rfl hc))) (fun hc w' hs' => works_c oa _ a kv ku wx _ st ps f _ (hA.le (hR.le.tr hs'))) rfl ?_
    refine At.keep (.cons (t := 0) rfl <| .cons (t := 3) rfl <| .cons (t := 5) rfl <| .cons (t := 6) rfl <| .cons (t := 59) rfl <| .cons (t := 61) rfl <| .cons (t := 71) rfl <| .cons (t := 76) rfl <| .nil) ?_
    refine At.takeG rfl (Guard.f rfl rfl rfl) (fun hc w' hs' => RunV.pickAnd (gvE rfl hc) (gvE2 rfl hc)) rfl ?_
    refine At.take rfl (fun w' hs' => RunV.pickOr rfl rfl) rfl ?_
    refine At.take rfl (fun w' hs' => RunV.build pl81 zt81 rfl rfl) rfl ?_
    refine At.take rfl (fun w' hs' => RunV.move rfl) rfl ?_
    refine At.take rfl (fun w' hs' => RunV.build pl81 zt81 rfl rfl) rfl ?_
    refine At.prun rfl rfl (Step.buildSlice hO st110_81_2 zt81 rfl rfl rfl rfl (fill_full rfl rfl) ?_)
    intro b82 w20 hO hlb82 hnb82
    have hzb82 := Nat.le_trans hs.size hnb82
    refine ⟨hs.tr hlb82, ?_⟩
    replace hs := hs.tr hlb82
    refine At.prunE hO hs rfl rfl pf38 rfl (broken_c _ _ [(1, (decide ((b.actors.length : Int) = 0) == decide (e.frm = 0)) && (!decide ((b.actors.length : Int) = 0) || ((decide (e.actor = 1) && decide (e.frm = 0)) && seq e.name k0.name))), (7, decide ((b.actors.length : Int) = 0) || (decide (e.actor = (b.actors.length : Int) + 1) && worksB oa)), (7, (findKnd b.prog e.name).isSome)] (by simp) _ (hO.at (i := 0) rfl).row) rfl ?_
    intro w21 hO hs
    refine At.take rfl (fun w' hs' => RunV.assign rfl) rfl ?_
    refine At.pdone (At.keep (.cons (t := 0) rfl <| .cons (t := 3) rfl <| .cons (t := 5) rfl <| .cons (t := 9) rfl <| .nil) ?_)
    replace hk := fun hs9 => And.intro (hk hs9).1 (And.intro ((hk hs9).2.1.stays (R' := CasR) (GB.le hs) fun _ _ _ h => h) ((hk hs9).2.2.stays (R' := SttR (GB B0)) (GB.le hs) fun _ _ _ h => h.stays (GB.le hs)))
    refine At.seq ?_
    refine At.seq (At.reg ?_)
    refine At.v (RunV.move rfl) rfl ?_
    refine At.v (RunV.eqI rfl rfl) rfl ?_
    refine At.nil (At.keep (.cons (t := 0) rfl <| .cons (t := 3) rfl <| .cons (t := 5) rfl <| .cons (t := 9) rfl <| .cons (t := 85) rfl <| .nil) ?_)
    refine At.cond rfl (fun hc => ?_) (fun hc => ?_)
    · rw [hrl] at hc ⊢
      have hc0 : brokenR (spawnedRules b e) = 0 := of_decide_eq_true hc
      rw [hc0]
      have hfs : (findKnd b.prog e.name).isSome = true := brokenR_zero (rs := spawnedRules b e) rfl hc0 (7, (findKnd b.prog e.name).isSome) (by simp [spawnedRules])
      obtain ⟨hf, hkc, hks⟩ := hk hfs
      have hsmk := h.small k (List.mem_of_find?_eq_some hf)
      obtain ⟨s0, hs0t⟩ : ∃ s, k.states[0]? = some s := ⟨_, List.getElem?_eq_getElem (by have := hsmk.2.2.1; omega)⟩
      obtain ⟨tb, toff, tcap, hv, hel⟩ : ∃ tb toff tcap, Value.slice up um uc = .slice (some ⟨tb, toff, none⟩) k.states.length tcap ∧ ∀ i x, k.states[i]? = some x → ∃ cs, cs.length = 2 ∧ SttR (GB B0) w21 x cs ∧ Row w21 tb (toff + i * 2) cs ∧ GB B0 w21 tb := by
        rcases hks with ⟨_, _, h0⟩ | ⟨tb, toff, tcap, h1, _, _, h2⟩
        · rw [h0] at hs0t; cases hs0t
        · exact ⟨tb, toff, tcap, h1, h2⟩
      cases hv
      obtain ⟨tcs, _, ⟨tv, rfl, _⟩, htrow, hgood⟩ := hel 0 s0 hs0t
      have hS0 : SpS B0 bb b3 b5 tb toff [.slice (some ⟨pb, poff, none⟩) b.prog.length pcap, .slice sa b.actors.length sc, lv, .int .i64 b.ticks] e.cells (k.cells (.slice kp km kc) (.slice (some ⟨tb, toff, none⟩) k.states.length uc)) s0.name k (.slice kp km kc) (.slice (some ⟨tb, toff, none⟩) k.states.length uc) w21 := ⟨h.book.le hO.le, hO.at (i := 2) rfl, hO.at (i := 1) rfl, htrow.cell (i := 0) rfl, hgood, hkc, hks⟩
      refine At.piS hmix (.take 0 (.take 1 (.take 2 (.take 3 (.take 4 (.take 5 (.take 6 (.take 7 (.take 8 (.take 9 (.take 10 (.take 11 (.take 12 (.take 13 (.take 14 (.take 15 (.run 16 (.run 17 (.run 18 (.take 19 (.take 20 (.free 21 .done)))))))))))))))))))))) (SpS B0 bb b3 b5 tb toff [.slice (some ⟨pb, poff, none⟩) b.prog.length pcap, .slice sa b.actors.length sc, lv, .int .i64 b.ticks] e.cells (k.cells (.slice kp km kc) (.slice (some ⟨tb, toff, none⟩) k.states.length uc)) s0.name k (.slice kp km kc) (.slice (some ⟨tb, toff, none⟩) k.states.length uc)) (by kernel_rfl) (by kernel_rfl) (fun w1 hl => hS0.le hl) ?_
      intro w22 hs9
      have hs := hS0.le hs9
      replace hO := hO.on hs9
      refine At.take rfl (fun w' hs' => RunV.move rfl) rfl ?_
      refine At.take rfl (fun w' hs' => RunV.move rfl) rfl ?_
      refine At.take rfl (fun w' hs' => RunV.nilCheck rfl) rfl ?_
      refine At.take rfl (fun w' hs' => RunV.field ft49_1_1 rfl rfl) rfl ?_
      refine At.take rfl (fun w' hs' => RunV.load ct46 rfl (Blk.cell (i := 1) hs'.1 rfl)) rfl ?_
      refine At.take rfl (fun w' hs' => RunV.field ft32_1_1 rfl rfl) rfl ?_
      refine At.take rfl (fun w' hs' => RunV.load ct3 rfl (Blk.cell (i := 1) hs'.2.1 rfl)) rfl ?_
      refine At.take rfl (fun w' hs' => RunV.field ft32_3_3 rfl rfl) rfl ?_
      refine At.take rfl (fun w' hs' => RunV.load ct3 rfl (Blk.cell (i := 3) hs'.2.1 rfl)) rfl ?_
      refine At.take rfl (fun w' hs' => RunV.loadAgg ag67_5 rfl (hs'.2.2.1.row) rfl) rfl ?_
      refine At.keep (.cons (t := 5) rfl <| .cons (t := 9) rfl <| .cons (t := 86) rfl <| .cons (t := 90) rfl <| .cons (t := 92) rfl <| .cons (t := 94) rfl <| .cons (t := 95) rfl <| .nil) ?_
      refine At.take rfl (fun w' hs' => RunV.field ft67_4_4 rfl rfl) rfl ?_
      refine At.take rfl (fun w' hs' => RunV.load ct64 rfl (Blk.cell (i := 4) hs'.2.2.1 rfl)) rfl ?_
      refine At.take rfl (fun w' hs' => RunV.index st64_63_2 rfl rfl rfl (List.getElem?_eq_some_iff.1 hs0t).1 rfl) rfl ?_
      refine At.take rfl (fun w' hs' => RunV.field ft63_0_0 rfl rfl) rfl ?_
      refine At.take rfl (fun w' hs' => RunV.load ct9 rfl (hs'.2.2.2.1)) rfl ?_
      refine At.take rfl (fun w' hs' => RunV.build pl90 zt90 rfl rfl) rfl ?_
      refine At.prun rfl rfl (Step.box hO rfl rfl ?_)
      intro b102 w23 hO hlb102 hnb102
      refine ⟨hs.le hlb102, ?_⟩
      replace hs := hs.le hlb102
      refine At.prun rfl rfl (Step.buildSlice hO st46_76_1 zt76 rfl rfl rfl rfl (fill_full rfl rfl) ?_)
      intro b103 w24 hO hlb103 hnb103
      refine ⟨hs.le hlb103, ?_⟩
      replace hs := hs.le hlb103
      refine At.prun rfl rfl (Step.append st46_76_1 isl46 el76_1 rfl rfl (h.asl.le hO.le) ⟨_, _, rfl, .inr ⟨b103, 0, rfl, (hO.at (i := 0) rfl).row⟩⟩ rfl rfl (by omega) ?_)
      intro av2 w25 hS2 hM2
      refine ⟨hs.moved hM2 (h.asl.le hO.le) h.losa, ?_⟩
      have hl0 := hO.le
      have hxb := hO.at (i := 1) rfl
      have hx0 := hO.newAt (i := 1) rfl
      have hKs := hs.2.2.2.2.2
      obtain ⟨sa2, sc2, rfl⟩ := hS2.val
      clear hO
      refine At.take rfl (fun w' hs' => RunV.nilCheck rfl) rfl ?_
      refine At.take rfl (fun w' hs' => RunV.field ft49_1_1 rfl rfl) rfl ?_
      refine At.pfree_ rfl (Step.storeX (ds := [.slice sa2 (b.actors.length + 1) sc2]) (hM2.blkT (h.asl.le hl0) (h.book.le hl0) rfl) rfl rfl rfl sz46_1 rfl rfl rfl ?_)
      intro w26 hbut hblk2
      refine ⟨fun _ => True, trivial, ?_⟩
      refine At.pdone (At.keep (.cons (t := 9) rfl <| .nil) ?_)
      refine At.seq (At.reg ?_)
      refine At.v (RunV.move rfl) rfl ?_
      refine At.v (RunV.assign rfl) rfl ?_
      refine At.nil (At.keep (.cons (t := 4) rfl <| .nil) ?_)
      refine At.ret ?_
      refine At.result1 rfl rfl ?_
      have hb1 := h.le hl0
      have e1 : stSpawned b e = (0, { b with actors := b.actors ++ [⟨e.actor, e.frm, k, s0.name, 1, none, e0, e0, false, 0⟩] }) := by
        unfold stSpawned; rw [if_pos hc0, hf]; dsimp only; rw [hs0t]
      have hfin := hb1.addA (a := ⟨e.actor, e.frm, k, s0.name, 1, none, e0, e0, false, 0⟩) ⟨_, _, .pointer none, .slice none 0 0, false, e0, false, hxb, hKs.1, hKs.2, hsmk, rfl, ⟨_, _, _, rfl⟩⟩ (Nat.le_trans h.hB hx0) (fun hy => by
        obtain ⟨i, hi, hx⟩ := List.getElem_of_mem hy
        obtain ⟨_, _, _, _, _, _, _, h9⟩ := h.acts i _ _ (List.getElem?_eq_getElem (by rw [← h.alen]; exact hi)) (List.getElem?_eq_getElem hi)
        have := h9.blk.lt
        rw [hx] at this; omega) hM2 hS2 hbut hblk2
      unfold RuleP
      rw [e1]
      exact ⟨rfl, ⟨((hl0.mono h.hB).trans (hM2.below hb1.losa hb1.hB)).trans (hbut.below h.lo (Nat.le_trans hb1.hB hM2.size)), (Kp.le hl0).trans ((Kp.moved hM2 hb1.asl rfl).trans (Kp.but hbut (hM2.blkT hb1.asl hb1.book rfl) rfl))⟩, _, _, _, _, _, hfin⟩
    · rw [hrl] at hc ⊢
      refine At.skip ?_
      refine At.seq (At.reg ?_)
      refine At.v (RunV.move rfl) rfl ?_
      refine At.v (RunV.assign rfl) rfl ?_
      refine At.nil (At.keep (.cons (t := 4) rfl <| .nil) ?_)
      refine At.ret ?_
      refine At.result1 rfl rfl ?_
      refine RuleP.no (st := stSpawned b e) (n := brokenR (spawnedRules b e)) h hO.le ?_
      unfold stSpawned; rw [if_neg (by simpa using hc)]

end Go.Proofs.Ytglilmcfhkedbaa
