/- The walks of the book's look-ups; no condition. -/
import Derived.Test.YtglilmcfhkedbaaBr
namespace Go.Proofs.Ytglilmcfhkedbaa
open Go Go.RowKit

theorem ct46 : cellT Try.prog 46 = true := by kernel_rfl
theorem ct47 : cellT Try.prog 47 = true := by kernel_rfl
theorem ct82 : cellT Try.prog 82 = true := by kernel_rfl
theorem ft49_1_1 : fieldT Try.prog 49 1 1 = true := by kernel_rfl
theorem ft49_2_2 : fieldT Try.prog 49 2 2 = true := by kernel_rfl
theorem isl47 : islT Try.prog 47 = true := by kernel_rfl
theorem pf35 : plainFn Try.prog 35 = true := by kernel_rfl
theorem pf36 : plainFn Try.prog 36 = true := by kernel_rfl
theorem pf37 : plainFn Try.prog 37 = true := by kernel_rfl
theorem pf39 : plainFn Try.prog 39 = true := by kernel_rfl
theorem pf43 : plainFn Try.prog 43 = true := by kernel_rfl
theorem pf55 : plainFn Try.prog 55 = true := by kernel_rfl
theorem pf63 : plainFn Try.prog 63 = true := by kernel_rfl
theorem pf64 : plainFn Try.prog 64 = true := by kernel_rfl
theorem st47_82_1 : sliceT Try.prog 47 82 1 = true := by kernel_rfl
theorem un30 : Try.prog.underlying 30 = some (.int .u64) := by kernel_rfl

def ptrO {α : Type} (o : Option α) (x : Nat) : Option Addr := if o.isSome then some ⟨x, 0, none⟩ else none
theorem ptrO_isSome {α : Type} (o : Option α) (x : Nat) : (ptrO o x).isSome = o.isSome := by cases o <;> rfl
theorem ptrO_some {α : Type} {o : Option α} (h : o.isSome = true) (x : Nat) : ptrO o x = some ⟨x, 0, none⟩ := by unfold ptrO; rw [h]; rfl
theorem RunV.nilCheckO {α : Type} {P : Program} {n : Nat} {L : Env} {w : World} {dst : Option Tmp} {ty : TypeId} {pos : String} {after : Array Edge} {gd : Option (Nat × Bool)} {y : Operand} {o : Option α} {x : Nat} (hc : L.ev y = some (.pointer (ptrO o x))) (h : o.isSome = true) :
    RunV P n L ⟨dst, .nilCheck y, ty, pos, after, gd⟩ w (.pointer (some ⟨x, 0, none⟩)) := RunV.nilCheck (by rw [hc, ptrO_some h])
def axOf (ab : List Nat) (id : Int) : Nat := ((atI ab.length id).bind (ab[·]?)).getD 0
theorem Sl.get {w : World} {v u : Value} {E n i : Nat} {xs : List Value} (h : Sl w v E 1 n xs) (hu : xs[i]? = some u) : ∃ b cap, v = .slice (some ⟨b, 0, none⟩) n cap ∧ i < n ∧ w.cell? ⟨b, 0 + i * 1, none⟩ = some u := by
  have hl := h.length
  have hi := (List.getElem?_eq_some_iff.1 hu).1
  rcases h with ⟨_, _, h⟩ | ⟨b, cap, cs, h1, h2, h3, h4, h5⟩
  · rw [h] at hi; exact absurd hi (Nat.not_lt_zero _)
  · refine ⟨b, cap, h1, by omega, ?_⟩
    rw [Nat.zero_add, Nat.mul_one]
    refine h2.cell ?_
    rw [← h5, List.getElem?_take] at hu
    split at hu
    · exact hu
    · cases hu
theorem atI_in {n : Nat} {id : Int} (h1 : 1 ≤ id) (h2 : id ≤ n) : atI n id = some (id.toNat - 1) := by
  unfold atI; rw [if_neg (by omega), if_neg (by omega)]
theorem atI_out {n : Nat} {id : Int} (h : id < 1 ∨ (n : Int) < id) : atI n id = none := by
  unfold atI; rcases h with h | h
  · rw [if_pos h]
  · rw [if_pos h]; split <;> rfl
theorem atI_some {n i : Nat} {id : Int} (h : atI n id = some i) : 1 ≤ id ∧ id ≤ n ∧ i = id.toNat - 1 := by
  unfold atI at h
  split at h
  · cases h
  · split at h
    · cases h
    · cases h; omega
section
variable {B0 N : Nat} {w : World} {bb : Nat} {b : Bk} {pv av lv : Value} {ab lb : List Nat} {id : Int}
theorem BR.act (h : BR B0 N w bb b pv av lv ab lb) {a : Actr} (ha : b.act id = some a) : 1 ≤ id ∧ id ≤ b.actors.length ∧ b.actors[id.toNat - 1]? = some a ∧ ab[id.toNat - 1]? = some (axOf ab id) ∧ ActE B0 w lb a (axOf ab id) := by
  unfold Bk.act at ha
  cases h1 : atI b.actors.length id with
  | none => rw [h1] at ha; cases ha
  | some i =>
    rw [h1, Option.bind_some] at ha
    obtain ⟨h2, h3, rfl⟩ := atI_some h1
    have h4 : id.toNat - 1 < ab.length := by rw [h.alen]; exact (List.getElem?_eq_some_iff.1 ha).1
    have h5 : ab[id.toNat - 1]? = some (axOf ab id) := by
      unfold axOf
      rw [h.alen, h1, Option.bind_some, List.getElem?_eq_getElem h4]; rfl
    exact ⟨h2, h3, ha, h5, h.acts _ _ _ ha h5⟩
theorem BR.ltr (h : BR B0 N w bb b pv av lv ab lb) {l : Ltr} (hl : b.ltr id = some l) : 1 ≤ id ∧ id ≤ b.letters.length ∧ b.letters[id.toNat - 1]? = some l ∧ lb[id.toNat - 1]? = some (axOf lb id) ∧ Blk w (axOf lb id) l.cells 84 := by
  unfold Bk.ltr at hl
  cases h1 : atI b.letters.length id with
  | none => rw [h1] at hl; cases hl
  | some i =>
    rw [h1, Option.bind_some] at hl
    obtain ⟨h2, h3, rfl⟩ := atI_some h1
    have h4 : id.toNat - 1 < lb.length := by rw [h.llen]; exact (List.getElem?_eq_some_iff.1 hl).1
    have h5 : lb[id.toNat - 1]? = some (axOf lb id) := by
      unfold axOf
      rw [h.llen, h1, Option.bind_some, List.getElem?_eq_getElem h4]; rfl
    exact ⟨h2, h3, hl, h5, h.ltrs _ _ _ hl h5⟩
end

theorem bact_c (B0 N bb : Nat) (b : Bk) (pv av lv : Value) (ab lb : List Nat) (id : Int) (w : World) (hN : N ≤ 100000) (h : BR B0 N w bb b pv av lv ab lb) :
    Ret Try.prog 35 [.pointer (some ⟨bb, 0, none⟩), .int .i64 id] w fun v w' => v = .pointer (ptrO (b.act id) (axOf ab id)) ∧ w' = w := by
  refine Ret.enter Try.func35 rfl Try.ntmps35 rfl rfl ?_
  have hO := Own.start w
  have hna := h.na
  have hnl := h.nl
  obtain ⟨sa, sc, rfl⟩ := h.asl.val
  refine At.seq (At.reg ?_)
  refine At.v (RunV.assign rfl) rfl ?_
  refine At.nil (At.keep (.cons (t := 0) rfl <| .cons (t := 1) rfl <| .nil) ?_)
  refine At.seq ?_
  refine At.seq (At.reg ?_)
  refine At.v (RunV.move rfl) rfl ?_
  refine At.v (RunV.ltI rfl rfl) rfl ?_
  refine At.v (RunV.move rfl) rfl ?_
  refine At.g (Guard.f rfl rfl rfl) (fun hc => RunV.move rfl) rfl ?_
  refine At.g (Guard.f rfl rfl rfl) (fun hc => RunV.move rfl) rfl ?_
  refine At.g (Guard.f rfl rfl rfl) (fun hc => RunV.nilCheck (gvE rfl hc)) rfl ?_
  refine At.g (Guard.f rfl rfl rfl) (fun hc => RunV.field ft49_1_1 (gvE rfl hc) rfl) rfl ?_
  refine At.g (Guard.f rfl rfl rfl) (fun hc => RunV.load ct46 (gvE rfl hc) (cell_le (h.book.cell (i := 1) rfl) hO.le)) rfl ?_
  refine At.g (Guard.f rfl rfl rfl) (fun hc => RunV.lenSl (gvE rfl hc) isl46) rfl ?_
  refine At.g (Guard.f rfl rfl rfl) (fun hc => RunV.gtI (gvE rfl hc) (gvE rfl hc)) rfl ?_
  refine At.v (RunV.pickOr rfl rfl) rfl ?_
  refine At.nil (At.keep (.cons (t := 0) rfl <| .cons (t := 1) rfl <| .cons (t := 15) rfl <| .nil) ?_)
  refine At.cond rfl (fun h1 => ?_) (fun h1 => ?_)
  · have hnone : b.act id = none := by
      unfold Bk.act
      rw [atI_out (by simpa using h1)]; rfl
    refine At.seq (At.reg ?_)
    refine At.v (RunV.assign rfl) rfl ?_
    refine At.nil (At.keep (.cons (t := 4) rfl <| .nil) ?_)
    refine At.ret ?_
    refine At.result1 rfl rfl ?_
    rw [hnone]; exact ⟨rfl, rfl⟩
  · have hid : 1 ≤ id ∧ id ≤ (b.actors.length : Int) := by simp at h1; omega
    obtain ⟨z, hz⟩ : ∃ z, b.act id = some z := by
      unfold Bk.act
      rw [atI_in hid.1 hid.2]
      exact ⟨_, List.getElem?_eq_getElem (by omega)⟩
    obtain ⟨_, _, _, hx, _⟩ := h.act hz
    obtain ⟨sb, scap, hv, hlt, hcell⟩ := h.asl.get (i := id.toNat - 1) (u := ptrV (axOf ab id)) (by rw [List.getElem?_map, hx]; rfl)
    cases hv
    refine At.skip ?_
    refine At.seq (At.reg ?_)
    refine At.v (RunV.move rfl) rfl ?_
    refine At.v (RunV.nilCheck rfl) rfl ?_
    refine At.v (RunV.field ft49_1_1 rfl rfl) rfl ?_
    refine At.v (RunV.load ct46 rfl (cell_le (h.book.cell (i := 1) rfl) hO.le)) rfl ?_
    refine At.v (RunV.move rfl) rfl ?_
    refine At.v (RunV.subI rfl rfl (wrap_in (by omega) (by omega))) rfl ?_
    refine At.v (RunV.index st46_76_1 rfl rfl (show id - 1 = (((id.toNat - 1 : Nat)) : Int) by omega) hlt rfl) rfl ?_
    refine At.v (RunV.load ct76 rfl (cell_le hcell hO.le)) rfl ?_
    refine At.v (RunV.assign rfl) rfl ?_
    refine At.nil (At.keep (.cons (t := 4) rfl <| .nil) ?_)
    refine At.ret ?_
    refine At.result1 rfl rfl ?_
    rw [hz]; exact ⟨rfl, rfl⟩

theorem bltr_c (B0 N bb : Nat) (b : Bk) (pv av lv : Value) (ab lb : List Nat) (id : Int) (w : World) (hN : N ≤ 100000) (h : BR B0 N w bb b pv av lv ab lb) :
    Ret Try.prog 39 [.pointer (some ⟨bb, 0, none⟩), .int .u64 id] w fun v w' => v = .pointer (ptrO (b.ltr id) (axOf lb id)) ∧ w' = w := by
  refine Ret.enter Try.func39 rfl Try.ntmps39 rfl rfl ?_
  have hO := Own.start w
  have hna := h.na
  have hnl := h.nl
  obtain ⟨sa, sc, rfl⟩ := h.lsl.val
  refine At.seq (At.reg ?_)
  refine At.v (RunV.assign rfl) rfl ?_
  refine At.nil (At.keep (.cons (t := 0) rfl <| .cons (t := 1) rfl <| .nil) ?_)
  refine At.seq ?_
  refine At.seq (At.reg ?_)
  refine At.v (RunV.move rfl) rfl ?_
  refine At.v (RunV.ltI rfl rfl) rfl ?_
  refine At.v (RunV.move rfl) rfl ?_
  refine At.g (Guard.f rfl rfl rfl) (fun hc => RunV.move rfl) rfl ?_
  refine At.g (Guard.f rfl rfl rfl) (fun hc => RunV.move rfl) rfl ?_
  refine At.g (Guard.f rfl rfl rfl) (fun hc => RunV.nilCheck (gvE rfl hc)) rfl ?_
  refine At.g (Guard.f rfl rfl rfl) (fun hc => RunV.field ft49_2_2 (gvE rfl hc) rfl) rfl ?_
  refine At.g (Guard.f rfl rfl rfl) (fun hc => RunV.load ct47 (gvE rfl hc) (cell_le (h.book.cell (i := 2) rfl) hO.le)) rfl ?_
  refine At.g (Guard.f rfl rfl rfl) (fun hc => RunV.lenSl (gvE rfl hc) isl47) rfl ?_
  refine At.g (Guard.f rfl rfl rfl) (fun hc => RunV.convI (gvE rfl hc) un3 un30 (wrap_u (by omega) (by omega))) rfl ?_
  refine At.g (Guard.f rfl rfl rfl) (fun hc => RunV.gtI (gvE rfl hc) (gvE rfl hc)) rfl ?_
  refine At.v (RunV.pickOr rfl rfl) rfl ?_
  refine At.nil (At.keep (.cons (t := 0) rfl <| .cons (t := 1) rfl <| .cons (t := 16) rfl <| .nil) ?_)
  refine At.cond rfl (fun h1 => ?_) (fun h1 => ?_)
  · have hnone : b.ltr id = none := by
      unfold Bk.ltr
      rw [atI_out (by simpa using h1)]; rfl
    refine At.seq (At.reg ?_)
    refine At.v (RunV.assign rfl) rfl ?_
    refine At.nil (At.keep (.cons (t := 4) rfl <| .nil) ?_)
    refine At.ret ?_
    refine At.result1 rfl rfl ?_
    rw [hnone]; exact ⟨rfl, rfl⟩
  · have hid : 1 ≤ id ∧ id ≤ (b.letters.length : Int) := by simp at h1; omega
    obtain ⟨z, hz⟩ : ∃ z, b.ltr id = some z := by
      unfold Bk.ltr
      rw [atI_in hid.1 hid.2]
      exact ⟨_, List.getElem?_eq_getElem (by omega)⟩
    obtain ⟨_, _, _, hx, _⟩ := h.ltr hz
    obtain ⟨sb, scap, hv, hlt, hcell⟩ := h.lsl.get (i := id.toNat - 1) (u := ptrV (axOf lb id)) (by rw [List.getElem?_map, hx]; rfl)
    cases hv
    refine At.skip ?_
    refine At.seq (At.reg ?_)
    refine At.v (RunV.move rfl) rfl ?_
    refine At.v (RunV.nilCheck rfl) rfl ?_
    refine At.v (RunV.field ft49_2_2 rfl rfl) rfl ?_
    refine At.v (RunV.load ct47 rfl (cell_le (h.book.cell (i := 2) rfl) hO.le)) rfl ?_
    refine At.v (RunV.move rfl) rfl ?_
    refine At.v (RunV.subI rfl rfl (wrap_u (by omega) (by omega))) rfl ?_
    refine At.v (RunV.index st47_82_1 rfl rfl (show id - 1 = (((id.toNat - 1 : Nat)) : Int) by omega) hlt rfl) rfl ?_
    refine At.v (RunV.load ct82 rfl (cell_le hcell hO.le)) rfl ?_
    refine At.v (RunV.assign rfl) rfl ?_
    refine At.nil (At.keep (.cons (t := 4) rfl <| .nil) ?_)
    refine At.ret ?_
    refine At.result1 rfl rfl ?_
    rw [hz]; exact ⟨rfl, rfl⟩

end Go.Proofs.Ytglilmcfhkedbaa
