/- The walks of what is asked of an actor; no condition. -/
import Derived.Test.YtglilmcfhkedbaaWK
namespace Go.Proofs.Ytglilmcfhkedbaa
open Go Go.RowKit

theorem ft90_1_1 : fieldT Try.prog 90 1 1 = true := by kernel_rfl
theorem ft90_4_8 : fieldT Try.prog 90 4 8 = true := by kernel_rfl
theorem ft90_5_9 : fieldT Try.prog 90 5 9 = true := by kernel_rfl
theorem un76 : Try.prog.underlying 76 = some (.pointer 90) := by kernel_rfl
theorem un82 : Try.prog.underlying 82 = some (.pointer 84) := by kernel_rfl

/-- An actor's pointer, and its block where it points to one. -/
def ActP (w : World) (oa : Option Actr) (ax : Nat) (a : Actr) (kv ku : Value) (wx : Nat) (ev : Value) (st ps : Bool) (f : ByteArray) : Prop :=
  oa.isSome = true → oa = some a ∧ Blk w ax (a.cells kv ku (.pointer (ptrO a.work wx)) ev st f ps) 90
theorem ActP.blk {w : World} {oa : Option Actr} {ax : Nat} {a : Actr} {kv ku : Value} {wx : Nat} {ev : Value} {st ps : Bool} {f : ByteArray} (h : ActP w oa ax a kv ku wx ev st ps f) (hs : oa.isSome = true) : Blk w ax (a.cells kv ku (.pointer (ptrO a.work wx)) ev st f ps) 90 := (h hs).2
theorem ActP.le {w w' : World} {oa : Option Actr} {ax : Nat} {a : Actr} {kv ku : Value} {wx : Nat} {ev : Value} {st ps : Bool} {f : ByteArray} (h : ActP w oa ax a kv ku wx ev st ps f) (hl : Le w w') : ActP w' oa ax a kv ku wx ev st ps f := fun hs => ⟨(h hs).1, (h hs).2.le hl⟩
theorem any_eq (l : List Int) (x : Int) : (l.any fun y => decide (y = x)) = l.any fun m => decide (x = m) := by
  congr 1; funext y; simp only [eq_comm]

theorem works_c (oa : Option Actr) (ax : Nat) (a : Actr) (kv ku : Value) (wx : Nat) (ev : Value) (st ps : Bool) (f : ByteArray) (w : World) (hA : ActP w oa ax a kv ku wx ev st ps f) :
    Ret Try.prog 36 [.pointer (ptrO oa ax)] w fun v w' => v = .bool (worksB oa) ∧ w' = w := by
  refine Ret.enter Try.func36 rfl Try.ntmps36 rfl rfl ?_
  have hO := Own.start w
  refine At.seq (At.reg ?_)
  refine At.v (RunV.assign rfl) rfl ?_
  refine At.nil (At.keep (.cons (t := 0) rfl <| .nil) ?_)
  refine At.seq (At.reg ?_)
  refine At.v (RunV.move rfl) rfl ?_
  refine At.v (RunV.neNil rfl un76) rfl ?_
  refine At.v (RunV.move rfl) rfl ?_
  refine At.g (Guard.t rfl rfl rfl) (fun hc => RunV.move rfl) rfl ?_
  refine At.g (Guard.t rfl rfl rfl) (fun hc => RunV.nilCheckO (gvE rfl hc) (by revert hc; cases oa <;> simp [ptrO, isB, worksB, optB])) rfl ?_
  refine At.g (Guard.t rfl rfl rfl) (fun hc => RunV.field ft90_5_9 (gvE rfl hc) rfl) rfl ?_
  refine At.g (Guard.t rfl rfl rfl) (fun hc => RunV.load ct82 (gvE rfl hc) (cell_le (Blk.cell (hA.blk (by revert hc; cases oa <;> simp [ptrO, isB, worksB, optB])) rfl) hO.le)) rfl ?_
  refine At.g (Guard.t rfl rfl rfl) (fun hc => RunV.neNil (gvE rfl hc) un82) rfl ?_
  refine At.v (RunV.pickAnd rfl rfl) rfl ?_
  refine At.v (RunV.assign rfl) rfl ?_
  refine At.nil (At.keep (.cons (t := 2) rfl <| .nil) ?_)
  refine At.ret ?_
  refine At.result1 rfl rfl ?_
  refine ⟨congrArg _ ?_, rfl⟩
  cases oa with
  | none => rfl
  | some a' =>
    obtain ⟨h1, _⟩ := hA rfl
    cases h1
    show (true && (ptrO a.work wx).isSome) = _
    rw [ptrO_isSome]; rfl

theorem is_c (oa : Option Actr) (ax : Nat) (a : Actr) (kv ku : Value) (wx : Nat) (ev : Value) (st ps : Bool) (f : ByteArray) (w : World) (hA : ActP w oa ax a kv ku wx ev st ps f) (bs cap : Nat) (ms : List Int) (hl : ms.length ≤ 1048576) (hr : Row w bs 0 (ms.map fun y => .int .i64 y)) :
    Ret Try.prog 37 [.pointer (ptrO oa ax), .slice (some ⟨bs, 0, none⟩) ms.length cap] w fun v w' => v = .bool (isB ms oa) ∧ w' = w := by
  refine Ret.enter Try.func37 rfl Try.ntmps37 rfl rfl ?_
  have hO := Own.start w
  refine At.seq (At.reg ?_)
  refine At.v (RunV.assign rfl) rfl ?_
  refine At.nil (At.keep (.cons (t := 0) rfl <| .cons (t := 1) rfl <| .nil) ?_)
  refine At.seq (At.reg ?_)
  refine At.v (RunV.move rfl) rfl ?_
  refine At.v (RunV.neNil rfl un76) rfl ?_
  refine At.v (RunV.move rfl) rfl ?_
  refine At.g (Guard.t rfl rfl rfl) (fun hc => RunV.move rfl) rfl ?_
  refine At.g (Guard.t rfl rfl rfl) (fun hc => RunV.move rfl) rfl ?_
  refine At.g (Guard.t rfl rfl rfl) (fun hc => RunV.nilCheckO (gvE rfl hc) (by revert hc; cases oa <;> simp [ptrO, isB, worksB, optB])) rfl ?_
  refine At.g (Guard.t rfl rfl rfl) (fun hc => RunV.field ft90_4_8 (gvE rfl hc) rfl) rfl ?_
  refine At.g (Guard.t rfl rfl rfl) (fun hc => RunV.load ct3 (gvE rfl hc) (cell_le (Blk.cell (hA.blk (by revert hc; cases oa <;> simp [ptrO, isB, worksB, optB])) rfl) hO.le)) rfl ?_
  refine At.gcallS (Guard.t rfl rfl rfl) (fun hc => rfl) pf55 (fun hc => (evL2 (gvE rfl hc) (gvE rfl hc))) (fun hc => containsI_c bs cap ms a.mode hl _ hr) rfl ?_
  refine At.v (RunV.pickAnd rfl rfl) rfl ?_
  refine At.v (RunV.assign rfl) rfl ?_
  refine At.nil (At.keep (.cons (t := 4) rfl <| .nil) ?_)
  refine At.ret ?_
  refine At.result1 rfl rfl ?_
  refine ⟨congrArg _ ?_, rfl⟩
  cases oa with
  | none => rfl
  | some a' =>
    obtain ⟨h1, _⟩ := hA rfl
    cases h1
    rw [any_eq]; rfl

theorem alone1_c (a : Actr) (x bi : Nat) (id : Int) (kv ku wv ev : Value) (st ps : Bool) (f : ByteArray) (w : World) (hb : Blk w x (a.cells kv ku wv ev st f ps) 90) (hi : Row w bi 0 [.int .i64 id]) :
    Ret Try.prog 64 [ptrV x, .pointer (some ⟨bi, 0, none⟩)] w fun v w' => v = .bool (decide (a.parent = id) && !decide (a.mode = 5)) ∧ Le w w' := by
  refine Ret.enter Try.func64 rfl Try.ntmps64 rfl rfl ?_
  have hO := Own.start w
  refine At.seq (At.reg ?_)
  refine At.v (RunV.assign rfl) rfl ?_
  refine At.nil (At.keep (.cons (t := 0) rfl <| .cons (t := 1) rfl <| .nil) ?_)
  refine At.seq (At.pi hmix (.take 0 (.take 1 (.take 2 (.take 3 (.take 4 (.take 5 (.take 6 (.take 7 (.take 8 (.take 9 (.take 10 (.take 11 (.take 12 (.take 13 .done)))))))))))))) (by kernel_rfl) (by kernel_rfl) ?_)
  intro w1 hs
  have hs0 := hs
  have hR := hO
  replace hO := hO.on hs
  refine At.take rfl (fun w' hs' => RunV.move rfl) rfl ?_
  refine At.take rfl (fun w' hs' => RunV.nilCheck rfl) rfl ?_
  refine At.take rfl (fun w' hs' => RunV.field ft90_1_1 rfl rfl) rfl ?_
  refine At.take rfl (fun w' hs' => RunV.load ct3 rfl (cell_le (hb.cell (i := 1) rfl) (hR.le.tr hs'))) rfl ?_
  refine At.take rfl (fun w' hs' => RunV.load ct3 rfl (cell_le (hi.cell (i := 0) rfl) (hR.le.tr hs'))) rfl ?_
  refine At.take rfl (fun w' hs' => RunV.eqI rfl rfl) rfl ?_
  refine At.take rfl (fun w' hs' => RunV.move rfl) rfl ?_
  refine At.takeG rfl (Guard.t rfl rfl rfl) (fun hc w' hs' => RunV.move rfl) rfl ?_
  refine At.takeG rfl (Guard.t rfl rfl rfl) (fun hc w' hs' => RunV.nilCheck (gvE rfl hc)) rfl ?_
  refine At.takeG rfl (Guard.t rfl rfl rfl) (fun hc w' hs' => RunV.field ft90_4_8 (gvE rfl hc) rfl) rfl ?_
  refine At.keep (.cons (t := 10) rfl <| .cons (t := 13) rfl <| .nil) ?_
  refine At.takeG rfl (Guard.t rfl rfl rfl) (fun hc w' hs' => RunV.load ct3 (gvE rfl hc) (cell_le (hb.cell (i := 8) rfl) (hR.le.tr hs'))) rfl ?_
  refine At.takeG rfl (Guard.t rfl rfl rfl) (fun hc w' hs' => RunV.neI (gvE rfl hc) rfl) rfl ?_
  refine At.take rfl (fun w' hs' => RunV.pickAnd rfl rfl) rfl ?_
  refine At.take rfl (fun w' hs' => RunV.assign rfl) rfl ?_
  refine At.pdone (At.keep (.cons (t := 3) rfl <| .nil) ?_)
  refine At.ret ?_
  refine At.result1 rfl rfl ?_
  exact ⟨congrArg _ rfl, hO.le⟩

end Go.Proofs.Ytglilmcfhkedbaa
