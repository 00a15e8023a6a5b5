/- The rule for a built array, and for an element's place in one; no condition. -/
import Derived.Test.YtglilmcfhkedbaaWS
namespace Go.Proofs.Ytglilmcfhkedbaa
open Go Go.RowKit
variable {P : Program} {n : Nat} {L : Env} {w : World} {dst : Option Tmp} {ty : TypeId} {pos : String} {after : Array Edge} {gd : Option (Nat × Bool)} {cs : List Value}
theorem RunV.buildA {t e k len : Nat} {ps : List (Nat × Operand)} {vs : List (Nat × Value)} {zs : List Value} (hu : P.underlying t = some (.array len e)) (he : sizeT P e k = true) (hz : zeroT P t zs) (hx : L.evP ps = some vs) (hf : fillL (fun i => some (i * k, k)) zs vs = some cs) :
    RunV P n L ⟨dst, .build t ps.toArray, ty, pos, after, gd⟩ w (.agg cs.toArray) := fun a ha => by
  obtain ⟨i, z, z1, z2, z3⟩ := hz.out
  obtain ⟨j, hj, hk⟩ := sizeT.out he
  have h2 := fillL_fill _ _ _ hf
  have hzv : (zeroValue t).run P w = .ok z w := by
    simp only [zeroValue, typeInfo, Sem.run_bind, run_program, Result.andThen_ok, z1, Sem.run_pure, z2]
  have h3 : (Instr.build t (ps.toArray.map fun (x : Nat × Operand) => (x.1, a.eval x.2))).run P w = .ok (.agg cs.toArray) w := by
    simp only [Instr.build, Sem.run_bind, hzv, Result.andThen_ok, run_underlying hu, ha.evP hx, z3, run_size hj hk]
    rw [h2]
    rfl
  simp only [execOp, Sem.run_bind]
  rw [h3]
  rfl
end Go.Proofs.Ytglilmcfhkedbaa
