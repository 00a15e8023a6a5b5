/- The rules for single operations: what each yields, out of the slots and of facts on the types; no condition. -/
import Derived.Test.YtglilmcfhkedbaaEng
import Derived.Test.YtglilmcfhkedbaaDat
namespace Go.Proofs.Ytglilmcfhkedbaa
open Go Go.RowKit

def Env.evL (L : Env) : List Operand → Option (List Value)
  | [] => some []
  | x :: r => match L.ev x, Env.evL L r with
    | some v, some vs => some (v :: vs)
    | _, _ => none
theorem Holds.evL {n : Nat} {L : Env} {a : Act} (h : Holds n L a) {xs : List Operand} {vs : List Value} (hx : L.evL xs = some vs) : xs.toArray.map a.eval = vs.toArray := by
  induction xs generalizing vs with
  | nil => simp [Env.evL] at hx; subst hx; simp
  | cons x r ih =>
    simp only [Env.evL] at hx
    split at hx
    · rename_i v us h1 h2
      simp at hx; subst hx
      have := ih h2
      simp at this ⊢
      exact ⟨h.ev h1, this⟩
    · cases hx

/-! ### facts on types, each closed -/
def cellT (P : Program) (t : TypeId) : Bool := match P.underlying t with
  | some (.struct _) | some (.array _ _) | none => false
  | some _ => true
def aggT (P : Program) (t : TypeId) (k : Nat) : Bool := (match P.underlying t with
  | some (.struct _) | some (.array _ _) => true
  | _ => false) && (match P.info? t with | some i => i.size == k | none => false)
def fieldT (P : Program) (t : TypeId) (f k : Nat) : Bool := match P.underlying t with
  | some (.struct fs) => (match fs[f]? with
    | some x => (match P.info? x.type with | some i => i.size != 0 && x.offset == k | none => false)
    | none => false)
  | _ => false
def sliceT (P : Program) (t e k : Nat) : Bool := (match P.underlying t with | some (.slice e') => e' == e | _ => false) && (match P.info? e with | some i => i.size == k | none => false)
def arrayT (P : Program) (t m k : Nat) : Bool := match P.underlying t with
  | some (.array m' e) => m' == m && (match P.info? e with | some i => i.size == k | none => false)
  | _ => false
def islT (P : Program) (t : TypeId) : Bool := match P.underlying t with | some (.slice _) => true | _ => false
def strT (P : Program) (t : TypeId) : Bool := match P.underlying t with | some .string => true | _ => false
def plainFn (P : Program) (k : FuncId) : Bool := match P.funcs[k]? with
  | some fn => fn.name != "runtime.NumGoroutine" && fn.body.isSome
  | none => false

section
variable {P : Program} {n : Nat} {L : Env} {w : World} {dst : Option Tmp} {ty : TypeId} {pos : String} {after : Array Edge} {gd : Option (Nat × Bool)} {x y z : Operand} {v u : Value}

theorem RunV.move (h : L.ev x = some v) : RunV P n L ⟨dst, .move x, ty, pos, after, gd⟩ w v := fun a ha => by
  simp only [execOp, ha.ev h]; rfl
theorem RunV.assign (h : L.ev x = some v) : RunV P n L ⟨dst, .assign x, ty, pos, after, gd⟩ w v := fun a ha => by
  simp only [execOp, ha.ev h]; rfl
theorem RunV.pick {c : Bool} (hc : L.ev x = some (.bool c)) (hy : L.ev y = some v) (hz : L.ev z = some u) :
    RunV P n L ⟨dst, .pick x y z, ty, pos, after, gd⟩ w (bif c then v else u) := fun a ha => by
  simp only [execOp, ha.ev hc, ha.ev hy, ha.ev hz, asBool]
  cases c <;> rfl
theorem RunV.pickAnd {b c : Bool} (hx : L.ev x = some (.bool b)) (hy : L.ev y = some (gv b (.bool c))) :
    RunV P n L ⟨dst, .pick x y (.const (.bool false)), ty, pos, after, gd⟩ w (.bool (b && c)) := fun a ha => by
  simp only [execOp, ha.ev hx, ha.ev hy, asBool]
  cases b <;> rfl
theorem RunV.pickOr {b c : Bool} (hx : L.ev x = some (.bool b)) (hy : L.ev y = some (gv (!b) (.bool c))) :
    RunV P n L ⟨dst, .pick x (.const (.bool true)) y, ty, pos, after, gd⟩ w (.bool (b || c)) := fun a ha => by
  simp only [execOp, ha.ev hx, ha.ev hy, asBool]
  cases b <;> rfl
theorem RunV.not {c : Bool} {t : TypeId} (hc : L.ev x = some (.bool c)) :
    RunV P n L ⟨dst, .unOp .not t x, ty, pos, after, gd⟩ w (.bool (!c)) := fun a ha => by
  simp only [execOp, ha.ev hc]; rfl
theorem RunV.nilCheck {p : Addr} (hc : L.ev x = some (.pointer (some p))) :
    RunV P n L ⟨dst, .nilCheck x, ty, pos, after, gd⟩ w (.pointer (some p)) := fun a ha => by
  simp only [execOp, ha.ev hc]; rfl
theorem RunV.extract {vs : List Value} {i : Nat} (hc : L.ev x = some (.tuple vs.toArray)) (hi : vs[i]? = some v) :
    RunV P n L ⟨dst, .extract x i, ty, pos, after, gd⟩ w v := fun a ha => by
  simp only [execOp, ha.ev hc, Instr.extract, List.getElem?_toArray, hi]; rfl


theorem run_bin {op : BinOp} {t t' : TypeId} {a b r : Value} (hx : L.ev x = some a) (hy : L.ev y = some b) (hg : (eqGuard op t x y a b).run P w = .ok () w) (h : (binOp op t a b).run P w = .ok r w) :
    RunV P n L ⟨dst, .binOp op t x y t', ty, pos, after, gd⟩ w r := fun c hc => by
  simp only [execOp, hc.ev hx, hc.ev hy]
  simp [hg, h]
theorem eqGuard_int (op : BinOp) (t : TypeId) (x y : Operand) (k k' : IntKind) (a b : Int) : (eqGuard op t x y (.int k a) (.int k' b)).run P w = .ok () w := by
  unfold eqGuard; cases op <;> simp
theorem eqGuard_bool (op : BinOp) (t : TypeId) (x y : Operand) (a b : Bool) : (eqGuard op t x y (.bool a) (.bool b)).run P w = .ok () w := by
  unfold eqGuard; cases op <;> simp
theorem eqGuard_str (op : BinOp) (t : TypeId) (x y : Operand) (a b : ByteArray) : (eqGuard op t x y (.string a) (.string b)).run P w = .ok () w := by
  unfold eqGuard; cases op <;> simp
theorem eqGuard_ptr (op : BinOp) (t : TypeId) (x y : Operand) (a b : Option Addr) : (eqGuard op t x y (.pointer a) (.pointer b)).run P w = .ok () w := by
  unfold eqGuard; cases op <;> simp
theorem eqGuard_sl (op : BinOp) (t : TypeId) (x y : Operand) (a b : Option Addr) (i j k l : Nat) : (eqGuard op t x y (.slice a i j) (.slice b k l)).run P w = .ok () w := by
  unfold eqGuard; cases op <;> simp
theorem eqGuard_ifc (op : BinOp) (t : TypeId) (x : Operand) (u : TypeId) (z : Value) : (eqGuard op t x (.const .nilIface) (.iface u z) .nilIface).run P w = .ok () w := by
  unfold eqGuard; cases op <;> simp
theorem eqGuard_nil (op : BinOp) (t : TypeId) (x : Operand) : (eqGuard op t x (.const .nilIface) .nilIface .nilIface).run P w = .ok () w := by
  unfold eqGuard; cases op <;> simp

/-! integers -/
theorem RunV.eqI {t t' : TypeId} {k : IntKind} {a b : Int} (hx : L.ev x = some (.int k a)) (hy : L.ev y = some (.int k b)) :
    RunV P n L ⟨dst, .binOp .eql t x y t', ty, pos, after, gd⟩ w (.bool (decide (a = b))) :=
  run_bin hx hy (eqGuard_int _ _ _ _ _ _ _ _) (by simp [binOp, Op.intCmp]; rfl)
theorem RunV.neI {t t' : TypeId} {k : IntKind} {a b : Int} (hx : L.ev x = some (.int k a)) (hy : L.ev y = some (.int k b)) :
    RunV P n L ⟨dst, .binOp .neq t x y t', ty, pos, after, gd⟩ w (.bool (!decide (a = b))) :=
  run_bin hx hy (eqGuard_int _ _ _ _ _ _ _ _) (by simp [binOp, Op.intCmp]; rfl)
theorem RunV.ltI {t t' : TypeId} {k : IntKind} {a b : Int} (hx : L.ev x = some (.int k a)) (hy : L.ev y = some (.int k b)) :
    RunV P n L ⟨dst, .binOp .lss t x y t', ty, pos, after, gd⟩ w (.bool (decide (a < b))) :=
  run_bin hx hy (eqGuard_int _ _ _ _ _ _ _ _) (by simp [binOp, Op.intCmp])
theorem RunV.leI {t t' : TypeId} {k : IntKind} {a b : Int} (hx : L.ev x = some (.int k a)) (hy : L.ev y = some (.int k b)) :
    RunV P n L ⟨dst, .binOp .leq t x y t', ty, pos, after, gd⟩ w (.bool (decide (a ≤ b))) :=
  run_bin hx hy (eqGuard_int _ _ _ _ _ _ _ _) (by simp [binOp, Op.intCmp])
theorem RunV.gtI {t t' : TypeId} {k : IntKind} {a b : Int} (hx : L.ev x = some (.int k a)) (hy : L.ev y = some (.int k b)) :
    RunV P n L ⟨dst, .binOp .gtr t x y t', ty, pos, after, gd⟩ w (.bool (decide (b < a))) :=
  run_bin hx hy (eqGuard_int _ _ _ _ _ _ _ _) (by simp [binOp, Op.intCmp])
theorem RunV.geI {t t' : TypeId} {k : IntKind} {a b : Int} (hx : L.ev x = some (.int k a)) (hy : L.ev y = some (.int k b)) :
    RunV P n L ⟨dst, .binOp .geq t x y t', ty, pos, after, gd⟩ w (.bool (decide (b ≤ a))) :=
  run_bin hx hy (eqGuard_int _ _ _ _ _ _ _ _) (by simp [binOp, Op.intCmp])
theorem RunV.addI {t t' : TypeId} {k : IntKind} {a b c : Int} (hx : L.ev x = some (.int k a)) (hy : L.ev y = some (.int k b)) (h : k.wrap (a + b) = c) :
    RunV P n L ⟨dst, .binOp .add t x y t', ty, pos, after, gd⟩ w (.int k c) :=
  run_bin hx hy (eqGuard_int _ _ _ _ _ _ _ _) (by simp [binOp, Op.intArith, h])
theorem RunV.subI {t t' : TypeId} {k : IntKind} {a b c : Int} (hx : L.ev x = some (.int k a)) (hy : L.ev y = some (.int k b)) (h : k.wrap (a - b) = c) :
    RunV P n L ⟨dst, .binOp .sub t x y t', ty, pos, after, gd⟩ w (.int k c) :=
  run_bin hx hy (eqGuard_int _ _ _ _ _ _ _ _) (by simp [binOp, Op.intArith, h])
theorem RunV.convI {s d : TypeId} {k k' : IntKind} {a c : Int} (hx : L.ev x = some (.int k a)) (hs : P.underlying s = some (.int k)) (hd : P.underlying d = some (.int k')) (h : k'.wrap a = c) :
    RunV P n L ⟨dst, .convert s d x, ty, pos, after, gd⟩ w (.int k' c) := fun e he => by
  have h1 : (convert s d (.int k a)).run P w = .ok (.int k' c) w := by
    simp only [convert, Sem.run_bind, run_underlying hs, run_underlying hd, Result.andThen_ok, Conv.intToInt, h, Sem.run_pure]
  simp only [execOp, he.ev hx]
  simp [h1]

/-! bools, strings, pointers, slices, interfaces, functions: compared -/
theorem RunV.eqB {t t' : TypeId} {a b : Bool} (hx : L.ev x = some (.bool a)) (hy : L.ev y = some (.bool b)) (ht : P.underlying t = some .bool) :
    RunV P n L ⟨dst, .binOp .eql t x y t', ty, pos, after, gd⟩ w (.bool (a == b)) := by
  have h1 : ∀ d, (Op.equalIn (d + 1) t (.bool a) (.bool b)).run P w = .ok (a == b) w := fun d => by simp [Op.equalIn, run_underlying ht]
  exact run_bin hx hy (eqGuard_bool _ _ _ _ _ _) (by simp only [binOp]; simp [show (Op.equal t (.bool a) (.bool b)).run P w = .ok (a == b) w from h1 9999])
theorem RunV.neB {t t' : TypeId} {a b : Bool} (hx : L.ev x = some (.bool a)) (hy : L.ev y = some (.bool b)) (ht : P.underlying t = some .bool) :
    RunV P n L ⟨dst, .binOp .neq t x y t', ty, pos, after, gd⟩ w (.bool (!(a == b))) := by
  have h1 : ∀ d, (Op.equalIn (d + 1) t (.bool a) (.bool b)).run P w = .ok (a == b) w := fun d => by simp [Op.equalIn, run_underlying ht]
  exact run_bin hx hy (eqGuard_bool _ _ _ _ _ _) (by simp only [binOp]; simp [show (Op.equal t (.bool a) (.bool b)).run P w = .ok (a == b) w from h1 9999])
theorem RunV.eqS {t t' : TypeId} {a b : ByteArray} (hx : L.ev x = some (.string a)) (hy : L.ev y = some (.string b)) :
    RunV P n L ⟨dst, .binOp .eql t x y t', ty, pos, after, gd⟩ w (.bool (seq a b)) :=
  run_bin hx hy (eqGuard_str _ _ _ _ _ _) (by simp [binOp, Op.stringOp, seq])
theorem RunV.neS {t t' : TypeId} {a b : ByteArray} (hx : L.ev x = some (.string a)) (hy : L.ev y = some (.string b)) :
    RunV P n L ⟨dst, .binOp .neq t x y t', ty, pos, after, gd⟩ w (.bool (!seq a b)) :=
  run_bin hx hy (eqGuard_str _ _ _ _ _ _) (by simp [binOp, Op.stringOp, seq])
theorem run_equal_ptr {t e : TypeId} (p : Option Addr) (ht : P.underlying t = some (.pointer e)) : (Op.equal t (.pointer p) (.pointer none)).run P w = .ok p.isNone w := by
  have : ∀ d, (Op.equalIn (d + 1) t (.pointer p) (.pointer none)).run P w = .ok p.isNone w := fun d => by cases p <;> simp [Op.equalIn, run_underlying ht]
  exact this 9999
theorem RunV.neNil {t t' e : TypeId} {p : Option Addr} (hx : L.ev x = some (.pointer p)) (ht : P.underlying t = some (.pointer e)) :
    RunV P n L ⟨dst, .binOp .neq t x (.const (.pointer none)) t', ty, pos, after, gd⟩ w (.bool p.isSome) :=
  run_bin hx rfl (eqGuard_ptr _ _ _ _ _ _) (by simp only [binOp]; simp [run_equal_ptr p ht])
theorem RunV.eqNil {t t' e : TypeId} {p : Option Addr} (hx : L.ev x = some (.pointer p)) (ht : P.underlying t = some (.pointer e)) :
    RunV P n L ⟨dst, .binOp .eql t x (.const (.pointer none)) t', ty, pos, after, gd⟩ w (.bool p.isNone) :=
  run_bin hx rfl (eqGuard_ptr _ _ _ _ _ _) (by simp only [binOp]; simp [run_equal_ptr p ht])
theorem RunV.eqNilS {t t' e : TypeId} {p : Option Addr} {k m : Nat} (hx : L.ev x = some (.slice p k m)) (ht : P.underlying t = some (.slice e)) :
    RunV P n L ⟨dst, .binOp .eql t x (.const (.slice none 0 0)) t', ty, pos, after, gd⟩ w (.bool p.isNone) := by
  have h1 : ∀ d, (Op.equalIn (d + 1) t (.slice p k m) (.slice none 0 0)).run P w = .ok p.isNone w := fun d => by cases p <;> simp [Op.equalIn, run_underlying ht]
  exact run_bin hx rfl (eqGuard_sl _ _ _ _ _ _ _ _ _ _) (by simp only [binOp]; simp [show (Op.equal t (.slice p k m) (.slice none 0 0)).run P w = .ok p.isNone w from h1 9999])
/-- An interface value against the literal nil. -/
def isNilI : Value → Bool
  | .nilIface => true
  | _ => false
theorem RunV.neNilI {t t' : TypeId} {v : Value} {ms : Array (String × TypeId)} (hx : L.ev x = some v) (hv : v = .nilIface ∨ ∃ u z, v = .iface u z) (ht : P.underlying t = some (.interface ms)) :
    RunV P n L ⟨dst, .binOp .neq t x (.const .nilIface) t', ty, pos, after, gd⟩ w (.bool (!isNilI v)) := by
  rcases hv with rfl | ⟨u, z, rfl⟩
  · have h1 : ∀ d, (Op.equalIn (d + 1) t .nilIface .nilIface).run P w = .ok true w := fun d => by simp [Op.equalIn, run_underlying ht]
    exact run_bin hx rfl (eqGuard_nil _ _ _) (by simp only [binOp]; simp [show (Op.equal t .nilIface .nilIface).run P w = .ok true w from h1 9999, isNilI])
  · have h1 : ∀ d, (Op.equalIn (d + 1) t (.iface u z) .nilIface).run P w = .ok false w := fun d => by simp [Op.equalIn, run_underlying ht]
    exact run_bin hx rfl (eqGuard_ifc _ _ _ _ _) (by simp only [binOp]; simp [show (Op.equal t (.iface u z) .nilIface).run P w = .ok false w from h1 9999, isNilI])

/-! addresses -/
theorem run_size {t k : Nat} {i : TypeInfo} (h : P.info? t = some i) (hk : i.size = k) (w : World) : (sizeOf t).run P w = .ok k w := by
  simp only [sizeOf, typeInfo, Sem.run_bind, run_program, Result.andThen_ok, h, Sem.run_pure, hk]
theorem fieldPlace_run {b off : Nat} {fd : Field} {i : TypeInfo} (hi : P.info? fd.type = some i) (h0 : i.size ≠ 0) : (fieldPlace ⟨b, off, none⟩ fd).run P w = .ok ⟨b, off + fd.offset, none⟩ w := by
  simp only [fieldPlace, Sem.run_bind, run_size hi rfl, Result.andThen_ok]
  rw [if_neg h0]
  unfold Addr.add
  split
  · rename_i h; simp [h]
  · simp
theorem RunV.field {t : TypeId} {f k b off off' : Nat} (hT : fieldT P t f k = true) (hx : L.ev x = some (.pointer (some ⟨b, off, none⟩))) (hk : off + k = off') :
    RunV P n L ⟨dst, .fieldAddr t x f, ty, pos, after, gd⟩ w (.pointer (some ⟨b, off', none⟩)) := fun a ha => by
  unfold fieldT at hT
  split at hT
  · rename_i fs hu
    split at hT
    · rename_i fd hf
      split at hT
      · rename_i i hi
        simp only [Bool.and_eq_true, bne_iff_ne, ne_eq, beq_iff_eq] at hT
        obtain ⟨h0, rfl⟩ := hT
        subst hk
        simp only [execOp, ha.ev hx]
        have h1 : (Instr.fieldAt t (.pointer (some ⟨b, off, none⟩)) f).run P w = .ok (.pointer (some ⟨b, off + fd.offset, none⟩)) w := by
          simp only [Instr.fieldAt, Sem.run_bind, run_underlying hu, Result.andThen_ok, hf, Instr.sureAddr, Sem.run_pure, fieldPlace_run hi h0]
        simp [h1]
      · cases hT
    · cases hT
  · cases hT
theorem addr_add {b off k : Nat} : Addr.add ⟨b, off, none⟩ k = ⟨b, off + k, none⟩ := by
  unfold Addr.add; split
  · rename_i h; simp [h]
  · rfl
theorem RunV.index {t e k b off len cap : Nat} {kd : IntKind} {i : Int} {j off' : Nat} (hT : sliceT P t e k = true) (hx : L.ev x = some (.slice (some ⟨b, off, none⟩) len cap)) (hy : L.ev y = some (.int kd i))
    (hj : i = (j : Int)) (hlt : j < len) (hk : off + j * k = off') :
    RunV P n L ⟨dst, .indexAddr t x y, ty, pos, after, gd⟩ w (.pointer (some ⟨b, off', none⟩)) := fun a ha => by
  unfold sliceT at hT
  simp only [Bool.and_eq_true] at hT
  obtain ⟨h1, h2⟩ := hT
  split at h1
  · rename_i e' hu
    have h1 : e' = e := by simpa using h1
    subst h1
    split at h2
    · rename_i i hi
      have h2 : i.size = k := by simpa using h2
      subst hj; subst hk
      have hc : (0 : Int) ≤ (j : Int) ∧ (j : Int) < (len : Int) := ⟨by omega, by omega⟩
      have h3 : (Instr.indexAt t (.slice (some ⟨b, off, none⟩) len cap) (.int kd (j : Int))).run P w = .ok (.pointer (some ⟨b, off + j * k, none⟩)) w := by
        simp only [Instr.indexAt, asIntOf, Sem.run_bind, Sem.run_pure, Result.andThen_ok, run_underlying hu, hc, and_self, if_true, run_size hi h2, addr_add, Int.toNat_natCast]
      simp only [execOp, ha.ev hx, ha.ev hy]
      simp [h3]
    · cases h2
  · cases h1
/-- An array in a variable. -/
theorem RunV.indexA {t m k b off : Nat} {kd : IntKind} {i : Int} {j off' : Nat} (hT : arrayT P t m k = true) (hx : L.ev x = some (.pointer (some ⟨b, off, none⟩))) (hy : L.ev y = some (.int kd i))
    (hj : i = (j : Int)) (hlt : j < m) (hk : off + j * k = off') :
    RunV P n L ⟨dst, .indexAddr t x y, ty, pos, after, gd⟩ w (.pointer (some ⟨b, off', none⟩)) := fun a ha => by
  unfold arrayT at hT
  split at hT
  · rename_i m' e hu
    simp only [Bool.and_eq_true] at hT
    obtain ⟨h1, h2⟩ := hT
    have h1 : m' = m := by simpa using h1
    subst h1
    split at h2
    · rename_i i hi
      have h2 : i.size = k := by simpa using h2
      subst hj; subst hk
      have hc : (0 : Int) ≤ (j : Int) ∧ (j : Int) < (m' : Int) := ⟨by omega, by omega⟩
      have h3 : (Instr.indexAt t (.pointer (some ⟨b, off, none⟩)) (.int kd (j : Int))).run P w = .ok (.pointer (some ⟨b, off + j * k, none⟩)) w := by
        simp only [Instr.indexAt, asIntOf, Sem.run_bind, Sem.run_pure, Result.andThen_ok, run_underlying hu, Instr.sureAddr, hc, and_self, if_true, run_size hi h2, addr_add, Int.toNat_natCast]
      simp only [execOp, ha.ev hx, ha.ev hy]
      simp [h3]
    · cases h2
  · cases hT

/-! loads -/
theorem RunV.load {t : TypeId} {p : Addr} (hT : cellT P t = true) (hx : L.ev x = some (.pointer (some p))) (hc : w.cell? p = some v) :
    RunV P n L ⟨dst, .load t x, ty, pos, after, gd⟩ w v := fun a ha => by
  unfold cellT at hT
  simp only [execOp, ha.ev hx, Instr.loadAt, Instr.sureAddr, loadVar]
  cases hu : P.underlying t with
  | none => rw [hu] at hT; cases hT
  | some d =>
    rw [hu] at hT
    have h1 : (isAgg t).run P w = .ok false w := by
      cases d <;> first | (cases hT; done) | simp only [isAgg, Sem.run_bind, run_underlying hu, Result.andThen_ok, Sem.run_pure]
    simp [h1, Go.load, Sem.run, hc]
/-- The cells from off on are these. -/
def Row (w : World) (b off : Nat) (cs : List Value) : Prop := ∀ i v, cs[i]? = some v → w.cell? ⟨b, off + i, none⟩ = some v
theorem run_loadCellsFrom {b off : Nat} (cs : List Value) : ∀ (k : Nat) (acc : Array Value), (∀ i v, cs[i]? = some v → w.cell? ⟨b, off + (k + i), none⟩ = some v) →
    (loadCellsFrom ⟨b, off, none⟩ k cs.length acc).run P w = .ok (acc ++ cs.toArray) w := by
  induction cs with
  | nil => intro k acc _; simp [loadCellsFrom, pure]
  | cons c r ih =>
    intro k acc h
    have h0 : w.cell? (Addr.add ⟨b, off, none⟩ k) = some c := by
      have := h 0 c rfl
      unfold Addr.add
      split
      · rename_i e; subst e; simpa using this
      · simpa using this
    simp only [List.length_cons, loadCellsFrom, load]
    simp only [bind, Sem.bind, Sem.run, h0]
    rw [ih (k + 1) (acc.push c) (fun i v hv => by have := h (i + 1) v hv; rwa [show k + (i + 1) = k + 1 + i by omega] at this)]
    simp
theorem RunV.loadAgg {t k b off : Nat} {cs : List Value} (hT : aggT P t k = true) (hx : L.ev x = some (.pointer (some ⟨b, off, none⟩))) (hc : Row w b off cs) (hk : cs.length = k) :
    RunV P n L ⟨dst, .load t x, ty, pos, after, gd⟩ w (.agg cs.toArray) := fun a ha => by
  unfold aggT at hT
  simp only [Bool.and_eq_true] at hT
  obtain ⟨h1, h2⟩ := hT
  split at h2
  · rename_i i hi
    simp at h2
    have h3 := run_loadCellsFrom (P := P) (w := w) (b := b) (off := off) cs 0 #[] (fun i v hv => by simpa using hc i v hv)
    rw [hk, ← h2] at h3
    simp only [execOp, ha.ev hx, Instr.loadAt, Instr.sureAddr, loadVar]
    cases hu : P.underlying t with
    | none => rw [hu] at h1; cases h1
    | some d =>
      rw [hu] at h1
      have h4 : (isAgg t).run P w = .ok true w := by
        cases d <;> first | (cases h1; done) | simp only [isAgg, Sem.run_bind, run_underlying hu, Result.andThen_ok, Sem.run_pure]
      simp [h4, loadCells, run_size hi rfl, h3]
  · cases h2

/-! strings, slices -/
theorem RunV.lenSl {t k m : Nat} {p : Option Addr} {ts : List TypeId} (hx : L.ev x = some (.slice p k m)) (hT : islT P t = true) :
    RunV P n L ⟨dst, .call ⟨.builtin .len, #[x], (t :: ts).toArray⟩, ty, pos, after, gd⟩ w (.int .i64 k) := fun a ha => by
  unfold islT at hT
  split at hT
  · rename_i e hu
    simp only [execOp, resolve, List.map_toArray, List.map_cons, List.map_nil, ha.ev hx]
    simp [invoke, builtin, Builtin.len_, run_underlying hu, goInt]
  · cases hT
theorem RunV.lenStr {t : Nat} {s : ByteArray} {ts : List TypeId} (hx : L.ev x = some (.string s)) (hT : strT P t = true) :
    RunV P n L ⟨dst, .call ⟨.builtin .len, #[x], (t :: ts).toArray⟩, ty, pos, after, gd⟩ w (.int .i64 s.size) := fun a ha => by
  unfold strT at hT
  split at hT
  · rename_i hu
    simp only [execOp, resolve, List.map_toArray, List.map_cons, List.map_nil, ha.ev hx]
    simp [invoke, builtin, Builtin.len_, run_underlying hu, goInt]
  · cases hT
theorem RunV.capSl {t k m : Nat} {p : Option Addr} {ts : List TypeId} (hx : L.ev x = some (.slice p k m)) (hT : islT P t = true) :
    RunV P n L ⟨dst, .call ⟨.builtin .cap, #[x], (t :: ts).toArray⟩, ty, pos, after, gd⟩ w (.int .i64 m) := fun a ha => by
  unfold islT at hT
  split at hT
  · rename_i e hu
    simp only [execOp, resolve, List.map_toArray, List.map_cons, List.map_nil, ha.ev hx]
    simp [invoke, builtin, Builtin.cap_, run_underlying hu, goInt]
  · cases hT
theorem RunV.makeFunc {f : Fn} {xs : List Operand} {vs : List Value} (h : L.evL xs = some vs) :
    RunV P n L ⟨dst, .makeFunc f #[] xs.toArray, ty, pos, after, gd⟩ w (.func f #[] vs.toArray) := fun a ha => by
  simp only [execOp, ha.evL h, Instr.makeFunc]; simp
theorem RunV.makeIface {t : TypeId} {e : TypeId} (hx : L.ev x = some v) (ht : P.underlying t = some (.pointer e)) :
    RunV P n L ⟨dst, .makeInterface t x, ty, pos, after, gd⟩ w (.iface t v) := fun a ha => by
  simp only [execOp, ha.ev hx, Instr.makeInterface]; simp [run_underlying ht]

/-! calls -/
theorem Step.call {f : Operand} {k : FuncId} {cap : List Value} {xs : List Operand} {vs : List Value} {ts : Array TypeId} {K : Value → World → Prop} (hf : L.ev f = some (.func (.func k) #[] cap.toArray)) (hp : plainFn P k = true) (hx : L.evL xs = some vs)
    {post : Value → World → Prop} (h : Ret P k (vs ++ cap) w post) (hk : ∀ v w', post v w' → K v w') :
    Step P n L ⟨dst, .call ⟨.value f, xs.toArray, ts⟩, ty, pos, after, gd⟩ w K := .mk fun a ha => by
  unfold plainFn at hp
  split at hp
  · rename_i fn hfn
    simp only [Bool.and_eq_true, bne_iff_ne, ne_eq] at hp
    obtain ⟨h1, h2⟩ := hp
    have hb : fn.body.isNone = false := by cases e : fn.body <;> simp_all
    have hr : (execOp a.eval ⟨dst, .call ⟨.value f, xs.toArray, ts⟩, ty, pos, after, gd⟩).run P w = .ok (.enter k (vs ++ cap).toArray) w := by
      simp only [execOp, resolve, ha.ev hf, ha.evL hx, Deferred.ofValue]
      simp only [Sem.run_bind, Sem.run_pure, Result.andThen_ok, invoke, callFunc, run_program, hfn]
      simp [h1]
      intro h3; rw [h3] at h2; cases h2
    unfold StepE
    rw [hr]
    exact Calls.mono h fun e w' ⟨v, e1, h⟩ => ⟨v, e1, hk _ _ h⟩
  · cases hp
end
end Go.Proofs.Ytglilmcfhkedbaa
