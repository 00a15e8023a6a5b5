/- Regions that draw their order: one walk along a plan serves every order; no condition. -/
import Derived.Test.YtglilmcfhkedbaaMem
namespace Go.Proofs.Ytglilmcfhkedbaa
open Go Go.RowKit

/-- In which order the walk goes. 'take': it yields one value in every world of the class; 'run': it acts, and the class is kept; 'free': it acts, and the class is chosen anew; 'fork': two that act, in either order. -/
inductive Plan where
  | done
  | take (i : Nat) (p : Plan)
  | run (i : Nat) (p : Plan)
  | free (i : Nat) (p : Plan)
  | fork (i : Nat) (p : Plan) (j : Nat) (q : Plan)

section check
variable (ops : Array Oper)
def dstOf (i : Nat) : Option Tmp := (ops[i]?).bind (·.dst)
def looks (i : Nat) : List Tmp := match ops[i]? with | some o => o.looksAt ops | none => []
def touch (d : Option Tmp) (l : List Tmp) : Bool := match d with | some t => l.contains t | none => false
def edge (i m : Nat) : Bool := match ops[i]? with | some o => o.after.any (fun e => Region.binds .any e && e.on == m) | none => false
def depsIn (i : Nat) (seen : List Nat) : Bool := match ops[i]? with | some o => o.after.all (fun e => !Region.binds .any e || seen.contains e.on) | none => false
def noSel (i : Nat) : Bool := match ops[i]? with | some o => (match o.op with | .select .. => false | _ => true) | none => true
def apartD (d e : Option Tmp) : Bool := match d with | some t => e != some t | none => true
def okNew (i : Nat) (seen : List Nat) : Bool :=
  !seen.contains i && depsIn ops i seen && noSel ops i && !touch (dstOf ops i) (looks ops i) &&
    seen.all fun m => !touch (dstOf ops i) (looks ops m) && apartD (dstOf ops i) (dstOf ops m) && (!touch (dstOf ops m) (looks ops i) || edge ops i m)
/-- The same, where all that has been taken stands behind it. -/
def okFree (i : Nat) (seen : List Nat) : Bool :=
  !seen.contains i && depsIn ops i seen && noSel ops i && !touch (dstOf ops i) (looks ops i) &&
    seen.all fun m => apartD (dstOf ops i) (dstOf ops m) && (!touch (dstOf ops m) (looks ops i) || edge ops i m)
def waits (l : List Nat) (seen : List Nat) : Bool := (List.range ops.size).all fun m =>
  seen.contains m || l.contains m || (match ops[m]? with | some o => o.after.any (fun e => Region.binds .any e && !seen.contains e.on) | none => true)
def forced (i : Nat) : List Nat → List Nat → List Nat
  | F, [] => F
  | F, m :: r => forced i (if F.any (fun j => edge ops j m) then m :: F else F) r
def check : Plan → List Nat → List Nat → Bool
  | .done, seen, _ => (List.range ops.size).all seen.contains
  | .take i p, seen, T => okNew ops i seen && check p (i :: seen) (i :: T)
  | .run i p, seen, T => okNew ops i seen && waits ops [i] seen && check p (i :: seen) T
  | .free i p, seen, T => okFree ops i seen && waits ops [i] seen && T.all (forced ops i [i] seen).contains && check p (i :: seen) []
  | .fork i p j q, seen, T => okNew ops i seen && okNew ops j seen && i != j && waits ops [i, j] seen && check p (i :: seen) T && check q (j :: seen) T
def acyc : Bool := (List.range ops.size).all fun i => match ops[i]? with | some o => o.after.all (fun e => !Region.binds .any e || decide (e.on < i)) | none => true
end check

section
variable {P : Program} {ops : Array Oper} {N : Act → World → Prop}

/-- In every world of the class it yields this value, and leaves the world alone. -/
def StillIn (P : Program) (ops : Array Oper) (S : World → Prop) (o : Oper) (v : Value) (a : Act) : Prop :=
  (Region.wanted o (yielded ops a.tmps) = true ∧ ∀ w, S w → ((execOp a.eval o).run P w = .ok (.value v) w ∨
    ∃ f args, (execOp a.eval o).run P w = .ok (.enter f args) w ∧ Calls P f args w (fun e w' => e = .returned v ∧ w' = w))) ∨
  (Region.wanted o (yielded ops a.tmps) = false ∧ v = undef)
def StepK (P : Program) (ops : Array Oper) (i : Nat) (K : Option Tmp → Value → World → Prop) (a : Act) (w : World) : Prop :=
  ∃ o, ops[i]? = some o ∧ (if Region.wanted o (yielded ops a.tmps) then StepE P o a w (K o.dst) else K o.dst undef w)
def Pi (P : Program) (ops : Array Oper) (N : Act → World → Prop) : Plan → (World → Prop) → Act → World → Prop
  | .done, _, a, w => N a w
  | .take i p, S, a, w => ∃ o v, ops[i]? = some o ∧ StillIn P ops S o v a ∧ Pi P ops N p S (a.put o.dst v) w
  | .run i p, S, a, w => StepK P ops i (fun d v w' => S w' ∧ Pi P ops N p S (a.put d v) w') a w
  | .free i p, _, a, w => StepK P ops i (fun d v w' => ∃ S', S' w' ∧ Pi P ops N p S' (a.put d v) w') a w
  | .fork i p j q, S, a, w => StepK P ops i (fun d v w' => S w' ∧ Pi P ops N p S (a.put d v) w') a w ∧ StepK P ops j (fun d v w' => S w' ∧ Pi P ops N q S (a.put d v) w') a w

/-! ### two frames that agree where an operation looks -/
theorem eval_agree {a b : Act} {x : Operand} (h : ∀ t, x = .tmp t → a.tmps[t]? = b.tmps[t]?) : a.eval x = b.eval x := by
  cases x with
  | tmp t => simp only [Act.eval, Array.getD_eq_getD_getElem?, h t rfl]
  | _ => rfl
theorem exec_agree {o : Oper} (hs : ∀ cs b, o.op ≠ .select cs b) {a b : Act} (h : ∀ t, t ∈ o.looksAt ops → a.tmps[t]? = b.tmps[t]?) : execOp a.eval o = execOp b.eval o :=
  execOp_congr o hs fun x hx => eval_agree fun t e => h t (by
    subst e
    exact List.mem_append_left _ (List.mem_filterMap.2 ⟨.tmp t, by simpa using hx, rfl⟩))
theorem wanted_agree {o : Oper} {a b : Act} (h : ∀ t, t ∈ o.looksAt ops → a.tmps[t]? = b.tmps[t]?) : Region.wanted o (yielded ops a.tmps) = Region.wanted o (yielded ops b.tmps) := by
  unfold Region.wanted
  cases hg : o.guard with
  | none => rfl
  | some gw =>
    obtain ⟨g, want⟩ := gw
    have : yielded ops a.tmps g = yielded ops b.tmps g := by
      unfold yielded
      cases hd : (ops[g]?).bind (·.dst) with
      | none => rfl
      | some d =>
        have := h d (List.mem_append_right _ (by rw [hg]; simp [hd]))
        simp [this]
    simp [this]
theorem put_at {a : Act} {d : Option Tmp} {v : Value} {t : Nat} (h : d ≠ some t) : (a.put d v).tmps[t]? = a.tmps[t]? := by
  cases d with
  | none => rfl
  | some s => exact Array.getElem?_setIfInBounds_ne (fun e => h (by rw [e]))
theorem put_twice (a : Act) (d : Option Tmp) (v : Value) : (a.put d v).put d v = a.put d v := by
  cases d with
  | none => rfl
  | some s => simp [Act.put]
theorem put_size (a : Act) (d : Option Tmp) (v : Value) : (a.put d v).tmps.size = a.tmps.size := by
  cases d <;> simp [Act.put]
theorem put_defers (a : Act) (d : Option Tmp) (v : Value) : (a.put d v).defers = a.defers := by
  cases d <;> simp [Act.put]
theorem StillIn.agree {S : World → Prop} {o : Oper} {v : Value} {a b : Act} (hs : ∀ cs b, o.op ≠ .select cs b) (h : ∀ t, t ∈ o.looksAt ops → a.tmps[t]? = b.tmps[t]?) (k : StillIn P ops S o v a) : StillIn P ops S o v b := by
  unfold StillIn at *
  rw [← exec_agree hs h, ← wanted_agree h]
  exact k
theorem touch_no {d : Option Tmp} {l : List Tmp} (h : touch d l = false) : ∀ t, t ∈ l → d ≠ some t := by
  intro t ht e
  subst e
  simp [touch, ht] at h

/-! ### the state of a walk in any order -/
structure Inv (P : Program) (ops : Array Oper) (N : Act → World → Prop) (listed : Array Bool) (p : Plan) (seen T : List Nat) (S : World → Prop) (b : Act) (a : Act) (w : World) : Prop where
  chk : check ops p seen T = true
  pi : Pi P ops N p S b w
  inS : S w
  size : listed.size = ops.size
  sub : ∀ m, listed.getD m false = true → m ∈ seen
  due : ∀ m, m ∈ seen → listed.getD m false = false → m ∈ T ∧ ∃ o v, ops[m]? = some o ∧ StillIn P ops S o v b ∧ b.put o.dst v = b
  raw : ∀ x y, x ∈ seen → y ∈ seen → listed.getD y false = false → x ≠ y → touch (dstOf ops x) (looks ops y) = true → edge ops y x = true
  self : ∀ x, x ∈ seen → touch (dstOf ops x) (looks ops x) = false
  sel : ∀ x, x ∈ seen → noSel ops x = true
  dsts : ∀ x y, x ∈ seen → y ∈ seen → x ≠ y → ∀ t, dstOf ops x = some t → dstOf ops y ≠ some t
  agree : ∀ t, (∀ m, m ∈ seen → listed.getD m false = false → dstOf ops m ≠ some t) → a.tmps[t]? = b.tmps[t]?
  sz : a.tmps.size = b.tmps.size
  df : a.defers = b.defers
  closed : ∀ j o, listed.getD j false = true → ops[j]? = some o → ∀ e ∈ o.after, Region.binds .any e = true → listed.getD e.on false = true

theorem okNew_out {i : Nat} {seen : List Nat} (h : okNew ops i seen = true) : i ∉ seen ∧ depsIn ops i seen = true ∧ noSel ops i = true ∧ touch (dstOf ops i) (looks ops i) = false ∧
    ∀ m, m ∈ seen → touch (dstOf ops i) (looks ops m) = false ∧ (∀ t, dstOf ops i = some t → dstOf ops m ≠ some t) ∧ (touch (dstOf ops m) (looks ops i) = true → edge ops i m = true) := by
  simp only [okNew, Bool.and_eq_true, Bool.not_eq_true', List.all_eq_true, Bool.or_eq_true] at h
  obtain ⟨⟨⟨⟨h1, h2⟩, h3⟩, h4⟩, h5⟩ := h
  refine ⟨by simpa using h1, h2, h3, h4, fun m hm => ?_⟩
  obtain ⟨⟨h6, h7⟩, h8⟩ := h5 m hm
  refine ⟨h6, fun t e => ?_, fun e => h8.resolve_left (by rw [e]; simp)⟩
  rw [e] at h7
  simpa [apartD] using h7
theorem okFree_out {i : Nat} {seen : List Nat} (h : okFree ops i seen = true) : i ∉ seen ∧ depsIn ops i seen = true ∧ noSel ops i = true ∧ touch (dstOf ops i) (looks ops i) = false ∧
    ∀ m, m ∈ seen → (∀ t, dstOf ops i = some t → dstOf ops m ≠ some t) ∧ (touch (dstOf ops m) (looks ops i) = true → edge ops i m = true) := by
  simp only [okFree, Bool.and_eq_true, Bool.not_eq_true', List.all_eq_true, Bool.or_eq_true] at h
  obtain ⟨⟨⟨⟨h1, h2⟩, h3⟩, h4⟩, h5⟩ := h
  refine ⟨by simpa using h1, h2, h3, h4, fun m hm => ?_⟩
  obtain ⟨h7, h8⟩ := h5 m hm
  refine ⟨fun t e => ?_, fun e => h8.resolve_left (by rw [e]; simp)⟩
  rw [e] at h7
  simpa [apartD] using h7
theorem okNew_free {i : Nat} {seen : List Nat} (h : okNew ops i seen = true) : okFree ops i seen = true := by
  simp only [okNew, okFree, Bool.and_eq_true, List.all_eq_true] at h ⊢
  exact ⟨h.1, fun m hm => ⟨(h.2 m hm).1.2, (h.2 m hm).2⟩⟩
theorem noSel_out {i : Nat} {o : Oper} (h : noSel ops i = true) (ho : ops[i]? = some o) : ∀ cs b, o.op ≠ .select cs b := by
  intro cs b e
  simp [noSel, ho, e] at h
theorem looks_eq {i : Nat} {o : Oper} (ho : ops[i]? = some o) : looks ops i = o.looksAt ops := by simp [looks, ho]
theorem dst_eq {i : Nat} {o : Oper} (ho : ops[i]? = some o) : dstOf ops i = o.dst := by simp [dstOf, ho]
theorem edge_out {i m : Nat} {o : Oper} (ho : ops[i]? = some o) (h : edge ops i m = true) : ∃ e ∈ o.after, Region.binds .any e = true ∧ e.on = m := by
  simp only [edge, ho] at h
  obtain ⟨e, he, hb⟩ := Array.any_eq_true'.1 h
  simp only [Bool.and_eq_true, beq_iff_eq] at hb
  exact ⟨e, he, hb.1, hb.2⟩

/-- One operation more stands in 'seen': it has been put into b. -/
theorem Inv.more {listed : Array Bool} {p p' : Plan} {seen T : List Nat} {S S' : World → Prop} {a a' b : Act} {w w' : World} {i : Nat} {o : Oper} {v : Value} {T' : List Nat} {listed' : Array Bool} (h : Inv P ops N listed p seen T S b a w)
    (hn : okFree ops i seen = true) (hq : ∀ m, m ∈ seen → listed.getD m false = false → touch (dstOf ops i) (looks ops m) = false) (ho : ops[i]? = some o) (hc : check ops p' (i :: seen) T' = true) (hp : Pi P ops N p' S' (b.put o.dst v) w') (hs : S' w')
    (hl : (listed' = listed ∧ a' = a ∧ S' = S ∧ T' = i :: T ∧ StillIn P ops S o v b) ∨
      (listed' = listed.setIfInBounds i true ∧ a' = a.put o.dst v ∧ (∀ e ∈ o.after, Region.binds .any e = true → listed.getD e.on false = true) ∧ ((S' = S ∧ T' = T) ∨ ∀ m, m ∈ seen → listed.getD m false = true))) :
    Inv P ops N listed' p' (i :: seen) T' S' (b.put o.dst v) a' w' := by
  obtain ⟨n1, n2, n3, n4, n5⟩ := okFree_out hn
  have hi : i < ops.size := (Array.getElem?_eq_some_iff.1 ho).1
  have hil : i < listed.size := by rw [h.size]; exact hi
  have hd := dst_eq (ops := ops) ho
  have hlk := looks_eq (ops := ops) ho
  have hne : ∀ m, m ∈ seen → m ≠ i := fun m hm e => n1 (e ▸ hm)
  have old : ∀ m, m ∈ seen → listed.getD m false = false → ∀ om, ops[m]? = some om → ∀ t, t ∈ om.looksAt ops → b.tmps[t]? = (b.put o.dst v).tmps[t]? := fun m hm hu om hom t ht => by
    refine (put_at fun e => ?_).symm
    have := touch_no (hq m hm hu) t (by rw [looks_eq hom]; exact ht)
    rw [hd] at this
    exact this e
  have hun : listed.getD i false = false := by
    cases e : listed.getD i false with
    | false => rfl
    | true => exact absurd (h.sub i e) n1
  have hgd : ∀ m, m ≠ i → listed'.getD m false = listed.getD m false := fun m hm => by
    rcases hl with ⟨rfl, _⟩ | ⟨rfl, _⟩
    · rfl
    · exact getD_set_ne false (Ne.symm hm)
  have duem : ∀ m, m ∈ seen → listed.getD m false = false → S' = S → ∃ om vm, ops[m]? = some om ∧ StillIn P ops S' om vm (b.put o.dst v) ∧ (b.put o.dst v).put om.dst vm = b.put o.dst v := fun m hm hu hS => by
    obtain ⟨_, om, vm, hom, hst, hpt⟩ := h.due m hm hu
    refine ⟨om, vm, hom, ?_, ?_⟩
    · rw [hS]; exact hst.agree (noSel_out (h.sel m hm) hom) (old m hm hu om hom)
    · rw [Act.put_comm b v vm (fun d e => by have := (n5 m hm).1 d (by rw [hd]; exact e); rwa [dst_eq hom] at this), hpt]
  refine ⟨hc, hp, hs, ?_, fun m hm => ?_, fun m hm hu => ?_, fun x y hx hy hyu hxy ht => ?_, fun x hx => ?_, fun x hx => ?_, fun x y hx hy hxy t ht => ?_, fun t ht => ?_, ?_, ?_, fun j oj hj hoj e he hb => ?_⟩
  · rcases hl with ⟨rfl, _⟩ | ⟨rfl, _⟩
    · exact h.size
    · simpa using h.size
  · by_cases e : m = i
    · simp [e]
    · exact List.mem_cons_of_mem _ (h.sub m (by rw [← hgd m e]; exact hm))
  · rcases hl with ⟨rfl, rfl, rfl, rfl, hst⟩ | ⟨rfl, rfl, _, hS⟩
    · rcases List.mem_cons.1 hm with rfl | hm
      · exact ⟨by simp, o, v, ho, hst.agree (noSel_out n3 ho) (fun t ht => (put_at fun e => touch_no n4 t (by rw [hlk]; exact ht) (by rw [hd]; exact e)).symm), put_twice _ _ _⟩
      · exact ⟨by simp [(h.due m hm hu).1], duem m hm hu rfl⟩
    · rcases List.mem_cons.1 hm with rfl | hm
      · exfalso
        have : (listed.setIfInBounds m true).getD m false = true := by simp [hil]
        rw [this] at hu; cases hu
      · have hu' : listed.getD m false = false := by rw [← hgd m (hne m hm)]; exact hu
        rcases hS with ⟨hS, rfl⟩ | hS
        · exact ⟨(h.due m hm hu').1, duem m hm hu' hS⟩
        · rw [hS m hm] at hu'; cases hu'
  · rcases List.mem_cons.1 hx with rfl | hx1
    · rcases List.mem_cons.1 hy with rfl | hy1
      · exact absurd rfl hxy
      · rw [hq y hy1 (by rw [← hgd y (hne y hy1)]; exact hyu)] at ht; cases ht
    · rcases List.mem_cons.1 hy with rfl | hy1
      · exact (n5 x hx1).2 ht
      · exact h.raw x y hx1 hy1 (by rw [← hgd y (hne y hy1)]; exact hyu) hxy ht
  · rcases List.mem_cons.1 hx with rfl | hx
    · exact n4
    · exact h.self x hx
  · rcases List.mem_cons.1 hx with rfl | hx
    · exact n3
    · exact h.sel x hx
  · rcases List.mem_cons.1 hx with rfl | hx1
    · rcases List.mem_cons.1 hy with rfl | hy1
      · exact absurd rfl hxy
      · exact (n5 y hy1).1 t ht
    · rcases List.mem_cons.1 hy with rfl | hy1
      · intro e; exact (n5 x hx1).1 t e ht
      · exact h.dsts x y hx1 hy1 hxy t ht
  · rcases hl with ⟨rfl, rfl, rfl, rfl, hst⟩ | ⟨rfl, rfl, _, hS⟩
    · have hti : o.dst ≠ some t := fun e => ht i (by simp) hun (by rw [hd]; exact e)
      rw [put_at hti]
      exact h.agree t fun m hm hu => ht m (by simp [hm]) hu
    · by_cases hti : o.dst = some t
      · have e1 : t < a.tmps.size ↔ t < b.tmps.size := by rw [h.sz]
        rw [hti]
        simp only [Act.put, Array.getElem?_setIfInBounds]
        simp [h.sz]
      · rw [put_at hti, put_at hti]
        refine h.agree t fun m hm hu => ht m (by simp [hm]) ?_
        rw [hgd m (hne m hm)]; exact hu
  · rcases hl with ⟨rfl, rfl, _⟩ | ⟨rfl, rfl, _⟩
    · rw [put_size]; exact h.sz
    · rw [put_size, put_size]; exact h.sz
  · rcases hl with ⟨rfl, rfl, _⟩ | ⟨rfl, rfl, _⟩
    · rw [put_defers]; exact h.df
    · rw [put_defers, put_defers]; exact h.df
  · rcases hl with ⟨rfl, rfl, _⟩ | ⟨rfl, rfl, hall, _⟩
    · exact h.closed j oj hj hoj e he hb
    · by_cases eji : j = i
      · subst eji
        have : oj = o := Option.some.inj (hoj.symm.trans ho)
        subst this
        exact getD_set_true (hall e he hb)
      · rw [getD_set_ne false (Ne.symm eji)] at hj
        exact getD_set_true (h.closed j oj hj hoj e he hb)

def Plan.normal : Plan → Prop
  | .take _ _ => False
  | _ => True
/-- All that may be taken is taken. -/
theorem Inv.advance {listed : Array Bool} {a : Act} {w : World} {S : World → Prop} : ∀ (p : Plan) (seen T : List Nat) (b : Act), Inv P ops N listed p seen T S b a w →
    ∃ p' seen' T' b', p'.normal ∧ Inv P ops N listed p' seen' T' S b' a w
  | .done, seen, T, b, h => ⟨.done, seen, T, b, (trivial : Plan.normal (.done)), h⟩
  | .run i p, seen, T, b, h => ⟨.run i p, seen, T, b, (trivial : Plan.normal (.run i p)), h⟩
  | .free i p, seen, T, b, h => ⟨.free i p, seen, T, b, (trivial : Plan.normal (.free i p)), h⟩
  | .fork i p j q, seen, T, b, h => ⟨.fork i p j q, seen, T, b, (trivial : Plan.normal (.fork i p j q)), h⟩
  | .take i p, seen, T, b, h => by
    obtain ⟨o, v, ho, hst, hp⟩ := h.pi
    have hc := h.chk
    simp only [check, Bool.and_eq_true] at hc
    exact Inv.advance p _ _ _ (h.more (okNew_free hc.1) (fun m hm _ => ((okNew_out hc.1).2.2.2.2 m hm).1) ho hc.2 hp h.inS (.inl ⟨rfl, rfl, rfl, rfl, hst⟩))

theorem Inv.agreeAt {listed : Array Bool} {p : Plan} {seen T : List Nat} {S : World → Prop} {a b : Act} {w : World} {i : Nat} {o : Oper} (h : Inv P ops N listed p seen T S b a w) (ho : ops[i]? = some o)
    (hall : ∀ e ∈ o.after, Region.binds .any e = true → listed.getD e.on false = true) (hd : ∀ m, m ∈ seen → listed.getD m false = false → touch (dstOf ops m) (looks ops i) = true → edge ops i m = true) :
    ∀ t, t ∈ o.looksAt ops → b.tmps[t]? = a.tmps[t]? := fun t ht => by
  refine (h.agree t fun m hm hu e => ?_).symm
  have h1 : touch (dstOf ops m) (looks ops i) = true := by rw [e, looks_eq ho]; simpa [touch] using ht
  obtain ⟨e', he, hb, hon⟩ := edge_out ho (hd m hm hu h1)
  have := hall e' he hb
  rw [hon, hu] at this
  cases this
theorem StepK.wp {i : Nat} {o : Oper} {a b : Act} {w : World} {K : Option Tmp → Value → World → Prop} {next : Act → World → Prop} {Q : Exit → Act → World → Prop} (ho : ops[i]? = some o) (hs : ∀ cs b, o.op ≠ .select cs b)
    (hag : ∀ t, t ∈ o.looksAt ops → b.tmps[t]? = a.tmps[t]?) (h : StepK P ops i K b w) (hk : ∀ v w', K o.dst v w' → next (a.put o.dst v) w') : wpOp P ops Q i next a w := by
  obtain ⟨o', ho', h⟩ := h
  have : o' = o := Option.some.inj (ho'.symm.trans ho)
  subst this
  unfold wpOp
  simp only [ho]
  rw [wanted_agree hag] at h
  split
  · rename_i hw
    rw [if_pos hw] at h
    unfold StepE at h
    rw [exec_agree hs hag] at h
    exact .inl (StepE.wp (K := K o'.dst) h hk)
  · rename_i hw
    rw [if_neg hw] at h
    exact hk _ _ h
theorem forced_out {listed : Array Bool} {i : Nat} {o : Oper} (ho : ops[i]? = some o) (hall : ∀ e ∈ o.after, Region.binds .any e = true → listed.getD e.on false = true)
    (hcl : ∀ j o, listed.getD j false = true → ops[j]? = some o → ∀ e ∈ o.after, Region.binds .any e = true → listed.getD e.on false = true) :
    ∀ (seen F : List Nat), (∀ m, m ∈ F → m = i ∨ listed.getD m false = true) → ∀ m, m ∈ forced ops i F seen → m = i ∨ listed.getD m false = true
  | [], F, hF => hF
  | k :: r, F, hF => by
    refine forced_out ho hall hcl r _ fun m hm => ?_
    split at hm
    · rename_i hany
      rcases List.mem_cons.1 hm with rfl | hm
      · obtain ⟨j, hj, he⟩ := List.any_eq_true.1 hany
        right
        rcases hF j hj with rfl | hl
        · obtain ⟨e, he1, he2, he3⟩ := edge_out ho he
          rw [← he3]; exact hall e he1 he2
        · cases hoj : ops[j]? with
          | none => simp [edge, hoj] at he
          | some oj =>
            obtain ⟨e, he1, he2, he3⟩ := edge_out hoj he
            rw [← he3]; exact hcl j oj hl hoj e he1 he2
      · exact hF m hm
    · exact hF m hm
theorem waits_out {listed : Array Bool} {l seen : List Nat} (hw : waits ops l seen = true) (hsub : ∀ m, listed.getD m false = true → m ∈ seen) {j : Nat} (hj : j ∈ Region.ready .any ops listed) : j ∈ seen ∨ j ∈ l := by
  obtain ⟨_, o, ho, hall⟩ := mem_ready.1 hj
  have hlt : j < ops.size := (Array.getElem?_eq_some_iff.1 ho).1
  have h1 := List.all_eq_true.1 hw j (List.mem_range.2 hlt)
  simp only [Bool.or_eq_true, ho] at h1
  rcases h1 with (h1 | h1) | h1
  · exact .inl (by simpa using h1)
  · exact .inr (by simpa using h1)
  · exfalso
    obtain ⟨e, he, hb⟩ := Array.any_eq_true'.1 h1
    simp only [Bool.and_eq_true, Bool.not_eq_true'] at hb
    have := hsub e.on (hall e he hb.1)
    have hn : e.on ∉ seen := by simpa using hb.2
    exact hn this

/-- Some plan, from some state on. -/
def Some' (P : Program) (ops : Array Oper) (N : Act → World → Prop) (listed : Array Bool) (a : Act) (w : World) : Prop :=
  ∃ p seen T S b, p.normal ∧ Inv P ops N listed p seen T S b a w
theorem Inv.some {listed : Array Bool} {p : Plan} {seen T : List Nat} {S : World → Prop} {a b : Act} {w : World} (h : Inv P ops N listed p seen T S b a w) : Some' P ops N listed a w := by
  obtain ⟨p', seen', T', b', hn, h'⟩ := h.advance
  exact ⟨p', seen', T', S, b', hn, h'⟩
theorem nil_done {listed : Array Bool} {seen : List Nat} (hsub : ∀ m, listed.getD m false = true → m ∈ seen) {i : Nat} (hok : okFree ops i seen = true) : listed.getD i false = false ∧ i < ops.size := by
  obtain ⟨n1, n2, _⟩ := okFree_out hok
  constructor
  · cases e : listed.getD i false with
    | false => rfl
    | true => exact absurd (hsub i e) n1
  · cases e : ops[i]? with
    | none => simp [depsIn, e] at n2
    | some o => exact (Array.getElem?_eq_some_iff.1 e).1

theorem Some'.step {Q : Exit → Act → World → Prop} {listed : Array Bool} {a : Act} {w : World} {j : Nat} (h : Some' P ops N listed a w) (hj : j ∈ Region.ready .any ops listed) :
    wpOp P ops Q j (fun a' w' => Some' P ops N (listed.setIfInBounds j true) a' w') a w := by
  obtain ⟨p, seen, T, S, b, hn, h⟩ := h
  obtain ⟨hun, o, ho, hall⟩ := mem_ready.1 hj
  have hjs : j < ops.size := (Array.getElem?_eq_some_iff.1 ho).1
  have hjl : j < listed.size := by rw [h.size]; exact hjs
  have hun' : listed.getD j false = false := by simp [hjl] at hun ⊢; exact hun
  by_cases hin : j ∈ seen
  · -- it has been taken already
    obtain ⟨hT, o', v, ho', hst, hpt⟩ := h.due j hin hun'
    have : o' = o := Option.some.inj (ho'.symm.trans ho)
    subst this
    have hag : ∀ t, t ∈ o'.looksAt ops → b.tmps[t]? = a.tmps[t]? := h.agreeAt ho hall fun m hm hu ht => by
      by_cases e : m = j
      · subst e; rw [h.self m hm] at ht; cases ht
      · exact h.raw m j hm hin hun' e ht
    have hnext : ∀ w', w' = w → Some' P ops N (listed.setIfInBounds j true) (a.put o'.dst v) w' := fun w' e => by
      subst e
      have hgd : ∀ m, m ≠ j → (listed.setIfInBounds j true).getD m false = listed.getD m false := fun m hm => getD_set_ne false (Ne.symm hm)
      have hgj : (listed.setIfInBounds j true).getD j false = true := by simp [hjl]
      have hlu : ∀ y, (listed.setIfInBounds j true).getD y false = false → listed.getD y false = false := fun y hy => by
        by_cases e : y = j
        · subst e; rw [hgj] at hy; cases hy
        · rw [← hgd y e]; exact hy
      refine ⟨p, seen, T, S, b, hn, h.chk, h.pi, h.inS, by simpa using h.size, fun m hm => ?_, fun m hm hu => ?_, fun x y hx hy hyu hxy ht => h.raw x y hx hy (hlu y hyu) hxy ht, h.self, h.sel, h.dsts, fun t ht => ?_, ?_, ?_, fun k ok hk hok e he hb => ?_⟩
      · by_cases e : m = j
        · subst e; exact hin
        · exact h.sub m (by rw [← hgd m e]; exact hm)
      · by_cases e : m = j
        · subst e; rw [hgj] at hu; cases hu
        · exact h.due m hm (by rw [← hgd m e]; exact hu)
      · by_cases e : o'.dst = some t
        · have h1 : (b.put o'.dst v).tmps[t]? = b.tmps[t]? := by rw [hpt]
          rw [← h1, e]
          simp only [Act.put, Array.getElem?_setIfInBounds]
          simp [h.sz]
        · rw [put_at e]
          refine h.agree t fun m hm hu => ?_
          by_cases em : m = j
          · subst em; rw [dst_eq ho]; exact e
          · exact ht m hm (by rw [hgd m em]; exact hu)
      · rw [put_size]; exact h.sz
      · rw [put_defers]; exact h.df
      · by_cases ek : k = j
        · subst ek
          have : ok = o' := Option.some.inj (hok.symm.trans ho)
          subst this
          exact getD_set_true (hall e he hb)
        · rw [hgd k ek] at hk
          exact getD_set_true (h.closed k ok hk hok e he hb)
    unfold wpOp
    simp only [ho]
    have hst' := hst.agree (noSel_out (h.sel j hin) ho) hag
    rcases hst' with ⟨hw, hv⟩ | ⟨hw, rfl⟩
    · rw [if_pos hw]
      refine .inl ?_
      unfold Oper.wp
      rcases hv w h.inS with hv | ⟨f, args, hv, hc⟩
      · rw [hv]; exact hnext w rfl
      · rw [hv]
        exact Calls.mono hc fun e w' ⟨he, hw'⟩ => by subst he; exact hnext w' hw'
    · rw [if_neg (by rw [hw]; simp)]; exact hnext w rfl
  · have deps : ∀ i, okFree ops i seen = true → ∀ m, m ∈ seen → listed.getD m false = false → touch (dstOf ops m) (looks ops i) = true → edge ops i m = true := fun i hok m hm _ ht => ((okFree_out hok).2.2.2.2 m hm).2 ht
    cases p with
    | done =>
      have := List.all_eq_true.1 h.chk j (List.mem_range.2 hjs)
      exact absurd (by simpa using this) hin
    | take i p => exact hn.elim
    | run i p =>
      have hc := h.chk
      simp only [check, Bool.and_eq_true] at hc
      obtain ⟨⟨hok, hwt⟩, hc⟩ := hc
      have hji : j = i := by
        rcases waits_out hwt h.sub hj with h1 | h1
        · exact absurd h1 hin
        · simpa using h1
      subst hji
      exact StepK.wp ho (noSel_out (okNew_out hok).2.2.1 ho) (h.agreeAt ho hall (deps j (okNew_free hok))) h.pi fun v w' hk => (h.more (okNew_free hok) (fun m hm _ => ((okNew_out hok).2.2.2.2 m hm).1) ho hc hk.2 hk.1 (.inr ⟨rfl, rfl, hall, .inl ⟨rfl, rfl⟩⟩)).some
    | free i p =>
      have hc := h.chk
      simp only [check, Bool.and_eq_true] at hc
      obtain ⟨⟨⟨hok, hwt⟩, hf⟩, hc⟩ := hc
      have hji : j = i := by
        rcases waits_out hwt h.sub hj with h1 | h1
        · exact absurd h1 hin
        · simpa using h1
      subst hji
      have hfo := forced_out ho hall h.closed seen [j] (fun m hm => .inl (by simpa using hm))
      have hls : ∀ m, m ∈ seen → listed.getD m false = true := fun m hm => by
        cases hu : listed.getD m false with
        | true => rfl
        | false =>
          have hmT := (h.due m hm hu).1
          have hmF := List.all_eq_true.1 hf m hmT
          rcases hfo m (by simpa using hmF) with e | e
          · exact absurd (e ▸ hm) hin
          · rw [hu] at e; cases e
      refine StepK.wp ho (noSel_out (okFree_out hok).2.2.1 ho) (h.agreeAt ho hall (deps j hok)) h.pi fun v w' hk => ?_
      obtain ⟨S', hS', hk⟩ := hk
      exact (h.more hok (fun m hm hu => by rw [hls m hm] at hu; cases hu) ho hc hk hS' (.inr ⟨rfl, rfl, hall, .inr hls⟩)).some
    | fork i p k q =>
      have hc := h.chk
      simp only [check, Bool.and_eq_true] at hc
      obtain ⟨⟨⟨⟨⟨hok, hok'⟩, _⟩, hwt⟩, hc⟩, hc'⟩ := hc
      have hji : j = i ∨ j = k := by
        rcases waits_out hwt h.sub hj with h1 | h1
        · exact absurd h1 hin
        · simpa using h1
      rcases hji with rfl | rfl
      · exact StepK.wp ho (noSel_out (okNew_out hok).2.2.1 ho) (h.agreeAt ho hall (deps j (okNew_free hok))) h.pi.1 fun v w' hk => (h.more (okNew_free hok) (fun m hm _ => ((okNew_out hok).2.2.2.2 m hm).1) ho hc hk.2 hk.1 (.inr ⟨rfl, rfl, hall, .inl ⟨rfl, rfl⟩⟩)).some
      · exact StepK.wp ho (noSel_out (okNew_out hok').2.2.1 ho) (h.agreeAt ho hall (deps j (okNew_free hok'))) h.pi.2 fun v w' hk => (h.more (okNew_free hok') (fun m hm _ => ((okNew_out hok').2.2.2.2 m hm).1) ho hc' hk.2 hk.1 (.inr ⟨rfl, rfl, hall, .inl ⟨rfl, rfl⟩⟩)).some

theorem all_listed (hac : acyc ops = true) {listed : Array Bool} (hr : Region.ready .any ops listed = []) (hsz : listed.size = ops.size) : ∀ j, j < ops.size → listed.getD j false = true := by
  intro j
  induction j using Nat.strongRecOn with
  | _ j ih =>
    intro hj
    cases hu : listed.getD j false with
    | true => rfl
    | false =>
      exfalso
      have hjl : j < listed.size := by rw [hsz]; exact hj
      have : j ∈ Region.ready .any ops listed := by
        refine mem_ready.2 ⟨by simp [hjl] at hu ⊢; exact hu, ops[j], by simp [hj], fun e he hb => ?_⟩
        have h1 := List.all_eq_true.1 hac j (List.mem_range.2 hj)
        simp only [Array.getElem?_eq_getElem hj] at h1
        have h2 := (Array.all_eq_true_iff_forall_mem.1 h1) e he
        rw [hb] at h2
        have h3 : e.on < j := by simpa using h2
        exact ih e.on h3 (by omega)
      rw [hr] at this
      cases this
theorem Some'.end {listed : Array Bool} {a : Act} {w : World} (hac : acyc ops = true) (h : Some' P ops N listed a w) (hr : Region.ready .any ops listed = []) : N a w := by
  obtain ⟨p, seen, T, S, b, hn, h⟩ := h
  have hall := all_listed hac hr h.size
  have hno : ∀ i, okFree ops i seen = true → False := fun i hok => by
    obtain ⟨h1, h2⟩ := nil_done h.sub hok
    rw [hall i h2] at h1
    cases h1
  cases p with
  | done =>
    have e : a = b := by
      have h1 : a.tmps = b.tmps := by
        apply Array.ext_getElem?
        intro t
        refine h.agree t fun m hm hu e => ?_
        have : m < ops.size := by
          obtain ⟨_, o, _, ho, _⟩ := h.due m hm hu
          exact (Array.getElem?_eq_some_iff.1 ho).1
        rw [hall m this] at hu
        cases hu
      cases a; cases b
      simp only at h1
      have := h.df
      simp only at this
      subst h1; subst this; rfl
    subst e
    exact h.pi
  | take i p => exact hn.elim
  | run i p => have hc := h.chk; simp only [check, Bool.and_eq_true] at hc; exact (hno i (okNew_free hc.1.1)).elim
  | free i p => have hc := h.chk; simp only [check, Bool.and_eq_true] at hc; exact (hno i hc.1.1.1).elim
  | fork i p k q => have hc := h.chk; simp only [check, Bool.and_eq_true] at hc; exact (hno i (okNew_free hc.1.1.1.1.1)).elim
theorem Some'.any (hac : acyc ops = true) : ∀ (fuel : Nat) (listed : Array Bool) (a : Act) (w : World), listed.size = ops.size → listed.toList.countP (· == false) ≤ fuel → Some' P ops N listed a w → wpAny P .any ops (Qn N) fuel listed a w
  | 0, listed, a, w, hsz, hf, h => by
    have hr : Region.ready .any ops listed = [] := by
      apply List.eq_nil_iff_forall_not_mem.2
      intro j hj
      obtain ⟨hun, o, ho, _⟩ := mem_ready.1 hj
      have hjl : j < listed.size := by rw [hsz]; exact (Array.getElem?_eq_some_iff.1 ho).1
      have h0 : listed.toList.countP (· == false) = 0 := by omega
      have := List.countP_eq_zero.1 h0 listed[j] (by simp)
      simp [hjl] at hun
      simp [hun] at this
    exact ⟨hr, h.end hac hr⟩
  | fuel + 1, listed, a, w, hsz, hf, h => by
    refine ⟨fun hr => h.end hac hr, fun j hj => ?_⟩
    refine wpOp_mono (fun a' w' h' => Some'.any hac fuel _ a' w' (by simpa using hsz) ?_ h') (h.step hj)
    obtain ⟨hun, o, ho, _⟩ := mem_ready.1 hj
    have hjl : j < listed.size := by rw [hsz]; exact (Array.getElem?_eq_some_iff.1 ho).1
    simp [hjl] at hun
    have hjt : j < listed.toList.length := by simpa using hjl
    have hv : listed.toList[j] = false := by simpa using hun
    rw [Array.toList_setIfInBounds, List.countP_set (by simpa using hjl)]
    have hpos : 0 < listed.toList.countP (· == false) := List.countP_pos_iff.2 ⟨listed.toList[j], List.getElem_mem hjt, by rw [hv]; rfl⟩
    simp only [hv]
    simp
    simp at hpos hf
    omega

/-- **A region that draws its order, along a plan.** -/
theorem wp_pi {id : Nat} {X : List (Nat × (Act → World → Prop))} {R : Act → World → Prop} {a : Act} {w : World} (hm : P.follows .mixedOrders = true) (p : Plan) (S : World → Prop) (hac : acyc ops = true) (hc : check ops p [] [] = true) (hS : S w.drew)
    (h : Pi P ops N p S a w.drew) : (Code.region id ops true).wp P (Qof N X R) a w := by
  refine wp_mono (wp_region_any (Q := Qn N) hm ?_) Qof_of_Qn
  refine Some'.any hac _ _ _ _ (by simp) (Nat.le_trans List.countP_le_length (by simp)) (Inv.some (p := p) (seen := []) (T := []) (S := S) (b := a) ?_)
  refine ⟨hc, h, hS, by simp, fun m hm => ?_, fun m hm => (by cases hm), fun x y hx => (by cases hx), fun x hx => (by cases hx), fun x hx => (by cases hx), fun x y hx => (by cases hx), fun t _ => rfl, rfl, rfl, fun j o hj => ?_⟩
  · exfalso
    rcases Nat.lt_or_ge m ops.size with h' | h' <;> simp [h'] at hm
  · exfalso
    rcases Nat.lt_or_ge j ops.size with h' | h' <;> simp [h'] at hj
end
end Go.Proofs.Ytglilmcfhkedbaa
