/- A small calculus for walking regions and control flow with an association list of slots: every rule is proved here from the kit's own laws; no condition. -/
import Derived.RowKit3
import Derived.Below
import Derived.Tactics
import Derived.Still
import Derived.Deep.LoopGhost
import Derived.KernelRfl
namespace Go.Proofs.Ytglilmcfhkedbaa
open Go Go.RowKit

/-! ### slots -/
abbrev Env := List (Nat × Value)
def Env.get : Env → Nat → Option Value
  | [], _ => none
  | (k, v) :: r, t => bif Nat.beq k t then some v else Env.get r t
def Env.ev (L : Env) : Operand → Option Value
  | .tmp t => L.get t
  | .const v => some v
  | .global g => some (.pointer (some ⟨g, 0, none⟩))
  | .func f => some (.func (.func f) #[] #[])

theorem beq_no {s t : Nat} (h : ¬ s = t) : Nat.beq s t = false := by
  cases h' : Nat.beq s t with
  | false => rfl
  | true => exact absurd (Nat.eq_of_beq_eq_true h') h

structure Holds (n : Nat) (L : Env) (a : Act) : Prop where
  size : a.tmps.size = n
  nd : a.defers = []
  get : ∀ t v, L.get t = some v → a.tmps.getD t undef = v

theorem Holds.ev {n : Nat} {L : Env} {a : Act} (h : Holds n L a) {x : Operand} {v : Value} (hx : L.ev x = some v) : a.eval x = v := by
  cases x with
  | tmp t => exact h.get t v hx
  | const u => simpa [Env.ev, Act.eval] using hx
  | global g => simpa [Env.ev, Act.eval] using hx
  | func f => simpa [Env.ev, Act.eval] using hx

theorem Holds.put {n : Nat} {L : Env} {a : Act} (h : Holds n L a) {t : Nat} (ht : Nat.blt t n = true) (v : Value) : Holds n ((t, v) :: L) (a.put (some t) v) := by
  have ht' : t < n := by simpa [Nat.blt_eq] using ht
  refine ⟨by simp [Act.put, h.size], by simp [Act.put, h.nd], fun s u hs => ?_⟩
  simp only [Env.get] at hs
  by_cases e : t = s
  · subst e
    simp at hs
    subst hs
    simp [Act.put, h.size, ht']
  · rw [beq_no e] at hs
    have := h.get s u hs
    simp only [Act.put]
    rw [← this]
    simp [Array.getD_eq_getD_getElem?, Array.getElem?_setIfInBounds_ne e]

theorem Holds.put_none {n : Nat} {L : Env} {a : Act} (h : Holds n L a) (v : Value) : Holds n L (a.put none v) := h

/-- Of some slots. -/
inductive Keep (L : Env) : Env → Prop
  | nil : Keep L []
  | cons {t : Nat} {v : Value} {M : Env} (h : L.get t = some v) (k : Keep L M) : Keep L ((t, v) :: M)
theorem Keep.get {L M : Env} (h : Keep L M) : ∀ t v, M.get t = some v → L.get t = some v := by
  induction h with
  | nil => intro t v h; cases h
  | @cons s u M hs _ ih =>
    intro t v h
    simp only [Env.get] at h
    by_cases e : s = t
    · subst e; simp at h; subst h; exact hs
    · rw [beq_no e] at h
      exact ih t v h
theorem Holds.keep {n : Nat} {L M : Env} {a : Act} (h : Holds n L a) (k : Keep L M) : Holds n M a :=
  ⟨h.size, h.nd, fun t v e => h.get t v (k.get t v e)⟩

/-! ### what stands behind -/
/-- A goal: whatever frame holds these slots, K of it and of this world. -/
def At (n : Nat) (K : Act → World → Prop) (L : Env) (w : World) : Prop := ∀ a, Holds n L a → K a w

/-- The post of a piece of code: behind it, at an exit by its number, at a return. -/
def Qof (N : Act → World → Prop) (X : List (Nat × (Act → World → Prop))) (R : Act → World → Prop) : Exit → Act → World → Prop
  | .normal, a, w => N a w
  | .exit id, a, w => match X.lookup id with | some K => K a w | none => False
  | .ret, a, w => R a w
  | _, _, _ => False
def Run (P : Program) (c : Code) (N : Act → World → Prop) (X : List (Nat × (Act → World → Prop))) (R : Act → World → Prop) (a : Act) (w : World) : Prop := c.wp P (Qof N X R) a w
/-- The post of a region: behind it alone. -/
def Qn (N : Act → World → Prop) : Exit → Act → World → Prop
  | .normal, a, w => N a w
  | _, _, _ => False
def RunL (P : Program) (ops : Array Oper) (rest : List Oper) (N : Act → World → Prop) (a : Act) (w : World) : Prop := wpList P ops (Qn N) rest a w
theorem Qof_of_Qn {N : Act → World → Prop} {X : List (Nat × (Act → World → Prop))} {R : Act → World → Prop} : ∀ e a w, Qn N e a w → Qof N X R e a w := fun e a w h => by
  cases e <;> first | exact h | exact (h : False).elim

section
variable {P : Program} {n : Nat} {L M : Env} {w : World} {N R K : Act → World → Prop} {X : List (Nat × (Act → World → Prop))}

theorem At.keep (k : Keep L M) (h : At n K M w) : At n K L w := fun a ha => h a (ha.keep k)
theorem At.seq {x y : Code} (h : At n (Run P x (Run P y N X R) X R) L w) : At n (Run P (.seq x y) N X R) L w := fun a ha => by
  refine wp_seq (wp_mono (h a ha) fun e a w h => ?_)
  cases e <;> exact h
theorem At.reg {id : Nat} {l : List Oper} (h : At n (RunL P l.toArray l N) L w) : At n (Run P (.region id l.toArray false) N X R) L w := fun a ha =>
  wp_mono (wp_region_lit (h a ha)) Qof_of_Qn
theorem At.reg2 {id : Nat} {l m : List Oper} (h : At n (RunL P (l ++ m).toArray (l ++ m) N) L w) : At n (Run P (.region id (l ++ m).toArray false) N X R) L w := At.reg h
theorem At.nil {ops : Array Oper} (h : At n N L w) : At n (RunL P ops [] N) L w := fun a ha => h a ha
theorem At.cond {c : Operand} {x y : Code} {b : Bool} (hc : L.ev c = some (.bool b)) (h1 : b = true → At n (Run P x N X R) L w) (h0 : b = false → At n (Run P y N X R) L w) :
    At n (Run P (.cond c x y) N X R) L w := fun a ha => wp_cond_split (ha.ev hc) (fun e => h1 e a ha) (fun e => h0 e a ha)
theorem At.skip (h : At n N L w) : At n (Run P .skip N X R) L w := fun a ha => wp_skip (h a ha)
theorem At.ret (h : At n R L w) : At n (Run P .ret N X R) L w := fun a ha => wp_ret (h a ha)
theorem At.exit {id : Nat} {K : Act → World → Prop} (hX : X.lookup id = some K) (h : At n K L w) : At n (Run P (.exit id) N X R) L w := fun a ha =>
  wp_exit (by simp only [Qof, hX]; exact h a ha)
theorem At.block {id : Nat} {c : Code} (h : At n (Run P c N ((id, N) :: X) R) L w) : At n (Run P (.block id c) N X R) L w := fun a ha => by
  refine wp_block (wp_mono (h a ha) fun e a w h => ?_)
  cases e with
  | exit id' =>
    simp only [Exit.inBlock, Qof, List.lookup_cons] at h ⊢
    by_cases e : id' = id
    · subst e; simpa using h
    · have : (id' == id) = false := by simpa using e
      rw [if_neg e]
      rwa [this] at h
  | _ => exact h

/-- What a round of a loop must hand on. -/
def Again (n : Nat) {σ : Type} (st : σ → Env) (inv : σ → World → Prop) (μ : σ → Nat) (s : σ) (a : Act) (w : World) : Prop := ∃ s', Holds n (st s') a ∧ inv s' w ∧ μ s' < μ s
theorem At.again {σ : Type} {st : σ → Env} {inv : σ → World → Prop} {μ : σ → Nat} {s : σ} (s' : σ) (k : Keep L (st s')) (hi : inv s' w) (hm : μ s' < μ s) :
    At n (Again n st inv μ s) L w := fun _ ha => ⟨s', ha.keep k, hi, hm⟩
theorem At.loop {c : Code} {σ : Type} (st : σ → Env) (inv : σ → World → Prop) (μ : σ → Nat) (s0 : σ) (k : ∀ a, Holds n L a → Holds n (st s0) a) (hi : inv s0 w)
    (round : ∀ s w, inv s w → At n (Run P c (Again n st inv μ s) X R) (st s) w) : At n (Run P (.loop c) N X R) L w := fun a ha => by
  refine wp_loop_ghost (fun m a w => ∃ s, Holds n (st s) a ∧ inv s w ∧ μ s = m) (μ s0) ⟨s0, k a ha, hi, rfl⟩ ?_
  rintro m a w ⟨s, hs, hi, rfl⟩
  refine wp_mono (round s w hi a hs) fun e a w h => ?_
  cases e with
  | normal => obtain ⟨s', h1, h2, h3⟩ := h; exact ⟨_, h3, s', h1, h2, rfl⟩
  | _ => exact h

/-- Called so, it returns, and this holds of the value and of the world. -/
def Ret (P : Program) (f : FuncId) (args : List Value) (w : World) (post : Value → World → Prop) : Prop :=
  Calls P f args.toArray w fun e w' => ∃ v, e = .returned v ∧ post v w'
theorem Ret.mono {f : FuncId} {args : List Value} {w : World} {post post' : Value → World → Prop} (h : Ret P f args w post) (hp : ∀ v w', post v w' → post' v w') : Ret P f args w post' :=
  Calls.mono h fun _ _ ⟨v, e, h⟩ => ⟨v, e, hp _ _ h⟩

def Returns (P : Program) (fn : Func) (post : Value → World → Prop) (a : Act) (w : World) : Prop :=
  a.defers = [] ∧ ∃ v, (results fn a.tmps).run P w = .ok v w ∧ post v w

def envOf (args : List Value) : Env := (args.zipIdx).map fun x => (x.2, x.1)
theorem envOf_get (args : List Value) (k t : Nat) (v : Value) : Env.get ((args.zipIdx k).map fun x => (x.2, x.1)) t = some v → k ≤ t ∧ args[t - k]? = some v := by
  induction args generalizing k with
  | nil => intro h; cases h
  | cons x r ih =>
    intro h
    simp only [List.zipIdx_cons, List.map_cons, Env.get] at h
    by_cases e : k = t
    · subst e; simp at h; simp [h]
    · rw [beq_no e] at h
      have := ih (k + 1) h
      refine ⟨by omega, ?_⟩
      rw [show t - k = (t - (k + 1)) + 1 by omega]
      simpa using this.2

theorem Ret.enter {f : FuncId} {fn : Func} {c : Code} {args : List Value} {w : World} {post : Value → World → Prop} {m : Nat} {E : Env} (hf : P.funcs[f]? = some fn) (hb : fn.body = some c)
    (hm : fn.ntmps = m) (hl : Nat.ble args.length m = true) (hE : envOf args = E) (h : At m (Run P c (Returns P fn post) [] (Returns P fn post)) E w) : Ret P f args w post := by
  subst hE
  subst hm
  have hl' : args.length ≤ fn.ntmps := by simpa using hl
  refine calls_of_wp hf hb (wp_mono (h _ ⟨?_, rfl, ?_⟩) fun e a w h => ?_)
  · simp; omega
  · intro t v hv
    have h1 := envOf_get args 0 t v (by simpa [envOf] using hv)
    have h2 : args[t]? = some v := by simpa using h1.2
    have h3 : t < args.length := (List.getElem?_eq_some_iff.1 h2).1
    simp [Array.getD_eq_getD_getElem?, Array.getElem?_append, h3, (List.getElem?_eq_some_iff.1 h2).2]
  · cases e <;> first | (obtain ⟨h1, v, h2, h3⟩ := h; exact ⟨h1, v, h2, v, rfl, h3⟩) | exact (h : False).elim

theorem At.result1 {fn : Func} {post : Value → World → Prop} {t : Nat} {v : Value} (hr : fn.results = #[.tmp t]) (hv : L.get t = some v) (hp : post v w) : At n (Returns P fn post) L w := fun a ha =>
  ⟨ha.nd, v, by rw [results_tmp hr, ha.get t v hv], hp⟩
theorem At.result0 {fn : Func} {post : Value → World → Prop} (hr : fn.results = #[]) (hp : post (.tuple #[]) w) : At n (Returns P fn post) L w := fun a ha =>
  ⟨ha.nd, _, by rw [results_none hr], hp⟩
theorem At.result2 {fn : Func} {post : Value → World → Prop} {t s : Nat} {v u : Value} (hr : fn.results = #[.tmp t, .tmp s]) (hv : L.get t = some v) (hu : L.get s = some u) (hp : post (.tuple #[v, u]) w) : At n (Returns P fn post) L w := fun a ha =>
  ⟨ha.nd, _, by rw [results_tmp2 hr, ha.get t v hv, ha.get s u hu], hp⟩

theorem At.result5 {fn : Func} {post : Value → World → Prop} {t1 t2 t3 t4 t5 : Nat} {v1 v2 v3 v4 v5 : Value} (hr : fn.results = #[.tmp t1, .tmp t2, .tmp t3, .tmp t4, .tmp t5]) (h1 : L.get t1 = some v1) (h2 : L.get t2 = some v2) (h3 : L.get t3 = some v3) (h4 : L.get t4 = some v4) (h5 : L.get t5 = some v5)
    (hp : post (.tuple #[v1, v2, v3, v4, v5]) w) : At n (Returns P fn post) L w := fun a ha => by
  refine ⟨ha.nd, _, ?_, hp⟩
  have e1 := ha.get _ _ h1
  have e2 := ha.get _ _ h2
  have e3 := ha.get _ _ h3
  have e4 := ha.get _ _ h4
  have e5 := ha.get _ _ h5
  simp only [Array.getD_eq_getD_getElem?] at e1 e2 e3 e4 e5
  simp [results, hr, e1, e2, e3, e4, e5]

/-! ### one operation -/
/-- What the operation comes to, its guard left aside. -/
def StepE (P : Program) (o : Oper) (a : Act) (w : World) (K : Value → World → Prop) : Prop :=
  match (execOp a.eval o).run P w with
  | .ok (.value v) w' => K v w'
  | .ok .skip w' => K undef w'
  | .ok (.enter f args) w' => Calls P f args w' fun e w'' => ∃ v, e = .returned v ∧ K v w''
  | _ => False
structure Step (P : Program) (n : Nat) (L : Env) (o : Oper) (w : World) (K : Value → World → Prop) : Prop where
  go : ∀ a, Holds n L a → StepE P o a w K

theorem StepE.wp {o : Oper} {a : Act} {w : World} {K : Value → World → Prop} {next : Act → World → Prop} {Q : Exit → Act → World → Prop} (h : StepE P o a w K) (hk : ∀ v w', K v w' → next (a.put o.dst v) w') : o.wp P a w next Q := by
  unfold StepE at h
  unfold Oper.wp
  generalize (execOp a.eval o).run P w = r at h
  cases r with
  | ok x w' =>
    cases x with
    | value v => exact hk _ _ h
    | skip => exact hk _ _ h
    | enter f args =>
      refine Calls.mono h fun e w'' h => ?_
      obtain ⟨v, rfl, h⟩ := h
      exact hk _ _ h
    | _ => exact h.elim
  | halt _ _ => exact h.elim

/-- It yields this value and leaves the world alone. -/
def RunV (P : Program) (n : Nat) (L : Env) (o : Oper) (w : World) (v : Value) : Prop :=
  ∀ a, Holds n L a → (execOp a.eval o).run P w = .ok (.value v) w
theorem RunV.step {o : Oper} {v : Value} {K : Value → World → Prop} (h : RunV P n L o w v) (k : K v w) : Step P n L o w K := .mk fun a ha => by
  unfold StepE; rw [h a ha]; exact k

theorem At.v {ops : Array Oper} {rest : List Oper} {op : Op} {ty : TypeId} {pos : String} {after : Array Edge} {t : Nat} {v : Value} (h : RunV P n L ⟨some t, op, ty, pos, after, none⟩ w v) (ht : Nat.blt t n = true)
    (k : At n (RunL P ops rest N) ((t, v) :: L) w) : At n (RunL P ops (⟨some t, op, ty, pos, after, none⟩ :: rest) N) L w := fun a ha => by
  unfold RunL wpList
  rw [if_pos (by simp [Region.wanted])]
  refine .inl ?_
  unfold Oper.wp
  rw [h a ha]
  exact k _ (ha.put ht v)
theorem At.step {ops : Array Oper} {rest : List Oper} {op : Op} {ty : TypeId} {pos : String} {after : Array Edge} {t : Nat} (ht : Nat.blt t n = true) (h : Step P n L ⟨some t, op, ty, pos, after, none⟩ w fun v w' => At n (RunL P ops rest N) ((t, v) :: L) w') :
    At n (RunL P ops (⟨some t, op, ty, pos, after, none⟩ :: rest) N) L w := fun a ha => by
  unfold RunL wpList
  rw [if_pos (by simp [Region.wanted])]
  exact .inl ((h.go a ha).wp fun v w' k => k _ (ha.put ht v))
theorem At.step_ {ops : Array Oper} {rest : List Oper} {op : Op} {ty : TypeId} {pos : String} {after : Array Edge} (h : Step P n L ⟨none, op, ty, pos, after, none⟩ w fun _ w' => At n (RunL P ops rest N) L w') :
    At n (RunL P ops (⟨none, op, ty, pos, after, none⟩ :: rest) N) L w := fun a ha => by
  unfold RunL wpList
  rw [if_pos (by simp [Region.wanted])]
  exact .inl ((h.go a ha).wp fun v w' k => k _ (ha.put_none v))

/-! ### guards -/
/-- A value that is there only if c. -/
def gv (c : Bool) (v : Value) : Value := bif c then v else undef
theorem gvE {t : Nat} {c : Bool} {v : Value} (h : L.get t = some (gv c v)) (hc : c = true) : L.get t = some v := by subst hc; exact h
theorem gvE2 {t : Nat} {c b : Bool} {v : Value} (h : L.get t = some (gv (c && b) v)) (hc : c = true) : L.get t = some (gv b v) := by subst hc; exact h
theorem land1 {a b : Bool} (h : (a && b) = true) : a = true := by cases a <;> simp_all
theorem land2 {a b : Bool} (h : (a && b) = true) : b = true := by cases a <;> simp_all

/-- The guard of an operation says this. -/
def Guard (l : List Oper) (n : Nat) (L : Env) (g : Nat × Bool) (c : Bool) : Prop :=
  ∀ a, Holds n L a → (yielded l.toArray a.tmps g.1 == some g.2) = c
theorem Guard.yields {l : List Oper} {j t : Nat} {o : Oper} (ho : l[j]? = some o) (hd : o.dst = some t) {a : Act} (ha : Holds n L a) {v : Value} (hv : L.get t = some v) :
    yielded l.toArray a.tmps j = match v with | .bool b => some b | _ => none := by
  have h := ha.get t v hv
  unfold yielded
  simp only [List.getElem?_toArray, ho, Option.bind_some, hd]
  cases e : a.tmps[t]? with
  | none =>
    rw [Array.getD_eq_getD_getElem?, e] at h
    simp at h
    subst h
    rfl
  | some u =>
    rw [Array.getD_eq_getD_getElem?, e] at h
    simp at h
    subst h
    cases u <;> rfl
theorem Guard.t {l : List Oper} {j t : Nat} {o : Oper} {b : Bool} (ho : l[j]? = some o) (hd : o.dst = some t) (hv : L.get t = some (.bool b)) : Guard l n L (j, true) b := fun a ha => by
  simp only [Guard.yields ho hd ha hv]; cases b <;> rfl
theorem Guard.f {l : List Oper} {j t : Nat} {o : Oper} {b : Bool} (ho : l[j]? = some o) (hd : o.dst = some t) (hv : L.get t = some (.bool b)) : Guard l n L (j, false) (!b) := fun a ha => by
  simp only [Guard.yields ho hd ha hv]; cases b <;> rfl
theorem Guard.gt {l : List Oper} {j t : Nat} {o : Oper} {b c : Bool} (ho : l[j]? = some o) (hd : o.dst = some t) (hv : L.get t = some (gv c (.bool b))) : Guard l n L (j, true) (c && b) := fun a ha => by
  simp only [Guard.yields ho hd ha hv]; cases c <;> cases b <;> rfl
theorem Guard.gf {l : List Oper} {j t : Nat} {o : Oper} {b c : Bool} (ho : l[j]? = some o) (hd : o.dst = some t) (hv : L.get t = some (gv c (.bool b))) : Guard l n L (j, false) (c && !b) := fun a ha => by
  simp only [Guard.yields ho hd ha hv]; cases c <;> cases b <;> rfl

theorem wanted_of_guard {l : List Oper} {o : Oper} {g : Nat × Bool} {c : Bool} (hg : o.guard = some g) (h : Guard l n L g c) {a : Act} (ha : Holds n L a) : Region.wanted o (yielded l.toArray a.tmps) = c := by
  unfold Region.wanted
  rw [hg]
  exact h a ha

theorem At.g {l : List Oper} {rest : List Oper} {op : Op} {ty : TypeId} {pos : String} {after : Array Edge} {t : Nat} {v : Value} {g : Nat × Bool} {c : Bool} (hg : Guard l n L g c) (h : c = true → RunV P n L ⟨some t, op, ty, pos, after, some g⟩ w v) (ht : Nat.blt t n = true)
    (k : At n (RunL P l.toArray rest N) ((t, gv c v) :: L) w) : At n (RunL P l.toArray (⟨some t, op, ty, pos, after, some g⟩ :: rest) N) L w := fun a ha => by
  unfold RunL wpList
  rw [wanted_of_guard rfl hg ha]
  cases c with
  | true =>
    rw [if_pos rfl]
    refine .inl ?_
    unfold Oper.wp
    rw [h rfl a ha]
    exact k _ (ha.put ht v)
  | false =>
    rw [if_neg (by simp)]
    exact k _ (ha.put ht undef)
/-- A guarded operation that acts: in both cases the same is shown of what is behind. -/
theorem At.gstep {l : List Oper} {rest : List Oper} {op : Op} {ty : TypeId} {pos : String} {after : Array Edge} {t : Nat} {g : Nat × Bool} {c : Bool} (hg : Guard l n L g c) (ht : Nat.blt t n = true)
    (h1 : c = true → Step P n L ⟨some t, op, ty, pos, after, some g⟩ w fun v w' => At n (RunL P l.toArray rest N) ((t, v) :: L) w')
    (h0 : c = false → At n (RunL P l.toArray rest N) ((t, undef) :: L) w) : At n (RunL P l.toArray (⟨some t, op, ty, pos, after, some g⟩ :: rest) N) L w := fun a ha => by
  unfold RunL wpList
  rw [wanted_of_guard rfl hg ha]
  cases c with
  | true => rw [if_pos rfl]; exact .inl (((h1 rfl).go a ha).wp fun v w' k => k _ (ha.put ht v))
  | false => rw [if_neg (by simp)]; exact h0 rfl _ (ha.put ht undef)
end
end Go.Proofs.Ytglilmcfhkedbaa
