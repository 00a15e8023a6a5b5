/- The rules of a plan over slots; loops with constant slots; guarded operations that act; slices; no condition. -/
import Derived.Test.YtglilmcfhkedbaaPi
namespace Go.Proofs.Ytglilmcfhkedbaa
open Go Go.RowKit

section
variable {P : Program} {n : Nat} {L M C : Env} {w w0 : World} {N R K : Act → World → Prop} {X : List (Nat × (Act → World → Prop))} {l : List Oper} {S : World → Prop} {p q : Plan} {i j t : Nat} {op : Op} {ty : TypeId} {pos : String} {after : Array Edge} {v u : Value} {g : Nat × Bool} {c : Bool}

theorem Le.drew' (w : World) : Le w w.drew := Below.drew (Below.refl _ _)
theorem At.pi {id : Nat} (hm : P.follows .mixedOrders = true) (p : Plan) (hac : acyc l.toArray = true) (hc : check l.toArray p [] [] = true) (h : ∀ w1, Le w w1 → At n (Pi P l.toArray N p (Le w)) L w1) :
    At n (Run P (.region id l.toArray true) N X R) L w := fun a ha => wp_pi hm p (Le w) hac hc (Le.drew' w) (h _ (Le.drew' w) a ha)
theorem At.piS {id : Nat} (hm : P.follows .mixedOrders = true) (p : Plan) (S : World → Prop) (hac : acyc l.toArray = true) (hc : check l.toArray p [] [] = true) (hS : ∀ w1, Le w w1 → S w1) (h : ∀ w1, Le w w1 → At n (Pi P l.toArray N p S) L w1) :
    At n (Run P (.region id l.toArray true) N X R) L w := fun a ha => wp_pi hm p S hac hc (hS _ (Le.drew' w)) (h _ (Le.drew' w) a ha)
theorem At.pdone (h : At n N L w) : At n (Pi P l.toArray N .done S) L w := h
theorem At.take (ho : l[i]? = some ⟨some t, op, ty, pos, after, none⟩) (h : ∀ w', S w' → RunV P n L ⟨some t, op, ty, pos, after, none⟩ w' v) (ht : Nat.blt t n = true) (k : At n (Pi P l.toArray N p S) ((t, v) :: L) w) :
    At n (Pi P l.toArray N (.take i p) S) L w := fun a ha =>
  ⟨_, v, by simpa using ho, .inl ⟨by simp [Region.wanted], fun w' hw => .inl (h w' hw a ha)⟩, k _ (ha.put ht v)⟩
theorem At.takeG (ho : l[i]? = some ⟨some t, op, ty, pos, after, some g⟩) (hg : Guard l n L g c) (h : c = true → ∀ w', S w' → RunV P n L ⟨some t, op, ty, pos, after, some g⟩ w' v) (ht : Nat.blt t n = true)
    (k : At n (Pi P l.toArray N p S) ((t, gv c v) :: L) w) : At n (Pi P l.toArray N (.take i p) S) L w := fun a ha => by
  have hw := wanted_of_guard (o := ⟨some t, op, ty, pos, after, some g⟩) rfl hg ha
  cases c with
  | true => exact ⟨_, v, by simpa using ho, .inl ⟨hw, fun w' hw => .inl (h rfl w' hw a ha)⟩, k _ (ha.put ht v)⟩
  | false => exact ⟨_, undef, by simpa using ho, .inr ⟨hw, rfl⟩, k _ (ha.put ht undef)⟩
/-- A call that leaves every world of the class alone. -/
theorem run_call {f : Operand} {k : FuncId} {cap : List Value} {xs : List Operand} {vs : List Value} {ts : Array TypeId} {dst : Option Tmp} {gd : Option (Nat × Bool)} (hf : L.ev f = some (.func (.func k) #[] cap.toArray)) (hp : plainFn P k = true) (hx : L.evL xs = some vs) {a : Act} (ha : Holds n L a) (w : World) :
    (execOp a.eval ⟨dst, .call ⟨.value f, xs.toArray, ts⟩, ty, pos, after, gd⟩).run P w = .ok (.enter k (vs ++ cap).toArray) w := by
  unfold plainFn at hp
  split at hp
  · rename_i fn hfn
    simp only [Bool.and_eq_true, bne_iff_ne, ne_eq] at hp
    obtain ⟨h1, h2⟩ := hp
    simp only [execOp, resolve, ha.ev hf, ha.evL hx, Deferred.ofValue]
    simp only [Sem.run_bind, Sem.run_pure, Result.andThen_ok, invoke, callFunc, run_program, hfn]
    simp [h1]
    intro h3; rw [h3] at h2; cases h2
  · cases hp
theorem At.takeCall {f : Operand} {k : FuncId} {cap : List Value} {xs : List Operand} {vs : List Value} {ts : Array TypeId} (ho : l[i]? = some ⟨some t, .call ⟨.value f, xs.toArray, ts⟩, ty, pos, after, none⟩) (hf : L.ev f = some (.func (.func k) #[] cap.toArray)) (hp : plainFn P k = true) (hx : L.evL xs = some vs)
    (h : ∀ w', S w' → Ret P k (vs ++ cap) w' fun v' w'' => v' = v ∧ w'' = w') (ht : Nat.blt t n = true) (kk : At n (Pi P l.toArray N p S) ((t, v) :: L) w) : At n (Pi P l.toArray N (.take i p) S) L w := fun a ha =>
  ⟨_, v, by simpa using ho, .inl ⟨by simp [Region.wanted], fun w' hw => .inr ⟨k, _, run_call hf hp hx ha w', Calls.mono (h w' hw) fun e w'' ⟨v', e1, e2, e3⟩ => ⟨by rw [e1, e2], e3⟩⟩⟩, kk _ (ha.put ht v)⟩
theorem At.takeCallG {f : Operand} {k : FuncId} {cap : List Value} {xs : List Operand} {vs : List Value} {ts : Array TypeId} (ho : l[i]? = some ⟨some t, .call ⟨.value f, xs.toArray, ts⟩, ty, pos, after, some g⟩) (hg : Guard l n L g c) (hp : plainFn P k = true) (hf : c = true → L.ev f = some (.func (.func k) #[] cap.toArray)) (hx : c = true → L.evL xs = some vs)
    (h : c = true → ∀ w', S w' → Ret P k (vs ++ cap) w' fun v' w'' => v' = v ∧ w'' = w') (ht : Nat.blt t n = true) (kk : At n (Pi P l.toArray N p S) ((t, gv c v) :: L) w) : At n (Pi P l.toArray N (.take i p) S) L w := fun a ha => by
  have hw := wanted_of_guard (o := ⟨some t, .call ⟨.value f, xs.toArray, ts⟩, ty, pos, after, some g⟩) rfl hg ha
  cases c with
  | true => exact ⟨_, v, by simpa using ho, .inl ⟨hw, fun w' hw => .inr ⟨k, _, run_call (hf rfl) hp (hx rfl) ha w', Calls.mono (h rfl w' hw) fun e w'' ⟨v', e1, e2, e3⟩ => ⟨by rw [e1, e2], e3⟩⟩⟩, kk _ (ha.put ht v)⟩
  | false => exact ⟨_, undef, by simpa using ho, .inr ⟨hw, rfl⟩, kk _ (ha.put ht undef)⟩
theorem At.prun (ho : l[i]? = some ⟨some t, op, ty, pos, after, none⟩) (ht : Nat.blt t n = true) (h : Step P n L ⟨some t, op, ty, pos, after, none⟩ w fun v w' => S w' ∧ At n (Pi P l.toArray N p S) ((t, v) :: L) w') :
    At n (Pi P l.toArray N (.run i p) S) L w := fun a ha => ⟨_, by simpa using ho, by
  rw [if_pos (by simp [Region.wanted])]
  have := h.go a ha
  unfold StepE at *
  revert this
  generalize (execOp a.eval ⟨some t, op, ty, pos, after, none⟩).run P w = r
  intro this
  cases r with
  | ok x w' =>
    cases x with
    | value v => exact ⟨this.1, this.2 _ (ha.put ht v)⟩
    | skip => exact ⟨this.1, this.2 _ (ha.put ht undef)⟩
    | enter f args => exact Calls.mono this fun e w'' ⟨v, e1, e2, e3⟩ => ⟨v, e1, e2, e3 _ (ha.put ht v)⟩
    | _ => exact this.elim
  | halt _ _ => exact this.elim⟩
theorem At.prun_ (ho : l[i]? = some ⟨none, op, ty, pos, after, none⟩) (h : Step P n L ⟨none, op, ty, pos, after, none⟩ w fun _ w' => S w' ∧ At n (Pi P l.toArray N p S) L w') :
    At n (Pi P l.toArray N (.run i p) S) L w := fun a ha => ⟨_, by simpa using ho, by
  rw [if_pos (by simp [Region.wanted])]
  have := h.go a ha
  unfold StepE at *
  revert this
  generalize (execOp a.eval ⟨none, op, ty, pos, after, none⟩).run P w = r
  intro this
  cases r with
  | ok x w' =>
    cases x with
    | value v => exact ⟨this.1, this.2 _ ha⟩
    | skip => exact ⟨this.1, this.2 _ ha⟩
    | enter f args => exact Calls.mono this fun e w'' ⟨v, e1, e2, e3⟩ => ⟨v, e1, e2, e3 _ ha⟩
    | _ => exact this.elim
  | halt _ _ => exact this.elim⟩
theorem At.pfree (ho : l[i]? = some ⟨some t, op, ty, pos, after, none⟩) (ht : Nat.blt t n = true) (h : Step P n L ⟨some t, op, ty, pos, after, none⟩ w fun v w' => ∃ S', S' w' ∧ At n (Pi P l.toArray N p S') ((t, v) :: L) w') :
    At n (Pi P l.toArray N (.free i p) S) L w := fun a ha => ⟨_, by simpa using ho, by
  rw [if_pos (by simp [Region.wanted])]
  have := h.go a ha
  unfold StepE at *
  revert this
  generalize (execOp a.eval ⟨some t, op, ty, pos, after, none⟩).run P w = r
  intro this
  cases r with
  | ok x w' =>
    cases x with
    | value v => obtain ⟨S', h1, h2⟩ := this; exact ⟨S', h1, h2 _ (ha.put ht v)⟩
    | skip => obtain ⟨S', h1, h2⟩ := this; exact ⟨S', h1, h2 _ (ha.put ht undef)⟩
    | enter f args => exact Calls.mono this fun e w'' ⟨v, e1, S', e2, e3⟩ => ⟨v, e1, S', e2, e3 _ (ha.put ht v)⟩
    | _ => exact this.elim
  | halt _ _ => exact this.elim⟩
theorem At.pfree_ (ho : l[i]? = some ⟨none, op, ty, pos, after, none⟩) (h : Step P n L ⟨none, op, ty, pos, after, none⟩ w fun _ w' => ∃ S', S' w' ∧ At n (Pi P l.toArray N p S') L w') :
    At n (Pi P l.toArray N (.free i p) S) L w := fun a ha => ⟨_, by simpa using ho, by
  rw [if_pos (by simp [Region.wanted])]
  have := h.go a ha
  unfold StepE at *
  revert this
  generalize (execOp a.eval ⟨none, op, ty, pos, after, none⟩).run P w = r
  intro this
  cases r with
  | ok x w' =>
    cases x with
    | value v => obtain ⟨S', h1, h2⟩ := this; exact ⟨S', h1, h2 _ ha⟩
    | skip => obtain ⟨S', h1, h2⟩ := this; exact ⟨S', h1, h2 _ ha⟩
    | enter f args => exact Calls.mono this fun e w'' ⟨v, e1, S', e2, e3⟩ => ⟨v, e1, S', e2, e3 _ ha⟩
    | _ => exact this.elim
  | halt _ _ => exact this.elim⟩
/-- A guarded operation that acts: what it comes to is known where it is carried out. -/
theorem At.prunG (ho : l[i]? = some ⟨some t, op, ty, pos, after, some g⟩) (hg : Guard l n L g c) (ht : Nat.blt t n = true) {post : Value → World → Prop} (h1 : c = true → Step P n L ⟨some t, op, ty, pos, after, some g⟩ w post) (hle : ∀ v w', post v w' → Le w w')
    (h : ∀ v w', Le w w' → (c = true → post v w') → S w' ∧ At n (Pi P l.toArray N p S) ((t, gv c v) :: L) w') : At n (Pi P l.toArray N (.run i p) S) L w := fun a ha => ⟨_, by simpa using ho, by
  rw [wanted_of_guard rfl hg ha]
  cases c with
  | false =>
    rw [if_neg (by simp)]
    obtain ⟨h2, h3⟩ := h undef w (Le.rfl' w) (by simp)
    exact ⟨h2, h3 _ (ha.put ht undef)⟩
  | true =>
    rw [if_pos rfl]
    have := (h1 rfl).go a ha
    unfold StepE at *
    revert this
    generalize (execOp a.eval ⟨some t, op, ty, pos, after, some g⟩).run P w = r
    intro this
    cases r with
    | ok x w' =>
      cases x with
      | value v => obtain ⟨h2, h3⟩ := h v w' (hle _ _ this) (fun _ => this); exact ⟨h2, h3 _ (ha.put ht v)⟩
      | skip => obtain ⟨h2, h3⟩ := h undef w' (hle _ _ this) (fun _ => this); exact ⟨h2, h3 _ (ha.put ht undef)⟩
      | enter f args => exact Calls.mono this fun e w'' ⟨v, e1, e2⟩ => by obtain ⟨h2, h3⟩ := h v w'' (hle _ _ e2) (fun _ => e2); exact ⟨v, e1, h2, h3 _ (ha.put ht v)⟩
      | _ => exact this.elim
    | halt _ _ => exact this.elim⟩
/-- The same in a region of one order. -/
theorem At.gM {rest : List Oper} (hg : Guard l n L g c) (ht : Nat.blt t n = true) {post : Value → World → Prop} (h1 : c = true → Step P n L ⟨some t, op, ty, pos, after, some g⟩ w post) (hle : ∀ v w', post v w' → Le w w')
    (h : ∀ v w', Le w w' → (c = true → post v w') → At n (RunL P l.toArray rest N) ((t, gv c v) :: L) w') : At n (RunL P l.toArray (⟨some t, op, ty, pos, after, some g⟩ :: rest) N) L w := fun a ha => by
  unfold RunL wpList
  rw [wanted_of_guard rfl hg ha]
  cases c with
  | true => rw [if_pos rfl]; exact .inl (((h1 rfl).go a ha).wp fun v w' k => h v w' (hle _ _ k) (fun _ => k) _ (ha.put ht v))
  | false => rw [if_neg (by simp)]; exact h undef w (Le.rfl' w) (by simp) _ (ha.put ht undef)
theorem gv_eq {c : Bool} {v u : Value} (h : c = true → v = u) : gv c v = gv c u := by
  cases c with
  | true => rw [h rfl]
  | false => rfl
theorem At.pfork (h1 : At n (Pi P l.toArray N (.run i p) S) L w) (h2 : At n (Pi P l.toArray N (.run j q) S) L w) : At n (Pi P l.toArray N (.fork i p j q) S) L w := fun a ha => ⟨h1 a ha, h2 a ha⟩

theorem get_app (E F : Env) (t : Nat) : Env.get (E ++ F) t = match E.get t with | some v => some v | none => F.get t := by
  induction E with
  | nil => rfl
  | cons x r ih =>
    obtain ⟨k, u⟩ := x
    simp only [List.cons_append, Env.get]
    by_cases e : k = t
    · subst e; simp
    · rw [beq_no e]; exact ih
theorem Holds.app {E F : Env} {a : Act} (h1 : Holds n E a) (h2 : Holds n F a) : Holds n (E ++ F) a := by
  refine ⟨h1.size, h1.nd, fun t v h => ?_⟩
  rw [get_app] at h
  split at h
  · rename_i u hu; exact h1.get t v (hu.trans h)
  · exact h2.get t v h
/-- A loop some of whose slots stay as they are. -/
theorem At.loopC {c : Code} {σ : Type} (kC : Keep L C) (st : σ → Env) (inv : σ → World → Prop) (μ : σ → Nat) (s0 : σ) (k : Keep L (st s0)) (hi : inv s0 w)
    (round : ∀ s w, inv s w → At n (Run P c (Again n (fun s => st s ++ C) inv μ s) X R) (st s ++ C) w) : At n (Run P (.loop c) N X R) L w := fun a ha =>
  At.loop (fun s => st s ++ C) inv μ s0 (fun _ h => (h.keep k).app (h.keep kC)) hi round a ha
theorem At.againC {σ : Type} {st : σ → Env} {inv : σ → World → Prop} {μ : σ → Nat} {s : σ} (kC : Keep L C) (s' : σ) (k : Keep L (st s')) (hi : inv s' w) (hm : μ s' < μ s) :
    At n (Again n (fun s => st s ++ C) inv μ s) L w := fun _ ha => ⟨s', (ha.keep k).app (ha.keep kC), hi, hm⟩
/-- One thing is shown once, for all worlds that keep this. -/
theorem At.cut {K : Act → World → Prop} (h : At n K M w) (k : Keep L M) : At n K L w := At.keep k h

/-! ### calls by their contract -/
theorem evL1 {x : Operand} {v : Value} (h : L.ev x = some v) : L.evL [x] = some [v] := by simp [Env.evL, h]
theorem evL2 {x y : Operand} {v u : Value} (h : L.ev x = some v) (k : L.ev y = some u) : L.evL [x, y] = some [v, u] := by simp [Env.evL, h, k]
theorem evL3 {x y z : Operand} {v u r : Value} (h : L.ev x = some v) (k : L.ev y = some u) (m : L.ev z = some r) : L.evL [x, y, z] = some [v, u, r] := by simp [Env.evL, h, k, m]
section
variable {f : Operand} {k : FuncId} {cap : List Value} {xs : List Operand} {vs : List Value} {ts : Array TypeId} {rest : List Oper} {ops : Array Oper} {H : Heap}
/-- It leaves the world alone. -/
theorem At.callS (hf : L.ev f = some (.func (.func k) #[] cap.toArray)) (hp : plainFn P k = true) (hx : L.evL xs = some vs) (h : Ret P k (vs ++ cap) w fun v' w' => v' = v ∧ w' = w) (ht : Nat.blt t n = true)
    (kk : At n (RunL P ops rest N) ((t, v) :: L) w) : At n (RunL P ops (⟨some t, .call ⟨.value f, xs.toArray, ts⟩, ty, pos, after, none⟩ :: rest) N) L w :=
  At.step ht (Step.call hf hp hx h fun v' w' ⟨e1, e2⟩ => by subst e1; subst e2; exact kk)
/-- It makes memory of its own. -/
theorem At.callE (hO : Own w0 H w) (hf : L.ev f = some (.func (.func k) #[] cap.toArray)) (hp : plainFn P k = true) (hx : L.evL xs = some vs) (h : Ret P k (vs ++ cap) w fun v' w' => v' = v ∧ Le w w') (ht : Nat.blt t n = true)
    (kk : ∀ w', Own w0 H w' → Le w w' → At n (RunL P ops rest N) ((t, v) :: L) w') : At n (RunL P ops (⟨some t, .call ⟨.value f, xs.toArray, ts⟩, ty, pos, after, none⟩ :: rest) N) L w :=
  At.step ht (Step.call hf hp hx h fun v' w' ⟨e1, e2⟩ => by subst e1; exact kk w' (hO.on e2) e2)
theorem At.gcallS (hg : Guard l n L g c) (hf : c = true → L.ev f = some (.func (.func k) #[] cap.toArray)) (hp : plainFn P k = true) (hx : c = true → L.evL xs = some vs) (h : c = true → Ret P k (vs ++ cap) w fun v' w' => v' = v ∧ w' = w) (ht : Nat.blt t n = true)
    (kk : At n (RunL P l.toArray rest N) ((t, gv c v) :: L) w) : At n (RunL P l.toArray (⟨some t, .call ⟨.value f, xs.toArray, ts⟩, ty, pos, after, some g⟩ :: rest) N) L w := by
  cases c with
  | true => exact At.gstep hg ht (fun _ => Step.call (hf rfl) hp (hx rfl) (h rfl) fun v' w' ⟨e1, e2⟩ => by subst e1; subst e2; exact kk) (fun h => by cases h)
  | false => exact At.gstep hg ht (fun h => by cases h) (fun _ => kk)
theorem At.gcallE (hO : Own w0 H w) (hg : Guard l n L g c) (hf : c = true → L.ev f = some (.func (.func k) #[] cap.toArray)) (hp : plainFn P k = true) (hx : c = true → L.evL xs = some vs) (h : c = true → Ret P k (vs ++ cap) w fun v' w' => v' = v ∧ Le w w') (ht : Nat.blt t n = true)
    (kk : ∀ w', Own w0 H w' → Le w w' → At n (RunL P l.toArray rest N) ((t, gv c v) :: L) w') : At n (RunL P l.toArray (⟨some t, .call ⟨.value f, xs.toArray, ts⟩, ty, pos, after, some g⟩ :: rest) N) L w := by
  cases c with
  | true => exact At.gstep hg ht (fun _ => Step.call (hf rfl) hp (hx rfl) (h rfl) fun v' w' ⟨e1, e2⟩ => by subst e1; exact kk w' (hO.on e2) e2) (fun h => by cases h)
  | false => exact At.gstep hg ht (fun h => by cases h) (fun _ => kk w hO (Le.rfl' w))
theorem At.prunE {w1 : World} (hO : Own w0 H w) (hs : Le w1 w) (ho : l[i]? = some ⟨some t, .call ⟨.value f, xs.toArray, ts⟩, ty, pos, after, none⟩) (hf : L.ev f = some (.func (.func k) #[] cap.toArray)) (hp : plainFn P k = true) (hx : L.evL xs = some vs) (h : Ret P k (vs ++ cap) w fun v' w' => v' = v ∧ Le w w') (ht : Nat.blt t n = true)
    (kk : ∀ w', Own w0 H w' → Le w1 w' → At n (Pi P l.toArray N p (Le w1)) ((t, v) :: L) w') : At n (Pi P l.toArray N (.run i p) (Le w1)) L w :=
  At.prun ho ht (Step.call hf hp hx h fun v' w' ⟨e1, e2⟩ => by subst e1; exact ⟨hs.tr e2, kk w' (hO.on e2) (hs.tr e2)⟩)
theorem At.prunGE {w1 : World} (hO : Own w0 H w) (hs : Le w1 w) (ho : l[i]? = some ⟨some t, .call ⟨.value f, xs.toArray, ts⟩, ty, pos, after, some g⟩) (hg : Guard l n L g c) (hf : c = true → L.ev f = some (.func (.func k) #[] cap.toArray)) (hp : plainFn P k = true) (hx : c = true → L.evL xs = some vs) (h : c = true → Ret P k (vs ++ cap) w fun v' w' => v' = v ∧ Le w w') (ht : Nat.blt t n = true)
    (kk : ∀ w', Own w0 H w' → Le w1 w' → At n (Pi P l.toArray N p (Le w1)) ((t, gv c v) :: L) w') : At n (Pi P l.toArray N (.run i p) (Le w1)) L w := by
  refine At.prunG ho hg ht (post := fun v' w' => v' = v ∧ Le w w') (fun hc => Step.call (hf hc) hp (hx hc) (h hc) fun _ _ h => h) (fun _ _ h => h.2) fun v' w' hl hv => ⟨hs.tr hl, ?_⟩
  rw [gv_eq fun hc => (hv hc).1]
  exact kk w' (hO.on hl) (hs.tr hl)
end
theorem At.prunGB {t' e k len : Nat} {ps : List (Nat × Operand)} {vs : List (Nat × Value)} {zs cs : List Value} {w1 : World} {H : Heap} (hO : Own w0 H w) (hs : Le w1 w) (ho : l[i]? = some ⟨some t, .buildSlice t' len ps.toArray, ty, pos, after, some g⟩) (hg : Guard l n L g c) (hT : sliceT P t' e k = true) (hz : zeroT P e zs) (hzl : Nat.beq zs.length k = true) (hk : Nat.blt 0 (len * k) = true)
    (hsz : Nat.ble (len * k) 65536 = true) (hx : L.evP ps = some vs) (hf : fillL (fun i => some (i * k, k)) ((List.range (len * k)).map fun i => zs[i % k]!) vs = some cs) (ht : Nat.blt t n = true)
    (kk : ∀ b w', Own w0 H w' → Le w1 w' → (c = true → Blk w' b cs e) → At n (Pi P l.toArray N p (Le w1)) ((t, gv c (.slice (some ⟨b, 0, none⟩) len len)) :: L) w') : At n (Pi P l.toArray N (.run i p) (Le w1)) L w := by
  refine At.prunG ho hg ht (post := fun v w' => Le w w' ∧ ∃ b, v = .slice (some ⟨b, 0, none⟩) len len ∧ Blk w' b cs e) (fun _ => Step.buildSliceP hO hT hz hzl hk hsz hx hf) (fun _ _ h => h.1) fun v w' hl hv => ⟨hs.tr hl, ?_⟩
  obtain ⟨b, hb⟩ : ∃ b, c = true → v = .slice (some ⟨b, 0, none⟩) len len ∧ Blk w' b cs e := by
    cases c with
    | true => obtain ⟨_, b, h⟩ := hv rfl; exact ⟨b, fun _ => h⟩
    | false => exact ⟨0, fun h => by cases h⟩
  rw [gv_eq fun hc => (hb hc).1]
  exact kk b w' (hO.on hl) (hs.tr hl) fun hc => (hb hc).2
theorem wrap_in {a : Int} (h0 : -9223372036854775808 ≤ a) (h1 : a ≤ 9223372036854775807) : IntKind.i64.wrap a = a := by
  unfold IntKind.wrap
  simp only [IntKind.signed, IntKind.bits, Bool.true_and, ge_iff_le, decide_eq_true_eq]
  split <;> omega
theorem wrap_u {a : Int} (h0 : 0 ≤ a) (h1 : a ≤ 18446744073709551615) : IntKind.u64.wrap a = a := by
  unfold IntKind.wrap
  simp only [IntKind.signed, IntKind.bits, Bool.false_and]
  rw [if_neg (by simp)]
  omega
theorem RunV.inc {x y : Operand} {t t' : TypeId} {a : Nat} {dst : Option Tmp} {gd : Option (Nat × Bool)} (hx : L.ev x = some (.int .i64 (a : Int))) (hy : L.ev y = some (.int .i64 1)) (h : a ≤ 9223372036854775806) :
    RunV P n L ⟨dst, .binOp .add t x y t', ty, pos, after, gd⟩ w (.int .i64 ((a + 1 : Nat) : Int)) := RunV.addI hx hy (by rw [wrap_in (by omega) (by omega)]; omega)
end
end Go.Proofs.Ytglilmcfhkedbaa
