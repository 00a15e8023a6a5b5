/- A map from identities to events in memory of the call's own, and lists of identities that grow; no condition. -/
import Derived.Test.YtglilmcfhkedbaaEvs
import Derived.MapKept
namespace Go.Proofs.Ytglilmcfhkedbaa
open Go Go.RowKit

def evZ : Ev := ⟨0, 0, 0, 0, 0, e0, 0, 0, false⟩
def entry (e : Ev) : Value × Value := (.int .u64 e.id, .agg e.cells.toArray)
/-- Block b is a map of these events, each at its own identity. -/
def MBlk (w : World) (b : Nat) (es : List Ev) : Prop := ∃ ms clock, w.heap[b]? = some (.map ms clock) ∧ ms.toList.map (fun m => (m.key, m.val)) = es.map entry
def atKey (es : List Ev) (i : Int) : Option Ev := es.find? fun e => decide (e.id = i)
section
variable {P : Program} {n : Nat} {L : Env} {w w0 w' : World} {H : Heap} {dst : Option Tmp} {ty : TypeId} {pos : String} {after : Array Edge} {gd : Option (Nat × Bool)} {x y z : Operand} {b c : Nat} {es : List Ev} {cs : List Value} {T : TypeId} {K : Value → World → Prop}
theorem MBlk.lt (h : MBlk w b es) : b < w.heap.size := by
  obtain ⟨ms, k, h, _⟩ := h
  exact (Array.getElem?_eq_some_iff.1 h).1
theorem MBlk.le (h : MBlk w b es) (hl : Le w w') : MBlk w' b es := by
  obtain ⟨ms, k, h1, h2⟩ := h
  exact ⟨ms, k, by rw [hl.block b (MBlk.lt ⟨ms, k, h1, h2⟩)]; exact h1, h2⟩
theorem MBlk.but (h : MBlk w b es) (hl : But c w w') (hc : c ≠ b) : MBlk w' b es := by
  obtain ⟨ms, k, h1, h2⟩ := h
  exact ⟨ms, k, by rw [hl.block b (MBlk.lt ⟨ms, k, h1, h2⟩) (Ne.symm hc)]; exact h1, h2⟩
theorem MBlk.ne (h : MBlk w b es) (k : Blk w c cs T) : c ≠ b := fun e => by
  subst e
  obtain ⟨ms, q, h1, _⟩ := h
  unfold Blk at k
  rw [h1] at k; cases k
theorem Own.butM (h : Own w0 H w) (hm : MBlk w b es) (hb : But b w w') (hn : w0.heap.size ≤ b) : Own w0 H w' :=
  ⟨hb.le h.le hn, fun x hx => (h.blk x hx).but hb (hm.ne (h.blk x hx)), h.new, h.nd⟩
theorem findNow_tab (i : Int) : ∀ (ms : List MapEntry) (es : List Ev) (j : Nat), ms.map (fun m => (m.key, m.val)) = es.map entry →
    (atKey es i = none ∧ Instr.findNow (.int .u64) (.int .u64 i) ms j = some none) ∨ ∃ e k, atKey es i = some e ∧ Instr.findNow (.int .u64) (.int .u64 i) ms j = some (some (k, .agg e.cells.toArray))
  | [], [], _, _ => .inl ⟨rfl, rfl⟩
  | [], _ :: _, _, h => by cases h
  | _ :: _, [], _, h => by cases h
  | m :: ms, e :: es, j, h => by
    rw [List.map_cons, List.map_cons, List.cons.injEq] at h
    obtain ⟨h1, h2⟩ := h
    have hk : m.key = .int .u64 e.id := congrArg Prod.fst h1
    have hv : m.val = .agg e.cells.toArray := congrArg Prod.snd h1
    unfold Instr.findNow atKey
    rw [hk, List.find?_cons]
    by_cases hi : e.id = i
    · rw [decide_eq_true hi]
      refine .inr ⟨e, j, rfl, ?_⟩
      subst hi
      simp [Instr.sameNow, hv]
    · rw [decide_eq_false hi]
      have hn : (i == e.id) = false := by simpa using Ne.symm hi
      simp only [Instr.sameNow, if_true, hn]
      exact findNow_tab i ms es (j + 1) h2
theorem Step.makeMap {t : TypeId} (h : ∀ b w', Le w w' → w.heap.size ≤ b → MBlk w' b [] → K (.map (some b)) w') : Step P n L ⟨dst, .makeMap t none, ty, pos, after, gd⟩ w K := .mk fun a _ => by
  have hr : (execOp a.eval ⟨dst, .makeMap t none, ty, pos, after, gd⟩).run P w = .ok (.value (.map (some w.heap.size))) (w.alloc (.map #[] 0)) := rfl
  unfold StepE; rw [hr]
  refine h _ _ (Le.new _ _) (Nat.le_refl _) ⟨#[], 0, ?_, rfl⟩
  show (w.heap.push _)[w.heap.size]? = _
  simp
theorem RunV.lookup {t kt et : TypeId} {i : Int} (hm : MBlk w b es) (hu : P.underlying t = some (.map kt et)) (hk : P.underlying kt = some (.int .u64)) (hz : (P.info? et).bind (·.zero) = some (.agg evZ.cells.toArray))
    (hx : L.ev x = some (.map (some b))) (hy : L.ev y = some (.int .u64 i)) : RunV P n L ⟨dst, .lookup t x y true, ty, pos, after, gd⟩ w (.tuple #[.agg ((atKey es i).getD evZ).cells.toArray, .bool (atKey es i).isSome]) := fun a ha => by
  obtain ⟨ms, clock, h1, h2⟩ := hm
  have h3 : (Instr.lookup t (.map (some b)) (.int .u64 i) true).run P w = .ok (.tuple #[.agg ((atKey es i).getD evZ).cells.toArray, .bool (atKey es i).isSome]) w := by
    obtain ⟨inf, hi, hz⟩ := Option.bind_eq_some_iff.1 hz
    have hzv : (zeroValue et).run P w = .ok (.agg evZ.cells.toArray) w := by
      simp only [zeroValue, typeInfo, Sem.run_bind, run_program, Result.andThen_ok, hi, Sem.run_pure, hz]
    rcases findNow_tab i ms.toList es 0 h2 with ⟨h4, h5⟩ | ⟨e, k, h4, h5⟩
    · simp only [Instr.lookup, Sem.run_bind, run_underlying hu, Result.andThen_ok, MapKept.run_getObj_map h1, Sem.run_pure, MapKept.run_checkKey hk (k := .int .u64 i) (by simp [MapKept.IsKey]), MapKept.run_findKey hk h5, hzv, h4, Option.getD_none, Option.isSome_none, if_true]
    · simp only [Instr.lookup, Sem.run_bind, run_underlying hu, Result.andThen_ok, MapKept.run_getObj_map h1, Sem.run_pure, MapKept.run_checkKey hk (k := .int .u64 i) (by simp [MapKept.IsKey]), MapKept.run_findKey hk h5, h4, Option.getD_some, Option.isSome_some, if_true]
  simp only [execOp, ha.ev hx, ha.ev hy, Sem.run_bind, h3, Result.andThen_ok, Sem.run_pure]
theorem Step.mapPush {t kt et : TypeId} {e : Ev} (hm : MBlk w b es) (hu : P.underlying t = some (.map kt et)) (hk : P.underlying kt = some (.int .u64)) (hx : L.ev x = some (.map (some b))) (hy : L.ev y = some (.int .u64 e.id)) (hz : L.ev z = some (.agg e.cells.toArray))
    (hno : atKey es e.id = none) (h : ∀ w', But b w w' → MBlk w' b (es ++ [e]) → K undef w') : Step P n L ⟨dst, .mapUpdate t x y z, ty, pos, after, gd⟩ w K := .mk fun a ha => by
  obtain ⟨ms, clock, h1, h2⟩ := hm
  have h5 : Instr.findNow (.int .u64) (.int .u64 e.id) ms.toList 0 = some none := by
    rcases findNow_tab e.id ms.toList es 0 h2 with ⟨_, h⟩ | ⟨e', _, h4, _⟩
    · exact h
    · rw [hno] at h4; cases h4
  have h3 : (Instr.mapUpdate t (.map (some b)) (.int .u64 e.id) (.agg e.cells.toArray)).run P w = .ok () { w with heap := w.heap.setIfInBounds b (.map (ms.push { key := .int .u64 e.id, val := .agg e.cells.toArray, born := clock }) (clock + 1)) } := by
    simp only [Instr.mapUpdate, Sem.run_bind, run_underlying hu, Result.andThen_ok, MapKept.run_getObj_map h1, MapKept.run_checkKey hk (k := .int .u64 e.id) (by simp [MapKept.IsKey]), MapKept.run_findKey hk h5, MapKept.run_setObj_map _ h1]
  have hr : (execOp a.eval ⟨dst, .mapUpdate t x y z, ty, pos, after, gd⟩).run P w = .ok .skip { w with heap := w.heap.setIfInBounds b (.map (ms.push { key := .int .u64 e.id, val := .agg e.cells.toArray, born := clock }) (clock + 1)) } := by
    simp only [execOp, ha.ev hx, ha.ev hy, ha.ev hz, Sem.run_bind, h3, Result.andThen_ok, Sem.run_pure]
  unfold StepE; rw [hr]
  have hs := MapKept.heap_set (o' := .map (ms.push { key := .int .u64 e.id, val := .agg e.cells.toArray, born := clock }) (clock + 1)) h1
  exact h _ ⟨rfl, rfl, rfl, by simp, fun k _ hk => hs.2 k hk⟩ ⟨_, _, hs.1, by simp [h2, entry]⟩
end
/-! ### lists of identities -/
def IR (_w : World) (i : Int) (cs : List Value) : Prop := cs = [.int .u64 i]
def flatI (l : List Int) : List Value := l.map fun i => .int .u64 i
theorem flatI_one (l : List Int) : (flatI l).all (·.oneCell') = true := by
  unfold flatI; rw [List.all_map, List.all_eq_true]; intro x _; rfl
/-- A list of identities that grows in memory from B on, apart from one's own blocks. -/
structure GrI (B : Nat) (bs : List Nat) (w : World) (v : Value) (out : List Int) : Prop where
  sl : Sl w v 30 1 out.length (flatI out)
  ap : Apart B bs w v
section
variable {B b i : Nat} {bs : List Nat} {w w' w0 : World} {v u : Value} {out : List Int} {H : Heap}
theorem GrI.nil : GrI B bs w (.slice none 0 0) [] := ⟨.inl ⟨rfl, rfl, rfl⟩, Apart.nil⟩
theorem GrI.le (h : GrI B bs w v out) (hl : Le w w') : GrI B bs w' v out := ⟨h.sl.le hl, h.ap.grow hl.size⟩
theorem GrI.add (h : GrI B bs w v out) (hl : Le w w') (hb : w.heap.size ≤ b) : GrI B (b :: bs) w' v out := ⟨h.sl.le hl, (h.ap.add hb).grow hl.size⟩
theorem GrI.drop (h : GrI B (b :: bs) w v out) : GrI B bs w v out := ⟨h.sl, h.ap.drop⟩
theorem GrI.but (h : GrI B bs w v out) (hb : But b w w') (hx : bs[i]? = some b) : GrI B bs w' v out :=
  ⟨h.sl.but hb fun a m c e => ((h.ap a m c e).2.2 b (List.mem_of_getElem? hx)).symm, h.ap.grow hb.size⟩
theorem Own.movedI {x : Int} (hO : Own w0 H w) (h : GrI B (H.map (·.1)) w v out) (hB : B ≤ w.heap.size) (hw : w0.heap.size ≤ B) (hM : Moved w w' v u) (hS : Sl w' u 30 1 (out.length + 1) (flatI out ++ [.int .u64 x])) :
    Own w0 H w' ∧ GrI B (H.map (·.1)) w' u (out ++ [x]) := by
  refine ⟨hO.moved hM h.ap hw, ⟨?_, h.ap.moved hM hO hB hS⟩⟩
  rw [List.length_append]
  unfold flatI; rw [List.map_append]; exact hS
theorem MBlk.moved {es : List Ev} (h : MBlk w b es) (hM : Moved w w' v u) (hG : GrI B bs w v out) (hb : b < B) : MBlk w' b es := by
  cases hM with
  | same h1 e => subst e; exact h
  | @here c m m' cap h1 h' e =>
    have := (hG.ap _ _ _ h1).1
    exact h.but e (by have : B ≤ c := this; omega)
  | new h1 hb e => exact h.le e
theorem GrI.slOf (h : GrI B bs w v out) (hm : out.length ≤ 9223372036854775807) : SlOf G0 1 IR w v out := by
  rcases h.sl with ⟨rfl, hn, _⟩ | ⟨b, cap, cs, rfl, hb, hl, hc, ht⟩
  · exact .inl ⟨_, rfl, List.eq_nil_of_length_eq_zero hn⟩
  · refine .inr ⟨b, 0, cap, rfl, hc, hm, fun i x hx => ⟨[.int .u64 x], rfl, rfl, hb.rowAt ?_, trivial⟩⟩
    have hi := (List.getElem?_eq_some_iff.1 hx).1
    have h1 : (cs.take (out.length * 1))[i]? = some (.int .u64 x) := by rw [ht]; unfold flatI; rw [List.getElem?_map, hx]; rfl
    rw [List.getElem?_take, if_pos (by omega)] at h1
    obtain ⟨h2, h3⟩ := List.getElem?_eq_some_iff.1 h1
    show (cs.drop (0 + i * 1)).take 1 = _
    rw [Nat.zero_add, Nat.mul_one, List.drop_eq_getElem_cons h2, h3]; rfl
theorem GrI.val (h : GrI B bs w v out) : ∃ a c, v = .slice a out.length c := Sl.val h.sl
end
/-! ### what is told of events, in plain Lean -/
def firstSent (l : List Ev) (i : Int) : Option Ev := l.find? fun e => decide (e.kind = 2) && decide (e.id = i)
def tabStep (es : List Ev) (e : Ev) : List Ev := if (decide (e.kind = 2) && !(atKey es e.id).isSome) = true then es ++ [e] else es
theorem tab_find (i : Int) : ∀ (l es : List Ev), atKey (l.foldl tabStep es) i = (atKey es i).or (firstSent l i)
  | [], es => by simp [firstSent]
  | e :: l, es => by
    rw [List.foldl_cons, tab_find i l (tabStep es e)]
    unfold firstSent
    rw [List.find?_cons]
    unfold tabStep
    by_cases hk : e.kind = 2
    · rw [decide_eq_true hk, Bool.true_and, Bool.true_and]
      by_cases hi : e.id = i
      · subst hi
        rw [decide_eq_true rfl]
        cases hs : atKey es e.id with
        | none =>
          simp only [Option.isSome_none, Bool.not_false, if_true]
          unfold atKey at hs ⊢
          rw [List.find?_append, hs]
          simp
        | some x => simp [hs]
      · rw [decide_eq_false hi]
        split
        · unfold atKey
          rw [List.find?_append]
          simp [hi]
        · rfl
    · rw [decide_eq_false hk]; rfl
theorem tab_all (l : List Ev) (i : Int) : atKey (l.foldl tabStep []) i = firstSent l i := by
  rw [tab_find]; rfl
theorem take_succ_fold {α β : Type} (f : β → α → β) (z : β) {l : List α} {i : Nat} {x : α} (h : l[i]? = some x) : (l.take (i + 1)).foldl f z = f ((l.take i).foldl f z) x := by
  rw [List.take_add_one, h, List.foldl_append]; rfl
theorem RunV.lookupF {P : Program} {n : Nat} {L : Env} {w : World} {dst : Option Tmp} {ty : TypeId} {pos : String} {after : Array Edge} {gd : Option (Nat × Bool)} {x y : Operand} {b : Nat} {t kt et : TypeId} {i : Int} {l : List Ev} (hm : MBlk w b (l.foldl tabStep [])) (hu : P.underlying t = some (.map kt et)) (hk : P.underlying kt = some (.int .u64)) (hz : (P.info? et).bind (·.zero) = some (.agg evZ.cells.toArray))
    (hx : L.ev x = some (.map (some b))) (hy : L.ev y = some (.int .u64 i)) : RunV P n L ⟨dst, .lookup t x y true, ty, pos, after, gd⟩ w (.tuple #[.agg ((firstSent l i).getD evZ).cells.toArray, .bool (firstSent l i).isSome]) := by
  have := RunV.lookup (n := n) (dst := dst) (ty := ty) (pos := pos) (after := after) (gd := gd) hm hu hk hz hx hy
  rw [tab_all] at this; exact this
def toldB (l : List Ev) (f t : Int) (out : List Int) (e : Ev) : Bool :=
  (((((decide (e.kind = 3) || decide (e.kind = 5)) && (firstSent l e.id).isSome) && decide (((firstSent l e.id).getD evZ).frm = f)) && decide (((firstSent l e.id).getD evZ).to = t)) && !((firstSent l e.id).getD evZ).timed) && !out.any fun o => decide (o = e.id)
theorem firstSent_cons (y : Ev) (l : List Ev) (i : Int) : firstSent (y :: l) i = if (decide (y.kind = 2) && decide (y.id = i)) = true then some y else firstSent l i := by
  unfold firstSent
  rw [List.find?_cons]
  split <;> simp_all
theorem firstSent_kind {l : List Ev} {i : Int} {m : Ev} (h : firstSent l i = some m) : m.kind = 2 := by
  have := List.find?_some h
  simp at this
  exact this.1
theorem toldB_odd {l : List Ev} {f t : Int} {out : List Int} {x : Ev} (h : (!decide (x.kind = 3) && !decide (x.kind = 5)) = true) : toldB l f t out x = false := by
  have : (decide (x.kind = 3) || decide (x.kind = 5)) = false := by
    cases h3 : decide (x.kind = 3) <;> cases h5 : decide (x.kind = 5) <;> rw [h3, h5] at h <;> first | rfl | cases h
  unfold toldB; rw [this]; rfl
theorem toldB_no {l : List Ev} {f t : Int} {out : List Int} {x : Ev}
    (h : (((!decide (((firstSent l x.id).getD evZ).kind = 2) || !decide (((firstSent l x.id).getD evZ).frm = f)) || !decide (((firstSent l x.id).getD evZ).to = t)) || ((firstSent l x.id).getD evZ).timed) = true) : toldB l f t out x = false := by
  unfold toldB
  cases hf : firstSent l x.id with
  | none => simp
  | some m =>
    rw [hf] at h
    have hk := firstSent_kind hf
    simp only [Option.getD_some, Option.isSome_some] at h ⊢
    rw [decide_eq_true hk] at h
    revert h
    cases decide (m.frm = f) <;> cases decide (m.to = t) <;> cases m.timed <;> simp
theorem toldB_yes {l : List Ev} {f t : Int} {out : List Int} {x : Ev} (h0 : (!decide (x.kind = 3) && !decide (x.kind = 5)) = false)
    (h : (((!decide (((firstSent l x.id).getD evZ).kind = 2) || !decide (((firstSent l x.id).getD evZ).frm = f)) || !decide (((firstSent l x.id).getD evZ).to = t)) || ((firstSent l x.id).getD evZ).timed) = false) : toldB l f t out x = !out.any fun o => decide (o = x.id) := by
  unfold toldB
  cases hf : firstSent l x.id with
  | none =>
    rw [hf] at h
    exact absurd h (by simp [evZ])
  | some m =>
    rw [hf] at h
    simp only [Option.getD_some, Option.isSome_some] at h ⊢
    revert h0 h
    cases decide (x.kind = 3) <;> cases decide (x.kind = 5) <;> cases decide (m.kind = 2) <;> cases decide (m.frm = f) <;> cases decide (m.to = t) <;> cases m.timed <;> simp
def arrStep (l : List Ev) (f t : Int) (out : List Int) (e : Ev) : List Int := if toldB l f t out e then out ++ [e.id] else out
/-- Who has arrived. -/
def arrB (l : List Ev) (f t : Int) : List Int := l.foldl (arrStep l f t) []
def workStep (a : Int) (out : List Int) (e : Ev) : List Int := if (decide (e.kind = 3) && decide (e.actor = a)) = true then out ++ [e.id] else out
/-- What was worked on. -/
def workB (l : List Ev) (a : Int) : List Int := l.foldl (workStep a) []
theorem fold_len {α : Type} {f : List Int → α → List Int} (hf : ∀ o e, (f o e).length ≤ o.length + 1) : ∀ (l : List α) (o : List Int), (l.foldl f o).length ≤ o.length + l.length
  | [], o => Nat.le_refl _
  | e :: l, o => by
    have := fold_len hf l (f o e)
    have := hf o e
    rw [List.foldl_cons, List.length_cons]; omega
theorem workStep_len (a : Int) (o : List Int) (e : Ev) : (workStep a o e).length ≤ o.length + 1 := by
  unfold workStep; split
  · rw [List.length_append]; exact Nat.le_refl _
  · omega
theorem arrStep_len (l : List Ev) (f t : Int) (o : List Int) (e : Ev) : (arrStep l f t o e).length ≤ o.length + 1 := by
  unfold arrStep; split
  · rw [List.length_append]; exact Nat.le_refl _
  · omega
end Go.Proofs.Ytglilmcfhkedbaa
