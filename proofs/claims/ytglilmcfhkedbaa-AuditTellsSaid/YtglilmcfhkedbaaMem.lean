/- The rules for operations that make or write memory, over a list of the call's own blocks; no condition. -/
import Derived.Test.YtglilmcfhkedbaaOps
import Derived.Laws.CopyRow
namespace Go.Proofs.Ytglilmcfhkedbaa
open Go Go.RowKit

/-- All blocks that were there are as they were. -/
abbrev Le (w w' : World) : Prop := Below w.heap.size w w'
theorem Le.rfl' (w : World) : Le w w := Below.refl _ _
theorem Le.tr {a b c : World} (h : Le a b) (k : Le b c) : Le a c := Below.trans h (Below.mono k h.size)
/-- All blocks but b are as they were. -/
structure But (b : Nat) (w w' : World) : Prop where
  os : w'.os = w.os
  tape : w'.tape = w.tape
  output : w'.output = w.output
  size : w.heap.size ≤ w'.heap.size
  block : ∀ k, k < w.heap.size → k ≠ b → w'.heap[k]? = w.heap[k]?
theorem Le.but {b : Nat} {w w' : World} (h : Le w w') : But b w w' := ⟨h.os, h.tape, h.output, h.size, fun k hk _ => h.block k hk⟩

/-- Block b holds these cells, its elements are of type T. -/
def Blk (w : World) (b : Nat) (cs : List Value) (T : TypeId) : Prop := w.heap[b]? = some (.cells cs.toArray T (0, 0))
section
variable {w w' w0 : World} {b b' : Nat} {cs ds : List Value} {T : TypeId}
theorem Blk.lt (h : Blk w b cs T) : b < w.heap.size := by
  rcases Nat.lt_or_ge b w.heap.size with h' | h'
  · exact h'
  · unfold Blk at h; rw [Array.getElem?_eq_none h'] at h; cases h
theorem Blk.cell (h : Blk w b cs T) {i : Nat} {v : Value} (hv : cs[i]? = some v) : w.cell? ⟨b, i, none⟩ = some v := by
  unfold Blk at h; simp [World.cell?, h, hv]
theorem Blk.row (h : Blk w b cs T) : Row w b 0 cs := fun i v hv => by simpa using h.cell hv
theorem Blk.rowAt (h : Blk w b cs T) {off : Nat} {ds : List Value} (hd : (cs.drop off).take ds.length = ds) : Row w b off ds := fun i v hv => by
  refine h.cell ?_
  rw [← hd] at hv
  simp only [List.getElem?_take, List.getElem?_drop] at hv
  split at hv
  · exact hv
  · cases hv
theorem Blk.le (h : Blk w b cs T) (hl : Le w w') : Blk w' b cs T := by unfold Blk; rw [hl.block b h.lt]; exact h
theorem Blk.but (h : Blk w b cs T) (hl : But b' w w') (hb : b ≠ b') : Blk w' b cs T := by unfold Blk; rw [hl.block b h.lt hb]; exact h
theorem cell_lt {p : Addr} {v : Value} (h : w.cell? p = some v) : p.block < w.heap.size := by
  rcases Nat.lt_or_ge p.block w.heap.size with h' | h'
  · exact h'
  · unfold World.cell? at h; rw [Array.getElem?_eq_none h'] at h; cases h
theorem cell_le {p : Addr} {v : Value} (h : w.cell? p = some v) (hl : Le w w') : w'.cell? p = some v := by rw [hl.cell (cell_lt h)]; exact h
theorem Row.le {off : Nat} (h : Row w b off cs) (hl : Le w w') : Row w' b off cs := fun i v hv => cell_le (h i v hv) hl
theorem cell_but {p : Addr} {v : Value} (h : w.cell? p = some v) (hl : But b w w') (hb : p.block ≠ b) : w'.cell? p = some v := by
  rw [World.cell?_of_block (w := w) (hl.block p.block (cell_lt h) hb)]; exact h
theorem Row.but {off : Nat} (h : Row w b off cs) (hl : But b' w w') (hb : b ≠ b') : Row w' b off cs := fun i v hv => cell_but (h i v hv) hl hb
theorem But.le (h : But b w w') (hl : Le w0 w) (hb : w0.heap.size ≤ b) : Le w0 w' :=
  ⟨h.os.trans hl.os, h.tape.trans hl.tape, h.output.trans hl.output, Nat.le_trans hl.size h.size, fun k hk => (h.block k (Nat.lt_of_lt_of_le hk hl.size) (by omega)).trans (hl.block k hk)⟩
theorem Le.alloc (hl : Le w0 w) (o : Obj) : Le w0 (w.alloc o) := Below.alloc hl hl.size o
theorem Le.new (w : World) (o : Obj) : Le w (w.alloc o) := (Le.rfl' w).alloc o
theorem Blk.new (w : World) (cs : List Value) (T : TypeId) : Blk (w.alloc (.cells cs.toArray T)) w.heap.size cs T := by
  show (w.heap.push _)[w.heap.size]? = _
  simp
end

/-- x stands at place i of the one list, y in the other; else they are the same. -/
inductive Put {α : Type} : List α → Nat → α → α → List α → Prop
  | here {x y : α} {r : List α} : Put (x :: r) 0 x y (y :: r)
  | there {x y z : α} {r r' : List α} {i : Nat} (h : Put r i x y r') : Put (z :: r) (i + 1) x y (z :: r')
theorem Put.mem {α : Type} {l l' : List α} {i : Nat} {x y : α} (h : Put l i x y l') : x ∈ l := by
  induction h with
  | here => simp
  | there _ ih => simp [ih]
theorem Put.out {α : Type} {l l' : List α} {i : Nat} {x y : α} (h : Put l i x y l') : l[i]? = some x ∧ l' = l.set i y := by
  induction h with
  | here => simp
  | there _ ih => simp [ih.1, ← ih.2]

abbrev Heap := List (Nat × List Value × TypeId)
/-- Of what was there at w0 nothing has turned; the blocks in H are the call's own. -/
structure Own (w0 : World) (H : Heap) (w : World) : Prop where
  le : Le w0 w
  blk : ∀ x ∈ H, Blk w x.1 x.2.1 x.2.2
  new : ∀ x ∈ H, w0.heap.size ≤ x.1
  nd : (H.map (·.1)).Nodup
theorem Own.start (w : World) : Own w [] w := ⟨Le.rfl' w, (fun _ h => by cases h), (fun _ h => by cases h), List.nodup_nil⟩
section
variable {P : Program} {n : Nat} {L : Env} {w w0 w' : World} {H H' : Heap} {dst : Option Tmp} {ty : TypeId} {pos : String} {after : Array Edge} {gd : Option (Nat × Bool)} {x y z : Operand} {v u : Value} {b : Nat} {cs ds : List Value} {T : TypeId} {K : Value → World → Prop}
theorem Own.at (h : Own w0 H w) {i : Nat} (hi : H[i]? = some (b, cs, T)) : Blk w b cs T := h.blk (b, cs, T) (List.mem_of_getElem? hi)
theorem Own.newAt (h : Own w0 H w) {i : Nat} (hi : H[i]? = some (b, cs, T)) : w0.heap.size ≤ b := h.new (b, cs, T) (List.mem_of_getElem? hi)
theorem Own.on (h : Own w0 H w) (hl : Le w w') : Own w0 H w' := ⟨h.le.tr hl, fun x hx => (h.blk x hx).le hl, h.new, h.nd⟩
theorem Own.add (h : Own w0 H w) (hl : Le w w') (hb : Blk w' b cs T) (hn : w.heap.size ≤ b) : Own w0 ((b, cs, T) :: H) w' := by
  refine ⟨h.le.tr hl, fun x hx => ?_, fun x hx => ?_, ?_⟩
  · rcases List.mem_cons.1 hx with rfl | hx
    · exact hb
    · exact (h.blk x hx).le hl
  · rcases List.mem_cons.1 hx with rfl | hx
    · exact Nat.le_trans h.le.size hn
    · exact h.new x hx
  · simp only [List.map_cons, List.nodup_cons]
    refine ⟨fun hm => ?_, h.nd⟩
    obtain ⟨x, hx, e⟩ := List.mem_map.1 hm
    have := (h.blk x hx).lt
    omega
theorem Own.set (h : Own w0 H w) {i : Nat} (hp : Put H i (b, cs, T) (b, ds, T) H') (hl : But b w w') (hb : Blk w' b ds T) : Own w0 H' w' := by
  obtain ⟨h1, rfl⟩ := hp.out
  have hnew := h.newAt h1
  have hlt : i < H.length := (List.getElem?_eq_some_iff.1 h1).1
  have hfst : (H.set i (b, ds, T)).map (·.1) = H.map (·.1) := by
    apply List.ext_getElem?
    intro j
    simp only [List.getElem?_map, List.getElem?_set]
    by_cases e : i = j
    · subst e; rw [h1, if_pos rfl, if_pos hlt]; rfl
    · simp [e]
  refine ⟨hl.le h.le hnew, fun x hx => ?_, fun x hx => ?_, by rw [hfst]; exact h.nd⟩
  · obtain ⟨j, hj, e⟩ := List.mem_iff_getElem.1 hx
    have hj' : j < H.length := by simpa using hj
    rw [List.getElem_set] at e
    split at e
    · subst e; exact hb
    · rename_i hne
      subst e
      refine (h.blk _ (List.getElem_mem hj')).but hl (fun e => ?_)
      have h2 : (H.map (·.1))[i]? = some b := by simp [h1]
      have h3 : (H.map (·.1))[j]? = some b := by simp [hj', e]
      have := (List.getElem?_inj (by simpa using hlt) h.nd).1 (h2.trans h3.symm)
      exact hne this
  · rcases List.mem_or_eq_of_mem_set hx with hx | rfl
    · exact h.new x hx
    · exact hnew
theorem Own.drop (h : Own w0 ((b, cs, T) :: H) w) : Own w0 H w := ⟨h.le, fun x hx => h.blk x (by simp [hx]), fun x hx => h.new x (by simp [hx]), by have := h.nd; simp at this; exact by simpa using this.2⟩

/-! ### new blocks -/
theorem Step.box (hO : Own w0 H w) (hx : L.ev x = some v) (hc : v.cells = cs.toArray) (h : ∀ b w', Own w0 ((b, cs, T) :: H) w' → Le w w' → w.heap.size ≤ b → K (.pointer (some ⟨b, 0, none⟩)) w') :
    Step P n L ⟨dst, .box T x, ty, pos, after, gd⟩ w K := .mk fun a ha => by
  have hr : (execOp a.eval ⟨dst, .box T x, ty, pos, after, gd⟩).run P w = .ok (.value (.pointer (some ⟨w.heap.size, 0, none⟩))) (w.alloc (.cells cs.toArray T)) := by
    simp only [execOp, ha.ev hx, Instr.box, newVar, newRow, newObj, hc]
    rfl
  unfold StepE; rw [hr]
  exact h _ _ (hO.add (Le.new _ _) (Blk.new _ _ _) (Nat.le_refl _)) (Le.new _ _) (Nat.le_refl _)
def zeroT (P : Program) (t : TypeId) (cs : List Value) : Prop := ((P.info? t).bind (·.zero)).map Value.cells = some cs.toArray
theorem zeroT.out {t : TypeId} (h : zeroT P t cs) : ∃ i z, P.info? t = some i ∧ i.zero = some z ∧ z.cells = cs.toArray := by
  unfold zeroT at h
  simp only [Option.map_eq_some_iff, Option.bind_eq_some_iff] at h
  obtain ⟨z, ⟨i, h1, h2⟩, h3⟩ := h
  exact ⟨i, z, h1, h2, h3⟩
theorem Step.alloc (hO : Own w0 H w) (hz : zeroT P T cs) (h : ∀ b w', Own w0 ((b, cs, T) :: H) w' → Le w w' → w.heap.size ≤ b → K (.pointer (some ⟨b, 0, none⟩)) w') :
    Step P n L ⟨dst, .alloc T, ty, pos, after, gd⟩ w K := .mk fun a _ => by
  obtain ⟨i, z, h1, h2, h3⟩ := hz.out
  have hr : (execOp a.eval ⟨dst, .alloc T, ty, pos, after, gd⟩).run P w = .ok (.value (.pointer (some ⟨w.heap.size, 0, none⟩))) (w.alloc (.cells cs.toArray T)) := by
    have hzv : (zeroValue T).run P w = .ok z w := by
      simp only [zeroValue, typeInfo, Sem.run_bind, run_program, Result.andThen_ok, h1, Sem.run_pure, h2]
    have : (Instr.alloc T true (.tuple #[])).run P w = .ok (.pointer (some ⟨w.heap.size, 0, none⟩)) (w.alloc (.cells cs.toArray T)) := by
      simp only [Instr.alloc, Sem.run_bind, hzv, Result.andThen_ok, newVar, newRow, newObj, h3]
      rfl
    simp only [execOp, Sem.run_bind, this, Result.andThen_ok, Sem.run_pure]
  unfold StepE; rw [hr]
  exact h _ _ (hO.add (Le.new _ _) (Blk.new _ _ _) (Nat.le_refl _)) (Le.new _ _) (Nat.le_refl _)

/-! ### stores -/
theorem run_store_blk {off k : Nat} {t : TypeId} {i : TypeInfo} (hb : Blk w b cs T) (hc : v.cells = ds.toArray) (hi : P.info? t = some i) (hk : i.size = k) (hd : ds.length = k) (hf : off + k ≤ cs.length) (h1 : ds.all (·.oneCell') = true) :
    ∃ w', (Instr.storeAt t (.pointer (some ⟨b, off, none⟩)) v).run P w = .ok () w' ∧ But b w w' ∧ Blk w' b (cs.take off ++ ds ++ cs.drop (off + k)) T := by
  have h2 := run_storeCells_at P b off T ds 0 cs.toArray w hb (by simp; omega) (fun v hv => List.all_eq_true.1 h1 v hv)
  have hlt := hb.lt
  have hs : v.cells.size = i.size := by rw [hc, hk]; simpa using hd
  simp only [Nat.add_zero, hd] at h2
  refine ⟨w.setRow b ((cs.take off ++ ds ++ cs.drop (off + k))).toArray, ?_, ⟨rfl, rfl, rfl, ?_, fun j _ hj => ?_⟩, ?_⟩
  · simp only [Instr.storeAt, Instr.sureAddr, storeVar, Sem.run_bind, Sem.run_pure, Result.andThen_ok, run_size hi rfl, hs, ne_eq, not_true_eq_false, if_false]
    rw [hc]
    exact h2
  · simp [World.setRow]
  · simp only [World.setRow, Array.getElem?_modify]
    rw [if_neg (fun e => hj e.symm)]
  · exact setRow_heap w b cs.toArray (cs.take off ++ ds ++ cs.drop (off + k)).toArray T (0, 0) hb

def sizeT (P : Program) (t : TypeId) (k : Nat) : Bool := match P.info? t with | some i => i.size == k | none => false
theorem sizeT.out {t : TypeId} {k : Nat} (h : sizeT P t k = true) : ∃ i, P.info? t = some i ∧ i.size = k := by
  unfold sizeT at h
  split at h
  · rename_i i hi; exact ⟨i, hi, by simpa using h⟩
  · cases h
/-- A store into a block of which all is known, whosever it is. -/
theorem Step.storeX {off k : Nat} {t : TypeId} (hb : Blk w b cs T) (hx : L.ev x = some (.pointer (some ⟨b, off, none⟩))) (hy : L.ev y = some v) (hc : v.cells = ds.toArray) (hT : sizeT P t k = true) (hd : ds.length = k) (hf : Nat.ble (off + k) cs.length = true)
    (h1 : ds.all (·.oneCell') = true) (h : ∀ w', But b w w' → Blk w' b (cs.take off ++ ds ++ cs.drop (off + k)) T → K undef w') : Step P n L ⟨dst, .store t x y, ty, pos, after, gd⟩ w K := .mk fun a ha => by
  obtain ⟨i, hi, hk⟩ := sizeT.out hT
  obtain ⟨w', h2, h3, h4⟩ := run_store_blk (P := P) (off := off) (t := t) hb hc hi hk hd (by simpa using hf) h1
  have hr : (execOp a.eval ⟨dst, .store t x y, ty, pos, after, gd⟩).run P w = .ok .skip w' := by
    simp only [execOp, ha.ev hx, ha.ev hy, Sem.run_bind, h2, Result.andThen_ok, Sem.run_pure]
  unfold StepE; rw [hr]
  exact h w' h3 h4
/-- One cell of an own block. -/
theorem Step.store1 {off i : Nat} {t : TypeId} {old : Value} {cs' : List Value} (hO : Own w0 H w) (hx : L.ev x = some (.pointer (some ⟨b, off, none⟩))) (hy : L.ev y = some v) (hc : v.cells = [v].toArray) (hT : sizeT P t 1 = true)
    (hp : Put H i (b, cs, T) (b, cs', T) H') (hq : Put cs off old v cs') (h1 : v.oneCell' = true) (h : ∀ w', Own w0 H' w' → But b w w' → K undef w') : Step P n L ⟨dst, .store t x y, ty, pos, after, gd⟩ w K := by
  obtain ⟨q1, rfl⟩ := hq.out
  have hlt : off < cs.length := (List.getElem?_eq_some_iff.1 q1).1
  refine Step.storeX (hO.at hp.out.1) hx hy hc hT rfl (by simp; omega) (by simp [h1]) fun w' hbut hblk => h w' (hO.set hp hbut ?_) hbut
  rw [show cs.set off v = cs.take off ++ [v] ++ cs.drop (off + 1) by rw [List.set_eq_take_append_cons_drop, if_pos hlt]; simp]
  exact hblk
/-- An own block, whole. -/
theorem Step.storeAll {i : Nat} {t : TypeId} (hO : Own w0 H w) (hx : L.ev x = some (.pointer (some ⟨b, 0, none⟩))) (hy : L.ev y = some v) (hc : v.cells = ds.toArray) (hT : sizeT P t ds.length = true)
    (hp : Put H i (b, cs, T) (b, ds, T) H') (hl : cs.length = ds.length) (h1 : ds.all (·.oneCell') = true) (h : ∀ w', Own w0 H' w' → But b w w' → K undef w') : Step P n L ⟨dst, .store t x y, ty, pos, after, gd⟩ w K := by
  refine Step.storeX (hO.at hp.out.1) hx hy hc hT rfl (by simp; omega) h1 fun w' hbut hblk => h w' (hO.set hp hbut ?_) hbut
  rw [List.drop_eq_nil_of_le (by omega)] at hblk
  simpa using hblk

/-! ### aggregates -/
def putAt (cs : List Value) (off : Nat) : List Value → List Value
  | [] => cs
  | v :: r => putAt (cs.set off v) (off + 1) r
theorem putAt_length (cs : List Value) (off : Nat) (vs : List Value) : (putAt cs off vs).length = cs.length := by
  induction vs generalizing cs off with
  | nil => rfl
  | cons v r ih => simp [putAt, ih]
def fillL (pl : Nat → Option (Nat × Nat)) (cs : List Value) : List (Nat × Value) → Option (List Value)
  | [] => some cs
  | (i, v) :: r => match pl i with
    | some (off, k) => bif Nat.beq v.cells.toList.length k && Nat.ble (off + k) cs.length then fillL pl (putAt cs off v.cells.toList) r else none
    | none => none
theorem fold_putAt (vs : List Value) : ∀ (cs : Array Value) (off k : Nat), ((vs.zipIdx k).toArray.foldl (fun cs (x : Value × Nat) => cs.setIfInBounds (off + x.2) x.1) cs) = (putAt cs.toList (off + k) vs).toArray := by
  induction vs with
  | nil => intro cs off k; simp [putAt]
  | cons v r ih =>
    intro cs off k
    have := ih (cs.setIfInBounds (off + k) v) off (k + 1)
    simp only [List.zipIdx_cons, List.foldl_toArray', List.size_toArray, List.foldl_cons, putAt] at this ⊢
    rw [this]
    simp [Nat.add_assoc]
theorem fillL_fill {pl : Nat → Option (Nat × Nat)} : ∀ (ps : List (Nat × Value)) (cs cs' : List Value), fillL pl cs ps = some cs' → Instr.fill pl cs.toArray ps = some cs'.toArray
  | [], cs, cs', h => by simp [fillL] at h; subst h; rfl
  | (i, v) :: r, cs, cs', h => by
    simp only [fillL] at h
    simp only [Instr.fill]
    split at h
    · rename_i off k hp
      cases hb : (Nat.beq v.cells.toList.length k && Nat.ble (off + k) cs.length) with
      | false => rw [hb] at h; cases h
      | true =>
        rw [hb] at h
        simp only [Bool.and_eq_true] at hb
        have h1 : v.cells.size = k := by simpa using Nat.eq_of_beq_eq_true hb.1
        have h2 : off + k ≤ cs.length := by simpa using hb.2
        rw [hp]
        simp only
        rw [if_neg (by simp [h1]; omega)]
        have := fold_putAt v.cells.toList cs.toArray off 0
        have e : v.cells.zipIdx = (v.cells.toList.zipIdx 0).toArray := by
          apply Array.ext'
          rw [Array.toList_zipIdx]
        rw [e, this]
        exact fillL_fill r _ _ h
    · cases h
def Env.evP (L : Env) : List (Nat × Operand) → Option (List (Nat × Value))
  | [] => some []
  | (i, x) :: r => match L.ev x, Env.evP L r with
    | some v, some vs => some ((i, v) :: vs)
    | _, _ => none
theorem Holds.evP {a : Act} (h : Holds n L a) {xs : List (Nat × Operand)} {vs : List (Nat × Value)} (hx : L.evP xs = some vs) : (xs.toArray.map fun (x : Nat × Operand) => (x.1, a.eval x.2)).toList = vs := by
  induction xs generalizing vs with
  | nil => simp [Env.evP] at hx; subst hx; simp
  | cons x r ih =>
    obtain ⟨i, x⟩ := x
    simp only [Env.evP] at hx
    split at hx
    · rename_i v us h1 h2
      simp at hx; subst hx
      have := ih h2
      simp at this ⊢
      exact ⟨h.ev h1, this⟩
    · cases hx
/-- Where a struct's fields lie. -/
def placesT (P : Program) (t : TypeId) : Option (List (Nat × Nat)) := match P.underlying t with
  | some (.struct fs) => fs.toList.mapM fun f => (P.info? f.type).map fun i => (f.offset, i.size)
  | _ => none
theorem mapM_places (fs : List Field) : ∀ (pl : List (Nat × Nat)), (fs.mapM fun f => (P.info? f.type).map fun i => (f.offset, i.size)) = some pl →
    (fs.mapM (m := Sem) fun f => do pure (f.offset, ← sizeOf f.type)).run P w = .ok pl w := by
  induction fs with
  | nil => intro pl h; simp at h; subst h; simp
  | cons f r ih =>
    intro pl h
    simp only [List.mapM_cons, Option.bind_eq_bind, Option.bind_eq_some_iff, Option.map_eq_some_iff] at h
    obtain ⟨p, ⟨i, hi, rfl⟩, qs, hq, h⟩ := h
    simp at h; subst h
    have := ih qs hq
    simp only [List.mapM_cons, Sem.run_bind, run_size hi rfl, Result.andThen_ok, Sem.run_pure, this]
theorem RunV.build {t : TypeId} {ps : List (Nat × Operand)} {vs : List (Nat × Value)} {pl : List (Nat × Nat)} {zs : List Value} (hT : placesT P t = some pl) (hz : zeroT P t zs) (hx : L.evP ps = some vs) (hf : fillL (fun i => pl[i]?) zs vs = some cs) :
    RunV P n L ⟨dst, .build t ps.toArray, ty, pos, after, gd⟩ w (.agg cs.toArray) := fun a ha => by
  obtain ⟨i, z, z1, z2, z3⟩ := hz.out
  unfold placesT at hT
  split at hT
  · rename_i fs hu
    have h1 := mapM_places (P := P) (w := w) fs.toList pl hT
    have h2 := fillL_fill _ _ _ hf
    have hzv : (zeroValue t).run P w = .ok z w := by
      simp only [zeroValue, typeInfo, Sem.run_bind, run_program, Result.andThen_ok, z1, Sem.run_pure, z2]
    have h3 : (Instr.build t (ps.toArray.map fun (x : Nat × Operand) => (x.1, a.eval x.2))).run P w = .ok (.agg cs.toArray) w := by
      simp only [Instr.build, Sem.run_bind, hzv, Result.andThen_ok, run_underlying hu, ha.evP hx, z3]
      have h4 : (fs.mapM (m := Sem) fun f => do pure (f.offset, ← sizeOf f.type)).run P w = .ok pl.toArray w := by
        rw [Array.mapM_eq_mapM_toList]
        simp only [Functor.map, Sem.run_bind', h1]
        rfl
      simp only [h4, Result.andThen_ok]
      have h5 : (fun (i : Nat) => pl.toArray[i]?) = fun (i : Nat) => pl[i]? := by funext i; simp
      rw [h5, h2]
      rfl
    simp only [execOp, Sem.run_bind]
    rw [h3]
    rfl
  · cases hT
theorem Step.buildSlice {t e k len : Nat} {ps : List (Nat × Operand)} {vs : List (Nat × Value)} {zs : List Value} (hO : Own w0 H w) (hT : sliceT P t e k = true) (hz : zeroT P e zs) (hzl : Nat.beq zs.length k = true) (hk : Nat.blt 0 (len * k) = true) (hs : Nat.ble (len * k) 65536 = true) (hx : L.evP ps = some vs)
    (hf : fillL (fun i => some (i * k, k)) ((List.range (len * k)).map fun i => zs[i % k]!) vs = some cs) (h : ∀ b w', Own w0 ((b, cs, e) :: H) w' → Le w w' → w.heap.size ≤ b → K (.slice (some ⟨b, 0, none⟩) len len) w') :
    Step P n L ⟨dst, .buildSlice t len ps.toArray, ty, pos, after, gd⟩ w K := .mk fun a ha => by
  obtain ⟨i, z, z1, z2, z3⟩ := hz.out
  unfold sliceT at hT
  simp only [Bool.and_eq_true] at hT
  obtain ⟨h1, h2⟩ := hT
  have hk' : 0 < len * k := by simpa [Nat.blt_eq] using hk
  have hs' : len * k ≤ 65536 := by simpa using hs
  have hzl' : zs.length = k := by simpa using hzl
  split at h1
  · rename_i e' hu
    have h1 : e' = e := by simpa using h1
    subst h1
    split at h2
    · rename_i j hj
      have h2 : j.size = k := by simpa using h2
      have h3 := fillL_fill _ _ _ hf
      have hzv : (zeroValue e').run P w = .ok z w := by
        simp only [zeroValue, typeInfo, Sem.run_bind, run_program, Result.andThen_ok, z1, Sem.run_pure, z2]
      have h4 : (Array.range (len * k)).map (fun i => zs.toArray[i % zs.toArray.size]!) = ((List.range (len * k)).map fun i => zs[i % k]!).toArray := by
        rw [show zs.toArray.size = k from by simpa using hzl']
        apply Array.ext'
        simp
      have hr : (Instr.buildSlice t len (ps.toArray.map fun (x : Nat × Operand) => (x.1, a.eval x.2))).run P w = .ok (.slice (some ⟨w.heap.size, 0, none⟩) len len) (w.alloc (.cells cs.toArray e')) := by
        simp only [Instr.buildSlice, Sem.run_bind, run_underlying hu, Result.andThen_ok, run_size hj h2, ha.evP hx]
        rw [if_neg (by omega), if_neg (by omega)]
        simp only [Sem.run_bind, hzv, Result.andThen_ok, Sem.run_pure, z3, h4, h3, newRow, newObj]
        rfl
      have hr2 : (execOp a.eval ⟨dst, .buildSlice t len ps.toArray, ty, pos, after, gd⟩).run P w = .ok (.value (.slice (some ⟨w.heap.size, 0, none⟩) len len)) (w.alloc (.cells cs.toArray e')) := by
        simp only [execOp, Sem.run_bind]
        rw [hr]
        rfl
      unfold StepE; rw [hr2]
      exact h _ _ (hO.add (Le.new _ _) (Blk.new _ _ _) (Nat.le_refl _)) (Le.new _ _) (Nat.le_refl _)
    · cases h2
  · cases h1

theorem putAt_mid (vs : List Value) : ∀ (pre rest : List Value), vs.length ≤ rest.length → putAt (pre ++ rest) pre.length vs = pre ++ vs ++ rest.drop vs.length := by
  induction vs with
  | nil => intro pre rest _; simp [putAt]
  | cons v r ih =>
    intro pre rest h
    cases rest with
    | nil => simp at h
    | cons y rs =>
      have := ih (pre ++ [v]) rs (by simpa using h)
      simp only [putAt, List.length_append, List.length_cons, List.length_nil, Nat.zero_add] at this ⊢
      rw [List.set_append_right _ _ (Nat.le_refl _)]
      simp only [Nat.sub_self, List.set_cons_zero]
      rw [show pre ++ v :: rs = pre ++ [v] ++ rs by simp, this]
      simp
def flatP (vs : List (Nat × Value)) : List Value := vs.flatMap fun x => x.2.cells.toList
def fullB (k : Nat) : Nat → List (Nat × Value) → Bool
  | _, [] => true
  | j, x :: r => Nat.beq x.1 j && Nat.beq x.2.cells.toList.length k && fullB k (j + 1) r
theorem fillL_full (k : Nat) : ∀ (ps : List (Nat × Value)) (j : Nat) (pre rest : List Value), fullB k j ps = true → pre.length = j * k → rest.length = ps.length * k →
    fillL (fun i => some (i * k, k)) (pre ++ rest) ps = some (pre ++ flatP ps)
  | [], j, pre, rest, _, _, hr => by
    have : rest = [] := by simpa using hr
    subst this; simp [fillL, flatP]
  | (i, v) :: r, j, pre, rest, h, hp, hr => by
    simp only [fullB, Bool.and_eq_true] at h
    obtain ⟨⟨h1, h2⟩, h3⟩ := h
    have h1 : i = j := Nat.eq_of_beq_eq_true h1
    have h2' : v.cells.toList.length = k := Nat.eq_of_beq_eq_true h2
    subst h1
    have hle : k ≤ rest.length := by rw [hr, List.length_cons, Nat.add_mul]; omega
    simp only [fillL]
    have hb : (Nat.beq v.cells.toList.length k && Nat.ble (i * k + k) (pre ++ rest).length) = true := by
      rw [h2, Bool.true_and, Nat.ble_eq, List.length_append, hp]; omega
    rw [hb, cond_true, ← hp, putAt_mid _ _ _ (by rw [h2']; exact hle), List.append_assoc, h2']
    have := fillL_full k r (i + 1) (pre ++ v.cells.toList) (rest.drop k) h3 (by rw [List.length_append, h2', hp, Nat.add_mul]; omega) (by rw [List.length_drop, hr, List.length_cons, Nat.add_mul]; omega)
    rw [List.append_assoc] at this
    rw [this]
    simp [flatP]
theorem fill_full {k len : Nat} {vs : List (Nat × Value)} {zs : List Value} (h : fullB k 0 vs = true) (hl : Nat.beq vs.length len = true) : fillL (fun i => some (i * k, k)) ((List.range (len * k)).map fun i => zs[i % k]!) vs = some (flatP vs) := by
  have := fillL_full k vs 0 [] ((List.range (len * k)).map fun i => zs[i % k]!) h (by simp) (by simp [Nat.eq_of_beq_eq_true hl])
  simpa using this
/-- The same, said of the value. -/
theorem Step.buildSliceP {t e k len : Nat} {ps : List (Nat × Operand)} {vs : List (Nat × Value)} {zs : List Value} (hO : Own w0 H w) (hT : sliceT P t e k = true) (hz : zeroT P e zs) (hzl : Nat.beq zs.length k = true) (hk : Nat.blt 0 (len * k) = true) (hs : Nat.ble (len * k) 65536 = true) (hx : L.evP ps = some vs)
    (hf : fillL (fun i => some (i * k, k)) ((List.range (len * k)).map fun i => zs[i % k]!) vs = some cs) :
    Step P n L ⟨dst, .buildSlice t len ps.toArray, ty, pos, after, gd⟩ w fun v w' => Le w w' ∧ ∃ b, v = .slice (some ⟨b, 0, none⟩) len len ∧ Blk w' b cs e :=
  Step.buildSlice hO hT hz hzl hk hs hx hf fun b w' hO hl _ => ⟨hl, b, rfl, hO.at (i := 0) rfl⟩
end
end Go.Proofs.Ytglilmcfhkedbaa
