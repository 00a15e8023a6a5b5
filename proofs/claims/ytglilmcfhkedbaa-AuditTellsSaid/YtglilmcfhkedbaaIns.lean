/- Rules for copy, for append of a made slice, and for slices.overlaps; small laws on slices that start at a block's head; no condition. -/
import Derived.Test.YtglilmcfhkedbaaTab
import Derived.Lib.Overlaps
namespace Go.Proofs.Ytglilmcfhkedbaa
open Go Go.RowKit
section
variable {P : Program} {n : Nat} {L : Env} {w w0 w' : World} {dst : Option Tmp} {ty : TypeId} {pos : String} {after : Array Edge} {gd : Option (Nat × Bool)} {x y z : Operand} {v u : Value} {K : Value → World → Prop}

theorem Sl.one {E k m : Nat} {xs : List Value} (h : Sl w v E k m xs) : v.cells = [v].toArray ∧ v.oneCell' = true := by
  rcases h with ⟨rfl, _⟩ | ⟨b, cap, cs, rfl, _⟩ <;> exact ⟨rfl, rfl⟩
theorem Moved.blk {s : Value} {b : Nat} {cs : List Value} {T : TypeId} (h : Moved w w' s v) (hb : Blk w b cs T) (hne : ∀ a m c, s = .slice (some a) m c → a.block ≠ b) : Blk w' b cs T := by
  cases h with
  | same h e => subst e; exact hb
  | @here b' m m' cap h h' e => exact hb.but e (fun e1 => hne _ _ _ h e1.symm)
  | new h hb' e => exact hb.le e
theorem Moved.le0 {s : Value} (h : Moved w w' s v) (hl : Le w0 w) (hs : ∀ a m c, s = .slice (some a) m c → w0.heap.size ≤ a.block) : Le w0 w' := by
  cases h with
  | same h e => subst e; exact hl
  | here h h' e => exact e.le hl (hs _ _ _ h)
  | new h hb' e => exact hl.tr e
theorem Moved.old {s : Value} {B : Nat} (h : Moved w w' s v) (hB : B ≤ w.heap.size) (hs : ∀ a m c, s = .slice (some a) m c → B ≤ a.block) {a : Addr} {m c : Nat} (hv : v = .slice (some a) m c) : B ≤ a.block ∧ ((∃ m c, s = .slice (some a) m c) ∨ w.heap.size ≤ a.block) := by
  cases h with
  | same h e => subst h; exact ⟨hs _ _ _ hv, .inl ⟨m, c, hv⟩⟩
  | here h h' e => rw [hv] at h'; cases h'; exact ⟨hs _ _ _ h, .inl ⟨_, _, h⟩⟩
  | new h hb' e => rw [hv] at h; cases h; exact ⟨Nat.le_trans hB hb', .inr hb'⟩
theorem But.trans {b : Nat} {w2 : World} (h : But b w w') (k : But b w' w2) : But b w w2 :=
  ⟨k.os.trans h.os, k.tape.trans h.tape, k.output.trans h.output, Nat.le_trans h.size k.size, fun j hk hj => (k.block j (Nat.lt_of_lt_of_le hk h.size) hj).trans (h.block j hk hj)⟩
theorem Sl.but {E k m b : Nat} {xs : List Value} (h : Sl w v E k m xs) (hb : But b w w') (hne : ∀ a m c, v = .slice (some a) m c → a.block ≠ b) : Sl w' v E k m xs := by
  rcases h with h | ⟨b', cap, cs, h1, h2, h3⟩
  · exact .inl h
  · exact .inr ⟨b', cap, cs, h1, h2.but hb (hne _ _ _ h1), h3⟩

theorem RunV.sliceLo0 {t e k len cap : Nat} {kd : IntKind} {a : Option Addr} (hT : sliceT P t e k = true) (hx : L.ev x = some (.slice a len cap)) (hy : L.ev y = some (.int kd 0)) :
    RunV P n L ⟨dst, .slice t x (some y) none none, ty, pos, after, gd⟩ w (.slice a len cap) := by
  have := RunV.sliceLo (P := P) (n := n) (L := L) (w := w) (dst := dst) (ty := ty) (pos := pos) (after := after) (gd := gd) (j := 0) hT hx hy rfl (Nat.zero_le _)
  have e : (if cap = 0 then a else a.map (·.add (0 * k))) = a := by
    split
    · rfl
    · cases a with
      | none => rfl
      | some a => simp [addr_zero]
  rw [e] at this
  exact this
theorem RunV.sliceLoN {t e k len cap j b off : Nat} {kd : IntKind} {i : Int} (hT : sliceT P t e k = true) (hx : L.ev x = some (.slice (some ⟨b, off, none⟩) len cap)) (hy : L.ev y = some (.int kd i)) (hi : i = (j : Int)) (hj : j ≤ len) (hc : cap ≠ j) :
    RunV P n L ⟨dst, .slice t x (some y) none none, ty, pos, after, gd⟩ w (.slice (some ⟨b, off + j * k, none⟩) (len - j) (cap - j)) := by
  have := RunV.sliceLo (P := P) (n := n) (L := L) (w := w) (dst := dst) (ty := ty) (pos := pos) (after := after) (gd := gd) hT hx hy hi hj
  rw [if_neg hc] at this
  simpa [addr_add] using this

theorem Step.copy {t t' e g o dLen dCap sLen sCap bs os : Nat} {cur cs : List Value} {T : TypeId} (hT : sliceT P t e 1 = true) (hx : L.ev x = some (.slice (some ⟨g, o, none⟩) dLen dCap)) (hy : L.ev y = some (.slice (some ⟨bs, os, none⟩) sLen sCap))
    (hg : Blk w g cur T) (hr : Row w bs os cs) (hn : cs.length = Nat.min sLen dLen) (hfit : o + cs.length ≤ cur.length) (h1 : cs.all (·.oneCell') = true) (h : ∀ w', But g w w' → Blk w' g (cur.take o ++ cs ++ cur.drop (o + cs.length)) T → K (.int .i64 cs.length) w') :
    Step P n L ⟨dst, .call ⟨.builtin .copy, #[x, y], #[t, t']⟩, ty, pos, after, gd⟩ w K := .mk fun a ha => by
  obtain ⟨hu, i, hi, hk⟩ := sliceT_out hT
  have hc := run_copy_row (P := P) w t t' ty e g o dLen dCap ⟨bs, os, none⟩ sLen sCap cur.toArray T cs hu (by simp [hi, hk]) hg hn (fun j v hv => by rw [addr_add]; exact hr j v hv) (by simpa using hfit) (fun v hv => List.all_eq_true.1 h1 v hv)
  have hr : (execOp a.eval ⟨dst, .call ⟨.builtin .copy, #[x, y], #[t, t']⟩, ty, pos, after, gd⟩).run P w = .ok (.value (.int .i64 cs.length)) (w.setRow g (cur.toArray.toList.take o ++ cs ++ cur.toArray.toList.drop (o + cs.length)).toArray) := by
    simp only [execOp, resolve, List.map_toArray, List.map_cons, List.map_nil, ha.ev hx, ha.ev hy, Sem.run_bind, Sem.run_pure, Result.andThen_ok, invoke, builtin]
    rw [hc]
    rfl
  unfold StepE; rw [hr]
  refine h _ ⟨rfl, rfl, rfl, by simp [World.setRow], fun j _ hj => ?_⟩ (setRow_heap w g cur.toArray _ T (0, 0) hg)
  simp only [World.setRow, Array.getElem?_modify]
  rw [if_neg (fun e => hj e.symm)]

/-- 'append(s[:0], make([]int, m)...)' past the room. -/
theorem Step.appendZ {t e cap m : Nat} {a : Option Addr} {mi : Int} (hT : sliceT P t e 1 = true) (hE : elemT P e 1 = true) (hz : zeroT P e [.int .i64 0]) (ht3 : P.underlying 3 = some (.int .i64)) (hx : L.ev x = some (.slice a 0 cap)) (hy : L.ev y = some (.int .i64 mi)) (hmi : mi = (m : Int)) (hm : m ≤ 1048576) (hc : cap < m)
    (h : ∀ b nc cs w', Le w w' → w.heap.size ≤ b → Blk w' b cs e → cs.length = nc → m ≤ nc → cs.all (·.oneCell') = true → K (.slice (some ⟨b, 0, none⟩) m nc) w') :
    Step P n L ⟨dst, .call ⟨.builtin .append, #[x, y], #[t, 3]⟩, ty, pos, after, gd⟩ w K := .mk fun q hq => by
  obtain ⟨hu, i, hi, hk⟩ := sliceT_out hT
  unfold elemT at hE
  rw [hi] at hE
  simp only [Bool.and_eq_true, beq_iff_eq, Nat.ble_eq] at hE
  obtain ⟨⟨_, hby⟩, _⟩ := hE
  obtain ⟨i', z, z1, z2, z3⟩ := hz.out
  have : i' = i := Option.some.inj (z1.symm.trans hi)
  subst this
  have hzv : ∀ w, (zeroValue e).run P w = .ok z w := fun w => by
    simp only [zeroValue, typeInfo, Sem.run_bind, run_program, Result.andThen_ok, hi, Sem.run_pure, z2]
  have hti : ∀ w, (typeInfo e).run P w = .ok i' w := fun w => by
    simp only [typeInfo, Sem.run_bind, run_program, Result.andThen_ok, hi, Sem.run_pure]
  subst hmi
  have hwrap : IntKind.i64.wrap (m : Int) = (m : Int) := wrap_in (by omega) (by omega)
  have hnext := nextcap_le hc hm
  have hroom : ¬ (Builtin.nextslicecap m cap * i'.bytes > 2 ^ 48) := by
    have : Builtin.nextslicecap m cap * i'.bytes ≤ 33554432 * 4096 := Nat.mul_le_mul hnext hby
    omega
  have hmk : ¬ ((m : Int) * (i'.bytes : Int) > 2 ^ 48) := by
    have h1 : m * i'.bytes ≤ 1048576 * 4096 := Nat.mul_le_mul hm hby
    have h2 : (m : Int) * (i'.bytes : Int) = ((m * i'.bytes : Nat) : Int) := by simp
    rw [h2]; omega
  have hforced : (Question.appendCap m cap e).forced = false := rfl
  have hobj : ∀ (o : Obj) (w : World), Sem.run P (Sem.new o Sem.pure) w = .ok w.heap.size (w.alloc o) := fun _ _ => rfl
  have hnc := cap_ge m cap e (w.tape w.drawn (.appendCap m cap e))
  generalize hqq : (Question.appendCap m cap e).cut (w.tape w.drawn (.appendCap m cap e)) = nc at hnc
  have hold : ∀ w, (Builtin.firstCells 1 0 (.slice a 0 cap)).run P w = .ok #[] w := fun w => by
    cases a with
    | none => simp [Builtin.firstCells]
    | some a => simp [Builtin.firstCells, loadCells, loadCellsFrom]
  have hmpos : m ≠ 0 := by omega
  have h0 : ¬ ((m : Int) < 0) := by omega
  have hle : ¬ m ≤ cap := by omega
  have hbig : ¬ (9223372036854775807 < (m : Int)) := by omega
  have hmk' : ¬ (281474976710656 < (m : Int) * (i'.bytes : Int)) := by simpa using hmk
  have hroom' : ¬ (281474976710656 < Builtin.nextslicecap m cap * i'.bytes) := by simpa using hroom
  have hr : (Builtin.append_ #[t, 3] ty #[.slice a 0 cap, .int .i64 (m : Int)]).run P w = .ok (.slice (some ⟨w.heap.size, 0, none⟩) m nc)
      (w.drew.alloc (.cells ((Builtin.zeroCells z.cells m).toList ++ (Builtin.zeroCells z.cells (nc - m)).toList).toArray e)) := by
    have hroomI : (decide ((m : Int) * (i'.bytes : Int) > 2 ^ 48)) = false := by simpa using hmk'
    simp only [Builtin.append_, List.getElem?_toArray, List.getElem?_cons_zero, List.getElem?_cons_succ, Sem.run_bind, run_underlying hu, run_underlying ht3, run_size hi hk, Result.andThen_ok, Sem.run_pure, asInt, asIntOf, hwrap]
    simp [h0, hti, hmk', hle, hmpos, hbig, hroom', hforced, hqq, hold, hzv, newRow, newObj, hobj, hwrap]
    try (congr 2; apply Array.ext'; simp)
  have hr2 : (execOp q.eval ⟨dst, .call ⟨.builtin .append, #[x, y], #[t, 3]⟩, ty, pos, after, gd⟩).run P w = .ok (.value (.slice (some ⟨w.heap.size, 0, none⟩) m nc))
      (w.drew.alloc (.cells ((Builtin.zeroCells z.cells m).toList ++ (Builtin.zeroCells z.cells (nc - m)).toList).toArray e)) := by
    simp only [execOp, resolve, List.map_toArray, List.map_cons, List.map_nil, hq.ev hx, hq.ev hy, Sem.run_bind, Sem.run_pure, Result.andThen_ok, invoke, builtin]
    rw [hr]
    rfl
  unfold StepE; rw [hr2]
  have hz1 : z.cells.size = 1 := by rw [z3]; rfl
  have hone : ∀ c, (Builtin.zeroCells z.cells c).toList.all (·.oneCell') = true := fun c => by
    rw [List.all_eq_true]
    intro v hv
    simp only [Builtin.zeroCells, Array.toList_map, List.mem_map] at hv
    obtain ⟨j, _, rfl⟩ := hv
    rw [hz1, Nat.mod_one, z3]
    rfl
  refine h _ _ _ _ ((Le.drew' w).alloc _) (Nat.le_refl _) (Blk.new w.drew _ e) ?_ hnc ?_
  · rw [List.length_append, Array.length_toList, Array.length_toList, zeroCells_size, zeroCells_size, hz1]; omega
  · rw [List.all_append, hone, hone]; rfl
end
theorem Step.overlaps {n : Nat} {L : Env} {w : World} {dst : Option Tmp} {ty : TypeId} {pos : String} {after : Array Edge} {gd : Option (Nat × Bool)} {x y : Operand} {K : Value → World → Prop} {ts : Array TypeId} {va b off la ca lb cb : Nat} {ca' cb' : List Value} {TA TB : TypeId} (hx : L.ev x = some (.slice (some ⟨va, 0, none⟩) la ca)) (hy : L.ev y = some (.slice (some ⟨b, off, none⟩) lb cb)) (hne : va ≠ b)
    (ha : Blk w va ca' TA) (hb : Blk w b cb' TB) (hb0 : cb'.length ≠ 0) (h : K (.bool false) w) : Step Try.prog n L ⟨dst, .call ⟨.value (.func 83), [x, y].toArray, ts⟩, ty, pos, after, gd⟩ w K := .mk fun q hq => by
  have hs3 : ∀ w, (sizeOf 3).run Try.prog w = .ok 1 w := fun w => by
    obtain ⟨i, hi, hk⟩ := sizeT.out (P := Try.prog) (t := 3) (k := 1) (by kernel_rfl)
    exact run_size hi hk w
  have h1 := Lib.run_overlaps_apart (P := Try.prog) w 97 4 3 (by kernel_rfl) 1 hs3 ⟨va, 0, none⟩ ⟨b, off, none⟩ la ca lb cb hne TA TB ca'.length cb'.length
    (by unfold Blk at ha; simp [World.shape?, ha]) (by unfold Blk at hb; simp [World.shape?, hb]) hb0 (by unfold Blk at ha; simp [World.frozen?, ha]) (by unfold Blk at ha; simp [World.frozen?, ha])
  have hf : q.eval (.func 83) = .func (.func 83) #[] #[] := rfl
  have hr : (execOp q.eval ⟨dst, .call ⟨.value (.func 83), [x, y].toArray, ts⟩, ty, pos, after, gd⟩).run Try.prog w = .ok (.value (.bool false)) w := by
    simp only [execOp, resolve, List.map_toArray, List.map_cons, List.map_nil, hq.ev hx, hq.ev hy, hf, Deferred.ofValue, Sem.run_bind, Sem.run_pure, Result.andThen_ok, invoke]
    rw [show (#[] : Array Value) ++ [Value.slice (some ⟨va, 0, none⟩) la ca, Value.slice (some ⟨b, off, none⟩) lb cb].toArray ++ #[] = #[Value.slice (some ⟨va, 0, none⟩) la ca, Value.slice (some ⟨b, off, none⟩) lb cb] by simp]
    rw [run_callFunc_extern Try.func83 (by kernel_rfl) (by kernel_rfl) (by kernel_rfl) (e := Extern.SlicesOverlaps.overlaps #[97, 97] #[4]) (by kernel_rfl), h1]
    rfl
  unfold StepE; rw [hr]
  exact h
end Go.Proofs.Ytglilmcfhkedbaa
