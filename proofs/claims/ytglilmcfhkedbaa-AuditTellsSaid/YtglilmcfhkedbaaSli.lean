/- The rules for slices: cutting, indexing a string, append; no condition. -/
import Derived.Test.YtglilmcfhkedbaaRul
namespace Go.Proofs.Ytglilmcfhkedbaa
open Go Go.RowKit
section
variable {P : Program} {n : Nat} {L : Env} {w w0 w' : World} {dst : Option Tmp} {ty : TypeId} {pos : String} {after : Array Edge} {gd : Option (Nat × Bool)} {x y z : Operand} {v u : Value} {K : Value → World → Prop}

theorem addr_zero (a : Addr) : a.add 0 = a := by unfold Addr.add; simp
theorem sliceT_out {t e k : Nat} (h : sliceT P t e k = true) : P.underlying t = some (.slice e) ∧ ∃ i, P.info? e = some i ∧ i.size = k := by
  unfold sliceT at h
  simp only [Bool.and_eq_true] at h
  obtain ⟨h1, h2⟩ := h
  split at h1
  · rename_i e' hu
    have : e' = e := by simpa using h1
    subst this
    split at h2
    · rename_i i hi; exact ⟨hu, i, hi, by simpa using h2⟩
    · cases h2
  · cases h1
theorem RunV.sliceHi {t e k len cap j : Nat} {kd : IntKind} {i : Int} {a : Option Addr} (hT : sliceT P t e k = true) (hx : L.ev x = some (.slice a len cap)) (hy : L.ev y = some (.int kd i)) (hi : i = (j : Int)) (hj : j ≤ cap) :
    RunV P n L ⟨dst, .slice t x none (some y) none, ty, pos, after, gd⟩ w (.slice a j cap) := fun c hc => by
  obtain ⟨hu, inf, hinf, hs⟩ := sliceT_out hT
  subst hi
  have hcond : (0 : Int) ≤ (j : Int) ∧ (j : Int) ≤ (cap : Int) := ⟨by omega, by omega⟩
  have h1 : (Instr.sliceAt t (.slice a len cap) none (some (.int kd (j : Int))) none).run P w = .ok (.slice a j cap) w := by
    simp only [Instr.sliceAt, Sem.run_bind, run_underlying hu, Result.andThen_ok, Instr.slice, Instr.sliceBounds, Instr.sliceBound, asIntOf, Sem.run_pure, hcond, and_self, if_true, run_size hinf hs, Int.toNat_natCast, Nat.zero_mul, Nat.sub_zero]
    cases a with
    | none => simp
    | some a => simp [addr_zero]
  simp only [execOp, hc.ev hx, Option.map_none, Option.map_some, hc.ev hy]
  simp [h1]
theorem RunV.sliceLo {t e k len cap j : Nat} {kd : IntKind} {i : Int} {a : Option Addr} (hT : sliceT P t e k = true) (hx : L.ev x = some (.slice a len cap)) (hy : L.ev y = some (.int kd i)) (hi : i = (j : Int)) (hj : j ≤ len) :
    RunV P n L ⟨dst, .slice t x (some y) none none, ty, pos, after, gd⟩ w (.slice (if cap = j then a else a.map (·.add (j * k))) (len - j) (cap - j)) := fun c hc => by
  obtain ⟨hu, inf, hinf, hs⟩ := sliceT_out hT
  subst hi
  have hcond : (0 : Int) ≤ (j : Int) ∧ (j : Int) ≤ (len : Int) := ⟨by omega, by omega⟩
  have h1 : (Instr.sliceAt t (.slice a len cap) (some (.int kd (j : Int))) none none).run P w = .ok (.slice (if cap = j then a else a.map (·.add (j * k))) (len - j) (cap - j)) w := by
    simp only [Instr.sliceAt, Sem.run_bind, run_underlying hu, Result.andThen_ok, Instr.slice, Instr.sliceBounds, Instr.sliceBound, asIntOf, Sem.run_pure, hcond, and_self, if_true, run_size hinf hs, Int.toNat_natCast]
  simp only [execOp, hc.ev hx, Option.map_none, Option.map_some, hc.ev hy]
  simp [h1]
theorem RunV.indexStr {t : Nat} {kd : IntKind} {i : Int} {j : Nat} {s : ByteArray} (hT : strT P t = true) (hx : L.ev x = some (.string s)) (hy : L.ev y = some (.int kd i)) (hi : i = (j : Int)) (hb : j < s.size) :
    RunV P n L ⟨dst, .index t x y, ty, pos, after, gd⟩ w (.int .u8 (byteAt s j)) := fun c hc => by
  have hb : s[j]? = some s[j] := by simp [hb]
  have hv : byteAt s j = (s[j].toNat : Int) := by simp [byteAt, hb]
  rw [hv]
  unfold strT at hT
  split at hT
  · rename_i hu
    subst hi
    have h0 : (0 : Int) ≤ (j : Int) := by omega
    have h1 : (Instr.index t (.string s) (.int kd (j : Int))).run P w = .ok (.int .u8 s[j].toNat) w := by
      simp only [Instr.index, asIntOf, Sem.run_bind, Sem.run_pure, Result.andThen_ok, run_underlying hu, h0, if_true, Int.toNat_natCast, hb]
    simp only [execOp, hc.ev hx, hc.ev hy]
    simp [h1]
  · cases hT

/-! ### append -/
/-- A slice that starts at the head of a block of which all is known: n elements of k cells each. -/
def Sl (w : World) (v : Value) (E k n : Nat) (xs : List Value) : Prop :=
  (v = .slice none 0 0 ∧ n = 0 ∧ xs = []) ∨ ∃ b cap cs, v = .slice (some ⟨b, 0, none⟩) n cap ∧ Blk w b cs E ∧ cs.length = cap * k ∧ n ≤ cap ∧ cs.take (n * k) = xs
theorem Sl.length {v : Value} {E k m : Nat} {xs : List Value} (h : Sl w v E k m xs) : xs.length = m * k := by
  rcases h with ⟨_, rfl, rfl⟩ | ⟨b, cap, cs, _, _, hl, hn, rfl⟩
  · simp
  · have : m * k ≤ cap * k := Nat.mul_le_mul_right _ hn
    rw [List.length_take, hl]; omega
theorem Sl.le {v : Value} {E k m : Nat} {xs : List Value} (h : Sl w v E k m xs) (hl : Le w w') : Sl w' v E k m xs := by
  rcases h with h | ⟨b, cap, cs, h1, h2, h3⟩
  · exact .inl h
  · exact .inr ⟨b, cap, cs, h1, h2.le hl, h3⟩
/-- What is appended: m elements, read from somewhere. -/
def Src (w : World) (v : Value) (m : Nat) (ys : List Value) : Prop :=
  ∃ a mc, v = .slice a m mc ∧ (ys = [] ∨ ∃ b o, a = some ⟨b, o, none⟩ ∧ Row w b o ys)
theorem growBy_le (m : Nat) : ∀ (r c : Nat), Builtin.growBy m r c + 768 ≤ (c + 768) * 2 ^ r
  | 0, c => by simp [Builtin.growBy]
  | r + 1, c => by
    unfold Builtin.growBy
    split
    · have : 1 ≤ 2 ^ (r + 1) := Nat.one_le_two_pow
      generalize c + 768 = d
      generalize 2 ^ (r + 1) = q at this
      have h := Nat.mul_le_mul_left d this
      rwa [Nat.mul_one] at h
    · have h1 := growBy_le m r (c + (c + 768) / 4)
      have h2 : c + (c + 768) / 4 + 768 ≤ (c + 768) * 2 := by omega
      have h3 : (c + (c + 768) / 4 + 768) * 2 ^ r ≤ (c + 768) * 2 * 2 ^ r := Nat.mul_le_mul_right _ h2
      rw [Nat.pow_succ, Nat.mul_comm (2 ^ r) 2, ← Nat.mul_assoc]
      exact Nat.le_trans h1 h3
theorem nextcap_le {m c : Nat} (h : c < m) (hm : m ≤ 1048576) : Builtin.nextslicecap m c ≤ 33554432 := by
  have h4 := growBy_le m 4 c
  rw [show (2 : Nat) ^ 4 = 16 from rfl] at h4
  unfold Builtin.nextslicecap
  by_cases h1 : m > 2 * c
  · rw [if_pos h1]; omega
  · rw [if_neg h1]
    by_cases h2 : c < 256
    · rw [if_pos h2]; omega
    · rw [if_neg h2]; omega
/-- The type of the elements: its size, its bytes, its zero. -/
def elemT (P : Program) (E k : Nat) : Bool := match P.info? E with
  | some i => i.size == k && Nat.ble i.bytes 4096 && (match i.zero with | some z => z.cells.size == k | none => false)
  | none => false
theorem cap_ge (need old E t : Nat) : need ≤ (Question.appendCap need old E).cut t := Nat.le_add_right _ _
theorem run_askRoom (b : Nat) (w : World) : (askRoom b).run P w = .ok () w := by
  unfold askRoom; split
  · simp [mark, Sem.run]
  · rfl
theorem zeroCells_size (z : Array Value) (m : Nat) : (Builtin.zeroCells z m).size = m * z.size := by simp [Builtin.zeroCells]
/-- Where the new slice lies, and what has turned. -/
inductive Moved (w w' : World) (s v : Value) : Prop
  | same (h : v = s) (e : w' = w)
  | here {b m m' cap : Nat} (h : s = .slice (some ⟨b, 0, none⟩) m cap) (h' : v = .slice (some ⟨b, 0, none⟩) m' cap) (e : But b w w')
  | new {b m cap : Nat} (h : v = .slice (some ⟨b, 0, none⟩) m cap) (hb : w.heap.size ≤ b) (e : Le w w')
theorem run_load_src {m k : Nat} {ys : List Value} (h : Src w v m ys) (hl : ys.length = m * k) : (Builtin.firstCells k m v).run P w = .ok ys.toArray w := by
  obtain ⟨a, mc, rfl, h⟩ := h
  cases a with
  | none =>
    rcases h with rfl | ⟨b, o, e, _⟩
    · simp [Builtin.firstCells]
    · cases e
  | some a =>
    rcases h with rfl | ⟨b, o, e, hr⟩
    · have : m * k = 0 := by simpa using hl.symm
      simp [Builtin.firstCells, loadCells, this, loadCellsFrom]
    · cases e
      have := run_loadCellsFrom (P := P) (w := w) (b := b) (off := o) ys 0 #[] (fun i v hv => by simpa using hr i v hv)
      rw [hl] at this
      simpa [Builtin.firstCells, loadCells] using this
theorem Sl.src {s : Value} {E k m : Nat} {xs : List Value} (h : Sl w s E k m xs) : Src w s m xs := by
  rcases h with ⟨rfl, rfl, rfl⟩ | ⟨b, cap, cs, rfl, hb, hl, hn, rfl⟩
  · exact ⟨none, 0, rfl, .inl rfl⟩
  · exact ⟨_, cap, rfl, .inr ⟨b, 0, rfl, fun i v hv => by
      rw [List.getElem?_take] at hv
      split at hv
      · simpa using hb.cell hv
      · cases hv⟩⟩
theorem run_append {t t' E k m m' : Nat} {s : Value} {xs ys : List Value} (hT : sliceT P t E k = true) (hT' : islT P t' = true) (hE : elemT P E k = true) (hs : Sl w s E k m xs) (hv : Src w v m' ys) (hl : ys.length = m' * k)
    (h1 : ys.all (·.oneCell') = true) (hm : m + m' ≤ 1048576) (ty : TypeId) :
    ∃ r w', (Builtin.append_ #[t, t'] ty #[s, v]).run P w = .ok r w' ∧ Sl w' r E k (m + m') (xs ++ ys) ∧ Moved w w' s r := by
  obtain ⟨hu, i, hi, hk⟩ := sliceT_out hT
  have hx := hs.length
  unfold elemT at hE
  rw [hi] at hE
  simp only [Bool.and_eq_true, beq_iff_eq, Nat.ble_eq] at hE
  obtain ⟨⟨_, hby⟩, hz⟩ := hE
  have hz' : ∃ z, i.zero = some z ∧ z.cells.size = k := by
    cases e : i.zero with
    | none => rw [e] at hz; cases hz
    | some z => rw [e] at hz; exact ⟨z, rfl, by simpa using hz⟩
  obtain ⟨z, hz1, hz2⟩ := hz'
  have hzv : ∀ w, (zeroValue E).run P w = .ok z w := fun w => by
    simp only [zeroValue, typeInfo, Sem.run_bind, run_program, Result.andThen_ok, hi, Sem.run_pure, hz1]
  have hti : ∀ w, (typeInfo E).run P w = .ok i w := fun w => by
    simp only [typeInfo, Sem.run_bind, run_program, Result.andThen_ok, hi, Sem.run_pure]
  have hlen : (Builtin.lenOf v).run P w = .ok m' w := by
    obtain ⟨a, mc, rfl, _⟩ := hv
    simp [Builtin.lenOf]
  have hsrc := run_load_src (P := P) (k := k) hv hl
  have hu' : ∃ e', P.underlying t' = some (.slice e') := by
    unfold islT at hT'
    split at hT'
    · rename_i e' h; exact ⟨e', h⟩
    · cases hT'
  obtain ⟨e', hu'⟩ := hu'
  obtain ⟨base, cap, rfl, hin⟩ : ∃ base cap, s = .slice base m cap ∧ True := by
    rcases hs with ⟨rfl, rfl, rfl⟩ | ⟨b, cap, cs, rfl, _⟩ <;> exact ⟨_, _, rfl, trivial⟩
  by_cases hc : m + m' ≤ cap
  · -- there is room
    rcases hs with ⟨e1, rfl, rfl⟩ | ⟨b, cap', cs, e1, hb, hcl, hmc, hxs⟩
    · cases e1
      have hm' : m' = 0 := by omega
      subst hm'
      have hys : ys = [] := by simpa using hl
      subst hys
      refine ⟨.slice none 0 0, w, ?_, .inl ⟨rfl, rfl, rfl⟩, .same rfl rfl⟩
      simp [Builtin.append_, run_underlying hu, run_underlying hu', run_size hi hk, hlen, hsrc]
    · cases e1
      have hfit : m * k + ys.length ≤ cs.length := by
        rw [hl, hcl, ← Nat.add_mul]; exact Nat.mul_le_mul_right _ hc
      have hst := run_storeCells_at P b (m * k) E ys 0 cs.toArray w hb (by simpa using hfit) (fun v hv => List.all_eq_true.1 h1 v hv)
      simp only [Nat.add_zero] at hst
      have hblk : Blk (w.setRow b (cs.toArray.toList.take (m * k) ++ ys ++ cs.toArray.toList.drop (m * k + ys.length)).toArray) b (cs.take (m * k) ++ ys ++ cs.drop (m * k + ys.length)) E := setRow_heap w b cs.toArray _ E (0, 0) hb
      refine ⟨.slice (some ⟨b, 0, none⟩) (m + m') cap, _, ?_, .inr ⟨b, cap, _, rfl, hblk, ?_, hc, ?_⟩, .here rfl rfl ⟨rfl, rfl, rfl, by simp [World.setRow], fun j _ hj => ?_⟩⟩
      · simp [Builtin.append_, run_underlying hu, run_underlying hu', run_size hi hk, hlen, hsrc, hc, addr_add, hst]
      · have h2 : (cs.take (m * k)).length = m * k := by rw [hxs]; exact hx
        rw [List.length_append, List.length_append, h2, List.length_drop, ← hcl]; omega
      · have h2 : (cs.take (m * k)).length = m * k := by rw [hxs]; exact hx
        rw [← hxs, Nat.add_mul, ← hl, List.take_append_of_le_length (by rw [List.length_append, h2]; exact Nat.le_refl _)]
        rw [List.take_of_length_le (by rw [List.length_append, h2]; exact Nat.le_refl _)]
      · simp only [World.setRow, Array.getElem?_modify]
        rw [if_neg (fun e => hj e.symm)]
  · -- it grows
    have hcap : cap < m + m' := by omega
    have hbig : ¬ (9223372036854775807 < (m : Int) + (m' : Int) ∧ i.bytes = 0) := by omega
    have hforced : (Question.appendCap (m + m') cap E).forced = false := rfl
    have hobj : ∀ (o : Obj) (w : World), Sem.run P (Sem.new o Sem.pure) w = .ok w.heap.size (w.alloc o) := fun _ _ => rfl
    have hnext := nextcap_le hcap hm
    have hroom : ¬ (Builtin.nextslicecap (m + m') cap * i.bytes > 2 ^ 48) := by
      have : Builtin.nextslicecap (m + m') cap * i.bytes ≤ 33554432 * 4096 := Nat.mul_le_mul hnext hby
      omega
    have hnc := cap_ge (m + m') cap E (w.tape w.drawn (.appendCap (m + m') cap E))
    have hsl := hs.src
    have hd : ∀ {x : Value} {q : Nat} {zs : List Value}, Src w x q zs → Src w.drew x q zs := fun ⟨a, mc, e, h⟩ => ⟨a, mc, e, h.imp id fun ⟨b, o, e1, h⟩ => ⟨b, o, e1, h⟩⟩
    have hold := run_load_src (P := P) (k := k) (hd hsl) hx
    have hnew := run_load_src (P := P) (k := k) (hd hv) hl
    generalize hq : (Question.appendCap (m + m') cap E).cut (w.tape w.drawn (.appendCap (m + m') cap E)) = nc at hnc
    refine ⟨.slice (some ⟨w.heap.size, 0, none⟩) (m + m') nc, w.drew.alloc (.cells (xs ++ ys ++ (Builtin.zeroCells z.cells (nc - (m + m'))).toList).toArray E), ?_, .inr ⟨w.heap.size, nc, _, rfl, Blk.new w.drew _ E, ?_, hnc, ?_⟩,
      .new rfl (Nat.le_refl _) ((Le.drew' w).alloc _)⟩
    · simp [Builtin.append_, run_underlying hu, run_underlying hu', run_size hi hk, hlen, hc, hti, hbig, hroom, hforced, hq, hold, hnew, hzv, newRow, newObj, hobj]
      congr 2
      apply Array.ext'
      simp
    · have h5 : (Builtin.zeroCells z.cells (nc - (m + m'))).toList.length = (nc - (m + m')) * k := by rw [Array.length_toList, zeroCells_size, hz2]
      rw [List.length_append, List.length_append, h5, hx, hl, ← Nat.add_mul, ← Nat.add_mul]
      congr 1; omega
    · rw [Nat.add_mul, ← hx, ← hl]
      rw [List.take_append_of_le_length (by rw [List.length_append]; exact Nat.le_refl _), List.take_of_length_le (by rw [List.length_append]; exact Nat.le_refl _)]

theorem Step.append {t t' E k m m' : Nat} {s a : Value} {xs ys : List Value} (hT : sliceT P t E k = true) (hT' : islT P t' = true) (hE : elemT P E k = true) (hx : L.ev x = some s) (hy : L.ev y = some a)
    (hs : Sl w s E k m xs) (hv : Src w a m' ys) (hl : ys.length = m' * k) (h1 : ys.all (·.oneCell') = true) (hm : m + m' ≤ 1048576) (h : ∀ v w', Sl w' v E k (m + m') (xs ++ ys) → Moved w w' s v → K v w') :
    Step P n L ⟨dst, .call ⟨.builtin .append, #[x, y], #[t, t']⟩, ty, pos, after, gd⟩ w K := .mk fun c hc => by
  obtain ⟨r, w', h2, h3, h4⟩ := run_append (P := P) hT hT' hE hs hv hl h1 hm ty
  have hr : (execOp c.eval ⟨dst, .call ⟨.builtin .append, #[x, y], #[t, t']⟩, ty, pos, after, gd⟩).run P w = .ok (.value r) w' := by
    simp only [execOp, resolve, List.map_toArray, List.map_cons, List.map_nil, hc.ev hx, hc.ev hy, Sem.run_bind, Sem.run_pure, Result.andThen_ok, invoke, builtin]
    rw [h2]
    rfl
  unfold StepE; rw [hr]
  exact h r w' h3 h4
/-- A slice in memory of the call's own: what is older than w0 has not turned. -/
def Fresh (w0 : World) (v : Value) : Prop := v = .slice none 0 0 ∨ ∃ b m cap, v = .slice (some ⟨b, 0, none⟩) m cap ∧ w0.heap.size ≤ b
theorem Moved.fresh {s : Value} (h : Moved w w' s v) (hl : Le w0 w) (hf : Fresh w0 s) : Le w0 w' ∧ Fresh w0 v := by
  cases h with
  | same h e => subst h; subst e; exact ⟨hl, hf⟩
  | @here b m m' cap h h' e =>
    subst h
    rcases hf with hf | ⟨b', m1, c1, hf, hb⟩
    · cases hf
    · cases hf
      exact ⟨e.le hl hb, .inr ⟨b, m', cap, h', hb⟩⟩
  | @new b m cap h hb e => exact ⟨hl.tr e, .inr ⟨b, m, cap, h, Nat.le_trans hl.size hb⟩⟩
theorem Step.buildSlice0 {t e k : Nat} {H : Heap} (hO : Own w0 H w) (hT : sliceT P t e k = true) (h : ∀ b w', Own w0 H w' → Le w w' → Sl w' (.slice (some ⟨b, 0, none⟩) 0 0) e k 0 [] → w.heap.size ≤ b → K (.slice (some ⟨b, 0, none⟩) 0 0) w') :
    Step P n L ⟨dst, .buildSlice t 0 #[], ty, pos, after, gd⟩ w K := .mk fun a ha => by
  obtain ⟨hu, inf, hinf, hs⟩ := sliceT_out hT
  have hr : (Instr.buildSlice t 0 #[]).run P w = .ok (.slice (some ⟨w.heap.size, 0, none⟩) 0 0) (w.alloc (.cells #[] e)) := by
    simp only [Instr.buildSlice, Sem.run_bind, run_underlying hu, Result.andThen_ok, run_size hinf hs, Nat.zero_mul]
    rw [if_neg (by omega)]
    simp only [if_true, Sem.run_bind, Sem.run_pure, Result.andThen_ok, Instr.fill, newRow, newObj]
    have he : (Array.range 0).map (fun x => (#[] : Array Value)[x % (#[] : Array Value).size]!) = #[] := by simp
    rw [he]
    rfl
  have hr2 : (execOp a.eval ⟨dst, .buildSlice t 0 #[], ty, pos, after, gd⟩).run P w = .ok (.value (.slice (some ⟨w.heap.size, 0, none⟩) 0 0)) (w.alloc (.cells #[] e)) := by
    simp only [execOp, Sem.run_bind]
    have he : (#[] : Array (Nat × Operand)).map (fun (x : Nat × Operand) => (x.1, a.eval x.2)) = #[] := by simp
    rw [he, hr]
    rfl
  unfold StepE; rw [hr2]
  exact h _ _ (hO.on (Le.new _ _)) (Le.new _ _) (.inr ⟨w.heap.size, 0, [], rfl, Blk.new w [] e, by simp, Nat.le_refl _, by simp⟩) (Nat.le_refl _)

theorem run_loadVar_agg {t k b off : Nat} {cs : List Value} (hT : aggT P t k = true) (hc : Row w b off cs) (hk : cs.length = k) : (loadVar t ⟨b, off, none⟩).run P w = .ok (.agg cs.toArray) w := by
  unfold aggT at hT
  simp only [Bool.and_eq_true] at hT
  obtain ⟨h1, h2⟩ := hT
  split at h2
  · rename_i i hi
    simp at h2
    have h3 := run_loadCellsFrom (P := P) (w := w) (b := b) (off := off) cs 0 #[] (fun i v hv => by simpa using hc i v hv)
    rw [hk, ← h2] at h3
    simp only [loadVar]
    cases hu : P.underlying t with
    | none => rw [hu] at h1; cases h1
    | some d =>
      rw [hu] at h1
      have h4 : (isAgg t).run P w = .ok true w := by
        cases d <;> first | (cases h1; done) | simp only [isAgg, Sem.run_bind, run_underlying hu, Result.andThen_ok, Sem.run_pure]
      simp [h4, loadCells, run_size hi rfl, h3]
  · cases h2
theorem At.resultC1 {fn : Func} {post : Value → World → Prop} {t T k b : Nat} {cs : List Value} (hr : fn.results = #[.cell t T]) (hv : L.get t = some (.pointer (some ⟨b, 0, none⟩))) (hT : aggT P T k = true) (hc : Row w b 0 cs) (hk : cs.length = k) (hp : post (.agg cs.toArray) w) : At n (Returns P fn post) L w := fun a ha => by
  refine ⟨ha.nd, _, ?_, hp⟩
  have e1 := ha.get _ _ hv
  simp only [Array.getD_eq_getD_getElem?] at e1
  simp [results, hr, e1, asAddr, run_loadVar_agg (P := P) hT hc hk]
theorem At.resultC2 {fn : Func} {post : Value → World → Prop} {t T k b s : Nat} {cs : List Value} {u : Value} (hr : fn.results = #[.cell t T, .tmp s]) (hv : L.get t = some (.pointer (some ⟨b, 0, none⟩))) (hT : aggT P T k = true) (hc : Row w b 0 cs) (hk : cs.length = k) (hu : L.get s = some u) (hp : post (.tuple #[.agg cs.toArray, u]) w) : At n (Returns P fn post) L w := fun a ha => by
  refine ⟨ha.nd, _, ?_, hp⟩
  have e1 := ha.get _ _ hv
  have e2 := ha.get _ _ hu
  simp only [Array.getD_eq_getD_getElem?] at e1 e2
  simp [results, hr, e1, e2, asAddr, run_loadVar_agg (P := P) hT hc hk]
end
end Go.Proofs.Ytglilmcfhkedbaa
