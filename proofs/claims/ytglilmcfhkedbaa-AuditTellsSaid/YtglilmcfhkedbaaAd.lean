/- The book with one more message, with one more actor; messages as they are looked up; no condition. -/
import Derived.Test.YtglilmcfhkedbaaWO
namespace Go.Proofs.Ytglilmcfhkedbaa
open Go Go.RowKit
section
variable {B0 N bb x : Nat} {w w1 w2 w' : World} {b : Bk} {pv av lv v : Value} {ab lb : List Nat} {id : Int} {st : Int × Bk} {c : List Value}
theorem RuleP.setL {l' : Ltr} (h : BR B0 N w bb b pv av lv ab lb) (hl : Le w w1) (hb : But x w1 w') (hi : lb[id.toNat - 1]? = some x) (hx : Blk w1 x c 84) (hl' : Blk w' x l'.cells 84) (hst : st = (0, Go.Proofs.Ytglilmcfhkedbaa.setL b id l')) : RuleP B0 N w bb st (.int .i64 0) w' := by
  subst hst
  have h1 := h.le hl
  exact ⟨rfl, ⟨(hl.mono h.hB).trans ((hb.below (h.lol x (List.mem_of_getElem? hi)) h1.hB).mono (Nat.le_refl _)), (Kp.le hl).trans (Kp.but hb hx rfl)⟩, pv, av, lv, ab, lb, (h1.setL hb hi hx hl').mono (Nat.le_succ N)⟩
def LtrP (w : World) (ol : Option Ltr) (lx : Nat) (l : Ltr) : Prop := ol.isSome = true → ol = some l ∧ Blk w lx l.cells 84
theorem LtrP.blk {ol : Option Ltr} {lx : Nat} {l : Ltr} (h : LtrP w ol lx l) (hs : ol.isSome = true) : Blk w lx l.cells 84 := (h hs).2
theorem BR.ltrD (h : BR B0 N w bb b pv av lv ab lb) (id : Int) : ∃ ol, b.ltr id = ol ∧ ∃ l, LtrP w ol (axOf lb id) l ∧ (ol.isSome = true → 1 ≤ id ∧ id ≤ b.letters.length ∧ lb[id.toNat - 1]? = some (axOf lb id)) := by
  refine ⟨_, rfl, ?_⟩
  cases ha : b.ltr id with
  | none => exact ⟨⟨⟨0, 0, 0, 0, 0, e0, 0, 0, false⟩, false, false, false⟩, (fun h => by cases h), fun h => by cases h⟩
  | some l =>
    obtain ⟨h1, h2, h3, h4, h5⟩ := h.ltr ha
    exact ⟨l, fun _ => ⟨rfl, h5⟩, fun _ => ⟨h1, h2, h4⟩⟩
/-- What an append to a list of the book leaves as it was. -/
theorem Moved.stays {s : Value} {E n : Nat} {xs : List Value} (hM : Moved w1 w2 s v) (hS : Sl w1 s E 1 n xs) (hlo : ∀ p m c, s = .slice (some p) m c → B0 ≤ p.block) (hE : pK E = false) : Stays (GB B0) w1 w2 := by
  cases hM with
  | same h e => subst e; exact GB.le (Le.rfl' _)
  | here h h' e => obtain ⟨cs, h1⟩ := hS.blkT h; exact GB.but e (hlo _ _ _ h) h1 hE
  | new h hb e => exact GB.le e
theorem Moved.blkT {s : Value} {E n y : Nat} {xs cs : List Value} {T : TypeId} (hM : Moved w1 w2 s v) (hS : Sl w1 s E 1 n xs) (hy : Blk w1 y cs T) (ht : (T == E) = false) : Blk w2 y cs T :=
  hM.blk hy fun a m c e => by obtain ⟨ds, h1⟩ := hS.blkT e; exact fun e1 => hy.ne h1 ht e1.symm
theorem Kp.moved {s : Value} {E n : Nat} {xs : List Value} (hM : Moved w1 w2 s v) (hS : Sl w1 s E 1 n xs) (hE : pM E = true) : Kp w1 w2 := fun y cs T h hT => hM.blkT hS h (by
  cases hq : T == E with
  | false => rfl
  | true => rw [beq_iff_eq] at hq; subst hq; rw [hE] at hT; cases hT)
theorem Moved.sl {s u : Value} {E E' n m : Nat} {xs ys : List Value} (hM : Moved w1 w2 s v) (hS : Sl w1 s E 1 n xs) (hy : Sl w1 u E' 1 m ys) (ht : (E' == E) = false) : Sl w2 u E' 1 m ys := by
  rcases hy with h | ⟨b, cap, cs, h1, h2, h3⟩
  · exact .inl h
  · exact .inr ⟨b, cap, cs, h1, hM.blkT hS h2 ht, h3⟩
theorem Moved.lo {s : Value} (hM : Moved w1 w2 s v) (hlo : ∀ p m c, s = .slice (some p) m c → B0 ≤ p.block) (hB : B0 ≤ w1.heap.size) : ∀ p m c, v = .slice (some p) m c → B0 ≤ p.block := fun p m c e => (hM.old hB hlo e).1
theorem Moved.below {s : Value} (hM : Moved w1 w2 s v) (hlo : ∀ p m c, s = .slice (some p) m c → B0 ≤ p.block) (hB : B0 ≤ w1.heap.size) : Below B0 w1 w2 := by
  cases hM with
  | same h e => subst e; exact Below.refl _ _
  | here h h' e => exact e.below (hlo _ _ _ h) hB
  | new h hb e => exact e.mono hB
/-- One more message. -/
theorem BR.addL {l : Ltr} {lv' : Value} (h : BR B0 N w1 bb b pv av lv ab lb) (hx : Blk w1 x l.cells 84) (hx0 : B0 ≤ x) (hxn : x ∉ lb) (hM : Moved w1 w2 lv lv') (hS : Sl w2 lv' 82 1 (b.letters.length + 1) (lb.map ptrV ++ [ptrV x])) (hb : But bb w2 w') (hbk : Blk w' bb [pv, av, lv', .int .i64 b.ticks] 49) :
    BR B0 (N + 1) w' bb { b with letters := b.letters ++ [l] } pv av lv' ab (lb ++ [x]) := by
  have hbk2 := hM.blkT h.lsl h.book rfl
  have hst : Stays (GB B0) w1 w2 := hM.stays h.lsl h.losl rfl
  have hst2 : Stays (GB B0) w2 w' := GB.but hb h.lo hbk2 rfl
  have hB2 : B0 ≤ w2.heap.size := Nat.le_trans h.hB hM.size
  have blk : ∀ {y : Nat} {cs : List Value} {T : TypeId}, Blk w1 y cs T → (T == 82) = false → (T == 49) = false → Blk w' y cs T := fun hy h1 h2 => (hM.blkT h.lsl hy h1).but hb ((hM.blkT h.lsl hy h1).ne hbk2 h2)
  have hasl := hM.sl h.lsl h.asl rfl
  exact { lo := h.lo, loa := h.loa, losa := h.losa, alen := h.alen, nda := h.nda, small := h.small, prog1 := h.prog1
          lol := fun y hy => by rcases List.mem_append.1 hy with hy | hy; exact h.lol y hy; rw [List.mem_singleton] at hy; omega
          losl := hM.lo h.losl h.hB
          hB := Nat.le_trans hB2 hb.size
          book := hbk
          prg := (h.prg.stays hst).stays hst2
          asl := hasl.but hb fun p m cp e => by obtain ⟨cs, h1⟩ := hasl.blkT e; exact h1.ne hbk2 rfl
          lsl := by
            show Sl w' lv' 82 1 (b.letters ++ [l]).length _
            rw [List.length_append, List.map_append]
            exact hS.but hb fun p m cp e => by obtain ⟨cs, h1⟩ := hS.blkT e; exact h1.ne hbk2 rfl
          llen := by rw [List.length_append, h.llen, List.length_append]; rfl
          na := Nat.le_trans h.na (Nat.le_succ N)
          nl := by show (b.letters ++ [l]).length ≤ N + 1; rw [List.length_append]; exact Nat.succ_le_succ h.nl
          nt := ⟨h.nt.1, by have := h.nt.2; show b.ticks ≤ ((N + 1 : Nat) : Int); omega⟩
          ndl := by
            rw [List.nodup_append]
            exact ⟨h.ndl, by simp, fun a ha c hc e => by rw [List.mem_singleton] at hc; subst hc; subst e; exact hxn ha⟩
          acts := fun i a y h1 h2 => by
            obtain ⟨kv, ku, wv, ev, s, f, ps, h3⟩ := h.acts i a y h1 h2
            refine ⟨kv, ku, wv, ev, s, f, ps, blk h3.blk rfl rfl, (h3.cases.stays (R' := CasR) hst fun _ _ _ h => h).stays hst2 fun _ _ _ h => h, (h3.states.stays (R' := SttR (GB B0)) hst fun _ _ _ h => h.stays hst).stays hst2 fun _ _ _ h => h.stays hst2, h3.small, ?_, h3.ev1⟩
            have h4 := h3.work
            unfold WorkV at h4 ⊢
            split at h4
            · exact h4
            · obtain ⟨y, h5, h6⟩ := h4
              exact ⟨y, by rw [List.getElem?_append_left (List.getElem?_eq_some_iff.1 h5).1]; exact h5, h6⟩
          ltrs := fun i m y h1 h2 => by
            have h1 : (b.letters ++ [l])[i]? = some m := h1
            rcases Nat.lt_or_ge i b.letters.length with hi | hi
            · rw [List.getElem?_append_left hi] at h1
              rw [List.getElem?_append_left (by rw [h.llen]; exact hi)] at h2
              exact blk (h.ltrs i m y h1 h2) rfl rfl
            · rw [List.getElem?_append_right hi] at h1
              rw [List.getElem?_append_right (by rw [h.llen]; exact hi), h.llen] at h2
              cases hd : i - b.letters.length with
              | zero =>
                rw [hd] at h1 h2
                cases h1; cases h2
                exact blk hx rfl rfl
              | succ j => rw [hd] at h1; cases h1 }
/-- One more actor. -/
theorem BR.addA {a : Actr} {av' : Value} (h : BR B0 N w1 bb b pv av lv ab lb) (hx : ActE B0 w1 lb a x) (hx0 : B0 ≤ x) (hxn : x ∉ ab) (hM : Moved w1 w2 av av') (hS : Sl w2 av' 76 1 (b.actors.length + 1) (ab.map ptrV ++ [ptrV x])) (hb : But bb w2 w') (hbk : Blk w' bb [pv, av', lv, .int .i64 b.ticks] 49) :
    BR B0 (N + 1) w' bb { b with actors := b.actors ++ [a] } pv av' lv (ab ++ [x]) lb := by
  have hbk2 := hM.blkT h.asl h.book rfl
  have hst : Stays (GB B0) w1 w2 := hM.stays h.asl h.losa rfl
  have hst2 : Stays (GB B0) w2 w' := GB.but hb h.lo hbk2 rfl
  have hB2 : B0 ≤ w2.heap.size := Nat.le_trans h.hB hM.size
  have blk : ∀ {y : Nat} {cs : List Value} {T : TypeId}, Blk w1 y cs T → (T == 76) = false → (T == 49) = false → Blk w' y cs T := fun hy h1 h2 => (hM.blkT h.asl hy h1).but hb ((hM.blkT h.asl hy h1).ne hbk2 h2)
  have hlsl := hM.sl h.asl h.lsl rfl
  have act : ∀ {a : Actr} {y : Nat}, ActE B0 w1 lb a y → ActE B0 w' lb a y := fun ⟨kv, ku, wv, ev, s, f, ps, h3⟩ =>
    ⟨kv, ku, wv, ev, s, f, ps, blk h3.blk rfl rfl, (h3.cases.stays (R' := CasR) hst fun _ _ _ h => h).stays hst2 fun _ _ _ h => h, (h3.states.stays (R' := SttR (GB B0)) hst fun _ _ _ h => h.stays hst).stays hst2 fun _ _ _ h => h.stays hst2, h3.small, h3.work, h3.ev1⟩
  exact { lo := h.lo, lol := h.lol, losl := h.losl, llen := h.llen, ndl := h.ndl, small := h.small, prog1 := h.prog1
          loa := fun y hy => by rcases List.mem_append.1 hy with hy | hy; exact h.loa y hy; rw [List.mem_singleton] at hy; omega
          losa := hM.lo h.losa h.hB
          hB := Nat.le_trans hB2 hb.size
          book := hbk
          prg := (h.prg.stays hst).stays hst2
          lsl := hlsl.but hb fun p m cp e => by obtain ⟨cs, h1⟩ := hlsl.blkT e; exact h1.ne hbk2 rfl
          asl := by
            show Sl w' av' 76 1 (b.actors ++ [a]).length _
            rw [List.length_append, List.map_append]
            exact hS.but hb fun p m cp e => by obtain ⟨cs, h1⟩ := hS.blkT e; exact h1.ne hbk2 rfl
          alen := by rw [List.length_append, h.alen, List.length_append]; rfl
          nl := Nat.le_trans h.nl (Nat.le_succ N)
          na := by show (b.actors ++ [a]).length ≤ N + 1; rw [List.length_append]; exact Nat.succ_le_succ h.na
          nt := ⟨h.nt.1, by have := h.nt.2; show b.ticks ≤ ((N + 1 : Nat) : Int); omega⟩
          nda := by
            rw [List.nodup_append]
            exact ⟨h.nda, by simp, fun a ha c hc e => by rw [List.mem_singleton] at hc; subst hc; subst e; exact hxn ha⟩
          ltrs := fun i m y h1 h2 => blk (h.ltrs i m y h1 h2) rfl rfl
          acts := fun i m y h1 h2 => by
            have h1 : (b.actors ++ [a])[i]? = some m := h1
            rcases Nat.lt_or_ge i b.actors.length with hi | hi
            · rw [List.getElem?_append_left hi] at h1
              rw [List.getElem?_append_left (by rw [h.alen]; exact hi)] at h2
              exact act (h.acts i m y h1 h2)
            · rw [List.getElem?_append_right hi] at h1
              rw [List.getElem?_append_right (by rw [h.alen]; exact hi), h.alen] at h2
              cases hd : i - b.actors.length with
              | zero =>
                rw [hd] at h1 h2
                cases h1; cases h2
                exact act hx
              | succ j => rw [hd] at h1; cases h1 }
end
end Go.Proofs.Ytglilmcfhkedbaa
