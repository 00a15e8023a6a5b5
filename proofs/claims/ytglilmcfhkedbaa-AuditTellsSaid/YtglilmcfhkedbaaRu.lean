/- What an event's function comes to, in one shape for all; no condition. -/
import Derived.Test.YtglilmcfhkedbaaWL
namespace Go.Proofs.Ytglilmcfhkedbaa
open Go Go.RowKit
section
variable {B0 N bb x : Nat} {w w1 w' : World} {b : Bk} {pv av lv : Value} {ab lb : List Nat} {id : Int} {st : Int × Bk} {c : List Value}
theorem bactO_c (oa : Option Actr) (id : Int) (hoa : b.act id = oa) (hN : N ≤ 100000) (h : BR B0 N w bb b pv av lv ab lb) : Ret Try.prog 35 [.pointer (some ⟨bb, 0, none⟩), .int .i64 id] w fun v w' => v = .pointer (ptrO oa (axOf ab id)) ∧ w' = w := by
  subst hoa; exact bact_c B0 N bb b pv av lv ab lb id w hN h
theorem bltrO_c (ol : Option Ltr) (id : Int) (hol : b.ltr id = ol) (hN : N ≤ 100000) (h : BR B0 N w bb b pv av lv ab lb) : Ret Try.prog 39 [.pointer (some ⟨bb, 0, none⟩), .int .u64 id] w fun v w' => v = .pointer (ptrO ol (axOf lb id)) ∧ w' = w := by
  subst hol; exact bltr_c B0 N bb b pv av lv ab lb id w hN h
/-- Who is looked up, with all that lies in his block. -/
theorem BR.actD (h : BR B0 N w bb b pv av lv ab lb) (id : Int) : ∃ oa, b.act id = oa ∧ ∃ a kv ku wx ep em ec st ps f, ActP w oa (axOf ab id) a kv ku wx (.slice ep em ec) st ps f ∧
    (oa.isSome = true → 1 ≤ b.actors.length ∧ ab[id.toNat - 1]? = some (axOf ab id) ∧ (∀ i, a.work = some i → lb[i]? = some wx) ∧ ActR B0 w lb a (axOf ab id) kv ku (.pointer (ptrO a.work wx)) (.slice ep em ec) st f ps) := by
  refine ⟨_, rfl, ?_⟩
  cases ha : b.act id with
  | none => exact ⟨⟨0, 0, ⟨e0, 0, 0, [], []⟩, e0, 0, none, e0, e0, false, 0⟩, .nilIface, .nilIface, 0, none, 0, 0, false, false, e0, (fun h => by cases h), fun h => by cases h⟩
  | some a =>
    obtain ⟨h1, h2, h3, h4, kv, ku, wv, ev, st, f, ps, h5⟩ := h.act ha
    obtain ⟨ep, em, ec, rfl⟩ := h5.ev1
    obtain ⟨wx, hw, hwx⟩ : ∃ wx, wv = .pointer (ptrO a.work wx) ∧ ∀ i, a.work = some i → lb[i]? = some wx := by
      have h6 := h5.work
      unfold WorkV at h6
      cases h7 : a.work with
      | none => rw [h7] at h6; exact ⟨0, h6, fun i e => by cases e⟩
      | some i =>
        rw [h7] at h6
        obtain ⟨y, h8, h9⟩ := h6
        exact ⟨y, h9, fun j e => by cases e; exact h8⟩
    subst hw
    exact ⟨a, kv, ku, wx, ep, em, ec, st, ps, f, fun _ => ⟨rfl, h5.blk⟩, fun _ => ⟨by omega, h4, hwx, h5⟩⟩
/-- What lies in no block of the book's kinds stays. -/
def Kp (w w' : World) : Prop := ∀ (y : Nat) (cs : List Value) (T : TypeId), Blk w y cs T → pM T = false → Blk w' y cs T
theorem Kp.le (hl : Le w w') : Kp w w' := fun _ _ _ h _ => h.le hl
theorem Kp.but {T0 : TypeId} (hb : But x w w') (hx : Blk w x c T0) (hm : pM T0 = true) : Kp w w' := fun _ _ _ h hT => h.but hb (hx.ne_type hm h hT).symm
theorem Kp.trans (h : Kp w w1) (k : Kp w1 w') : Kp w w' := fun y cs T hb hT => k y cs T (h y cs T hb hT) hT
/-- What the function of an event answers, and the book behind it. -/
def RuleP (B0 N : Nat) (w : World) (bb : Nat) (st : Int × Bk) (v : Value) (w' : World) : Prop := v = .int .i64 st.1 ∧ (Below B0 w w' ∧ Kp w w') ∧ BR' B0 (N + 1) w' bb st.2
theorem RuleP.no (h : BR B0 N w bb b pv av lv ab lb) (hl : Le w w') {n : Int} (hst : st = (n, b)) : RuleP B0 N w bb st (.int .i64 n) w' := by
  subst hst
  exact ⟨rfl, ⟨hl.mono h.hB, Kp.le hl⟩, pv, av, lv, ab, lb, (h.le hl).mono (Nat.le_succ N)⟩
theorem But.below {B : Nat} (h : But x w w') (hx : B ≤ x) (hB : B ≤ w.heap.size) : Below B w w' :=
  ⟨h.os, h.tape, h.output, h.size, fun k hk => h.block k (by omega) (by omega)⟩
theorem RuleP.set {a' : Actr} (h : BR B0 N w bb b pv av lv ab lb) (hl : Le w w1) (hb : But x w1 w') (hi : ab[id.toNat - 1]? = some x) (hx : Blk w1 x c 90) (ha' : ActE B0 w' lb a' x) (hst : st = (0, setA b id a')) : RuleP B0 N w bb st (.int .i64 0) w' := by
  subst hst
  have h1 := h.le hl
  refine ⟨rfl, ⟨(hl.mono h.hB).trans ((hb.below (h.loa x (List.mem_of_getElem? hi)) h1.hB).mono (Nat.le_refl _)), (Kp.le hl).trans (Kp.but hb hx rfl)⟩, pv, av, lv, ab, lb, (h1.setA hb hi hx ha').mono (Nat.le_succ N)⟩
/-- An actor's block with other cells. -/
theorem ActR.to {a a' : Actr} {kv ku wv wv' ev ev' : Value} {s s' ps ps' : Bool} {f f' : ByteArray} (h : ActR B0 w lb a x kv ku wv ev s f ps) (hb : But x w w') (h0 : B0 ≤ x) (hblk : Blk w' x (a'.cells kv ku wv' ev' s' f' ps') 90) (hk : a'.kind = a.kind) (hw : WorkV lb a' wv') (he : ∃ p m c, ev' = .slice p m c) : ActE B0 w' lb a' x := by
  refine ⟨kv, ku, wv', ev', s', f', ps', hblk, ?_, ?_, ?_, hw, he⟩
  · rw [hk]; exact h.cases.stays (GB.but hb h0 h.blk rfl) fun _ _ _ h => h
  · rw [hk]; exact h.states.stays (GB.but hb h0 h.blk rfl) fun _ _ _ hh => hh.stays (GB.but hb h0 h.blk rfl)
  · rw [hk]; exact h.small
theorem ActR.wk {a : Actr} {kv ku wv ev : Value} {s ps : Bool} {f : ByteArray} (h : ActR B0 w lb a x kv ku wv ev s f ps) : WorkV lb a wv := h.work
end
end Go.Proofs.Ytglilmcfhkedbaa
