/- How what a program and events read as lies in memory; no condition. -/
import Derived.Test.YtglilmcfhkedbaaEvs
import Derived.Deep.Slices
import Derived.Deep.Fields
import Derived.ProofKit
namespace Go.Proofs.Ytglilmcfhkedbaa
open Go Go.RowKit

theorem listOf {α : Type} {p : Nat → α → Prop} : ∀ {n : Nat}, (∀ i, i < n → ∃ x, p i x) → ∃ xs : List α, xs.length = n ∧ ∀ i x, xs[i]? = some x → p i x
  | 0, _ => ⟨[], rfl, fun i x h => by cases h⟩
  | n + 1, h => by
    obtain ⟨xs, h1, h2⟩ := listOf (n := n) fun i hi => h i (Nat.lt_succ_of_lt hi)
    obtain ⟨y, hy⟩ := h n (Nat.lt_succ_self n)
    refine ⟨xs ++ [y], by rw [List.length_append, h1]; rfl, fun i x hx => ?_⟩
    rcases Nat.lt_or_ge i xs.length with hi | hi
    · rw [List.getElem?_append_left hi] at hx; exact h2 i x hx
    · rw [List.getElem?_append_right hi] at hx
      have : i - xs.length = 0 := by
        have := (List.getElem?_eq_some_iff.1 hx).1
        simp at this; omega
      rw [this] at hx
      cases hx
      rw [show i = n by omega]; exact hy
section
variable {H : Type} {enc : TypeId × Value → H} {w : World}
/-- What a reading of an argument is. -/
abbrev Reads (enc : TypeId × Value → H) (w : World) (fuel : Nat) (t : TypeId) (cs : List Value) (x : DataW H × List MemPlace) : Prop := DataW.trod enc Try.prog w 0 (fun _ => true) true fuel t cs = some x
theorem open_sl {α : Type} {t e k fuel : Nat} {R : World → α → List Value → Prop} {cs : List Value} {x : DataW H × List MemPlace} (ht : Try.prog.underlying t = some (.slice e)) (hk : Try.prog.cellsOf e = k) (hk0 : 0 < k)
    (hx : ∀ fuel cs x, Reads enc w fuel e cs x → ∃ a, R w a cs) (h : Reads enc w fuel t cs x) : ∃ v xs, cs = [v] ∧ SlOf G0 k R w v xs := by
  rcases Go.Deep.open_slice ht h with ⟨rfl, _⟩ | ⟨a, len, cap, m, n, D, Pl, rfl, hb, hl, hm, hmm, rfl, hy⟩
  · exact ⟨_, [], rfl, .inl ⟨none, rfl, rfl⟩⟩
  · replace hmm : m = cap := by simpa using hmm
    subst hmm
    rw [hk] at hy
    rcases Nat.eq_zero_or_pos m with h0 | h0
    · subst h0
      have : len = 0 := by omega
      subst this
      exact ⟨_, [], rfl, .inl ⟨some a, rfl, rfl⟩⟩
    · obtain ⟨b, off, sp⟩ := a
      have hsp : sp = none := by
        obtain ⟨cs', h1, _⟩ := hy 0 h0
        obtain ⟨_, h2, h3⟩ := World.cells?_some h1
        have h4 := h3 0 hk0
        rw [List.getElem?_eq_getElem (by omega)] at h4
        have := World.cell?_spot h4
        simpa [Addr.add] using this
      subst hsp
      obtain ⟨xs, h1, h2⟩ := listOf (n := len) (p := fun i y => ∃ cs, cs.length = k ∧ R w y cs ∧ Row w b (off + i * k) cs ∧ G0 w b) fun i hi => by
        obtain ⟨cs', h1, h2⟩ := hy i (by omega)
        obtain ⟨y, h3⟩ := hx _ _ _ h2
        obtain ⟨_, h4, h5⟩ := World.cells?_some h1
        refine ⟨y, cs', h4, h3, fun j v hv => ?_, trivial⟩
        have hj := (List.getElem?_eq_some_iff.1 hv).1
        have := h5 j (by omega)
        rw [addr_add, addr_add, hv] at this
        exact this
      subst h1
      have hmx : maxLen = 9223372036854775807 := by decide
      exact ⟨_, xs, rfl, .inr ⟨b, off, m, rfl, hl, by omega, h2⟩⟩
theorem open_st {t fuel : Nat} {fs : Array Field} {cs : List Value} {x : DataW H × List MemPlace} (hs : Try.prog.underlying t = some (.struct fs)) (hone : Go.Deep.oneCellFields Try.prog fs = true) (hC : Try.prog.cellsOf t = fs.size) (h : Reads enc w fuel t cs x) :
    cs.length = fs.size ∧ ∃ n, ∀ (i : Nat) f v, fs[i]? = some f → cs[i]? = some v → ∃ y, Reads enc w n f.type [v] y := by
  obtain ⟨xs, n, _, _, hl, hxl, hf⟩ := DataW.trod_struct hs h
  refine ⟨hl.trans hC, n, fun i f v hi hv => ?_⟩
  obtain ⟨ho, hc1⟩ := Go.Deep.hone_of hone i f hi
  have g := hf i f hi
  have hlt : i < fs.size := (Array.getElem?_eq_some_iff.1 hi).1
  obtain ⟨hlt2, hv2⟩ := List.getElem?_eq_some_iff.1 hv
  rw [ho, hc1, Go.Deep.take1_drop cs i undef hlt2, List.getD_eq_getElem?_getD, hv, List.getElem?_eq_getElem (by omega)] at g
  exact ⟨_, g⟩
theorem oneI {n t : Nat} {k : IntKind} {v : Value} (ht : Try.prog.underlying t = some (.int k)) (h : ∃ y, Reads enc w n t [v] y) : ∃ i, v = .int k i := by
  obtain ⟨y, h⟩ := h
  obtain ⟨i, e, _⟩ := DataW.trod_int ht h
  cases e; exact ⟨i, rfl⟩
theorem oneB {n t : Nat} {v : Value} (ht : Try.prog.underlying t = some .bool) (h : ∃ y, Reads enc w n t [v] y) : ∃ i, v = .bool i := by
  obtain ⟨y, h⟩ := h
  obtain ⟨i, e, _⟩ := DataW.trod_bool ht h
  cases e; exact ⟨i, rfl⟩
theorem oneS {n t : Nat} {v : Value} (ht : Try.prog.underlying t = some .string) (h : ∃ y, Reads enc w n t [v] y) : ∃ i, v = .string i := by
  obtain ⟨y, h⟩ := h
  obtain ⟨i, e, _⟩ := DataW.trod_string ht h
  cases e; exact ⟨i, rfl⟩
theorem open_eff {fuel : Nat} {cs : List Value} {x : DataW H × List MemPlace} (h : Reads enc w fuel 57 cs x) : ∃ a, EffR w a cs := by
  obtain ⟨hl, n, hf⟩ := open_st Try.underlying57 (by kernel_rfl) (by kernel_rfl) h
  match cs, hl with
  | [c0, c1, c2, c3, c4, c5, c6], _ =>
    obtain ⟨a0, rfl⟩ := oneI Try.underlying3 (hf 0 _ c0 rfl rfl)
    obtain ⟨a1, rfl⟩ := oneS Try.underlying9 (hf 1 _ c1 rfl rfl)
    obtain ⟨a2, rfl⟩ := oneS Try.underlying9 (hf 2 _ c2 rfl rfl)
    obtain ⟨a3, rfl⟩ := oneS Try.underlying9 (hf 3 _ c3 rfl rfl)
    obtain ⟨a4, rfl⟩ := oneI Try.underlying3 (hf 4 _ c4 rfl rfl)
    obtain ⟨a5, rfl⟩ := oneI Try.underlying3 (hf 5 _ c5 rfl rfl)
    obtain ⟨a6, rfl⟩ := oneI Try.underlying3 (hf 6 _ c6 rfl rfl)
    exact ⟨⟨a0, a1, a2, a3, a4, a5, a6⟩, rfl⟩
theorem open_cas {fuel : Nat} {cs : List Value} {x : DataW H × List MemPlace} (h : Reads enc w fuel 103 cs x) : ∃ a, CasR w a cs := by
  obtain ⟨hl, n, hf⟩ := open_st Try.underlying103 (by kernel_rfl) (by kernel_rfl) h
  match cs, hl with
  | [c0, c1], _ =>
    obtain ⟨a0, rfl⟩ := oneS Try.underlying9 (hf 0 _ c0 rfl rfl)
    obtain ⟨a1, rfl⟩ := oneI Try.underlying3 (hf 1 _ c1 rfl rfl)
    exact ⟨⟨a0, a1⟩, rfl⟩
theorem open_rw {fuel : Nat} {cs : List Value} {x : DataW H × List MemPlace} (h : Reads enc w fuel 60 cs x) : ∃ a, RwR G0 w a cs := by
  obtain ⟨hl, n, hf⟩ := open_st Try.underlying60 (by kernel_rfl) (by kernel_rfl) h
  match cs, hl with
  | [c0, c1, c2, c3], _ =>
    obtain ⟨a0, rfl⟩ := oneS Try.underlying9 (hf 0 _ c0 rfl rfl)
    obtain ⟨a1, rfl⟩ := oneB Try.underlying4 (hf 1 _ c1 rfl rfl)
    obtain ⟨a2, rfl⟩ := oneI Try.underlying3 (hf 2 _ c2 rfl rfl)
    obtain ⟨y, hy⟩ := hf 3 _ c3 rfl rfl
    obtain ⟨v, xs, e, hs⟩ := open_sl (k := 7) Try.underlying58 (by kernel_rfl) (by decide) (fun _ _ _ => open_eff) hy
    cases e
    exact ⟨⟨a0, a1, a2, xs⟩, _, rfl, hs⟩
theorem open_stt {fuel : Nat} {cs : List Value} {x : DataW H × List MemPlace} (h : Reads enc w fuel 63 cs x) : ∃ a, SttR G0 w a cs := by
  obtain ⟨hl, n, hf⟩ := open_st Try.underlying63 (by kernel_rfl) (by kernel_rfl) h
  match cs, hl with
  | [c0, c1], _ =>
    obtain ⟨a0, rfl⟩ := oneS Try.underlying9 (hf 0 _ c0 rfl rfl)
    obtain ⟨y, hy⟩ := hf 1 _ c1 rfl rfl
    obtain ⟨v, xs, e, hs⟩ := open_sl (k := 4) Try.underlying61 (by kernel_rfl) (by decide) (fun _ _ _ => open_rw) hy
    cases e
    exact ⟨⟨a0, xs⟩, _, rfl, hs⟩
theorem open_knd {fuel : Nat} {cs : List Value} {x : DataW H × List MemPlace} (h : Reads enc w fuel 67 cs x) : ∃ a, KndR G0 w a cs := by
  obtain ⟨hl, n, hf⟩ := open_st Try.underlying67 (by kernel_rfl) (by kernel_rfl) h
  match cs, hl with
  | [c0, c1, c2, c3, c4], _ =>
    obtain ⟨a0, rfl⟩ := oneS Try.underlying9 (hf 0 _ c0 rfl rfl)
    obtain ⟨a1, rfl⟩ := oneI Try.underlying3 (hf 1 _ c1 rfl rfl)
    obtain ⟨a2, rfl⟩ := oneI Try.underlying3 (hf 2 _ c2 rfl rfl)
    obtain ⟨y, hy⟩ := hf 3 _ c3 rfl rfl
    obtain ⟨v, xs, e, hs⟩ := open_sl (k := 2) Try.underlying65 (by kernel_rfl) (by decide) (fun _ _ _ => open_cas) hy
    cases e
    obtain ⟨y2, hy2⟩ := hf 4 _ c4 rfl rfl
    obtain ⟨u, ys, e2, ht⟩ := open_sl (k := 2) Try.underlying64 (by kernel_rfl) (by decide) (fun _ _ _ => open_stt) hy2
    cases e2
    exact ⟨⟨a0, a1, a2, xs, ys⟩, _, _, rfl, hs, ht⟩
theorem open_ev {fuel : Nat} {cs : List Value} {x : DataW H × List MemPlace} (h : Reads enc w fuel 32 cs x) : ∃ a, EvR w a cs := by
  obtain ⟨hl, n, hf⟩ := open_st Try.underlying32 (by kernel_rfl) (by kernel_rfl) h
  match cs, hl with
  | [c0, c1, c2, c3, c4, c5, c6, c7, c8], _ =>
    obtain ⟨a0, rfl⟩ := oneI Try.underlying3 (hf 0 _ c0 rfl rfl)
    obtain ⟨a1, rfl⟩ := oneI Try.underlying3 (hf 1 _ c1 rfl rfl)
    obtain ⟨a2, rfl⟩ := oneI Try.underlying30 (hf 2 _ c2 rfl rfl)
    obtain ⟨a3, rfl⟩ := oneI Try.underlying3 (hf 3 _ c3 rfl rfl)
    obtain ⟨a4, rfl⟩ := oneI Try.underlying3 (hf 4 _ c4 rfl rfl)
    obtain ⟨a5, rfl⟩ := oneS Try.underlying9 (hf 5 _ c5 rfl rfl)
    obtain ⟨a6, rfl⟩ := oneI Try.underlying3 (hf 6 _ c6 rfl rfl)
    obtain ⟨a7, rfl⟩ := oneI Try.underlying3 (hf 7 _ c7 rfl rfl)
    obtain ⟨a8, rfl⟩ := oneB Try.underlying4 (hf 8 _ c8 rfl rfl)
    exact ⟨⟨a0, a1, a2, a3, a4, a5, a6, a7, a8⟩, rfl⟩
set_option maxRecDepth 100000 in
/-- An argument that is events. -/
theorem open_evs {v : Value} {b0 : Nat} {r : Reach} {d : DataW H} {p : List MemPlace} (hv : Value.okWide Try.prog w r b0 25 v) (h : DataW.Trod enc Try.prog w 0 (fun _ => true) true 25 v d p) : ∃ l, EvsR G0 w v l := by
  obtain ⟨a, len, cap, rfl⟩ := Go.WideShapes.okWide_slice Try.underlying25 hv
  obtain ⟨fuel, hf⟩ := h
  obtain ⟨v, xs, e, hs⟩ := open_sl (k := 9) Try.underlying25 (by kernel_rfl) (by decide) (fun _ _ _ => open_ev) (x := (d, p)) (by simpa [Value.cells] using hf)
  cases e
  exact ⟨xs, hs⟩
set_option maxRecDepth 100000 in
/-- An argument that is a program. -/
theorem open_prg {v : Value} {b0 : Nat} {r : Reach} {d : DataW H} {p : List MemPlace} (hv : Value.okWide Try.prog w r b0 24 v) (h : DataW.Trod enc Try.prog w 0 (fun _ => true) true 24 v d p) : ∃ pv l, v = .agg [pv].toArray ∧ PrgR G0 w pv l := by
  obtain ⟨cs, rfl, hsz⟩ := Go.WideShapes.okWide_struct Try.underlying24 hv
  obtain ⟨fuel, hf⟩ := h
  obtain ⟨hl, n, hx⟩ := open_st Try.underlying24 (by kernel_rfl) (by kernel_rfl) (cs := cs.toList) (x := (d, p)) (by simpa [Value.cells] using hf)
  obtain ⟨cs⟩ := cs
  match cs, hl with
  | [c0], _ =>
    obtain ⟨y, hy⟩ := hx 0 _ c0 rfl rfl
    obtain ⟨v, xs, e, hs⟩ := open_sl (k := 5) Try.underlying22 (by kernel_rfl) (by decide) (fun _ _ _ => open_knd) hy
    cases e
    exact ⟨_, xs, rfl, hs⟩
end
end Go.Proofs.Ytglilmcfhkedbaa
