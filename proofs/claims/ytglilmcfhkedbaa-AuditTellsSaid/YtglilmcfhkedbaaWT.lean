/- The book as it begins; no condition. -/
import Derived.Test.YtglilmcfhkedbaaArr
namespace Go.Proofs.Ytglilmcfhkedbaa
open Go Go.RowKit

theorem at52_16_1 : arrayT Try.prog 52 16 1 = true := by kernel_rfl
theorem pf16 : plainFn Try.prog 16 = true := by kernel_rfl
theorem pf17 : plainFn Try.prog 17 = true := by kernel_rfl
theorem pf18 : plainFn Try.prog 18 = true := by kernel_rfl
theorem pf19 : plainFn Try.prog 19 = true := by kernel_rfl
theorem pf20 : plainFn Try.prog 20 = true := by kernel_rfl
theorem pf21 : plainFn Try.prog 21 = true := by kernel_rfl
theorem pf22 : plainFn Try.prog 22 = true := by kernel_rfl
theorem pf23 : plainFn Try.prog 23 = true := by kernel_rfl
theorem pf24 : plainFn Try.prog 24 = true := by kernel_rfl
theorem pf25 : plainFn Try.prog 25 = true := by kernel_rfl
theorem pf26 : plainFn Try.prog 26 = true := by kernel_rfl
theorem pf27 : plainFn Try.prog 27 = true := by kernel_rfl
theorem pf28 : plainFn Try.prog 28 = true := by kernel_rfl
theorem pf29 : plainFn Try.prog 29 = true := by kernel_rfl
theorem st25_32_9 : sliceT Try.prog 25 32 9 = true := by kernel_rfl
theorem sz50_1 : sizeT Try.prog 50 1 = true := by kernel_rfl
theorem sz52_16 : sizeT Try.prog 52 16 = true := by kernel_rfl
theorem zt52 : zeroT Try.prog 52 [.nilFunc, .nilFunc, .nilFunc, .nilFunc, .nilFunc, .nilFunc, .nilFunc, .nilFunc, .nilFunc, .nilFunc, .nilFunc, .nilFunc, .nilFunc, .nilFunc, .nilFunc, .nilFunc] := by unfold zeroT; kernel_rfl

def GL (B : Nat) : Good := fun _ b => b < B
theorem GL.below {B : Nat} {w w' : World} (h : Below B w w') : Stays (GL B) w w' := fun b hb => ⟨hb, h.block b hb⟩
theorem SlOf.lt {α : Type} {G : Good} {k : Nat} {R R' : World → α → List Value → Prop} {w : World} {v : Value} {xs : List α} (h : SlOf G0 k R w v xs) (hk : 0 < k) (hG : ∀ b, b < w.heap.size → G w b) (hR : ∀ x cs, x ∈ xs → R w x cs → R' w x cs) : SlOf G k R' w v xs := by
  rcases h with h | ⟨b, off, cap, h1, h2, hcap, h3⟩
  · exact .inl h
  · refine .inr ⟨b, off, cap, h1, h2, hcap, fun i x hx => ?_⟩
    obtain ⟨cs, h4, h5, h6, _⟩ := h3 i x hx
    refine ⟨cs, h4, hR x cs (List.mem_of_getElem? hx) h5, h6, hG b ?_⟩
    have := h6 0 (cs[0]'(by omega)) (by simp [h4, hk])
    exact cell_lt this
theorem PrgR.gb {w : World} {v : Value} {p : Prg} (h : PrgR G0 w v p) : PrgR (GB w.heap.size) w v p :=
  SlOf.lt h (by decide) (fun b hb => .inl ⟨hb, hb⟩) fun k cs _ ⟨v, u, h1, h2, h3⟩ => ⟨v, u, h1, h2.lt (by decide) (fun b hb => .inl ⟨hb, hb⟩) fun _ _ _ h => h,
    h3.lt (by decide) (fun b hb => .inl ⟨hb, hb⟩) fun s cs _ ⟨v, h1, h2⟩ => ⟨v, h1, h2.lt (by decide) (fun b hb => .inl ⟨hb, hb⟩) fun r cs _ ⟨v, h1, h2⟩ => ⟨v, h1, h2.lt (by decide) (fun b hb => .inl ⟨hb, hb⟩) fun _ _ _ h => h⟩⟩⟩
theorem BR.start {w w1 : World} {p : Prg} {pv : Value} {bb : Nat} (hP : PrgR G0 w pv p) (hok : progOk p = true) (hl : Le w w1) (hb : Blk w1 bb [pv, .slice none 0 0, .slice none 0 0, .int .i64 0] 49) (hn : w.heap.size ≤ bb) : BR w.heap.size 0 w1 bb ⟨p, [], [], 0⟩ pv (.slice none 0 0) (.slice none 0 0) [] [] where
  lo := hn
  loa := fun _ h => by cases h
  lol := fun _ h => by cases h
  losa := fun _ _ _ h => by cases h
  losl := fun _ _ _ h => by cases h
  hB := hl.size
  book := hb
  prg := hP.gb.stays (GB.le hl)
  asl := .inl ⟨rfl, rfl, rfl⟩
  lsl := .inl ⟨rfl, rfl, rfl⟩
  alen := rfl
  llen := rfl
  acts := fun _ _ _ h => by cases h
  ltrs := fun _ _ _ h => by cases h
  nda := List.nodup_nil
  ndl := List.nodup_nil
  na := Nat.zero_le _
  nl := Nat.zero_le _
  nt := ⟨Int.le_refl _, Int.le_refl _⟩
  small := (progOk_small hok).2.2
  prog1 := (progOk_small hok).1

end Go.Proofs.Ytglilmcfhkedbaa
