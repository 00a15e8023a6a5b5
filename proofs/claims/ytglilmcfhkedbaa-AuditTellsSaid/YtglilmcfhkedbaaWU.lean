/- The function of each kind of event; no condition. -/
import Derived.Test.YtglilmcfhkedbaaWT
namespace Go.Proofs.Ytglilmcfhkedbaa
open Go Go.RowKit



def fnOf (k : Int) : FuncId := if k = 1 then 16 else if k = 2 then 17 else if k = 3 then 18 else if k = 4 then 19 else if k = 5 then 18 else if k = 6 then 20 else if k = 7 then 21 else if k = 8 then 22 else if k = 9 then 23 else if k = 10 then 24 else if k = 11 then 25 else if k = 12 then 26 else if k = 13 then 27 else if k = 14 then 28 else 29

theorem plain_fnOf (k : Int) : plainFn Try.prog (fnOf k) = true := by
  unfold fnOf
  by_cases h1 : k = 1
  · rw [if_pos h1]; exact pf16
  rw [if_neg h1]
  by_cases h2 : k = 2
  · rw [if_pos h2]; exact pf17
  rw [if_neg h2]
  by_cases h3 : k = 3
  · rw [if_pos h3]; exact pf18
  rw [if_neg h3]
  by_cases h4 : k = 4
  · rw [if_pos h4]; exact pf19
  rw [if_neg h4]
  by_cases h5 : k = 5
  · rw [if_pos h5]; exact pf18
  rw [if_neg h5]
  by_cases h6 : k = 6
  · rw [if_pos h6]; exact pf20
  rw [if_neg h6]
  by_cases h7 : k = 7
  · rw [if_pos h7]; exact pf21
  rw [if_neg h7]
  by_cases h8 : k = 8
  · rw [if_pos h8]; exact pf22
  rw [if_neg h8]
  by_cases h9 : k = 9
  · rw [if_pos h9]; exact pf23
  rw [if_neg h9]
  by_cases h10 : k = 10
  · rw [if_pos h10]; exact pf24
  rw [if_neg h10]
  by_cases h11 : k = 11
  · rw [if_pos h11]; exact pf25
  rw [if_neg h11]
  by_cases h12 : k = 12
  · rw [if_pos h12]; exact pf26
  rw [if_neg h12]
  by_cases h13 : k = 13
  · rw [if_pos h13]; exact pf27
  rw [if_neg h13]
  by_cases h14 : k = 14
  · rw [if_pos h14]; exact pf28
  rw [if_neg h14]
  exact pf29

theorem rule_c (B0 N bb : Nat) (b : Bk) (pv av lv : Value) (ab lb : List Nat) (e : Ev) (w : World) (hN : N ≤ 100000) (h : BR B0 N w bb b pv av lv ab lb) :
    Ret Try.prog (fnOf e.kind) [.pointer (some ⟨bb, 0, none⟩), .agg (e.cells).toArray] w fun v w' => RuleP B0 N w bb (stepB b e) v w' := by
  unfold fnOf stepB
  by_cases h1 : e.kind = 1
  · rw [if_pos h1, if_pos h1]; exact refused_c B0 N bb b pv av lv ab lb e w h
  rw [if_neg h1, if_neg h1]
  by_cases h2 : e.kind = 2
  · rw [if_pos h2, if_pos h2]; exact sent_c B0 N bb b pv av lv ab lb e w hN h
  rw [if_neg h2, if_neg h2]
  by_cases h3 : e.kind = 3
  · rw [if_pos h3, if_pos h3]; exact start_c B0 N bb b pv av lv ab lb e w hN h
  rw [if_neg h3, if_neg h3]
  by_cases h4 : e.kind = 4
  · rw [if_pos h4, if_pos h4]; exact end_c B0 N bb b pv av lv ab lb e w hN h
  rw [if_neg h4, if_neg h4]
  by_cases h5 : e.kind = 5
  · rw [if_pos h5, if_pos h5]; exact start_c B0 N bb b pv av lv ab lb e w hN h
  rw [if_neg h5, if_neg h5]
  by_cases h6 : e.kind = 6
  · rw [if_pos h6, if_pos h6]; exact dead_c B0 N bb b pv av lv ab lb e w hN h
  rw [if_neg h6, if_neg h6]
  by_cases h7 : e.kind = 7
  · rw [if_pos h7, if_pos h7]; exact spawned_c B0 N bb b pv av lv ab lb e w hN h
  rw [if_neg h7, if_neg h7]
  by_cases h8 : e.kind = 8
  · rw [if_pos h8, if_pos h8]; exact noRoom_c B0 N bb b pv av lv ab lb e w hN h
  rw [if_neg h8, if_neg h8]
  by_cases h9 : e.kind = 9
  · rw [if_pos h9, if_pos h9]; exact failed_c B0 N bb b pv av lv ab lb e w hN h
  rw [if_neg h9, if_neg h9]
  by_cases h10 : e.kind = 10
  · rw [if_pos h10, if_pos h10]; exact told_c B0 N bb b pv av lv ab lb e w hN h
  rw [if_neg h10, if_neg h10]
  by_cases h11 : e.kind = 11
  · rw [if_pos h11, if_pos h11]; exact resumed_c B0 N bb b pv av lv ab lb e w hN h
  rw [if_neg h11, if_neg h11]
  by_cases h12 : e.kind = 12
  · rw [if_pos h12, if_pos h12]; exact restarted_c B0 N bb b pv av lv ab lb e w hN h
  rw [if_neg h12, if_neg h12]
  by_cases h13 : e.kind = 13
  · rw [if_pos h13, if_pos h13]; exact stopping_c B0 N bb b pv av lv ab lb e w hN h
  rw [if_neg h13, if_neg h13]
  by_cases h14 : e.kind = 14
  · rw [if_pos h14, if_pos h14]; exact ended_c B0 N bb b pv av lv ab lb e w hN h
  rw [if_neg h14, if_neg h14]
  exact tick_c B0 N bb b pv av lv ab lb e w hN h

end Go.Proofs.Ytglilmcfhkedbaa
