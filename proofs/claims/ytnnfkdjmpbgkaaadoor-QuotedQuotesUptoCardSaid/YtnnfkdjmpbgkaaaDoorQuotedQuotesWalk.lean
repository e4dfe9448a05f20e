/- The statement QuotedQuotes, walked: the call returns true. -/
import Derived.Test.YtnnfkdjmpbgkaaaDoorLaw06
import Derived.Test.YtnnfkdjmpbgkaaaDoorQuotedL1
namespace Go.Proofs.YtnnfkdjmpbgkaaaDoor
set_option linter.all false
open Go.RowKit
attribute [local irreducible] wpStill
set_option maxRecDepth 100000 in
set_option maxHeartbeats 4000000 in
theorem QuotedQuotes_walk (s : ByteArray) (hs : s.size ≤ 1048576) (w : World) (hT : Tabs w) (hM : MaxC w) :
    Calls Tryd.prog 5 #[.string s] w fun e w' => e = .returned (.bool true) ∧ Below w.heap.size w w' := by
  have HQ : RowKit.Hid (∀ w', Below w.heap.size w w' → (fun (e : Ending) w' => e = .returned (.bool true) ∧ Below w.heap.size w w') (.returned (.bool true)) w') := Lib.hid fun w' h => ⟨rfl, h⟩
  generalize (fun (e : Ending) w' => e = .returned (.bool true) ∧ Below w.heap.size w w') = Q at *
  have hq := quote_size s
  have hq2 : (quote s ++ (⟨#[34]⟩ : ByteArray)).size ≤ 2147483647 := by
    rw [ByteArray.size_append]
    have : (⟨#[34]⟩ : ByteArray).size = 1 := rfl
    omega
  have C1 := Lib.hid (quoted_Quote s w (by omega))
  have C2 := Lib.hid (fun w' (hb : Below w.heap.size w w') => quoted_Value (quote s) w' (hT.below hb) (hM.below hb) (by omega))
  have C3 := Lib.hid (fun w' (hb : Below w.heap.size w w') => quoted_Scan (quote s ++ ⟨#[34]⟩) 0 w' (hT.below hb) (hM.below hb) hq2)
  have C4 := Lib.hid (fun w' (hb : Below w.heap.size w w') => law06_fixed w' (hT.below hb) (hM.below hb))
  have C5 := Lib.hid (fun w => ref_Quote06 s w (by omega))
  have HV := Lib.hid (quote_value s)
  have HS := Lib.hid (quote_begun s ⟨#[34]⟩)
  have hcs : (quote s).size ≤ 5000000 := by omega
  generalize quote s = t at *
  have hc1 : ¬ 9223372036854775807 < t.size + 1 := by omega
  have hc2 : ¬ (t.size + (⟨#[34]⟩ : ByteArray).size > 9223372036854775807) := by
    have : (⟨#[34]⟩ : ByteArray).size = 1 := rfl
    omega
  have hc3 : t.size + 1 ≤ 9223372036854775807 := by omega
  clear hq hq2
  go_enter Tryd.func5, Tryd.ntmps5
  go_wp2_with fail
  refine C1.out.mono ?_
  rintro e w1 ⟨rfl, hb1⟩
  have HB1 := Lib.hid hb1
  clear hb1
  go_wp2_with fail
  refine (C2.out _ HB1.out).mono ?_
  intro e w2 h2
  unfold valuePost at h2
  rw [HV.out] at h2
  obtain ⟨rfl, hb2⟩ := h2
  have HB2 := Lib.hid (bthen HB1.out hb2)
  clear hb2
  go_wp2_with fail
  refine (C3.out _ HB2.out).mono ?_
  intro e w3 h3
  unfold scanPost at h3
  rw [HS.out] at h3
  obtain ⟨rfl, hb3⟩ := h3
  have HB3 := Lib.hid (bthen HB2.out hb3)
  clear hb3
  go_wp2_with fail
  refine (C4.out _ HB3.out).mono ?_
  rintro e w4 ⟨rfl, hb4⟩
  have HB4 := Lib.hid (bthen HB3.out hb4)
  clear hb4
  go_wp2_with fail
  refine (C5.out _).mono ?_
  rintro e w5 ⟨rfl, hb5⟩
  have HB5 := Lib.hid (bthen HB4.out hb5)
  clear hb5
  go_wp2_with fail
  show Q (.returned (.bool _)) _
  exact HQ.out _ HB5.out
end Go.Proofs.YtnnfkdjmpbgkaaaDoor
