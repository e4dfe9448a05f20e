/- The statement RunesRead, walked: the call returns true. -/
import Derived.Test.YtfgchnhjboehpaaDoorLaw01
import Derived.Test.YtfgchnhjboehpaaDoorRef01
namespace Go.Proofs.YtfgchnhjboehpaaDoor
open Go.RowKit

theorem RunesRead_walk (s : ByteArray) (hs : s.size ≤ maxLen) (at' : Int) (_ : (Lit.int .i64 at').wf = true) (w : World) (_ : True) (hT : Tabs w) :
    Calls Tryd.prog 3 #[.string s, .int .i64 at'] w fun e w' => e = .returned (.bool true) ∧ Below w.heap.size w w' := by
  unfold maxLen at hs
  have c1 := fun w hT => runes_Read s at' w hT
  have c2 := fun w => ref_Read s at' w (by omega)
  have hd := rdI_le s at'
  generalize rdI s at' = d at *
  obtain ⟨d1, d2⟩ := d
  have C1 := Lib.hid c1; have C2 := Lib.hid c2
  clear c1 c2
  have hd' : (d1 : Int) ≤ 1114111 := by simp only [] at hd; omega
  clear hd
  go_enter Tryd.func3, Tryd.ntmps3
  go_wp2_with fail
  refine (C1.out _ hT).mono ?_; rintro e w1 ⟨rfl, hb1⟩
  have hT1 := hT.below hb1
  go_wp2_with fail
  refine (C2.out _).mono ?_; rintro e w2 ⟨rfl, hb2⟩
  have hT2 := hT1.below hb2
  go_wp2_with fail
  refine (law01_fixed _ hT2).mono ?_; rintro e w3 ⟨rfl, hb3⟩
  go_wp2_with fail
  go_ret
  exact ⟨rfl, (hb1.trans (hb2.mono hb1.size)).trans (hb3.mono (hb1.trans (hb2.mono hb1.size)).size)⟩
end Go.Proofs.YtfgchnhjboehpaaDoor
