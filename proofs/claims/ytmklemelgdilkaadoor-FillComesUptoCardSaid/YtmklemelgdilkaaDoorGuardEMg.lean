/- Layer 15: guard.least, walked. -/
import Derived.Test.YtmklemelgdilkaaDoorGuardVMg
namespace Go.Proofs.YtmklemelgdilkaaDoor
set_option linter.all false
attribute [local irreducible] Calls
open Go.RowKit

theorem levelZ_le (p : Prt) : levelZ p ≤ 10 := by
 unfold levelZ lvW
 by_cases h1 : p.1 = 36 ∨ p.1 = 35
 ·rw [if_pos h1]; omega
 ·rw [if_neg h1]
  by_cases h2 : p.1 = 37
  ·rw [if_pos h2]
   repeat' split
   all_goals omega
  ·rw [if_neg h2]; omega
set_option maxRecDepth 100000 in
set_option maxHeartbeats 16000000 in
theorem guard_least (p : Prt) (nth : Nat) (hn : nth < 100000000) (hs : p.2.2.size ≤ 1048576) (w : World) (hM : MaxC w) :
  Calls Tryd.prog 49 #[partA p, .int .i64 (nth : Int)] w fun e w' => e = .returned (.int .i64 (leastZ p nth : Int)) ∧ Below w.heap.size w w' := by
 have HQ : RowKit.Hid (∀ x w', (leastZ p nth : Int) = x → Below w.heap.size w w' → (fun (e : Ending) w' => e = .returned (.int .i64 (leastZ p nth : Int)) ∧ Below w.heap.size w w') (.returned (.int .i64 x)) w') := Lib.hid fun x w' h hb => ⟨by rw [h], hb⟩
 generalize (fun (e : Ending) w' => e = .returned (.int .i64 (leastZ p nth : Int)) ∧ Below w.heap.size w w') = Q at *
 obtain ⟨k, n, s⟩ := p
 have HV := Lib.hid (fun W (hb : Below w.heap.size w W) => guard_Level (k, n, s) hs W (hM.below hb))
 unfold partA at HV ⊢
 simp only [] at hs HQ HV ⊢
 have HX := Lib.hid ((Below.refl w.heap.size w).alloc (Nat.le_refl _) (.cells #[.int .u8 (k : Int), .int .i64 n, .string s] 38))
 have HPK : RowKit.Hid (PK (w.alloc (.cells #[.int .u8 (k : Int), .int .i64 n, .string s] 38)) w.heap.size (k, n, s)) := Lib.hid (PK.alloc_new w (k, n, s))
 by_cases h37 : k = 37
 ·subst h37
  rw [show ((37 : Nat) : Int) = (37 : Int) from rfl] at HX HPK HV ⊢
  have hl : leastZ (37, n, s) nth = if nth = 0 then levelZ (37, n, s) else if nth = 1 then levelZ (37, n, s) + 1 else 0 := by unfold leastZ; rw [if_pos rfl]
  have hlv : levelZ (37, n, s) ≤ 10 := levelZ_le _
  generalize levelZ (37, n, s) = lv at *
  by_cases h0 : nth = 0
  ·subst h0
   rw [if_pos rfl] at hl
   have HJ := Lib.hid hl
   clear hl
   clear hM
   go_enter Tryd.func49, Tryd.ntmps49
   go_upto_region 1 with (fail)
   generalize w.alloc (.cells #[.int .u8 (37 : Int), .int .i64 n, .string s] 38) = W1 at *
   have p0 := HPK.out.c0; have p1 := HPK.out.c1; have p2 := HPK.out.c2
   simp only [] at p0 p1 p2
   go_wp2_with fail
   refine (HV.out W1 HX.out).mono ?_
   rintro e w2 ⟨rfl, hb⟩
   have HZ := Lib.hid (HQ.out _ w2 (by rw [HJ.out]) (bthen HX.out hb))
   clear hb p0 p1 p2
   go_wp2_with fail
   exact HZ.out
  by_cases h1 : nth = 1
  ·subst h1
   rw [if_neg (by decide), if_pos rfl] at hl
   have HJ := Lib.hid hl
   clear hl
   clear hM
   go_enter Tryd.func49, Tryd.ntmps49
   go_upto_region 1 with (fail)
   generalize w.alloc (.cells #[.int .u8 (37 : Int), .int .i64 n, .string s] 38) = W1 at *
   have p0 := HPK.out.c0; have p1 := HPK.out.c1; have p2 := HPK.out.c2
   simp only [] at p0 p1 p2
   go_wp2_with fail
   refine (HV.out W1 HX.out).mono ?_
   rintro e w2 ⟨rfl, hb⟩
   have HZ := Lib.hid (HQ.out _ w2 (by rw [HJ.out]) (bthen HX.out hb))
   clear hb p0 p1 p2
   go_wp2_with fail
   exact HZ.out
  have HJ := Lib.hid (by rw [if_neg h0, if_neg h1] at hl; exact hl : leastZ (37, n, s) nth = 0)
  have g0 : ((nth : Int) == 0) = false := by rw [beq_eq_false_iff_ne]; omega
  have g1 : ((nth : Int) == 1) = false := by rw [beq_eq_false_iff_ne]; omega
  clear hl h0 h1
  clear hM
  go_enter Tryd.func49, Tryd.ntmps49
  go_upto_region 1 with (fail)
  generalize w.alloc (.cells #[.int .u8 (37 : Int), .int .i64 n, .string s] 38) = W1 at *
  have p0 := HPK.out.c0; have p1 := HPK.out.c1; have p2 := HPK.out.c2
  simp only [] at p0 p1 p2
  go_wp2_with fail
  have HZ := Lib.hid (HQ.out 0 W1 (by rw [HJ.out]; rfl) HX.out)
  exact HZ.out
 have g37 : ((k : Int) == 37) = false := by rw [beq_eq_false_iff_ne]; omega
 by_cases h36 : k = 36
 ·subst h36
  clear g37 h37
  rw [show ((36 : Nat) : Int) = (36 : Int) from rfl] at HX HPK ⊢
  have HJ := Lib.hid (by unfold leastZ; simp : leastZ (36, n, s) nth = 6)
  clear hM
  go_enter Tryd.func49, Tryd.ntmps49
  go_upto_region 1 with (fail)
  generalize w.alloc (.cells #[.int .u8 (36 : Int), .int .i64 n, .string s] 38) = W1 at *
  have p0 := HPK.out.c0; have p1 := HPK.out.c1; have p2 := HPK.out.c2
  simp only [] at p0 p1 p2
  go_wp2_with fail
  have HZ := Lib.hid (HQ.out 6 W1 (by rw [HJ.out]; rfl) HX.out)
  exact HZ.out
 by_cases h35 : k = 35
 ·subst h35
  clear g37 h37
  rw [show ((35 : Nat) : Int) = (35 : Int) from rfl] at HX HPK ⊢
  have HJ := Lib.hid (by unfold leastZ; simp : leastZ (35, n, s) nth = 6)
  clear hM
  go_enter Tryd.func49, Tryd.ntmps49
  go_upto_region 1 with (fail)
  generalize w.alloc (.cells #[.int .u8 (35 : Int), .int .i64 n, .string s] 38) = W1 at *
  have p0 := HPK.out.c0; have p1 := HPK.out.c1; have p2 := HPK.out.c2
  simp only [] at p0 p1 p2
  go_wp2_with fail
  have HZ := Lib.hid (HQ.out 6 W1 (by rw [HJ.out]; rfl) HX.out)
  exact HZ.out
 have g36 : ((k : Int) == 36) = false := by rw [beq_eq_false_iff_ne]; omega
 have g35 : ((k : Int) == 35) = false := by rw [beq_eq_false_iff_ne]; omega
 by_cases h29 : k = 29
 ·subst h29
  rw [show ((29 : Nat) : Int) = (29 : Int) from rfl] at HX HPK ⊢
  clear g35 g36 g37 h35 h36 h37
  by_cases ht : nth = 0
  ·subst ht
   have HJ := Lib.hid (by unfold leastZ; simp : leastZ (29, n, s) 0 = 7)
   clear hM
   go_enter Tryd.func49, Tryd.ntmps49
   go_upto_region 1 with (fail)
   generalize w.alloc (.cells #[.int .u8 (29 : Int), .int .i64 n, .string s] 38) = W1 at *
   have p0 := HPK.out.c0; have p1 := HPK.out.c1; have p2 := HPK.out.c2
   simp only [] at p0 p1 p2
   go_wp2_with fail
   have HZ := Lib.hid (HQ.out 7 W1 (by rw [HJ.out]; rfl) HX.out)
   exact HZ.out
  ·have g0 : ((nth : Int) == 0) = false := by rw [beq_eq_false_iff_ne]; omega
   have hj : leastZ (29, n, s) nth = 0 := by unfold leastZ; simp [ht]
   clear ht
   have HJ := Lib.hid (by exact hj : leastZ (29, n, s) nth = 0)
   clear hM
   go_enter Tryd.func49, Tryd.ntmps49
   go_upto_region 1 with (fail)
   generalize w.alloc (.cells #[.int .u8 (29 : Int), .int .i64 n, .string s] 38) = W1 at *
   have p0 := HPK.out.c0; have p1 := HPK.out.c1; have p2 := HPK.out.c2
   simp only [] at p0 p1 p2
   go_wp2_with fail
   have HZ := Lib.hid (HQ.out 0 W1 (by rw [HJ.out]; rfl) HX.out)
   exact HZ.out
 by_cases h30 : k = 30
 ·subst h30
  rw [show ((30 : Nat) : Int) = (30 : Int) from rfl] at HX HPK ⊢
  clear g35 g36 g37 h35 h36 h37 h29
  by_cases ht : nth = 0
  ·subst ht
   have HJ := Lib.hid (by unfold leastZ; simp : leastZ (30, n, s) 0 = 7)
   clear hM
   go_enter Tryd.func49, Tryd.ntmps49
   go_upto_region 1 with (fail)
   generalize w.alloc (.cells #[.int .u8 (30 : Int), .int .i64 n, .string s] 38) = W1 at *
   have p0 := HPK.out.c0; have p1 := HPK.out.c1; have p2 := HPK.out.c2
   simp only [] at p0 p1 p2
   go_wp2_with fail
   have HZ := Lib.hid (HQ.out 7 W1 (by rw [HJ.out]; rfl) HX.out)
   exact HZ.out
  ·have g0 : ((nth : Int) == 0) = false := by rw [beq_eq_false_iff_ne]; omega
   have hj : leastZ (30, n, s) nth = 0 := by unfold leastZ; simp [ht]
   clear ht
   have HJ := Lib.hid (by exact hj : leastZ (30, n, s) nth = 0)
   clear hM
   go_enter Tryd.func49, Tryd.ntmps49
   go_upto_region 1 with (fail)
   generalize w.alloc (.cells #[.int .u8 (30 : Int), .int .i64 n, .string s] 38) = W1 at *
   have p0 := HPK.out.c0; have p1 := HPK.out.c1; have p2 := HPK.out.c2
   simp only [] at p0 p1 p2
   go_wp2_with fail
   have HZ := Lib.hid (HQ.out 0 W1 (by rw [HJ.out]; rfl) HX.out)
   exact HZ.out
 by_cases h31 : k = 31
 ·subst h31
  rw [show ((31 : Nat) : Int) = (31 : Int) from rfl] at HX HPK ⊢
  clear g35 g36 g37 h35 h36 h37 h29 h30
  by_cases ht : nth = 0
  ·subst ht
   have HJ := Lib.hid (by unfold leastZ; simp : leastZ (31, n, s) 0 = 7)
   clear hM
   go_enter Tryd.func49, Tryd.ntmps49
   go_upto_region 1 with (fail)
   generalize w.alloc (.cells #[.int .u8 (31 : Int), .int .i64 n, .string s] 38) = W1 at *
   have p0 := HPK.out.c0; have p1 := HPK.out.c1; have p2 := HPK.out.c2
   simp only [] at p0 p1 p2
   go_wp2_with fail
   have HZ := Lib.hid (HQ.out 7 W1 (by rw [HJ.out]; rfl) HX.out)
   exact HZ.out
  ·have g0 : ((nth : Int) == 0) = false := by rw [beq_eq_false_iff_ne]; omega
   have hj : leastZ (31, n, s) nth = 0 := by unfold leastZ; simp [ht]
   clear ht
   have HJ := Lib.hid (by exact hj : leastZ (31, n, s) nth = 0)
   clear hM
   go_enter Tryd.func49, Tryd.ntmps49
   go_upto_region 1 with (fail)
   generalize w.alloc (.cells #[.int .u8 (31 : Int), .int .i64 n, .string s] 38) = W1 at *
   have p0 := HPK.out.c0; have p1 := HPK.out.c1; have p2 := HPK.out.c2
   simp only [] at p0 p1 p2
   go_wp2_with fail
   have HZ := Lib.hid (HQ.out 0 W1 (by rw [HJ.out]; rfl) HX.out)
   exact HZ.out
 by_cases h32 : k = 32
 ·subst h32
  rw [show ((32 : Nat) : Int) = (32 : Int) from rfl] at HX HPK ⊢
  clear g35 g36 g37 h35 h36 h37 h29 h30 h31
  by_cases ht : nth = 0
  ·subst ht
   have HJ := Lib.hid (by unfold leastZ; simp : leastZ (32, n, s) 0 = 7)
   clear hM
   go_enter Tryd.func49, Tryd.ntmps49
   go_upto_region 1 with (fail)
   generalize w.alloc (.cells #[.int .u8 (32 : Int), .int .i64 n, .string s] 38) = W1 at *
   have p0 := HPK.out.c0; have p1 := HPK.out.c1; have p2 := HPK.out.c2
   simp only [] at p0 p1 p2
   go_wp2_with fail
   have HZ := Lib.hid (HQ.out 7 W1 (by rw [HJ.out]; rfl) HX.out)
   exact HZ.out
  ·have g0 : ((nth : Int) == 0) = false := by rw [beq_eq_false_iff_ne]; omega
   have hj : leastZ (32, n, s) nth = 0 := by unfold leastZ; simp [ht]
   clear ht
   have HJ := Lib.hid (by exact hj : leastZ (32, n, s) nth = 0)
   clear hM
   go_enter Tryd.func49, Tryd.ntmps49
   go_upto_region 1 with (fail)
   generalize w.alloc (.cells #[.int .u8 (32 : Int), .int .i64 n, .string s] 38) = W1 at *
   have p0 := HPK.out.c0; have p1 := HPK.out.c1; have p2 := HPK.out.c2
   simp only [] at p0 p1 p2
   go_wp2_with fail
   have HZ := Lib.hid (HQ.out 0 W1 (by rw [HJ.out]; rfl) HX.out)
   exact HZ.out
 by_cases h33 : k = 33
 ·subst h33
  rw [show ((33 : Nat) : Int) = (33 : Int) from rfl] at HX HPK ⊢
  clear g35 g36 g37 h35 h36 h37 h29 h30 h31 h32
  by_cases ht : nth = 0
  ·subst ht
   have HJ := Lib.hid (by unfold leastZ; simp : leastZ (33, n, s) 0 = 7)
   clear hM
   go_enter Tryd.func49, Tryd.ntmps49
   go_upto_region 1 with (fail)
   generalize w.alloc (.cells #[.int .u8 (33 : Int), .int .i64 n, .string s] 38) = W1 at *
   have p0 := HPK.out.c0; have p1 := HPK.out.c1; have p2 := HPK.out.c2
   simp only [] at p0 p1 p2
   go_wp2_with fail
   have HZ := Lib.hid (HQ.out 7 W1 (by rw [HJ.out]; rfl) HX.out)
   exact HZ.out
  ·have g0 : ((nth : Int) == 0) = false := by rw [beq_eq_false_iff_ne]; omega
   have hj : leastZ (33, n, s) nth = 0 := by unfold leastZ; simp [ht]
   clear ht
   have HJ := Lib.hid (by exact hj : leastZ (33, n, s) nth = 0)
   clear hM
   go_enter Tryd.func49, Tryd.ntmps49
   go_upto_region 1 with (fail)
   generalize w.alloc (.cells #[.int .u8 (33 : Int), .int .i64 n, .string s] 38) = W1 at *
   have p0 := HPK.out.c0; have p1 := HPK.out.c1; have p2 := HPK.out.c2
   simp only [] at p0 p1 p2
   go_wp2_with fail
   have HZ := Lib.hid (HQ.out 0 W1 (by rw [HJ.out]; rfl) HX.out)
   exact HZ.out
 by_cases h34 : k = 34
 ·subst h34
  rw [show ((34 : Nat) : Int) = (34 : Int) from rfl] at HX HPK ⊢
  clear g35 g36 g37 h35 h36 h37 h29 h30 h31 h32 h33
  by_cases ht : nth = 0
  ·subst ht
   have HJ := Lib.hid (by unfold leastZ; simp : leastZ (34, n, s) 0 = 7)
   clear hM
   go_enter Tryd.func49, Tryd.ntmps49
   go_upto_region 1 with (fail)
   generalize w.alloc (.cells #[.int .u8 (34 : Int), .int .i64 n, .string s] 38) = W1 at *
   have p0 := HPK.out.c0; have p1 := HPK.out.c1; have p2 := HPK.out.c2
   simp only [] at p0 p1 p2
   go_wp2_with fail
   have HZ := Lib.hid (HQ.out 7 W1 (by rw [HJ.out]; rfl) HX.out)
   exact HZ.out
  ·have g0 : ((nth : Int) == 0) = false := by rw [beq_eq_false_iff_ne]; omega
   have hj : leastZ (34, n, s) nth = 0 := by unfold leastZ; simp [ht]
   clear ht
   have HJ := Lib.hid (by exact hj : leastZ (34, n, s) nth = 0)
   clear hM
   go_enter Tryd.func49, Tryd.ntmps49
   go_upto_region 1 with (fail)
   generalize w.alloc (.cells #[.int .u8 (34 : Int), .int .i64 n, .string s] 38) = W1 at *
   have p0 := HPK.out.c0; have p1 := HPK.out.c1; have p2 := HPK.out.c2
   simp only [] at p0 p1 p2
   go_wp2_with fail
   have HZ := Lib.hid (HQ.out 0 W1 (by rw [HJ.out]; rfl) HX.out)
   exact HZ.out
 have g29 : ((k : Int) == 29) = false := by rw [beq_eq_false_iff_ne]; omega
 have g30 : ((k : Int) == 30) = false := by rw [beq_eq_false_iff_ne]; omega
 have g31 : ((k : Int) == 31) = false := by rw [beq_eq_false_iff_ne]; omega
 have g32 : ((k : Int) == 32) = false := by rw [beq_eq_false_iff_ne]; omega
 have g33 : ((k : Int) == 33) = false := by rw [beq_eq_false_iff_ne]; omega
 have g34 : ((k : Int) == 34) = false := by rw [beq_eq_false_iff_ne]; omega
 by_cases h61 : k = 61
 ·subst h61
  rw [show ((61 : Nat) : Int) = (61 : Int) from rfl] at HX HPK ⊢
  clear g35 g36 g37 h35 h36 h37 h29 h30 h31 h32 h33 h34
  clear g29 g30 g31 g32 g33 g34
  by_cases ht : nth = 2
  ·subst ht
   have HJ := Lib.hid (by unfold leastZ; simp : leastZ (61, n, s) 2 = 7)
   clear hM
   go_enter Tryd.func49, Tryd.ntmps49
   go_upto_region 1 with (fail)
   generalize w.alloc (.cells #[.int .u8 (61 : Int), .int .i64 n, .string s] 38) = W1 at *
   have p0 := HPK.out.c0; have p1 := HPK.out.c1; have p2 := HPK.out.c2
   simp only [] at p0 p1 p2
   go_wp2_with fail
   have HZ := Lib.hid (HQ.out 7 W1 (by rw [HJ.out]; rfl) HX.out)
   exact HZ.out
  ·have g0 : ((nth : Int) == 2) = false := by rw [beq_eq_false_iff_ne]; omega
   have hj : leastZ (61, n, s) nth = 0 := by unfold leastZ; simp [ht]
   clear ht
   have HJ := Lib.hid (by exact hj : leastZ (61, n, s) nth = 0)
   clear hM
   go_enter Tryd.func49, Tryd.ntmps49
   go_upto_region 1 with (fail)
   generalize w.alloc (.cells #[.int .u8 (61 : Int), .int .i64 n, .string s] 38) = W1 at *
   have p0 := HPK.out.c0; have p1 := HPK.out.c1; have p2 := HPK.out.c2
   simp only [] at p0 p1 p2
   go_wp2_with fail
   have HZ := Lib.hid (HQ.out 0 W1 (by rw [HJ.out]; rfl) HX.out)
   exact HZ.out
 have g61 : ((k : Int) == 61) = false := by rw [beq_eq_false_iff_ne]; omega
 have hj : leastZ (k, n, s) nth = 0 := by unfold leastZ; rw [if_neg h37, if_neg (by simp only []; omega), if_neg (by simp only []; omega), if_neg h61]
 clear h37 h36 h35 h29 h30 h31 h32 h33 h34 h61
 have HJ := Lib.hid (by exact hj : leastZ (k, n, s) nth = 0)
 clear hM
 go_enter Tryd.func49, Tryd.ntmps49
 go_upto_region 1 with (fail)
 generalize w.alloc (.cells #[.int .u8 (k : Int), .int .i64 n, .string s] 38) = W1 at *
 have p0 := HPK.out.c0; have p1 := HPK.out.c1; have p2 := HPK.out.c2
 simp only [] at p0 p1 p2
 go_wp2_with fail
 have HZ := Lib.hid (HQ.out 0 W1 (by rw [HJ.out]; rfl) HX.out)
 exact HZ.out
end Go.Proofs.YtmklemelgdilkaaDoor
