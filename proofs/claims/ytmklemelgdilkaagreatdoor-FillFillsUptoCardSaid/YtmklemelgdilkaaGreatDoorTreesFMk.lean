/- Layer 20 in plain Lean: trees in a row, counted by their ends. -/
import Derived.Test.YtmklemelgdilkaaGreatDoorInstPMk
import Derived.Test.YtmklemelgdilkaaGreatDoorFillPMk
import Derived.Test.YtmklemelgdilkaaGreatDoorCheckBMk
import Derived.Test.YtmklemelgdilkaaGreatDoorMatchPMk
import Derived.Test.YtmklemelgdilkaaGreatDoorTermMk
import Derived.Test.YtmklemelgdilkaaGreatDoorTermQMk
import Derived.Test.YtmklemelgdilkaaGreatDoorStillMk
namespace Go.Proofs.YtmklemelgdilkaaGreatDoor
set_option linter.all false

theorem adv_of {l:List Prt} {b:Nat}:∀ {n a:Nat},(∀ k,k<n→kidAt l k a<b)→advT l n a b=some (kidAt l n a)
 | 0,a,_=>by rw [advT];rfl
 | n+1,a,h=>by
  have h0:a<b:=h 0 (by omega)
  rw [advT,if_pos h0,kidAt]
  exact adv_of fun k hk=>h (k+1) (by omega)
theorem trees_go {l:List Prt} {us:List Nat} (hl:rowsB l=some us) {a b n:Nat} (hab:a≤b) (hb:b≤l.length) (hlt:∀ k,k<n→kidAt l k a<b) (hge:b≤kidAt l n a) :
  (kidAt l n a=b→treesZ (piece l a b)=(n:Int))∧(kidAt l n a≠b→treesZ (piece l a b)=-1):=by
 have hn:=adv_of hlt
 constructor
 ·intro e
  rw [e] at hn
  obtain ⟨ts,h1,h2⟩:=adv_rows hl n a b hb hn
  rw [treesZ_of h1,h2]
 ·intro e
  unfold treesZ
  cases h:rowsB (piece l a b) with
  | none=>rfl
  | some ts =>
   exfalso
   have hpl:=piece_len hab hb
   have h1:=adv_row hl hb ts (piece l a b) (l.drop b) a h (drop_piece hab) (by omega)
   rw [hpl,show a+(b-a)=b by omega] at h1
   rcases Nat.lt_trichotomy ts.length n with c | c | c
   ·have:=hlt _ c
    rw [adv_kid h1] at this
    omega
   ·rw [c] at h1
    exact e (adv_kid h1)
   ·rw [show ts.length=n+((ts.length-n-1)+1) by omega,adv_add,hn,Option.bind_some,advT,if_neg (by omega)] at h1
    cases h1
theorem endB_kid {l:List Prt} {us:List Nat} (hl:rowsB l=some us) {a n:Nat} (h:kidAt l n a<l.length):kidAt l n a<kidAt l (n+1) a∧kidAt l (n+1) a≤l.length:=by
 rw [kidAt_snoc]
 exact endB_gt hl h
end Go.Proofs.YtmklemelgdilkaaGreatDoor
namespace Go.Proofs.YtmklemelgdilkaaGreatDoor
set_option linter.all false
attribute [local irreducible] Calls
open Go.RowKit

theorem levelZ_le (p:Prt):levelZ p≤10:=by
 unfold levelZ lvW
 by_cases h1:p.1=36∨p.1=35
 ·rw [if_pos h1];omega
 ·rw [if_neg h1]
  by_cases h2:p.1=37
  ·rw [if_pos h2]
   repeat' split
   all_goals omega
  ·rw [if_neg h2];omega
set_option maxRecDepth 100000 in
set_option maxHeartbeats 16000000 in
theorem guard_least (p:Prt) (nth:Nat) (hn:nth<100000000) (hs:p.2.2.size≤1048576) (w:World) (hM:MaxC w) :
  Calls Tryz.prog 77 #[partA p,.int .i64 (nth:Int)] w fun e w'=>e=.returned (.int .i64 (leastZ p nth:Int))∧Below w.heap.size w w':=by
 have HQ:RowKit.Hid (∀ x w',(leastZ p nth:Int)=x→Below w.heap.size w w'→(fun (e:Ending) w'=>e=.returned (.int .i64 (leastZ p nth:Int))∧Below w.heap.size w w') (.returned (.int .i64 x)) w'):=Hd fun x w' h hb=>⟨by rw [h],hb⟩
 generalize (fun (e:Ending) w'=>e=.returned (.int .i64 (leastZ p nth:Int))∧Below w.heap.size w w')=Q at *
 obtain ⟨k,n,s⟩:=p
 have HV:=Hd (fun W (hb:Below w.heap.size w W)=>guard_Level (k,n,s) hs W (hM.below hb))
 unfold partA at HV ⊢
 simp only [] at hs HQ HV ⊢
 have HX:=Hd ((Below.refl w.heap.size w).alloc (Nat.le_refl _) (.cells #[.int .u8 (k:Int),.int .i64 n,.string s] 45))
 have HPK:RowKit.Hid (PK (w.alloc (.cells #[.int .u8 (k:Int),.int .i64 n,.string s] 45)) w.heap.size (k,n,s)):=Hd (PK.alloc_new w (k,n,s))
 by_cases h37:k=37
 ·subst h37
  rw [show ((37:Nat):Int)=(37:Int) from rfl] at HX HPK HV ⊢
  have hl:leastZ (37,n,s) nth=if nth=0 then levelZ (37,n,s) else if nth=1 then levelZ (37,n,s)+1 else 0:=by unfold leastZ;rw [if_pos rfl]
  have hlv:levelZ (37,n,s)≤10:=levelZ_le _
  generalize levelZ (37,n,s)=lv at *
  by_cases h0:nth=0
  ·subst h0
   rw [if_pos rfl] at hl
   have HJ:=Hd hl
   clear hl
   clear hM
   go_enter Tryz.func77,Tryz.ntmps77
   go_upto_region 1 with (fail)
   generalize w.alloc (.cells #[.int .u8 (37:Int),.int .i64 n,.string s] 45)=W1 at *
   have p0:=HPK.out.c0;have p1:=HPK.out.c1;have p2:=HPK.out.c2
   simp only [] at p0 p1 p2
   go_wp2_with fail
   refine (HV.out W1 HX.out).mono ?_
   rintro e w2 ⟨rfl,hb⟩
   have HZ:=Hd (HQ.out _ w2 (by rw [HJ.out]) (bthen HX.out hb))
   clear hb p0 p1 p2
   go_wp2_with fail
   exact HZ.out
  by_cases h1:nth=1
  ·subst h1
   rw [if_neg (by decide),if_pos rfl] at hl
   have HJ:=Hd hl
   clear hl
   clear hM
   go_enter Tryz.func77,Tryz.ntmps77
   go_upto_region 1 with (fail)
   generalize w.alloc (.cells #[.int .u8 (37:Int),.int .i64 n,.string s] 45)=W1 at *
   have p0:=HPK.out.c0;have p1:=HPK.out.c1;have p2:=HPK.out.c2
   simp only [] at p0 p1 p2
   go_wp2_with fail
   refine (HV.out W1 HX.out).mono ?_
   rintro e w2 ⟨rfl,hb⟩
   have HZ:=Hd (HQ.out _ w2 (by rw [HJ.out]) (bthen HX.out hb))
   clear hb p0 p1 p2
   go_wp2_with fail
   exact HZ.out
  have HJ:=Hd (by rw [if_neg h0,if_neg h1] at hl;exact hl:leastZ (37,n,s) nth=0)
  have g0:((nth:Int) == 0)=false:=by rw [beq_eq_false_iff_ne];omega
  have g1:((nth:Int) == 1)=false:=by rw [beq_eq_false_iff_ne];omega
  clear hl h0 h1
  clear hM
  go_enter Tryz.func77,Tryz.ntmps77
  go_upto_region 1 with (fail)
  generalize w.alloc (.cells #[.int .u8 (37:Int),.int .i64 n,.string s] 45)=W1 at *
  have p0:=HPK.out.c0;have p1:=HPK.out.c1;have p2:=HPK.out.c2
  simp only [] at p0 p1 p2
  go_wp2_with fail
  have HZ:=Hd (HQ.out 0 W1 (by rw [HJ.out];rfl) HX.out)
  exact HZ.out
 have g37:((k:Int) == 37)=false:=by rw [beq_eq_false_iff_ne];omega
 by_cases h36:k=36
 ·subst h36
  clear g37 h37
  rw [show ((36:Nat):Int)=(36:Int) from rfl] at HX HPK ⊢
  have HJ:=Hd (by unfold leastZ;simp:leastZ (36,n,s) nth=6)
  clear hM
  go_enter Tryz.func77,Tryz.ntmps77
  go_upto_region 1 with (fail)
  generalize w.alloc (.cells #[.int .u8 (36:Int),.int .i64 n,.string s] 45)=W1 at *
  have p0:=HPK.out.c0;have p1:=HPK.out.c1;have p2:=HPK.out.c2
  simp only [] at p0 p1 p2
  go_wp2_with fail
  have HZ:=Hd (HQ.out 6 W1 (by rw [HJ.out];rfl) HX.out)
  exact HZ.out
 by_cases h35:k=35
 ·subst h35
  clear g37 h37
  rw [show ((35:Nat):Int)=(35:Int) from rfl] at HX HPK ⊢
  have HJ:=Hd (by unfold leastZ;simp:leastZ (35,n,s) nth=6)
  clear hM
  go_enter Tryz.func77,Tryz.ntmps77
  go_upto_region 1 with (fail)
  generalize w.alloc (.cells #[.int .u8 (35:Int),.int .i64 n,.string s] 45)=W1 at *
  have p0:=HPK.out.c0;have p1:=HPK.out.c1;have p2:=HPK.out.c2
  simp only [] at p0 p1 p2
  go_wp2_with fail
  have HZ:=Hd (HQ.out 6 W1 (by rw [HJ.out];rfl) HX.out)
  exact HZ.out
 have g36:((k:Int) == 36)=false:=by rw [beq_eq_false_iff_ne];omega
 have g35:((k:Int) == 35)=false:=by rw [beq_eq_false_iff_ne];omega
 by_cases h29:k=29
 ·subst h29
  rw [show ((29:Nat):Int)=(29:Int) from rfl] at HX HPK ⊢
  clear g35 g36 g37 h35 h36 h37
  by_cases ht:nth=0
  ·subst ht
   have HJ:=Hd (by unfold leastZ;simp:leastZ (29,n,s) 0=7)
   clear hM
   go_enter Tryz.func77,Tryz.ntmps77
   go_upto_region 1 with (fail)
   generalize w.alloc (.cells #[.int .u8 (29:Int),.int .i64 n,.string s] 45)=W1 at *
   have p0:=HPK.out.c0;have p1:=HPK.out.c1;have p2:=HPK.out.c2
   simp only [] at p0 p1 p2
   go_wp2_with fail
   have HZ:=Hd (HQ.out 7 W1 (by rw [HJ.out];rfl) HX.out)
   exact HZ.out
  ·have g0:((nth:Int) == 0)=false:=by rw [beq_eq_false_iff_ne];omega
   have hj:leastZ (29,n,s) nth=0:=by unfold leastZ;simp [ht]
   clear ht
   have HJ:=Hd (by exact hj:leastZ (29,n,s) nth=0)
   clear hM
   go_enter Tryz.func77,Tryz.ntmps77
   go_upto_region 1 with (fail)
   generalize w.alloc (.cells #[.int .u8 (29:Int),.int .i64 n,.string s] 45)=W1 at *
   have p0:=HPK.out.c0;have p1:=HPK.out.c1;have p2:=HPK.out.c2
   simp only [] at p0 p1 p2
   go_wp2_with fail
   have HZ:=Hd (HQ.out 0 W1 (by rw [HJ.out];rfl) HX.out)
   exact HZ.out
 by_cases h30:k=30
 ·subst h30
  rw [show ((30:Nat):Int)=(30:Int) from rfl] at HX HPK ⊢
  clear g35 g36 g37 h35 h36 h37 h29
  by_cases ht:nth=0
  ·subst ht
   have HJ:=Hd (by unfold leastZ;simp:leastZ (30,n,s) 0=7)
   clear hM
   go_enter Tryz.func77,Tryz.ntmps77
   go_upto_region 1 with (fail)
   generalize w.alloc (.cells #[.int .u8 (30:Int),.int .i64 n,.string s] 45)=W1 at *
   have p0:=HPK.out.c0;have p1:=HPK.out.c1;have p2:=HPK.out.c2
   simp only [] at p0 p1 p2
   go_wp2_with fail
   have HZ:=Hd (HQ.out 7 W1 (by rw [HJ.out];rfl) HX.out)
   exact HZ.out
  ·have g0:((nth:Int) == 0)=false:=by rw [beq_eq_false_iff_ne];omega
   have hj:leastZ (30,n,s) nth=0:=by unfold leastZ;simp [ht]
   clear ht
   have HJ:=Hd (by exact hj:leastZ (30,n,s) nth=0)
   clear hM
   go_enter Tryz.func77,Tryz.ntmps77
   go_upto_region 1 with (fail)
   generalize w.alloc (.cells #[.int .u8 (30:Int),.int .i64 n,.string s] 45)=W1 at *
   have p0:=HPK.out.c0;have p1:=HPK.out.c1;have p2:=HPK.out.c2
   simp only [] at p0 p1 p2
   go_wp2_with fail
   have HZ:=Hd (HQ.out 0 W1 (by rw [HJ.out];rfl) HX.out)
   exact HZ.out
 by_cases h31:k=31
 ·subst h31
  rw [show ((31:Nat):Int)=(31:Int) from rfl] at HX HPK ⊢
  clear g35 g36 g37 h35 h36 h37 h29 h30
  by_cases ht:nth=0
  ·subst ht
   have HJ:=Hd (by unfold leastZ;simp:leastZ (31,n,s) 0=7)
   clear hM
   go_enter Tryz.func77,Tryz.ntmps77
   go_upto_region 1 with (fail)
   generalize w.alloc (.cells #[.int .u8 (31:Int),.int .i64 n,.string s] 45)=W1 at *
   have p0:=HPK.out.c0;have p1:=HPK.out.c1;have p2:=HPK.out.c2
   simp only [] at p0 p1 p2
   go_wp2_with fail
   have HZ:=Hd (HQ.out 7 W1 (by rw [HJ.out];rfl) HX.out)
   exact HZ.out
  ·have g0:((nth:Int) == 0)=false:=by rw [beq_eq_false_iff_ne];omega
   have hj:leastZ (31,n,s) nth=0:=by unfold leastZ;simp [ht]
   clear ht
   have HJ:=Hd (by exact hj:leastZ (31,n,s) nth=0)
   clear hM
   go_enter Tryz.func77,Tryz.ntmps77
   go_upto_region 1 with (fail)
   generalize w.alloc (.cells #[.int .u8 (31:Int),.int .i64 n,.string s] 45)=W1 at *
   have p0:=HPK.out.c0;have p1:=HPK.out.c1;have p2:=HPK.out.c2
   simp only [] at p0 p1 p2
   go_wp2_with fail
   have HZ:=Hd (HQ.out 0 W1 (by rw [HJ.out];rfl) HX.out)
   exact HZ.out
 by_cases h32:k=32
 ·subst h32
  rw [show ((32:Nat):Int)=(32:Int) from rfl] at HX HPK ⊢
  clear g35 g36 g37 h35 h36 h37 h29 h30 h31
  by_cases ht:nth=0
  ·subst ht
   have HJ:=Hd (by unfold leastZ;simp:leastZ (32,n,s) 0=7)
   clear hM
   go_enter Tryz.func77,Tryz.ntmps77
   go_upto_region 1 with (fail)
   generalize w.alloc (.cells #[.int .u8 (32:Int),.int .i64 n,.string s] 45)=W1 at *
   have p0:=HPK.out.c0;have p1:=HPK.out.c1;have p2:=HPK.out.c2
   simp only [] at p0 p1 p2
   go_wp2_with fail
   have HZ:=Hd (HQ.out 7 W1 (by rw [HJ.out];rfl) HX.out)
   exact HZ.out
  ·have g0:((nth:Int) == 0)=false:=by rw [beq_eq_false_iff_ne];omega
   have hj:leastZ (32,n,s) nth=0:=by unfold leastZ;simp [ht]
   clear ht
   have HJ:=Hd (by exact hj:leastZ (32,n,s) nth=0)
   clear hM
   go_enter Tryz.func77,Tryz.ntmps77
   go_upto_region 1 with (fail)
   generalize w.alloc (.cells #[.int .u8 (32:Int),.int .i64 n,.string s] 45)=W1 at *
   have p0:=HPK.out.c0;have p1:=HPK.out.c1;have p2:=HPK.out.c2
   simp only [] at p0 p1 p2
   go_wp2_with fail
   have HZ:=Hd (HQ.out 0 W1 (by rw [HJ.out];rfl) HX.out)
   exact HZ.out
 by_cases h33:k=33
 ·subst h33
  rw [show ((33:Nat):Int)=(33:Int) from rfl] at HX HPK ⊢
  clear g35 g36 g37 h35 h36 h37 h29 h30 h31 h32
  by_cases ht:nth=0
  ·subst ht
   have HJ:=Hd (by unfold leastZ;simp:leastZ (33,n,s) 0=7)
   clear hM
   go_enter Tryz.func77,Tryz.ntmps77
   go_upto_region 1 with (fail)
   generalize w.alloc (.cells #[.int .u8 (33:Int),.int .i64 n,.string s] 45)=W1 at *
   have p0:=HPK.out.c0;have p1:=HPK.out.c1;have p2:=HPK.out.c2
   simp only [] at p0 p1 p2
   go_wp2_with fail
   have HZ:=Hd (HQ.out 7 W1 (by rw [HJ.out];rfl) HX.out)
   exact HZ.out
  ·have g0:((nth:Int) == 0)=false:=by rw [beq_eq_false_iff_ne];omega
   have hj:leastZ (33,n,s) nth=0:=by unfold leastZ;simp [ht]
   clear ht
   have HJ:=Hd (by exact hj:leastZ (33,n,s) nth=0)
   clear hM
   go_enter Tryz.func77,Tryz.ntmps77
   go_upto_region 1 with (fail)
   generalize w.alloc (.cells #[.int .u8 (33:Int),.int .i64 n,.string s] 45)=W1 at *
   have p0:=HPK.out.c0;have p1:=HPK.out.c1;have p2:=HPK.out.c2
   simp only [] at p0 p1 p2
   go_wp2_with fail
   have HZ:=Hd (HQ.out 0 W1 (by rw [HJ.out];rfl) HX.out)
   exact HZ.out
 by_cases h34:k=34
 ·subst h34
  rw [show ((34:Nat):Int)=(34:Int) from rfl] at HX HPK ⊢
  clear g35 g36 g37 h35 h36 h37 h29 h30 h31 h32 h33
  by_cases ht:nth=0
  ·subst ht
   have HJ:=Hd (by unfold leastZ;simp:leastZ (34,n,s) 0=7)
   clear hM
   go_enter Tryz.func77,Tryz.ntmps77
   go_upto_region 1 with (fail)
   generalize w.alloc (.cells #[.int .u8 (34:Int),.int .i64 n,.string s] 45)=W1 at *
   have p0:=HPK.out.c0;have p1:=HPK.out.c1;have p2:=HPK.out.c2
   simp only [] at p0 p1 p2
   go_wp2_with fail
   have HZ:=Hd (HQ.out 7 W1 (by rw [HJ.out];rfl) HX.out)
   exact HZ.out
  ·have g0:((nth:Int) == 0)=false:=by rw [beq_eq_false_iff_ne];omega
   have hj:leastZ (34,n,s) nth=0:=by unfold leastZ;simp [ht]
   clear ht
   have HJ:=Hd (by exact hj:leastZ (34,n,s) nth=0)
   clear hM
   go_enter Tryz.func77,Tryz.ntmps77
   go_upto_region 1 with (fail)
   generalize w.alloc (.cells #[.int .u8 (34:Int),.int .i64 n,.string s] 45)=W1 at *
   have p0:=HPK.out.c0;have p1:=HPK.out.c1;have p2:=HPK.out.c2
   simp only [] at p0 p1 p2
   go_wp2_with fail
   have HZ:=Hd (HQ.out 0 W1 (by rw [HJ.out];rfl) HX.out)
   exact HZ.out
 have g29:((k:Int) == 29)=false:=by rw [beq_eq_false_iff_ne];omega
 have g30:((k:Int) == 30)=false:=by rw [beq_eq_false_iff_ne];omega
 have g31:((k:Int) == 31)=false:=by rw [beq_eq_false_iff_ne];omega
 have g32:((k:Int) == 32)=false:=by rw [beq_eq_false_iff_ne];omega
 have g33:((k:Int) == 33)=false:=by rw [beq_eq_false_iff_ne];omega
 have g34:((k:Int) == 34)=false:=by rw [beq_eq_false_iff_ne];omega
 by_cases h61:k=61
 ·subst h61
  rw [show ((61:Nat):Int)=(61:Int) from rfl] at HX HPK ⊢
  clear g35 g36 g37 h35 h36 h37 h29 h30 h31 h32 h33 h34
  clear g29 g30 g31 g32 g33 g34
  by_cases ht:nth=2
  ·subst ht
   have HJ:=Hd (by unfold leastZ;simp:leastZ (61,n,s) 2=7)
   clear hM
   go_enter Tryz.func77,Tryz.ntmps77
   go_upto_region 1 with (fail)
   generalize w.alloc (.cells #[.int .u8 (61:Int),.int .i64 n,.string s] 45)=W1 at *
   have p0:=HPK.out.c0;have p1:=HPK.out.c1;have p2:=HPK.out.c2
   simp only [] at p0 p1 p2
   go_wp2_with fail
   have HZ:=Hd (HQ.out 7 W1 (by rw [HJ.out];rfl) HX.out)
   exact HZ.out
  ·have g0:((nth:Int) == 2)=false:=by rw [beq_eq_false_iff_ne];omega
   have hj:leastZ (61,n,s) nth=0:=by unfold leastZ;simp [ht]
   clear ht
   have HJ:=Hd (by exact hj:leastZ (61,n,s) nth=0)
   clear hM
   go_enter Tryz.func77,Tryz.ntmps77
   go_upto_region 1 with (fail)
   generalize w.alloc (.cells #[.int .u8 (61:Int),.int .i64 n,.string s] 45)=W1 at *
   have p0:=HPK.out.c0;have p1:=HPK.out.c1;have p2:=HPK.out.c2
   simp only [] at p0 p1 p2
   go_wp2_with fail
   have HZ:=Hd (HQ.out 0 W1 (by rw [HJ.out];rfl) HX.out)
   exact HZ.out
 have g61:((k:Int) == 61)=false:=by rw [beq_eq_false_iff_ne];omega
 have hj:leastZ (k,n,s) nth=0:=by unfold leastZ;rw [if_neg h37,if_neg (by simp only [];omega),if_neg (by simp only [];omega),if_neg h61]
 clear h37 h36 h35 h29 h30 h31 h32 h33 h34 h61
 have HJ:=Hd (by exact hj:leastZ (k,n,s) nth=0)
 clear hM
 go_enter Tryz.func77,Tryz.ntmps77
 go_upto_region 1 with (fail)
 generalize w.alloc (.cells #[.int .u8 (k:Int),.int .i64 n,.string s] 45)=W1 at *
 have p0:=HPK.out.c0;have p1:=HPK.out.c1;have p2:=HPK.out.c2
 simp only [] at p0 p1 p2
 go_wp2_with fail
 have HZ:=Hd (HQ.out 0 W1 (by rw [HJ.out];rfl) HX.out)
 exact HZ.out
end Go.Proofs.YtmklemelgdilkaaGreatDoor
namespace Go.Proofs.YtmklemelgdilkaaGreatDoor
set_option linter.all false

theorem by_top {r:RuleM} (hr:ruleZ r=0) (hg:r.goal=3):holeOf r.by' r.holes 0=none:=by
 obtain ⟨_,_,_,hb,hk,_,_,_⟩:=ruleZ_inv hr
 have hk:=hk hg
 have h0:=(well_zero (checkB_inv hb).1).1
 have e:kindAt r.by' 0=(r.by'[0]).1:=by unfold kindAt;rw [List.getElem?_eq_getElem h0]
 cases ho:holeOf r.by' r.holes 0 with
 | none=>rfl
 | some h =>
  obtain ⟨hh,hs⟩:=holeOf_inv ho
  rcases stands_inv hs with ⟨_,_,_,h4,_⟩ | ⟨_,_,h5⟩
  ·omega
  ·have:=(place_name h5).1
   omega
theorem made_root {r:RuleM} (hr:ruleZ r=0) (hg:r.goal=3) (l:List Prt) (bs:List Bnd):∃ (x:PN) (M:List PN),madeP r l bs=x::M∧x.1.2.1=(cntP (M.map (·.1)):Int)∧outP r l bs=M:=by
 have hb:=(ruleZ_inv hr).2.2.2.1
 have h0:=(well_zero (checkB_inv hb).1).1
 have ho:=by_top hr hg
 refine ⟨_,_,(show madeP r l bs=_::_ by unfold madeP fuelZ;exact mp_none ho h0),rfl,?_⟩
 unfold outP
 rw [if_pos hg]
 unfold madeP fuelZ
 rw [mp_none ho h0]
 rfl
theorem outP_len {r:RuleM} (hr:ruleZ r=0) (l:List Prt) (bs:List Bnd):(outP r l bs).length+(if r.goal=3 then 1 else 0)=(madeP r l bs).length:=by
 by_cases hg:r.goal=3
 ·obtain ⟨x,M,h1,_,h2⟩:=made_root hr hg l bs
  rw [h1,h2,if_pos hg];rfl
 ·unfold outP
  rw [if_neg hg,if_neg hg];rfl
theorem trees_out {r:RuleM} (hr:ruleZ r=0) {l:List Prt} {bs:List Bnd} (hb:BindsIn bs l) (hv:∀ h,∃ ts,rowsB (piece l (bOf bs h).1 (bOf bs h).2)=some ts):∃ ts,rowsB ((outP r l bs).map (·.1))=some ts:=by
 by_cases hg:r.goal=3
 ·obtain ⟨x,M,h1,_,h2⟩:=made_root hr hg l bs
  obtain ⟨ts,h3⟩:=mPart_rows (t:=r.by') (hs:=r.holes) (bOf_in hb) hv (fuelZ r.by') 0
  have h4:rowsB ((x::M).map (·.1))=some ts:=by rw [← h1];exact h3
  rw [List.map_cons] at h4
  obtain ⟨us,h5,_⟩:=rowsB_inv h4
  rw [h2]
  exact ⟨us,h5⟩
 ·unfold outP
  rw [if_neg hg]
  exact mPart_rows (bOf_in hb) hv _ 0
end Go.Proofs.YtmklemelgdilkaaGreatDoor
namespace Go.Proofs.YtmklemelgdilkaaGreatDoor
set_option linter.all false
attribute [local irreducible] Calls
open Go.RowKit

set_option maxRecDepth 100000 in
set_option maxHeartbeats 4000000 in
theorem ref_Place (p:Prt) (s:ByteArray) (k:Nat) (w:World) :
  Calls Tryz.prog 74 #[.agg #[.int .u8 (p.1:Int),.int .i64 p.2.1,.string p.2.2],.agg #[.string s,.int .u8 (k:Int)]] w fun e w'=>e=.returned (.bool (p.1 == 26&&decide (p.2.2=s)))∧Below w.heap.size w w':=by
 have HX:=Hd (((Below.refl w.heap.size w).alloc (Nat.le_refl _) (.cells #[.int .u8 (p.1:Int),.int .i64 p.2.1,.string p.2.2] 45)).alloc (by simp) (.cells #[.string s,.int .u8 (k:Int)] 43))
 have HQ:RowKit.Hid (∀ x w',(p.1 == 26&&decide (p.2.2=s))=x→Below w.heap.size w w'→(fun (e:Ending) w'=>e=.returned (.bool (p.1 == 26&&decide (p.2.2=s)))∧Below w.heap.size w w') (.returned (.bool x)) w'):=Hd fun x w' h hb=>⟨by rw [h],hb⟩
 generalize (fun (e:Ending) w'=>e=.returned (.bool (p.1 == 26&&decide (p.2.2=s)))∧Below w.heap.size w w')=Q at *
 obtain ⟨pk,pn,pw⟩:=p
 simp only [] at HX HQ ⊢
 by_cases h1:pk=26
 ·subst h1
  by_cases h2:pw=s
  ·subst h2
   have HZ:=Hd (HQ.out true _ (by simp) HX.out)
   go_enter Tryz.func74,Tryz.ntmps74
   go_wp2_with fail
   exact HZ.out
  ·have g2:(pw.toList == s.toList)=false:=by rw [beq_eq_false_iff_ne];exact pl_bytes_ne h2
   have HZ:=Hd (HQ.out false _ (by simp [h2]) HX.out)
   go_enter Tryz.func74,Tryz.ntmps74
   go_wp2_with fail
   exact HZ.out
 ·have g1:((pk:Int) == 26)=false:=by rw [beq_eq_false_iff_ne];omega
  have HZ:=Hd (HQ.out false _ (by simp [h1]) HX.out)
  clear h1
  go_enter Tryz.func74,Tryz.ntmps74
  go_wp2_with fail
  exact HZ.out
theorem may_val2 {hole k:Nat} (h1:1≤hole) (h5:hole≤5):mayB hole k=(match hole with
  | 1=>decide (26≤k)&&(decide (k≤48)&&k != 38)
  | 2=>k == 26
  | 3=>k == 27
  | 4=>k == 26 || ((decide (28≤k)&&decide (k≤30)) || (k == 35 || (decide (41≤k)&&decide (k≤48))))
  | _=>decide (49≤k)&&(decide (k≤68)&&(k != 62&&k != 64))):=by
 have hh:hole=1∨hole=2∨hole=3∨hole=4∨hole=5:=by omega
 rcases hh with rfl | rfl | rfl | rfl | rfl <;> rfl
set_option maxRecDepth 100000 in
set_option maxHeartbeats 16000000 in
theorem ref_May17 (hole k:Nat) (h1:1≤hole) (h5:hole≤5) (hk:k<256) (w:World) :
  Calls Tryz.prog 43 #[.int .u8 (hole:Int),.int .u8 (k:Int)] w fun e w'=>e=.returned (.bool (mayB hole k))∧w=w':=by
 have HQ:RowKit.Hid (∀ x,mayB hole k=x→(fun (e:Ending) w'=>e=.returned (.bool (mayB hole k))∧w=w') (.returned (.bool x)) w):=Hd fun x h=>⟨by rw [h],rfl⟩
 generalize (fun (e:Ending) w'=>e=.returned (.bool (mayB hole k))∧w=w')=Q at *
 have hh:hole=1∨hole=2∨hole=3∨hole=4∨hole=5:=by omega
 have HV:=Hd (may_val2 (k:=k) h1 h5)
 rcases hh with rfl | rfl | rfl | rfl | rfl
 all_goals
  go_enter Tryz.func43,Tryz.ntmps43
  go_wp2_with fail
  all_goals
   refine HQ.out _ ?_
   rw [HV.out,Bool.eq_iff_iff]
   first
    | (simp;done)
    | (simp;omega)
end Go.Proofs.YtmklemelgdilkaaGreatDoor
namespace Go.Proofs.YtmklemelgdilkaaGreatDoor
set_option linter.all false
attribute [local irreducible] Calls
attribute [local irreducible] wpStill
open Go.RowKit

def kindV (l:List Prt) (u:Int):Int:=match kindI l u with
 | some k=>(k:Int)
 | none=>255
theorem kind_isV (l:List Prt) (u:Int) (n:Nat) (hn:n≠255):(kindI l u == some n)=(kindV l u == (n:Int)):=by
 unfold kindV
 cases kindI l u with
 | none=>simp;omega
 | some k=>rw [Bool.eq_iff_iff];simp;omega
set_option maxRecDepth 100000 in
set_option maxHeartbeats 8000000 in
theorem ref_kind16 (l:List Prt) (hl:l.length≤1000000000) (v:Value) (u:Int) (h2:u<l.length) (w:World) (hr:PartRow w v l) :
  Calls Tryz.prog 75 #[v,.int .i64 u] w fun e w'=>e=.returned (.int .u8 (kindV l u))∧w=w':=by
 have HQ:RowKit.Hid (∀ x,kindV l u=x→(fun (e:Ending) w'=>e=.returned (.int .u8 (kindV l u))∧w=w') (.returned (.int .u8 x)) w):=Hd fun x h=>⟨by rw [h],rfl⟩
 generalize (fun (e:Ending) w'=>e=.returned (.int .u8 (kindV l u))∧w=w')=Q at *
 obtain ⟨va,vcap,rfl,hvc⟩:=hr.slice
 by_cases hu:u<0
 ·have HX:=Hd (HQ.out 255 (by unfold kindV kindI;rw [if_pos hu]))
  go_enter Tryz.func75,Tryz.ntmps75
  go_wp2_with fail
  exact HX.out
 ·obtain ⟨k,rfl⟩:∃ k:Nat,u=(k:Int):=⟨u.toNat,by omega⟩
  have hk:k<l.length:=by omega
  obtain ⟨b,off,rfl,_,_,hbl,hcell⟩:=hr.at (Below.refl _ _) (show 0<l.length by omega)
  have c0:=(hcell k hk).1
  have hk0:(0:Int)≤(k:Int):=by omega
  have hkl:(k:Int)<l.length:=by omega
  have hneg:¬ (k:Int)<0:=by omega
  have HX:=Hd (HQ.out ((l[k]).1:Int) (by unfold kindV kindI;rw [if_neg hneg,Int.toNat_natCast,List.getElem?_eq_getElem hk];rfl))
  clear hcell hr HQ
  generalize (l[k]).1=x at *
  go_enter Tryz.func75,Tryz.ntmps75
  go_wp2_with fail
  exact HX.out
def topN (l:List Prt) (i:Nat):Int:=if upN l i<0 then -1 else upN l (upN l i).toNat
theorem kindV_neg (l:List Prt) {u:Int} (h:u<0):kindV l u=255:=by unfold kindV kindI;rw [if_pos h]
theorem placeOK_ref (l:List Prt) (k i:Nat):placeOK l k i=if k=5 then kindV l (upN l i) == 50 else if k=7 then (kindV l (upN l i) == 50&&kindV l (topN l i) == 13) else if k=6 then (kindV l (upN l i) == 11 || kindV l (upN l i) == 12) else true:=by
 unfold placeOK
 rw [kind_isV _ _ 50 (by omega),kind_isV _ _ 13 (by omega),kind_isV _ _ 11 (by omega),kind_isV _ _ 12 (by omega)]
 unfold topN
 by_cases h:upN l i<0
 ·rw [if_pos h,kindV_neg l h]
  split
  ·rfl
  ·split
   ·have e:((255:Int) == ((50:Nat):Int))=false:=rfl
    have e2:((255:Int) == (50:Int))=false:=rfl
    rw [e,e2];rfl
   ·rfl
 ·rw [if_neg h];rfl
def rpRel (l:List Prt) (h:Hl) (w0:World) (nv iv:Value) (wr:World):Prop :=
 ∃ k n:Nat,iv=.int .i64 (k:Int)∧nv=.int .i64 (n:Int)∧k≤l.length∧n≤k∧placesF l h (l.length-k) k (n:Int)=placesZ l h∧Below w0.heap.size w0 wr
set_option maxRecDepth 100000 in
set_option maxHeartbeats 16000000 in
theorem ref_places (l:List Prt) (hl:l.length≤1000000000) (us:List Nat) (hus:rowsB l=some us) (v:Value) (h:Hl) (w:World) (hr:PartRow w v l) :
  Calls Tryz.prog 54 #[v,.agg #[.string h.1,.int .u8 (h.2:Int)]] w fun e w'=>e=.returned (.int .i64 (placesZ l h))∧Below w.heap.size w w':=by
 obtain ⟨hnm,hkd⟩:=h
 simp only []
 have HQ:RowKit.Hid (∀ z w',placesZ l (hnm,hkd)=z→Below w.heap.size w w'→(fun (e:Ending) w'=>e=.returned (.int .i64 (placesZ l (hnm,hkd)))∧Below w.heap.size w w') (.returned (.int .i64 z)) w'):=Hd fun z w' hz hb=>⟨by rw [hz],hb⟩
 generalize (fun (e:Ending) w'=>e=.returned (.int .i64 (placesZ l (hnm,hkd)))∧Below w.heap.size w w')=Q at *
 have hbx:Below w.heap.size w (w.alloc (.cells #[.string hnm,.int .u8 (hkd:Int)] 43)):=(Below.refl _ _).alloc (Nat.le_refl _) _
 have HBX:=Hd hbx
 have HX0:RowKit.Hid ((w.alloc (.cells #[.string hnm,.int .u8 (hkd:Int)] 43)).heap[w.heap.size]?=some (.cells #[.string hnm,.int .u8 (hkd:Int)] 43 (0,0))):=Hd (heap_alloc_new _ _)
 have HR:=Hd hr
 have CUP:=Hd (fun (i:Nat) (hi:i<l.length) W (hb:Below w.heap.size w W)=>ref_Up11 l hl us hus v i hi W (hr.below hb))
 have CKD:=Hd (fun (u:Int) (hu:u<l.length) W (hb:Below w.heap.size w W)=>ref_kind16 l hl v u hu W (hr.below hb))
 obtain ⟨va,vcap,rfl,hvc⟩:=hr.slice
 clear hr hbx
 go_enter Tryz.func54,Tryz.ntmps54
 go_upto_region 2 with (fail)
 generalize w.alloc (.cells #[.string hnm,.int .u8 (hkd:Int)] 43)=w1 at *
 go_wp2_with fail
 go_loopw [5,6] (fun nv iv wr=>rpRel l (hnm,hkd) w1 nv iv wr) (fun _ iv _=>l.length-(intOf iv).toNat)
 case atStart=>exact ⟨0,0,rfl,rfl,Nat.zero_le _,Nat.le_refl _,rfl,Below.refl _ _⟩
 case round =>
  obtain ⟨k,n,rfl,rfl,hk,hnk,hpf,hb⟩:=hrel
  have HB:=Hd hb
  have HPF:=Hd hpf
  clear hb hpf
  have HBW:RowKit.Hid (Below w.heap.size w wr):=Hd (HBX.out.trans (HB.out.mono HBX.out.size))
  by_cases hlt:k<l.length
  ·obtain ⟨b,off,rfl,_,_,hbl,hcell⟩:=HR.out.at (HBW.out) (show 0<l.length by omega)
   obtain ⟨d0,d1,d2⟩:=hcell k hlt
   have hs:=HPF.out
   rw [show l.length-k=(l.length-(k+1))+1 by omega,placesF,List.getElem?_eq_getElem hlt] at hs
   have HS:=Hd hs
   have CP:=Hd (fun W=>ref_Place l[k] hnm hkd W)
   have HPR:=Hd (show isPlace l[k] (hnm,hkd)=((l[k]).1 == 26&&decide ((l[k]).2.2=hnm)) from rfl)
   generalize hp:l[k]=p at *
   obtain ⟨a,c,s⟩:=p
   simp only [] at d0 d1 d2 CP HS HPR
   have hx1:=keeps HB.out HX0.out
   have g0:wr.cell? ⟨w.heap.size,0,none⟩=some (.string hnm):=by simp [World.cell?,hx1]
   have g1:wr.cell? ⟨w.heap.size,1,none⟩=some (.int .u8 (hkd:Int)):=by simp [World.cell?,hx1]
   have hk0:(0:Int)≤(k:Int):=by omega
   have hkl:(k:Int)<l.length:=by omega
   have hkc:(k:Int)<vcap:=by omega
   clear hcell hs hx1 hp
   go_upto_region 5 with (fail)
   go_still_tail 5,(by kernel_rfl)
   go_wp2_with fail
   refine (CP.out _).mono ?_
   rintro e w2 ⟨rfl,hb2⟩
   have HB2:=Hd (bthen HB.out.drew hb2)
   clear hb2 CP d0 d1 d2 g0 g1
   rw [← HPR.out]
   cases hpl:isPlace (a,c,s) (hnm,hkd) with
   | false =>
    have HX:RowKit.Hid (placesF l (hnm,hkd) (l.length-(k+1)) (k+1) (n:Int)=placesZ l (hnm,hkd)):=Hd (by have:=HS.out;rw [hpl] at this;simpa using this)
    clear hpl
    go_wp2_with fail
    exact ⟨⟨k+1,n,by push_cast;rfl,rfl,by omega,by omega,HX.out,HB2.out⟩,by simp only [intOf];omega⟩
   | true =>
   have HSO:RowKit.Hid (placeOK l hkd k=true→placesF l (hnm,hkd) (l.length-(k+1)) (k+1) ((n:Int)+1)=placesZ l (hnm,hkd)):=Hd fun e=>by have:=HS.out;rw [hpl,e] at this;simpa using this
   have HSN:RowKit.Hid (placeOK l hkd k=false→placesZ l (hnm,hkd)=-1):=Hd fun e=>by have:=HS.out;rw [hpl,e] at this;simpa using this.symm
   have HYES:RowKit.Hid (placeOK l hkd k=true→∀ W,Below w1.heap.size w1 W→rpRel l (hnm,hkd) w1 (.int .i64 ((n:Int)+1)) (.int .i64 ((k:Int)+1)) W):=Hd fun e W hb=>⟨k+1,n+1,by push_cast;rfl,by push_cast;rfl,by omega,by omega,by have:=HSO.out e;push_cast;exact this,hb⟩
   have HNO:RowKit.Hid (placeOK l hkd k=false→∀ W,Below w1.heap.size w1 W→Q (.returned (.int .i64 (-1))) W):=Hd fun e W hb=>HQ.out (-1) W (HSN.out e) (HBX.out.trans (hb.mono HBX.out.size))
   have HBW2:RowKit.Hid (Below w.heap.size w w2):=Hd ((HBX.out.trans (HB2.out.mono HBX.out.size)))
   have hx2:=keeps HB2.out HX0.out
   have g0:w2.cell? ⟨w.heap.size,0,none⟩=some (.string hnm):=by simp [World.cell?,hx2]
   have g1:w2.cell? ⟨w.heap.size,1,none⟩=some (.int .u8 (hkd:Int)):=by simp [World.cell?,hx2]
   have hge:=upN_ge l k
   have hlt2:=upN_less l k
   have HPK:=Hd (placeOK_ref l hkd k)
   have CU:=Hd (CUP.out k hlt w2 HBW2.out)
   have HUU:=Hd (show upI l k k=upN l k from rfl)
   rw [HUU.out] at CU
   have CKU:=Hd (CKD.out (upN l k) (by omega) w2 HBW2.out)
   have CKT:=Hd (CKD.out (topN l k) (by unfold topN;split;omega;have:=upN_less l (upN l k).toNat;omega) w2 HBW2.out)
   have HMS:RowKit.Hid (l.length-(k+1)<l.length-k):=Hd (by omega)
   have hwn:IntKind.i64.wrap ((n:Int)+1)=(n:Int)+1:=by rw [IntKind.wrap_i64];omega
   clear hx2 hpl
   go_wp2_with fail
   refine CU.out.mono ?_
   rintro e w3 ⟨rfl,rfl⟩
   clear CU
   by_cases hu:upN l k<0
   ·have ht:topN l k=-1:=by unfold topN;rw [if_pos hu]
    rw [ht] at CKT HPK
    have HU:=Hd (show 0≤upN l k→False from fun h=>by omega)
    have hx50:kindV l (upN l k)=255:=kindV_neg l hu
    rw [hx50] at CKU HPK
    clear ht hx50
    generalize upN l k=u at *
    generalize kindV l (-1)=y at *
    have hu0:¬ (0:Int)≤u:=fun h=>HU.out h
    clear hge hlt2
    by_cases k5:hkd=5
    ·subst k5
     have HZ:=Hd (HNO.out (by rw [HPK.out];rfl) w2 HB2.out)
     clear HYES HNO HSO HSN HPK
     go_wp2_with fail
     refine CKU.out.mono ?_
     rintro e w4 ⟨rfl,rfl⟩
     go_wp2_with fail
     exact HZ.out
    have f5:((hkd:Int) == 5)=false:=by rw [beq_eq_false_iff_ne];omega
    by_cases k7:hkd=7
    ·subst k7
     have HZ:=Hd (HNO.out (by rw [HPK.out];rfl) w2 HB2.out)
     clear HYES HNO HSO HSN HPK
     go_wp2_with fail
     refine CKU.out.mono ?_
     rintro e w4 ⟨rfl,rfl⟩
     go_wp2_with fail
     exact HZ.out
    have f7:((hkd:Int) == 7)=false:=by rw [beq_eq_false_iff_ne];omega
    by_cases k6:hkd=6
    ·subst k6
     have HZ:=Hd (HNO.out (by rw [HPK.out];rfl) w2 HB2.out)
     clear HYES HNO HSO HSN HPK
     go_wp2_with fail
     refine CKU.out.mono ?_
     rintro e w4 ⟨rfl,rfl⟩
     go_wp2_with fail
     refine CKU.out.mono ?_
     rintro e w4 ⟨rfl,rfl⟩
     go_wp2_with fail
     exact HZ.out
    have f6:((hkd:Int) == 6)=false:=by rw [beq_eq_false_iff_ne];omega
    have HZ:=Hd (HYES.out (by rw [HPK.out];rw [if_neg k5,if_neg k7,if_neg k6]) w2 HB2.out)
    clear HYES HNO HSO HSN HPK
    go_wp2_with fail
    refine ⟨?_,by have:=HMS.out;first | (simp only [intOf];omega) | (simp [intOf];omega) | exact this⟩
    first
     | exact HZ.out
     | (repeat apply Exists.intro
        refine ⟨?_,rfl⟩
        exact HZ.out)
   ·obtain ⟨j,hj⟩:∃ j:Nat,upN l k=(j:Int):=⟨(upN l k).toNat,by omega⟩
    have ht:topN l k=upN l j:=by unfold topN;rw [if_neg hu,hj,Int.toNat_natCast]
    rw [ht] at CKT HPK
    have CU2:=Hd (CUP.out j (by omega) w2 HBW2.out)
    rw [show upI l j j=upN l j from rfl] at CU2
    rw [hj] at CKU HPK ⊢
    have hu0:(0:Int)≤(j:Int):=by omega
    clear ht hj hge hlt2 hu
    generalize upN l j=u2 at *
    generalize kindV l u2=y at *
    generalize kindV l (j:Int)=x at *
    by_cases k5:hkd=5
    ·subst k5
     cases hx:x == 50 with
     | true =>
      have hx2:(x != 50)=false:=by rw [bne_eq_false_iff_eq];exact eq_of_beq hx
      have HZ:=Hd (HYES.out (by rw [HPK.out];rw [if_pos rfl];exact hx) w2 HB2.out)
      clear HYES HNO HSO HSN HPK
      go_wp2_with fail
      refine CU2.out.mono ?_
      rintro e w4 ⟨rfl,rfl⟩
      go_wp2_with fail
      refine CKU.out.mono ?_
      rintro e w4 ⟨rfl,rfl⟩
      go_wp2_with fail
      refine ⟨?_,by have:=HMS.out;first | (simp only [intOf];omega) | (simp [intOf];omega) | exact this⟩
      first
       | exact HZ.out
       | (repeat apply Exists.intro
          refine ⟨?_,rfl⟩
          exact HZ.out)
     | false =>
      have hx2:(x != 50)=true:=by rw [bne_iff_ne];exact ne_of_beq_false hx
      have HZ:=Hd (HNO.out (by rw [HPK.out];rw [if_pos rfl];exact hx) w2 HB2.out)
      clear HYES HNO HSO HSN HPK
      go_wp2_with fail
      refine CU2.out.mono ?_
      rintro e w4 ⟨rfl,rfl⟩
      go_wp2_with fail
      refine CKU.out.mono ?_
      rintro e w4 ⟨rfl,rfl⟩
      go_wp2_with fail
      exact HZ.out
    have f5:((hkd:Int) == 5)=false:=by rw [beq_eq_false_iff_ne];omega
    by_cases k7:hkd=7
    ·subst k7
     cases hx:x == 50 with
     | true =>
      have hx2:(x != 50)=false:=by rw [bne_eq_false_iff_eq];exact eq_of_beq hx
      cases hy:y == 13 with
      | true =>
       have hy2:(y != 13)=false:=by rw [bne_eq_false_iff_eq];exact eq_of_beq hy
       have HZ:=Hd (HYES.out (by rw [HPK.out];rw [if_neg (by omega),if_pos rfl,hx,hy];rfl) w2 HB2.out)
       clear HYES HNO HSO HSN HPK
       go_wp2_with fail
       refine CU2.out.mono ?_
       rintro e w4 ⟨rfl,rfl⟩
       go_wp2_with fail
       refine CKU.out.mono ?_
       rintro e w4 ⟨rfl,rfl⟩
       go_wp2_with fail
       refine CKT.out.mono ?_
       rintro e w4 ⟨rfl,rfl⟩
       go_wp2_with fail
       refine ⟨?_,by have:=HMS.out;first | (simp only [intOf];omega) | (simp [intOf];omega) | exact this⟩
       first
        | exact HZ.out
        | (repeat apply Exists.intro
           refine ⟨?_,rfl⟩
           exact HZ.out)
      | false =>
       have hy2:(y != 13)=true:=by rw [bne_iff_ne];exact ne_of_beq_false hy
       have HZ:=Hd (HNO.out (by rw [HPK.out];rw [if_neg (by omega),if_pos rfl,hx,hy];rfl) w2 HB2.out)
       clear HYES HNO HSO HSN HPK
       go_wp2_with fail
       refine CU2.out.mono ?_
       rintro e w4 ⟨rfl,rfl⟩
       go_wp2_with fail
       refine CKU.out.mono ?_
       rintro e w4 ⟨rfl,rfl⟩
       go_wp2_with fail
       refine CKT.out.mono ?_
       rintro e w4 ⟨rfl,rfl⟩
       go_wp2_with fail
       exact HZ.out
     | false =>
      have hx2:(x != 50)=true:=by rw [bne_iff_ne];exact ne_of_beq_false hx
      have HZ:=Hd (HNO.out (by rw [HPK.out];rw [if_neg (by omega),if_pos rfl,hx];rfl) w2 HB2.out)
      clear HYES HNO HSO HSN HPK
      go_wp2_with fail
      refine CU2.out.mono ?_
      rintro e w4 ⟨rfl,rfl⟩
      go_wp2_with fail
      refine CKU.out.mono ?_
      rintro e w4 ⟨rfl,rfl⟩
      go_wp2_with fail
      exact HZ.out
    have f7:((hkd:Int) == 7)=false:=by rw [beq_eq_false_iff_ne];omega
    by_cases k6:hkd=6
    ·subst k6
     cases hx:x == 11 with
     | true =>
      have hx2:(x != 11)=false:=by rw [bne_eq_false_iff_eq];exact eq_of_beq hx
      have HZ:=Hd (HYES.out (by rw [HPK.out];rw [if_neg (by omega),if_neg (by omega),if_pos rfl,hx];rfl) w2 HB2.out)
      clear HYES HNO HSO HSN HPK
      go_wp2_with fail
      refine CU2.out.mono ?_
      rintro e w4 ⟨rfl,rfl⟩
      go_wp2_with fail
      refine CKU.out.mono ?_
      rintro e w4 ⟨rfl,rfl⟩
      go_wp2_with fail
      refine ⟨?_,by have:=HMS.out;first | (simp only [intOf];omega) | (simp [intOf];omega) | exact this⟩
      first
       | exact HZ.out
       | (repeat apply Exists.intro
          refine ⟨?_,rfl⟩
          exact HZ.out)
     | false =>
      have hx2:(x != 11)=true:=by rw [bne_iff_ne];exact ne_of_beq_false hx
      cases hy:x == 12 with
      | true =>
       have hy2:(x != 12)=false:=by rw [bne_eq_false_iff_eq];exact eq_of_beq hy
       have HZ:=Hd (HYES.out (by rw [HPK.out];rw [if_neg (by omega),if_neg (by omega),if_pos rfl,hx,hy];rfl) w2 HB2.out)
       clear HYES HNO HSO HSN HPK
       go_wp2_with fail
       refine CU2.out.mono ?_
       rintro e w4 ⟨rfl,rfl⟩
       go_wp2_with fail
       refine CKU.out.mono ?_
       rintro e w4 ⟨rfl,rfl⟩
       go_wp2_with fail
       refine CKU.out.mono ?_
       rintro e w4 ⟨rfl,rfl⟩
       go_wp2_with fail
       refine ⟨?_,by have:=HMS.out;first | (simp only [intOf];omega) | (simp [intOf];omega) | exact this⟩
       first
        | exact HZ.out
        | (repeat apply Exists.intro
           refine ⟨?_,rfl⟩
           exact HZ.out)
      | false =>
       have hy2:(x != 12)=true:=by rw [bne_iff_ne];exact ne_of_beq_false hy
       have HZ:=Hd (HNO.out (by rw [HPK.out];rw [if_neg (by omega),if_neg (by omega),if_pos rfl,hx,hy];rfl) w2 HB2.out)
       clear HYES HNO HSO HSN HPK
       go_wp2_with fail
       refine CU2.out.mono ?_
       rintro e w4 ⟨rfl,rfl⟩
       go_wp2_with fail
       refine CKU.out.mono ?_
       rintro e w4 ⟨rfl,rfl⟩
       go_wp2_with fail
       refine CKU.out.mono ?_
       rintro e w4 ⟨rfl,rfl⟩
       go_wp2_with fail
       exact HZ.out
    have f6:((hkd:Int) == 6)=false:=by rw [beq_eq_false_iff_ne];omega
    have HZ:=Hd (HYES.out (by rw [HPK.out];rw [if_neg k5,if_neg k7,if_neg k6]) w2 HB2.out)
    clear HYES HNO HSO HSN HPK
    go_wp2_with fail
    refine CU2.out.mono ?_
    rintro e w4 ⟨rfl,rfl⟩
    go_wp2_with fail
    refine ⟨?_,by have:=HMS.out;first | (simp only [intOf];omega) | (simp [intOf];omega) | exact this⟩
    first
     | exact HZ.out
     | (repeat apply Exists.intro
        refine ⟨?_,rfl⟩
        exact HZ.out)
  ·have hkl:k=l.length:=by omega
   subst hkl
   have hz:=HPF.out
   rw [Nat.sub_self,placesF] at hz
   have HX:=Hd (HQ.out _ wr hz.symm HBW.out)
   go_wp2_with fail
   exact HX.out
end Go.Proofs.YtmklemelgdilkaaGreatDoor
namespace Go.Proofs.YtmklemelgdilkaaGreatDoor
set_option linter.all false

section
variable {l:List Prt}
def upsAt (l:List Prt) (i k j:Nat):Int:=if j=0 then -1 else if upN l j<(i:Int)∨(upN l j=(i:Int)∧j<k) then upN l j else 0
def upsE (l:List Prt) (i k:Nat):List Int:=(List.range l.length).map (upsAt l i k)
theorem upsE_at {i k j:Nat} (h:j<(upsE l i k).length):(upsE l i k)[j]=upsAt l i k j:=by simp [upsE]
theorem upsE_set {us:List Nat} (hl:rowsB l=some us) {i k:Nat} (hi:i<l.length) (h1:i<k) (h2:k<endB l i) (hu:upN l k=(i:Int)):(upsE l i k).set k (i:Int)=upsE l i (endB l k):=by
 have hg:=endB_gt hl hi
 have hk:=endB_gt hl (show k<l.length by omega)
 apply List.ext_getElem (by simp [upsE])
 intro j g1 g2
 simp [upsE] at g1
 rw [List.getElem_set,upsE_at,upsE_at]
 unfold upsAt
 by_cases e:k=j
 ·subst e
  rw [if_pos rfl,if_neg (by omega),if_pos (Or.inr ⟨hu,hk.1⟩),hu]
 ·rw [if_neg e]
  by_cases j0:j=0
  ·rw [if_pos j0,if_pos j0]
  ·rw [if_neg j0,if_neg j0]
   congr 1
   apply propext
   constructor
   ·rintro (g | ⟨g,g3⟩)
    ·exact Or.inl g
    ·exact Or.inr ⟨g,by omega⟩
   ·rintro (g | ⟨g,g3⟩)
    ·exact Or.inl g
    ·refine Or.inr ⟨g,?_⟩
     apply Classical.byContradiction
     intro hc
     unfold upN at g
     have:=(up_max l g).2.2 k (by omega) (by omega)
     omega
theorem upsE_next {us:List Nat} (hl:rowsB l=some us) {i k:Nat} (hi:i<l.length) (h2:endB l i≤k):upsE l i k=upsE l (i+1) (i+1+1):=by
 unfold upsE
 apply List.map_congr_left
 intro j hj
 unfold upsAt
 by_cases j0:j=0
 ·rw [if_pos j0,if_pos j0]
 ·rw [if_neg j0,if_neg j0]
  congr 1
  apply propext
  have key:∀ a:Nat,upN l j=(a:Int)→a<j∧j<endB l a:=fun a g=>by
   unfold upN at g
   have:=up_max l g
   exact ⟨this.1,this.2.1⟩
  constructor
  ·rintro (g | ⟨g,_⟩)
   ·exact Or.inl (by push_cast;omega)
   ·exact Or.inl (by push_cast;omega)
  ·rintro (g | ⟨g,g3⟩)
   ·push_cast at g
    by_cases e:upN l j=(i:Int)
    ·exact Or.inr ⟨e,by have:=(key i e).2;omega⟩
    ·exact Or.inl (by omega)
   ·have:=key (i+1) g
    omega
theorem upsE_start' (hw:wellB l=true):upsE l 0 1=(List.replicate l.length (0:Int)).set 0 (-1):=by
 apply List.ext_getElem (by simp [upsE])
 intro j g1 g2
 simp [upsE] at g1
 rw [List.getElem_set,upsE_at,List.getElem_replicate]
 unfold upsAt
 by_cases e:0=j
 ·subst e;rfl
 ·rw [if_neg (by omega),if_neg e,if_neg]
  have:=up_pos hw g1 j (by omega)
  have:0≤upN l j:=this
  omega
theorem upsE_end {k:Nat}:upsE l l.length k=(List.range l.length).map (upN l):=by
 unfold upsE
 apply List.map_congr_left
 intro j hj
 rw [List.mem_range] at hj
 unfold upsAt
 by_cases e:j=0
 ·subst e;rfl
 ·rw [if_neg e,if_pos]
  have:=upN_less l j
  exact Or.inl (by omega)
theorem up_kid {us:List Nat} (hl:rowsB l=some us) {i:Nat} (hi:i<l.length):∀ n,(∀ m,m≤n→kidAt l m (i+1)<endB l i)→i<kidAt l n (i+1)∧∀ j,i<j→j<kidAt l n (i+1)→endB l j≤kidAt l n (i+1)
 | 0,_=>⟨by show i<i+1;omega,fun j h1 h2=>by have:j<i+1:=h2;omega⟩
 | n+1,h=>by
  obtain ⟨h1,h2⟩:=up_kid hl hi n (fun m hm=>h m (by omega))
  have hg:=endB_gt hl hi
  have hn:=h n (by omega)
  have hk:=endB_gt hl (show kidAt l n (i+1)<l.length by omega)
  rw [kidAt_snoc]
  refine ⟨by omega,fun j g1 g2=>?_⟩
  rcases Nat.lt_trichotomy j (kidAt l n (i+1)) with c | c | c
  ·have:=h2 j g1 c;omega
  ·rw [c];exact Nat.le_refl _
  ·exact end_within hl (show kidAt l n (i+1)<l.length by omega) (Nat.le_of_lt c) g2
theorem up_kid' {us:List Nat} (hl:rowsB l=some us) {i:Nat} (hi:i<l.length) {n:Nat} (h:∀ m,m≤n→kidAt l m (i+1)<endB l i):upN l (kidAt l n (i+1))=(i:Int):=by
 obtain ⟨h1,h2⟩:=up_kid hl hi n h
 exact up_of hl hi h1 (h n (Nat.le_refl _)) h2
end
section
variable (l:List Prt)
def moreL (A:List Mk):List Int:=(List.range l.length).map fun i=>moreAt l A i
theorem moreL_len (A:List Mk):(moreL l A).length=l.length:=by simp [moreL]
theorem moreL_at {A:List Mk} {j:Nat} (h:j<(moreL l A).length):(moreL l A)[j]=moreAt l A j:=by simp [moreL]
theorem moreL_nil:moreL l []=List.replicate l.length 0:=by
 apply List.ext_getElem (by simp [moreL])
 intro j g1 g2
 simp [moreL,moreAt]
theorem moreAt_snoc (x:Nat) (m:List PN) (d:Int) (i:Nat):∀ A:List Mk,moreAt l (A++[(x,m,d)]) i=moreAt l A i+(if 0<x∧upN l x=(i:Int) then d else 0)
 | []=>by simp [moreAt]
 | (y,m',d')::A=>by rw [List.cons_append,moreAt,moreAt,moreAt_snoc x m d i A];omega
theorem moreL_snoc (A:List Mk) {x u:Nat} (m:List PN) (d:Int) (hx:0<x) (hu:upN l x=(u:Int)) (hul:u<l.length):moreL l (A++[(x,m,d)])=(moreL l A).set u (moreAt l A u+d):=by
 apply List.ext_getElem (by simp [moreL])
 intro j g1 g2
 rw [List.getElem_set,moreL_at,moreL_at,moreAt_snoc]
 by_cases e:u=j
 ·subst e;rw [if_pos rfl,if_pos ⟨hx,hu⟩]
 ·rw [if_neg e,if_neg (fun h=>e (by omega))];omega
theorem moreL_top (A:List Mk) (m:List PN) (d:Int):moreL l (A++[(0,m,d)])=moreL l A:=by
 unfold moreL
 apply List.map_congr_left
 intro j _
 rw [moreAt_snoc,if_neg (fun h=>by omega)];omega
theorem moreAt_bd (i:Nat):∀ A:List Mk,(∀ p∈A,-1≤p.2.2∧p.2.2≤131072)→-((A.length:Int)*131072)≤moreAt l A i∧moreAt l A i≤(A.length:Int)*131072
 | [],_=>by simp [moreAt]
 | (x,m,d)::A,h=>by
  have h1:=h (x,m,d) (by simp)
  have h2:=moreAt_bd i A (fun p hp=>h p (by simp [hp]))
  simp only [] at h1
  rw [moreAt,List.length_cons]
  push_cast
  split <;> omega
def laterS:List Mk→Int
 | []=>0
 | (x,m,_)::P=>(m.length:Int)-((endB l x:Int)-x)+laterS P
theorem laterZ_sum:∀ (P:List Mk) (a:Nat),laterZ l P a=(l.length:Int)-a+laterS l P
 | [],a=>by rw [laterZ,laterS];omega
 | (x,m,d)::P,a=>by rw [laterZ,laterS,laterZ_sum P];omega
theorem take_snocX {α:Type} (L:List α) {n:Nat} (h:n<L.length):L.take (n+1)=L.take n++[L[n]]:=by
 rw [List.take_succ,List.getElem?_eq_getElem h];rfl
end
theorem treesP_bd {r:RuleM} {l:List Prt} {bs:List Bnd} (hr:ruleZ r=0) (hb:rightB r l bs=true) (hv:∀ h,∃ ts,rowsB (piece l (bOf bs h).1 (bOf bs h).2)=some ts):0≤treesP r l bs∧treesP r l bs≤(outP r l bs).length:=by
 obtain ⟨ts,h⟩:=trees_out hr (right_in hb) hv
 unfold treesP
 rw [treesZ_of h]
 have:=(rowsB_sum h).2.1
 rw [List.length_map] at this
 omega
end Go.Proofs.YtmklemelgdilkaaGreatDoor
