/- Layer 5: the program's functions, walked: base 16, base 10. (Printed by gennum3.py.) -/
import Derived.Test.YtfalelkfhandfaaGreatDoorPackMs
import Derived.Test.YtfalelkfhandfaaGreatDoorNumMs
namespace Go.Proofs.YtfalelkfhandfaaGreatDoor
set_option maxRecDepth 100000
set_option maxHeartbeats 32000000
set_option linter.all false
open Go.RowKit

theorem xU (t:ByteArray) (i:Int) (k:Nat) (h:i=k) (hk:k≤t.size) (w:World) :
  (Instr.slice 9 (.string t) (some (.int .i64 i)) none none).run Tryz.prog w=.ok (.string (t.extract k t.size)) w:=by
 subst h
 rw [run_slice_string_from_if _ _ t _ _ Tryz.underlying9,if_pos ⟨by omega,by omega⟩,Int.toNat_natCast]
def sixF (ok u:Bool) (N K P len:Nat):Nat:=if ok=true then 3 else if N=0∧u=true then 0 else if K≠0∧N+(K-1)=0 then 0 else if K=0∧N=0 then 0 else if 0<P∧N+K+P=len then 4 else 0
def tenF (full one:Bool) (w8 N K P len:Nat):Nat:=if full=true then (if one=true then 3 else w8) else if K≠0∧N+(K-1)=0 then 0 else if 0<N+K∧0<K+P∧N+K+P=len then 4 else 0
theorem zCr {u:Bool} {N K P len:Nat} (h1:u=true→N≠0) (h2:¬ (K≠0∧N+(K-1)=0)) (h3:¬ (K=0∧N=0)) (h4:0<P) (h5:N+K+P=len):sixF false u N K P len=4:=by
 unfold sixF
 rw [if_neg (by simp),if_neg (fun h=>h1 h.2 h.1),if_neg h2,if_neg h3,if_pos ⟨h4,h5⟩]
theorem kC {u:Bool} {N K P len:Nat} (h:(K≠0∧N+(K-1)=0)∨(K=0∧N=0)∨¬ (0<P∧N+K+P=len)):sixF false u N K P len=0:=by
 unfold sixF
 rw [if_neg (by simp)]
 split
 ·rfl
 ·split
  ·rfl
  ·split
   ·rfl
   ·rw [if_neg (by omega)]
theorem zLr (s:ByteArray):Lib.hasPrefix s.data.toList [95]=decide ((zA s).head?=some 95):=by
 rw [Bool.eq_iff_iff,zAr,zLq,decide_eq_true_eq]
theorem yBe (s:ByteArray):zX (zA s)=sixF (rowOK 16 (zA (bareS s))) (Lib.hasPrefix s.data.toList [95]) (rowL 16 (zA (bareS s))) (tailK 16 (zA (bareS s)))
  (powL 112 80 ((zA (bareS s)).drop (rowL 16 (zA (bareS s))+tailK 16 (zA (bareS s))))) (bareS s).size:=by
 unfold zX sixF noDigit
 rw [← zBz,zH,zLr]
 simp only [decide_eq_true_eq]
theorem zZq (s:ByteArray):tenL (zA s)=tenF (decide (rowL 10 (zA s)=s.size∧0<rowL 10 (zA s))) (decide ((zA s).head?≠some 48∨rowL 10 (zA s)=1)) (wholeL 8 ((zA s).drop 1)) (rowL 10 (zA s)) (tailK 10 (zA s))
  (powL 101 69 ((zA s).drop (rowL 10 (zA s)+tailK 10 (zA s)))) s.size:=by
 unfold tenL tenF noDigit
 rw [zH]
 simp only [decide_eq_true_eq]
theorem zJw (b:Nat) (t:ByteArray) (h:rowL b (zA t)<t.size) (hp:bt t (rowL b (zA t))=46):tailK b (zA t)=rowL b ((zA t).drop (rowL b (zA t)+1))+1:=by
 unfold tailK
 rw [kG t _ h,if_pos (by rw [hp])]
theorem zNn (b:Nat) (t:ByteArray) (h:¬ (rowL b (zA t)<t.size∧bt t (rowL b (zA t))=46)):tailK b (zA t)=0:=by
 unfold tailK
 rw [if_neg]
 intro hh
 by_cases hl:rowL b (zA t)<t.size
 ·rw [kG t _ hl] at hh
  exact h ⟨hl,by simpa using hh⟩
 ·rw [zJv t _ (by omega)] at hh;cases hh
theorem zHc (s:ByteArray) (hs:s.size≤2147483647) (w:World) :
  Calls Tryz.prog 139 #[.string s] w fun e w'=>e=.returned (.int .u8 (zX (zA s):Nat))∧Below w.heap.size w w':=by
 have HQ:Hid (∀ w' n,zX (zA s)=n→Below w.heap.size w w'→(fun (e:Ending) w'=>e=.returned (.int .u8 (zX (zA s):Nat))∧Below w.heap.size w w') (.returned (.int .u8 (n:Nat))) w'):=Hd fun w' n h h2=>⟨by rw [h],h2⟩
 generalize (fun (e:Ending) w'=>e=.returned (.int .u8 (zX (zA s):Nat))∧Below w.heap.size w w')=Q at *
 have CT:Hid (∀ w,Calls Tryz.prog 157 #[.string s,.string ⟨#[95]⟩] w fun e w'=>e=.returned (.string (bareS s))∧w'=w):=Hd fun w=>Tryz.strings_TrimPrefix s ⟨#[95]⟩ w
 have CH:Hid (∀ w,Calls Tryz.prog 158 #[.string s,.string ⟨#[95]⟩] w fun e w'=>e=.returned (.bool (Lib.hasPrefix s.data.toList [95]))∧w'=w):=Hd fun w=>Tryz.strings_HasPrefix s ⟨#[95]⟩ w
 have CW:=zAs s 16 (by omega) hs w
 have HV:=Hd (yBe s)
 have hwl:wholeL 16 (zA s)=if rowOK 16 (zA (bareS s))=true then 3 else 0:=by unfold wholeL;rw [← zBz]
 rw [hwl] at CW
 have hsz:=zHb s
 generalize Lib.hasPrefix s.data.toList [95]=u at *
 generalize bareS s=t at *
 have CR:=Hd (fun w=>kU t 16 (by omega) (by omega) w)
 have CR2:=Hd (fun i w=>kU (t.extract i t.size) 16 (by omega) (by rw [ByteArray.size_extract];omega) w)
 have CP:=Hd (fun i w=>zDh (t.extract i t.size) 112 80 (by rw [ByteArray.size_extract];omega) w)
 have hN:=kI 16 (zA t)
 rw [zH] at hN
 have hKle:=zDi 16 (zA t)
 rw [zH] at hKle
 have HKy:=Hd (zJw 16 t)
 have HKn:=Hd (zNn 16 t)
 generalize rowOK 16 (zA t)=ok at *
 clear hwl
 cases ok with
 | true =>
  rw [if_pos rfl] at CW
  have CWh:=Hd CW
  clear CW
  go_enter Tryz.func139,Tryz.ntmps139
  go_wp2_with fail
  refine CWh.out.mono ?_
  rintro e w1 ⟨rfl,hb1⟩
  have HB1:=Hd hb1
  clear hb1
  go_wp2_with fail
  show Q (.returned (.int .u8 3)) _
  exact HQ.out _ 3 (by rw [HV.out];rfl) HB1.out
 | false =>
  rw [if_neg (by simp)] at CW
  have CWh:=Hd CW
  clear CW
  generalize hNe:rowL 16 (zA t)=N at *
  have HNe:=Hd hNe
  clear hNe
  cases u with
  | true =>
   by_cases hN0:N=0
   ·subst hN0
    have HV2:Hid (zX (zA s)=0):=Hd (by rw [HV.out];unfold sixF;simp)
    clear HV HKy HKn
    go_enter Tryz.func139,Tryz.ntmps139
    go_wp2_with fail
    refine (CWh.out).mono ?_
    rintro e w1 ⟨rfl,hb1⟩
    have HB1:=Hd (hb1)
    clear hb1
    go_wp2_with fail
    refine (CH.out _).mono ?_
    rintro e w2 ⟨rfl,rfl⟩
    go_wp2_with fail
    refine (CT.out _).mono ?_
    rintro e w2 ⟨rfl,rfl⟩
    go_wp2_with fail
    refine mB (CR.out _) HB1.out fun w3 HB3=>?_
    go_wp2_with fail
    show Q (.returned (.int .u8 0)) _
    exact HQ.out _ 0 HV2.out HB3.out
   ·have hNb:((N:Int) == 0)=false:=by rw [beq_eq_false_iff_ne];omega
    have hNz:¬ (N:Int)=0:=by omega
    have HN0:=Hd hN0
    clear hN0
    by_cases hpt:N<t.size∧bt t N=46
    ·obtain ⟨hlt,hpt⟩:=hpt
     have hK:=HKy.out hlt hpt
     clear HKy HKn
     have CR3:=CR2.out (N+1)
     rw [xL] at CR3
     generalize rowL 16 ((zA t).drop (N+1))=k0 at *
     have CRh:=Hd CR3
     have CPh:=CP.out (N+(k0+1))
     rw [xL] at CPh
     rw [hK] at HV hKle
     clear CR3 CR2 CP hK
     have CP2:Hid (∀ w,Calls Tryz.prog 159 #[.string (t.extract (N+(k0+1)) t.size),.string ⟨#[112,80]⟩] w fun e w'=>e=.returned (.int .i64 (powL 112 80 ((zA t).drop (N+(k0+1))):Nat))∧Below w.heap.size w w'):=Hd CPh
     clear CPh
     have hPle:=gL 112 80 ((zA t).drop (N+(k0+1)))
     rw [List.length_drop,zH] at hPle
     generalize powL 112 80 ((zA t).drop (N+(k0+1)))=P at *
     have hlt':(N:Int)<t.size:=by omega
     have hN0':(0:Int)≤N:=by omega
     have yN:∀ h,((t[N]'h).toNat:Int)=46:=fun h=>by rw [yH t N h,hpt];rfl
     have hs1:=fun w=>xU t ((N:Int)+1) (N+1) (by omega) (by omega) w
     have hs2:=fun w=>xU t ((N:Int)+((k0:Int)+1)) (N+(k0+1)) (by omega) (by omega) w
     by_cases hz:N+k0=0
     ·have hzb:(((N:Int)+(k0:Int)) == 0)=true:=by simp;omega
      have HV2:Hid (zX (zA s)=0):=Hd (by have hz0:=HN0.out;rw [HV.out];exact kC (by omega))
      have HZ:=Hd hz
      clear HV hpt hz
      go_enter Tryz.func139,Tryz.ntmps139
      go_wp2_with fail
      refine (CWh.out).mono ?_
      rintro e w1 ⟨rfl,hb1⟩
      have HB1:=Hd (hb1)
      clear hb1
      go_wp2_with fail
      refine (CH.out _).mono ?_
      rintro e w2 ⟨rfl,rfl⟩
      go_wp2_with fail
      refine (CT.out _).mono ?_
      rintro e w2 ⟨rfl,rfl⟩
      go_wp2_with fail
      refine mB (CR.out _) HB1.out fun w3 HB3=>?_
      go_wp2_with fail
      refine mB (CRh.out _) HB3.out fun w4 HB4=>?_
      go_wp2_with fail
      show Q (.returned (.int .u8 0)) _
      exact HQ.out _ 0 HV2.out HB4.out
     ·have hzb:(((N:Int)+(k0:Int)) == 0)=false:=by rw [beq_eq_false_iff_ne];omega
      have hzn:¬ ((N:Int)+(k0:Int))=0:=by omega
      generalize hKe:k0+1=K at *
      have HKe:=Hd hKe
      clear hpt
      go_enter Tryz.func139,Tryz.ntmps139
      go_wp2_with fail
      refine (CWh.out).mono ?_
      rintro e w1 ⟨rfl,hb1⟩
      have HB1:=Hd (hb1)
      clear hb1
      go_wp2_with fail
      refine (CH.out _).mono ?_
      rintro e w2 ⟨rfl,rfl⟩
      go_wp2_with fail
      refine (CT.out _).mono ?_
      rintro e w2 ⟨rfl,rfl⟩
      go_wp2_with fail
      refine mB (CR.out _) HB1.out fun w3 HB3=>?_
      go_wp2_with fail
      refine mB (CRh.out _) HB3.out fun w4 HB4=>?_
      go_wp2_with fail
      refine mB (CP2.out _) HB4.out fun w5 HB5=>?_
      have hkz:((k0:Int)+1)=(K:Int):=by omega
      by_cases hp:0<P
      ·have hp1:(0:Int)<P:=by omega
       by_cases hl:N+K+P=t.size
       ·have hl1:(((N:Int)+((k0:Int)+1)+P) == (t.size:Int))=true:=by simp;omega
        have HV2:Hid (zX (zA s)=4):=Hd (by have hz0:=HN0.out;rw [HV.out];exact zCr (by first | (intro _;omega) | (intro h;cases h)) (by omega) (by omega) (by omega) (by omega))
        clear hl HV
        go_wp2_with fail
        show Q (.returned (.int .u8 4)) _
        exact HQ.out _ 4 HV2.out HB5.out
       ·have hl1:(((N:Int)+((k0:Int)+1)+P) == (t.size:Int))=false:=by rw [beq_eq_false_iff_ne];omega
        have HV2:Hid (zX (zA s)=0):=Hd (by have hz0:=HN0.out;rw [HV.out];exact kC (by omega))
        clear hl HV
        go_wp2_with fail
        show Q (.returned (.int .u8 0)) _
        exact HQ.out _ 0 HV2.out HB5.out
      ·have hp1:¬ (0:Int)<P:=by omega
       have HV2:Hid (zX (zA s)=0):=Hd (by have hz0:=HN0.out;rw [HV.out];exact kC (by omega))
       clear HV
       go_wp2_with fail
       show Q (.returned (.int .u8 0)) _
       exact HQ.out _ 0 HV2.out HB5.out
    ·have hK:=HKn.out hpt
     rw [hK] at HV hKle
     clear HKy HKn hK CR2
     have CPh:=CP.out N
     rw [xL] at CPh
     clear CP
     have CP2:Hid (∀ w,Calls Tryz.prog 159 #[.string (t.extract N t.size),.string ⟨#[112,80]⟩] w fun e w'=>e=.returned (.int .i64 (powL 112 80 ((zA t).drop N):Nat))∧Below w.heap.size w w'):=Hd CPh
     clear CPh
     have hPle:=gL 112 80 ((zA t).drop N)
     rw [List.length_drop,zH] at hPle
     rw [Nat.add_zero] at HV
     generalize powL 112 80 ((zA t).drop N)=P at *
     have hN0':(0:Int)≤N:=by omega
     have hs2:=fun w=>xU t (N:Int) N rfl hN w
     by_cases hlt:N<t.size
     ·have hlt':(N:Int)<t.size:=by omega
      have yN:∀ h,((t[N]'h).toNat:Int)=(bt t N:Int):=fun h=>by rw [yH t N h]
      have hne:bt t N≠46:=fun h=>hpt ⟨hlt,h⟩
      have hne1:¬ (bt t N:Int)=46:=by omega
      have hneb:((bt t N:Int) == 46)=false:=by rw [beq_eq_false_iff_ne];exact hne1
      clear hpt
      generalize bt t N=cN at *
      go_enter Tryz.func139,Tryz.ntmps139
      go_wp2_with fail
      refine (CWh.out).mono ?_
      rintro e w1 ⟨rfl,hb1⟩
      have HB1:=Hd (hb1)
      clear hb1
      go_wp2_with fail
      refine (CH.out _).mono ?_
      rintro e w2 ⟨rfl,rfl⟩
      go_wp2_with fail
      refine (CT.out _).mono ?_
      rintro e w2 ⟨rfl,rfl⟩
      go_wp2_with fail
      refine mB (CR.out _) HB1.out fun w3 HB3=>?_
      go_wp2_with fail
      refine mB (CP2.out _) HB3.out fun w5 HB5=>?_
      by_cases hp:0<P
      ·have hp1:(0:Int)<P:=by omega
       by_cases hl:N+P=t.size
       ·have hl1:(((N:Int)+(P:Int)) == (t.size:Int))=true:=by simp;omega
        have HV2:Hid (zX (zA s)=4):=Hd (by have hz0:=HN0.out;rw [HV.out];exact zCr (by first | (intro _;omega) | (intro h;cases h)) (by omega) (by omega) (by omega) (by omega))
        clear hl HV
        go_wp2_with fail
        show Q (.returned (.int .u8 4)) _
        exact HQ.out _ 4 HV2.out HB5.out
       ·have hl1:(((N:Int)+(P:Int)) == (t.size:Int))=false:=by rw [beq_eq_false_iff_ne];omega
        have hl2:¬ ((N:Int)+(P:Int))=(t.size:Int):=by omega
        have HV2:Hid (zX (zA s)=0):=Hd (by have hz0:=HN0.out;rw [HV.out];exact kC (by omega))
        clear hl HV
        go_wp2_with fail
        show Q (.returned (.int .u8 0)) _
        exact HQ.out _ 0 HV2.out HB5.out
      ·have hp1:¬ (0:Int)<P:=by omega
       have HV2:Hid (zX (zA s)=0):=Hd (by have hz0:=HN0.out;rw [HV.out];exact kC (by omega))
       clear HV
       go_wp2_with fail
       show Q (.returned (.int .u8 0)) _
       exact HQ.out _ 0 HV2.out HB5.out
     ·have hlt':¬ (N:Int)<t.size:=by omega
      clear hpt
      go_enter Tryz.func139,Tryz.ntmps139
      go_wp2_with fail
      refine (CWh.out).mono ?_
      rintro e w1 ⟨rfl,hb1⟩
      have HB1:=Hd (hb1)
      clear hb1
      go_wp2_with fail
      refine (CH.out _).mono ?_
      rintro e w2 ⟨rfl,rfl⟩
      go_wp2_with fail
      refine (CT.out _).mono ?_
      rintro e w2 ⟨rfl,rfl⟩
      go_wp2_with fail
      refine mB (CR.out _) HB1.out fun w3 HB3=>?_
      go_wp2_with fail
      refine mB (CP2.out _) HB3.out fun w5 HB5=>?_
      by_cases hp:0<P
      ·have hp1:(0:Int)<P:=by omega
       by_cases hl:N+P=t.size
       ·have hl1:(((N:Int)+(P:Int)) == (t.size:Int))=true:=by simp;omega
        have HV2:Hid (zX (zA s)=4):=Hd (by have hz0:=HN0.out;rw [HV.out];exact zCr (by first | (intro _;omega) | (intro h;cases h)) (by omega) (by omega) (by omega) (by omega))
        clear hl HV
        go_wp2_with fail
        show Q (.returned (.int .u8 4)) _
        exact HQ.out _ 4 HV2.out HB5.out
       ·have hl1:(((N:Int)+(P:Int)) == (t.size:Int))=false:=by rw [beq_eq_false_iff_ne];omega
        have hl2:¬ ((N:Int)+(P:Int))=(t.size:Int):=by omega
        have HV2:Hid (zX (zA s)=0):=Hd (by have hz0:=HN0.out;rw [HV.out];exact kC (by omega))
        clear hl HV
        go_wp2_with fail
        show Q (.returned (.int .u8 0)) _
        exact HQ.out _ 0 HV2.out HB5.out
      ·have hp1:¬ (0:Int)<P:=by omega
       have HV2:Hid (zX (zA s)=0):=Hd (by have hz0:=HN0.out;rw [HV.out];exact kC (by omega))
       clear HV
       go_wp2_with fail
       show Q (.returned (.int .u8 0)) _
       exact HQ.out _ 0 HV2.out HB5.out
  | false =>
   by_cases hN0:N=0
   ·have hNb:((N:Int) == 0)=true:=by simp;omega
    have HN0:=Hd hN0
    clear hN0
    by_cases hpt:N<t.size∧bt t N=46
    ·obtain ⟨hlt,hpt⟩:=hpt
     have hK:=HKy.out hlt hpt
     clear HKy HKn
     have CR3:=CR2.out (N+1)
     rw [xL] at CR3
     generalize rowL 16 ((zA t).drop (N+1))=k0 at *
     have CRh:=Hd CR3
     have CPh:=CP.out (N+(k0+1))
     rw [xL] at CPh
     rw [hK] at HV hKle
     clear CR3 CR2 CP hK
     have CP2:Hid (∀ w,Calls Tryz.prog 159 #[.string (t.extract (N+(k0+1)) t.size),.string ⟨#[112,80]⟩] w fun e w'=>e=.returned (.int .i64 (powL 112 80 ((zA t).drop (N+(k0+1))):Nat))∧Below w.heap.size w w'):=Hd CPh
     clear CPh
     have hPle:=gL 112 80 ((zA t).drop (N+(k0+1)))
     rw [List.length_drop,zH] at hPle
     generalize powL 112 80 ((zA t).drop (N+(k0+1)))=P at *
     have hlt':(N:Int)<t.size:=by omega
     have hN0':(0:Int)≤N:=by omega
     have yN:∀ h,((t[N]'h).toNat:Int)=46:=fun h=>by rw [yH t N h,hpt];rfl
     have hs1:=fun w=>xU t ((N:Int)+1) (N+1) (by omega) (by omega) w
     have hs2:=fun w=>xU t ((N:Int)+((k0:Int)+1)) (N+(k0+1)) (by omega) (by omega) w
     by_cases hz:N+k0=0
     ·have hzb:(((N:Int)+(k0:Int)) == 0)=true:=by simp;omega
      have HV2:Hid (zX (zA s)=0):=Hd (by have hz0:=HN0.out;rw [HV.out];exact kC (by omega))
      have HZ:=Hd hz
      clear HV hpt hz
      go_enter Tryz.func139,Tryz.ntmps139
      go_wp2_with fail
      refine (CWh.out).mono ?_
      rintro e w1 ⟨rfl,hb1⟩
      have HB1:=Hd (hb1)
      clear hb1
      go_wp2_with fail
      refine (CH.out _).mono ?_
      rintro e w2 ⟨rfl,rfl⟩
      go_wp2_with fail
      refine (CT.out _).mono ?_
      rintro e w2 ⟨rfl,rfl⟩
      go_wp2_with fail
      refine mB (CR.out _) HB1.out fun w3 HB3=>?_
      go_wp2_with fail
      refine mB (CRh.out _) HB3.out fun w4 HB4=>?_
      go_wp2_with fail
      show Q (.returned (.int .u8 0)) _
      exact HQ.out _ 0 HV2.out HB4.out
     ·have hzb:(((N:Int)+(k0:Int)) == 0)=false:=by rw [beq_eq_false_iff_ne];omega
      have hzn:¬ ((N:Int)+(k0:Int))=0:=by omega
      generalize hKe:k0+1=K at *
      have HKe:=Hd hKe
      clear hpt
      go_enter Tryz.func139,Tryz.ntmps139
      go_wp2_with fail
      refine (CWh.out).mono ?_
      rintro e w1 ⟨rfl,hb1⟩
      have HB1:=Hd (hb1)
      clear hb1
      go_wp2_with fail
      refine (CH.out _).mono ?_
      rintro e w2 ⟨rfl,rfl⟩
      go_wp2_with fail
      refine (CT.out _).mono ?_
      rintro e w2 ⟨rfl,rfl⟩
      go_wp2_with fail
      refine mB (CR.out _) HB1.out fun w3 HB3=>?_
      go_wp2_with fail
      refine mB (CRh.out _) HB3.out fun w4 HB4=>?_
      go_wp2_with fail
      refine mB (CP2.out _) HB4.out fun w5 HB5=>?_
      have hkz:((k0:Int)+1)=(K:Int):=by omega
      by_cases hp:0<P
      ·have hp1:(0:Int)<P:=by omega
       by_cases hl:N+K+P=t.size
       ·have hl1:(((N:Int)+((k0:Int)+1)+P) == (t.size:Int))=true:=by simp;omega
        have HV2:Hid (zX (zA s)=4):=Hd (by have hz0:=HN0.out;rw [HV.out];exact zCr (by first | (intro _;omega) | (intro h;cases h)) (by omega) (by omega) (by omega) (by omega))
        clear hl HV
        go_wp2_with fail
        show Q (.returned (.int .u8 4)) _
        exact HQ.out _ 4 HV2.out HB5.out
       ·have hl1:(((N:Int)+((k0:Int)+1)+P) == (t.size:Int))=false:=by rw [beq_eq_false_iff_ne];omega
        have HV2:Hid (zX (zA s)=0):=Hd (by have hz0:=HN0.out;rw [HV.out];exact kC (by omega))
        clear hl HV
        go_wp2_with fail
        show Q (.returned (.int .u8 0)) _
        exact HQ.out _ 0 HV2.out HB5.out
      ·have hp1:¬ (0:Int)<P:=by omega
       have HV2:Hid (zX (zA s)=0):=Hd (by have hz0:=HN0.out;rw [HV.out];exact kC (by omega))
       clear HV
       go_wp2_with fail
       show Q (.returned (.int .u8 0)) _
       exact HQ.out _ 0 HV2.out HB5.out
    ·have hK:=HKn.out hpt
     rw [hK] at HV hKle
     clear HKy HKn hK CR2
     have CPh:=CP.out N
     rw [xL] at CPh
     clear CP
     have CP2:Hid (∀ w,Calls Tryz.prog 159 #[.string (t.extract N t.size),.string ⟨#[112,80]⟩] w fun e w'=>e=.returned (.int .i64 (powL 112 80 ((zA t).drop N):Nat))∧Below w.heap.size w w'):=Hd CPh
     clear CPh
     have hPle:=gL 112 80 ((zA t).drop N)
     rw [List.length_drop,zH] at hPle
     rw [Nat.add_zero] at HV
     generalize powL 112 80 ((zA t).drop N)=P at *
     have hN0':(0:Int)≤N:=by omega
     have hs2:=fun w=>xU t (N:Int) N rfl hN w
     by_cases hlt:N<t.size
     ·have hlt':(N:Int)<t.size:=by omega
      have yN:∀ h,((t[N]'h).toNat:Int)=(bt t N:Int):=fun h=>by rw [yH t N h]
      have hne:bt t N≠46:=fun h=>hpt ⟨hlt,h⟩
      have hne1:¬ (bt t N:Int)=46:=by omega
      have hneb:((bt t N:Int) == 46)=false:=by rw [beq_eq_false_iff_ne];exact hne1
      clear hpt
      generalize bt t N=cN at *
      have HV2:Hid (zX (zA s)=0):=Hd (by have hz0:=HN0.out;rw [HV.out];exact kC (by omega))
      clear HV
      go_enter Tryz.func139,Tryz.ntmps139
      go_wp2_with fail
      refine (CWh.out).mono ?_
      rintro e w1 ⟨rfl,hb1⟩
      have HB1:=Hd (hb1)
      clear hb1
      go_wp2_with fail
      refine (CH.out _).mono ?_
      rintro e w2 ⟨rfl,rfl⟩
      go_wp2_with fail
      refine (CT.out _).mono ?_
      rintro e w2 ⟨rfl,rfl⟩
      go_wp2_with fail
      refine mB (CR.out _) HB1.out fun w3 HB3=>?_
      go_wp2_with fail
      show Q (.returned (.int .u8 0)) _
      exact HQ.out _ 0 HV2.out HB3.out
     ·have hlt':¬ (N:Int)<t.size:=by omega
      clear hpt
      have HV2:Hid (zX (zA s)=0):=Hd (by have hz0:=HN0.out;rw [HV.out];exact kC (by omega))
      clear HV
      go_enter Tryz.func139,Tryz.ntmps139
      go_wp2_with fail
      refine (CWh.out).mono ?_
      rintro e w1 ⟨rfl,hb1⟩
      have HB1:=Hd (hb1)
      clear hb1
      go_wp2_with fail
      refine (CH.out _).mono ?_
      rintro e w2 ⟨rfl,rfl⟩
      go_wp2_with fail
      refine (CT.out _).mono ?_
      rintro e w2 ⟨rfl,rfl⟩
      go_wp2_with fail
      refine mB (CR.out _) HB1.out fun w3 HB3=>?_
      go_wp2_with fail
      show Q (.returned (.int .u8 0)) _
      exact HQ.out _ 0 HV2.out HB3.out
   ·have hNb:((N:Int) == 0)=false:=by rw [beq_eq_false_iff_ne];omega
    have hNz:¬ (N:Int)=0:=by omega
    have HN0:=Hd hN0
    clear hN0
    by_cases hpt:N<t.size∧bt t N=46
    ·obtain ⟨hlt,hpt⟩:=hpt
     have hK:=HKy.out hlt hpt
     clear HKy HKn
     have CR3:=CR2.out (N+1)
     rw [xL] at CR3
     generalize rowL 16 ((zA t).drop (N+1))=k0 at *
     have CRh:=Hd CR3
     have CPh:=CP.out (N+(k0+1))
     rw [xL] at CPh
     rw [hK] at HV hKle
     clear CR3 CR2 CP hK
     have CP2:Hid (∀ w,Calls Tryz.prog 159 #[.string (t.extract (N+(k0+1)) t.size),.string ⟨#[112,80]⟩] w fun e w'=>e=.returned (.int .i64 (powL 112 80 ((zA t).drop (N+(k0+1))):Nat))∧Below w.heap.size w w'):=Hd CPh
     clear CPh
     have hPle:=gL 112 80 ((zA t).drop (N+(k0+1)))
     rw [List.length_drop,zH] at hPle
     generalize powL 112 80 ((zA t).drop (N+(k0+1)))=P at *
     have hlt':(N:Int)<t.size:=by omega
     have hN0':(0:Int)≤N:=by omega
     have yN:∀ h,((t[N]'h).toNat:Int)=46:=fun h=>by rw [yH t N h,hpt];rfl
     have hs1:=fun w=>xU t ((N:Int)+1) (N+1) (by omega) (by omega) w
     have hs2:=fun w=>xU t ((N:Int)+((k0:Int)+1)) (N+(k0+1)) (by omega) (by omega) w
     by_cases hz:N+k0=0
     ·have hzb:(((N:Int)+(k0:Int)) == 0)=true:=by simp;omega
      have HV2:Hid (zX (zA s)=0):=Hd (by have hz0:=HN0.out;rw [HV.out];exact kC (by omega))
      have HZ:=Hd hz
      clear HV hpt hz
      go_enter Tryz.func139,Tryz.ntmps139
      go_wp2_with fail
      refine (CWh.out).mono ?_
      rintro e w1 ⟨rfl,hb1⟩
      have HB1:=Hd (hb1)
      clear hb1
      go_wp2_with fail
      refine (CH.out _).mono ?_
      rintro e w2 ⟨rfl,rfl⟩
      go_wp2_with fail
      refine (CT.out _).mono ?_
      rintro e w2 ⟨rfl,rfl⟩
      go_wp2_with fail
      refine mB (CR.out _) HB1.out fun w3 HB3=>?_
      go_wp2_with fail
      refine mB (CRh.out _) HB3.out fun w4 HB4=>?_
      go_wp2_with fail
      show Q (.returned (.int .u8 0)) _
      exact HQ.out _ 0 HV2.out HB4.out
     ·have hzb:(((N:Int)+(k0:Int)) == 0)=false:=by rw [beq_eq_false_iff_ne];omega
      have hzn:¬ ((N:Int)+(k0:Int))=0:=by omega
      generalize hKe:k0+1=K at *
      have HKe:=Hd hKe
      clear hpt
      go_enter Tryz.func139,Tryz.ntmps139
      go_wp2_with fail
      refine (CWh.out).mono ?_
      rintro e w1 ⟨rfl,hb1⟩
      have HB1:=Hd (hb1)
      clear hb1
      go_wp2_with fail
      refine (CH.out _).mono ?_
      rintro e w2 ⟨rfl,rfl⟩
      go_wp2_with fail
      refine (CT.out _).mono ?_
      rintro e w2 ⟨rfl,rfl⟩
      go_wp2_with fail
      refine mB (CR.out _) HB1.out fun w3 HB3=>?_
      go_wp2_with fail
      refine mB (CRh.out _) HB3.out fun w4 HB4=>?_
      go_wp2_with fail
      refine mB (CP2.out _) HB4.out fun w5 HB5=>?_
      have hkz:((k0:Int)+1)=(K:Int):=by omega
      by_cases hp:0<P
      ·have hp1:(0:Int)<P:=by omega
       by_cases hl:N+K+P=t.size
       ·have hl1:(((N:Int)+((k0:Int)+1)+P) == (t.size:Int))=true:=by simp;omega
        have HV2:Hid (zX (zA s)=4):=Hd (by have hz0:=HN0.out;rw [HV.out];exact zCr (by first | (intro _;omega) | (intro h;cases h)) (by omega) (by omega) (by omega) (by omega))
        clear hl HV
        go_wp2_with fail
        show Q (.returned (.int .u8 4)) _
        exact HQ.out _ 4 HV2.out HB5.out
       ·have hl1:(((N:Int)+((k0:Int)+1)+P) == (t.size:Int))=false:=by rw [beq_eq_false_iff_ne];omega
        have HV2:Hid (zX (zA s)=0):=Hd (by have hz0:=HN0.out;rw [HV.out];exact kC (by omega))
        clear hl HV
        go_wp2_with fail
        show Q (.returned (.int .u8 0)) _
        exact HQ.out _ 0 HV2.out HB5.out
      ·have hp1:¬ (0:Int)<P:=by omega
       have HV2:Hid (zX (zA s)=0):=Hd (by have hz0:=HN0.out;rw [HV.out];exact kC (by omega))
       clear HV
       go_wp2_with fail
       show Q (.returned (.int .u8 0)) _
       exact HQ.out _ 0 HV2.out HB5.out
    ·have hK:=HKn.out hpt
     rw [hK] at HV hKle
     clear HKy HKn hK CR2
     have CPh:=CP.out N
     rw [xL] at CPh
     clear CP
     have CP2:Hid (∀ w,Calls Tryz.prog 159 #[.string (t.extract N t.size),.string ⟨#[112,80]⟩] w fun e w'=>e=.returned (.int .i64 (powL 112 80 ((zA t).drop N):Nat))∧Below w.heap.size w w'):=Hd CPh
     clear CPh
     have hPle:=gL 112 80 ((zA t).drop N)
     rw [List.length_drop,zH] at hPle
     rw [Nat.add_zero] at HV
     generalize powL 112 80 ((zA t).drop N)=P at *
     have hN0':(0:Int)≤N:=by omega
     have hs2:=fun w=>xU t (N:Int) N rfl hN w
     by_cases hlt:N<t.size
     ·have hlt':(N:Int)<t.size:=by omega
      have yN:∀ h,((t[N]'h).toNat:Int)=(bt t N:Int):=fun h=>by rw [yH t N h]
      have hne:bt t N≠46:=fun h=>hpt ⟨hlt,h⟩
      have hne1:¬ (bt t N:Int)=46:=by omega
      have hneb:((bt t N:Int) == 46)=false:=by rw [beq_eq_false_iff_ne];exact hne1
      clear hpt
      generalize bt t N=cN at *
      go_enter Tryz.func139,Tryz.ntmps139
      go_wp2_with fail
      refine (CWh.out).mono ?_
      rintro e w1 ⟨rfl,hb1⟩
      have HB1:=Hd (hb1)
      clear hb1
      go_wp2_with fail
      refine (CH.out _).mono ?_
      rintro e w2 ⟨rfl,rfl⟩
      go_wp2_with fail
      refine (CT.out _).mono ?_
      rintro e w2 ⟨rfl,rfl⟩
      go_wp2_with fail
      refine mB (CR.out _) HB1.out fun w3 HB3=>?_
      go_wp2_with fail
      refine mB (CP2.out _) HB3.out fun w5 HB5=>?_
      by_cases hp:0<P
      ·have hp1:(0:Int)<P:=by omega
       by_cases hl:N+P=t.size
       ·have hl1:(((N:Int)+(P:Int)) == (t.size:Int))=true:=by simp;omega
        have HV2:Hid (zX (zA s)=4):=Hd (by have hz0:=HN0.out;rw [HV.out];exact zCr (by first | (intro _;omega) | (intro h;cases h)) (by omega) (by omega) (by omega) (by omega))
        clear hl HV
        go_wp2_with fail
        show Q (.returned (.int .u8 4)) _
        exact HQ.out _ 4 HV2.out HB5.out
       ·have hl1:(((N:Int)+(P:Int)) == (t.size:Int))=false:=by rw [beq_eq_false_iff_ne];omega
        have hl2:¬ ((N:Int)+(P:Int))=(t.size:Int):=by omega
        have HV2:Hid (zX (zA s)=0):=Hd (by have hz0:=HN0.out;rw [HV.out];exact kC (by omega))
        clear hl HV
        go_wp2_with fail
        show Q (.returned (.int .u8 0)) _
        exact HQ.out _ 0 HV2.out HB5.out
      ·have hp1:¬ (0:Int)<P:=by omega
       have HV2:Hid (zX (zA s)=0):=Hd (by have hz0:=HN0.out;rw [HV.out];exact kC (by omega))
       clear HV
       go_wp2_with fail
       show Q (.returned (.int .u8 0)) _
       exact HQ.out _ 0 HV2.out HB5.out
     ·have hlt':¬ (N:Int)<t.size:=by omega
      clear hpt
      go_enter Tryz.func139,Tryz.ntmps139
      go_wp2_with fail
      refine (CWh.out).mono ?_
      rintro e w1 ⟨rfl,hb1⟩
      have HB1:=Hd (hb1)
      clear hb1
      go_wp2_with fail
      refine (CH.out _).mono ?_
      rintro e w2 ⟨rfl,rfl⟩
      go_wp2_with fail
      refine (CT.out _).mono ?_
      rintro e w2 ⟨rfl,rfl⟩
      go_wp2_with fail
      refine mB (CR.out _) HB1.out fun w3 HB3=>?_
      go_wp2_with fail
      refine mB (CP2.out _) HB3.out fun w5 HB5=>?_
      by_cases hp:0<P
      ·have hp1:(0:Int)<P:=by omega
       by_cases hl:N+P=t.size
       ·have hl1:(((N:Int)+(P:Int)) == (t.size:Int))=true:=by simp;omega
        have HV2:Hid (zX (zA s)=4):=Hd (by have hz0:=HN0.out;rw [HV.out];exact zCr (by first | (intro _;omega) | (intro h;cases h)) (by omega) (by omega) (by omega) (by omega))
        clear hl HV
        go_wp2_with fail
        show Q (.returned (.int .u8 4)) _
        exact HQ.out _ 4 HV2.out HB5.out
       ·have hl1:(((N:Int)+(P:Int)) == (t.size:Int))=false:=by rw [beq_eq_false_iff_ne];omega
        have hl2:¬ ((N:Int)+(P:Int))=(t.size:Int):=by omega
        have HV2:Hid (zX (zA s)=0):=Hd (by have hz0:=HN0.out;rw [HV.out];exact kC (by omega))
        clear hl HV
        go_wp2_with fail
        show Q (.returned (.int .u8 0)) _
        exact HQ.out _ 0 HV2.out HB5.out
      ·have hp1:¬ (0:Int)<P:=by omega
       have HV2:Hid (zX (zA s)=0):=Hd (by have hz0:=HN0.out;rw [HV.out];exact kC (by omega))
       clear HV
       go_wp2_with fail
       show Q (.returned (.int .u8 0)) _
       exact HQ.out _ 0 HV2.out HB5.out
theorem zWi {one:Bool} {w8 N K P len:Nat} (h2:¬ (K≠0∧N+(K-1)=0)) (h3:0<N+K) (h4:0<K+P) (h5:N+K+P=len):tenF false one w8 N K P len=4:=by
 unfold tenF
 rw [if_neg (by simp),if_neg h2,if_pos ⟨h3,h4,h5⟩]
theorem zEh {one:Bool} {w8 N K P len:Nat} (h:(K≠0∧N+(K-1)=0)∨¬ (0<N+K∧0<K+P∧N+K+P=len)):tenF false one w8 N K P len=0:=by
 unfold tenF
 rw [if_neg (by simp)]
 split
 ·rfl
 ·rw [if_neg (by omega)]
theorem zQe (s:ByteArray) (hs:s.size≤2147483647) (w:World) :
  Calls Tryz.prog 140 #[.string s] w fun e w'=>e=.returned (.int .u8 (tenL (zA s):Nat))∧Below w.heap.size w w':=by
 have HQ:Hid (∀ w' n,tenL (zA s)=n→Below w.heap.size w w'→(fun (e:Ending) w'=>e=.returned (.int .u8 (tenL (zA s):Nat))∧Below w.heap.size w w') (.returned (.int .u8 (n:Nat))) w'):=Hd fun w' n h h2=>⟨by rw [h],h2⟩
 generalize (fun (e:Ending) w'=>e=.returned (.int .u8 (tenL (zA s):Nat))∧Below w.heap.size w w')=Q at *
 have HV:=Hd (zZq s)
 have CR:=Hd (fun w=>kU s 10 (by omega) hs w)
 have CR2:=Hd (fun i w=>kU (s.extract i s.size) 10 (by omega) (by rw [ByteArray.size_extract];omega) w)
 have CP:=Hd (fun i w=>zDh (s.extract i s.size) 101 69 (by rw [ByteArray.size_extract];omega) w)
 have CW:=Hd (fun w=>zAs (s.extract 1 s.size) 8 (by omega) (by rw [ByteArray.size_extract];omega) w)
 rw [xL] at CW
 have hN:=kI 10 (zA s)
 rw [zH] at hN
 have hKle:=zDi 10 (zA s)
 rw [zH] at hKle
 have HKy:=Hd (zJw 10 s)
 have HKn:=Hd (zNn 10 s)
 generalize wholeL 8 ((zA s).drop 1)=w8 at *
 generalize hNe:rowL 10 (zA s)=N at *
 clear hNe
 by_cases hfull:N=s.size∧0<N
 ·obtain ⟨hfs,hf0⟩:=hfull
  have hf0':(0:Int)<N:=by omega
  have hfb:((N:Int) == (s.size:Int))=true:=by simp;omega
  have hpos:0<s.size:=by omega
  have hpos':(0:Int)<s.size:=by omega
  have hh:=zEf s hpos
  rw [hh,decide_eq_true (show N=s.size∧0<N from ⟨hfs,hf0⟩)] at HV
  have HFS:=Hd hfs
  clear hfs hh HKy HKn CR2 CP
  by_cases h48:bt s 0=48
  ·have y0:∀ h,((s[0]'h).toNat:Int)=48:=fun h=>by rw [yH s 0 h,h48];rfl
   rw [h48] at HV
   clear h48
   by_cases h1:N=1
   ·have h1b:((N:Int) == 1)=true:=by simp;omega
    have HV2:Hid (tenL (zA s)=3):=Hd (by rw [HV.out];unfold tenF;simp [h1])
    clear HV h1
    go_enter Tryz.func140,Tryz.ntmps140
    go_wp2_with fail
    refine (CR.out _).mono ?_
    rintro e w1 ⟨rfl,hb1⟩
    have HB1:=Hd hb1
    clear hb1
    go_wp2_with fail
    show Q (.returned (.int .u8 3)) _
    exact HQ.out _ 3 HV2.out HB1.out
   ·have h1b:((N:Int) == 1)=false:=by rw [beq_eq_false_iff_ne];omega
    have h1n:¬ (N:Int)=1:=by omega
    have h1l:(1:Int)≤s.size:=by omega
    have HV2:Hid (tenL (zA s)=w8):=Hd (by rw [HV.out];unfold tenF;simp [h1])
    clear HV h1
    go_enter Tryz.func140,Tryz.ntmps140
    go_wp2_with fail
    refine (CR.out _).mono ?_
    rintro e w1 ⟨rfl,hb1⟩
    have HB1:=Hd hb1
    clear hb1
    go_wp2_with fail
    refine mB (CW.out _) HB1.out fun w2 HB2=>?_
    go_wp2_with fail
    show Q (.returned (.int .u8 (w8:Nat))) _
    exact HQ.out _ w8 HV2.out HB2.out
  ·have y0:∀ h,((s[0]'h).toNat:Int)=(bt s 0:Int):=fun h=>by rw [yH s 0 h]
   have g48:¬ (bt s 0:Int)=48:=by omega
   have g48b:((bt s 0:Int) == 48)=false:=by rw [beq_eq_false_iff_ne];exact g48
   have HV2:Hid (tenL (zA s)=3):=Hd (by rw [HV.out];unfold tenF;simp [h48])
   clear HV h48
   generalize bt s 0=c at *
   go_enter Tryz.func140,Tryz.ntmps140
   go_wp2_with fail
   refine (CR.out _).mono ?_
   rintro e w1 ⟨rfl,hb1⟩
   have HB1:=Hd hb1
   clear hb1
   go_wp2_with fail
   show Q (.returned (.int .u8 3)) _
   exact HQ.out _ 3 HV2.out HB1.out
 ·rw [decide_eq_false hfull] at HV
  generalize decide ((zA s).head?≠some 48∨N=1)=one at *
  clear CW
  have hN0':(0:Int)≤N:=by omega
  by_cases hNs:N=s.size
  ·have hz:N=0:=by omega
   have hs0:s.size=0:=by omega
   have hfb:((N:Int) == (s.size:Int))=true:=by simp;omega
   have hnz:¬ (0:Int)<N:=by omega
   have hlt':¬ (N:Int)<s.size:=by omega
   have hK:=HKn.out (by omega)
   rw [hK] at HV
   have HV2:Hid (tenL (zA s)=0):=Hd (by rw [HV.out];exact zEh (by omega))
   have hs2:=fun w=>xU s (N:Int) N rfl hN w
   have CP2:=Hd (CP.out N)
   clear HV HKy HKn CR2 CP hz hs0 hNs hK hfull
   go_enter Tryz.func140,Tryz.ntmps140
   go_wp2_with fail
   refine (CR.out _).mono ?_
   rintro e w1 ⟨rfl,hb1⟩
   have HB1:=Hd hb1
   clear hb1
   go_wp2_with fail
   refine mB (CP2.out _) HB1.out fun w2 HB2=>?_
   generalize powL 101 69 _=P at *
   go_wp2_with fail
   show Q (.returned (.int .u8 0)) _
   exact HQ.out _ 0 HV2.out HB2.out
  ·have hfb:((N:Int) == (s.size:Int))=false:=by rw [beq_eq_false_iff_ne];omega
   have hfn:¬ (N:Int)=(s.size:Int):=by omega
   have hlt':(N:Int)<s.size:=by omega
   have hlt:N<s.size:=by omega
   have HNS:=Hd hNs
   clear hfull hNs
   by_cases hpt:bt s N=46
   ·have hK:=HKy.out hlt hpt
    clear HKy HKn
    have CR3:=CR2.out (N+1)
    rw [xL] at CR3
    generalize rowL 10 ((zA s).drop (N+1))=k0 at *
    have CRh:=Hd CR3
    have CPh:=CP.out (N+(k0+1))
    rw [xL] at CPh
    rw [hK] at HV hKle
    clear CR3 CR2 CP hK
    have CP2:Hid (∀ w,Calls Tryz.prog 159 #[.string (s.extract (N+(k0+1)) s.size),.string ⟨#[101,69]⟩] w fun e w'=>e=.returned (.int .i64 (powL 101 69 ((zA s).drop (N+(k0+1))):Nat))∧Below w.heap.size w w'):=Hd CPh
    clear CPh
    have hPle:=gL 101 69 ((zA s).drop (N+(k0+1)))
    rw [List.length_drop,zH] at hPle
    generalize powL 101 69 ((zA s).drop (N+(k0+1)))=P at *
    have yN:∀ h,((s[N]'h).toNat:Int)=46:=fun h=>by rw [yH s N h,hpt];rfl
    have hs1:=fun w=>xU s ((N:Int)+1) (N+1) (by omega) (by omega) w
    have hs2:=fun w=>xU s ((N:Int)+((k0:Int)+1)) (N+(k0+1)) (by omega) (by omega) w
    clear hpt
    by_cases hz:N+k0=0
    ·have hzb:(((N:Int)+(k0:Int)) == 0)=true:=by simp;omega
     have HV2:Hid (tenL (zA s)=0):=Hd (by rw [HV.out];exact zEh (by omega))
     clear HV hz
     go_enter Tryz.func140,Tryz.ntmps140
     go_wp2_with fail
     refine (CR.out _).mono ?_
     rintro e w1 ⟨rfl,hb1⟩
     have HB1:=Hd hb1
     clear hb1
     go_wp2_with fail
     refine mB (CRh.out _) HB1.out fun w2 HB2=>?_
     go_wp2_with fail
     show Q (.returned (.int .u8 0)) _
     exact HQ.out _ 0 HV2.out HB2.out
    ·have hzb:(((N:Int)+(k0:Int)) == 0)=false:=by rw [beq_eq_false_iff_ne];omega
     have hzn:¬ ((N:Int)+(k0:Int))=0:=by omega
     have g1:(0:Int)<(N:Int)+((k0:Int)+1):=by omega
     have g2:(0:Int)<((k0:Int)+1)+P:=by omega
     clear hz
     by_cases hl:N+(k0+1)+P=s.size
     ·have hl1:(((N:Int)+((k0:Int)+1)+P) == (s.size:Int))=true:=by simp;omega
      have HV2:Hid (tenL (zA s)=4):=Hd (by rw [HV.out];exact zWi (by omega) (by omega) (by omega) (by omega))
      clear hl HV
      go_enter Tryz.func140,Tryz.ntmps140
      go_wp2_with fail
      refine (CR.out _).mono ?_
      rintro e w1 ⟨rfl,hb1⟩
      have HB1:=Hd hb1
      clear hb1
      go_wp2_with fail
      refine mB (CRh.out _) HB1.out fun w2 HB2=>?_
      go_wp2_with fail
      refine mB (CP2.out _) HB2.out fun w3 HB3=>?_
      go_wp2_with fail
      show Q (.returned (.int .u8 4)) _
      exact HQ.out _ 4 HV2.out HB3.out
     ·have hl1:(((N:Int)+((k0:Int)+1)+P) == (s.size:Int))=false:=by rw [beq_eq_false_iff_ne];omega
      have hl2:¬ ((N:Int)+((k0:Int)+1)+P)=(s.size:Int):=by omega
      have HV2:Hid (tenL (zA s)=0):=Hd (by rw [HV.out];exact zEh (by omega))
      clear hl HV
      go_enter Tryz.func140,Tryz.ntmps140
      go_wp2_with fail
      refine (CR.out _).mono ?_
      rintro e w1 ⟨rfl,hb1⟩
      have HB1:=Hd hb1
      clear hb1
      go_wp2_with fail
      refine mB (CRh.out _) HB1.out fun w2 HB2=>?_
      go_wp2_with fail
      refine mB (CP2.out _) HB2.out fun w3 HB3=>?_
      go_wp2_with fail
      show Q (.returned (.int .u8 0)) _
      exact HQ.out _ 0 HV2.out HB3.out
   ·have hK:=HKn.out (fun h=>hpt h.2)
    rw [hK] at HV hKle
    clear HKy HKn hK CR2
    have CPh:=CP.out N
    rw [xL] at CPh
    clear CP
    have CP2:Hid (∀ w,Calls Tryz.prog 159 #[.string (s.extract N s.size),.string ⟨#[101,69]⟩] w fun e w'=>e=.returned (.int .i64 (powL 101 69 ((zA s).drop N):Nat))∧Below w.heap.size w w'):=Hd CPh
    clear CPh
    have hPle:=gL 101 69 ((zA s).drop N)
    rw [List.length_drop,zH] at hPle
    rw [Nat.add_zero] at HV
    generalize powL 101 69 ((zA s).drop N)=P at *
    have hs2:=fun w=>xU s (N:Int) N rfl hN w
    have yN:∀ h,((s[N]'h).toNat:Int)=(bt s N:Int):=fun h=>by rw [yH s N h]
    have hne1:¬ (bt s N:Int)=46:=by omega
    have hneb:((bt s N:Int) == 46)=false:=by rw [beq_eq_false_iff_ne];exact hne1
    clear hpt
    generalize bt s N=cN at *
    by_cases h1:0<N
    ·have g1:(0:Int)<N:=by omega
     by_cases h2:0<P
     ·have g2:(0:Int)<P:=by omega
      by_cases hl:N+P=s.size
      ·have hl1:(((N:Int)+P) == (s.size:Int))=true:=by simp;omega
       have HV2:Hid (tenL (zA s)=4):=Hd (by rw [HV.out];exact zWi (by omega) (by omega) (by omega) (by omega))
       clear hl HV
       go_enter Tryz.func140,Tryz.ntmps140
       go_wp2_with fail
       refine (CR.out _).mono ?_
       rintro e w1 ⟨rfl,hb1⟩
       have HB1:=Hd hb1
       clear hb1
       have HB2:=HB1
       go_wp2_with fail
       refine mB (CP2.out _) HB2.out fun w3 HB3=>?_
       go_wp2_with fail
       show Q (.returned (.int .u8 4)) _
       exact HQ.out _ 4 HV2.out HB3.out
      ·have hl1:(((N:Int)+P) == (s.size:Int))=false:=by rw [beq_eq_false_iff_ne];omega
       have hl2:¬ ((N:Int)+P)=(s.size:Int):=by omega
       have HV2:Hid (tenL (zA s)=0):=Hd (by rw [HV.out];exact zEh (by omega))
       clear hl HV
       go_enter Tryz.func140,Tryz.ntmps140
       go_wp2_with fail
       refine (CR.out _).mono ?_
       rintro e w1 ⟨rfl,hb1⟩
       have HB1:=Hd hb1
       clear hb1
       have HB2:=HB1
       go_wp2_with fail
       refine mB (CP2.out _) HB2.out fun w3 HB3=>?_
       go_wp2_with fail
       show Q (.returned (.int .u8 0)) _
       exact HQ.out _ 0 HV2.out HB3.out
     ·have g2:¬ (0:Int)<P:=by omega
      have HV2:Hid (tenL (zA s)=0):=Hd (by rw [HV.out];exact zEh (by omega))
      clear HV
      go_enter Tryz.func140,Tryz.ntmps140
      go_wp2_with fail
      refine (CR.out _).mono ?_
      rintro e w1 ⟨rfl,hb1⟩
      have HB1:=Hd hb1
      clear hb1
      have HB2:=HB1
      go_wp2_with fail
      refine mB (CP2.out _) HB2.out fun w3 HB3=>?_
      go_wp2_with fail
      show Q (.returned (.int .u8 0)) _
      exact HQ.out _ 0 HV2.out HB3.out
    ·have g1:¬ (0:Int)<N:=by omega
     have HV2:Hid (tenL (zA s)=0):=Hd (by rw [HV.out];exact zEh (by omega))
     clear HV
     go_enter Tryz.func140,Tryz.ntmps140
     go_wp2_with fail
     refine (CR.out _).mono ?_
     rintro e w1 ⟨rfl,hb1⟩
     have HB1:=Hd hb1
     clear hb1
     have HB2:=HB1
     go_wp2_with fail
     refine mB (CP2.out _) HB2.out fun w3 HB3=>?_
     go_wp2_with fail
     show Q (.returned (.int .u8 0)) _
     exact HQ.out _ 0 HV2.out HB3.out
end Go.Proofs.YtfalelkfhandfaaGreatDoor
namespace Go.Proofs.YtfalelkfhandfaaGreatDoor
set_option maxRecDepth 100000
set_option maxHeartbeats 32000000
set_option linter.all false
open Go.RowKit

theorem nb (c k:Nat) (h:c≠k):((c:Int) == (k:Int))=false:=by rw [beq_eq_false_iff_ne];omega
theorem zWj (s:ByteArray):realL (zA s)=if 1<s.size∧bt s 0=48 then
  (if bt s 1=98∨bt s 1=66 then wholeL 2 ((zA s).drop 2) else if bt s 1=111∨bt s 1=79 then wholeL 8 ((zA s).drop 2)
   else if bt s 1=120∨bt s 1=88 then zX ((zA s).drop 2) else tenL (zA s)) else tenL (zA s):=by
 unfold realL
 rw [zH]
 by_cases h:1<s.size
 ·rw [zEf s (by omega),kG s 1 h]
  simp only [Option.some.injEq]
 ·rw [if_neg (fun hh=>h hh.1),if_neg (fun hh=>h hh.1)]
theorem zFd (s:ByteArray) (hs:s.size≤2147483647) (w:World) :
  Calls Tryz.prog 122 #[.string s] w fun e w'=>e=.returned (.int .u8 (realL (zA s):Nat))∧Below w.heap.size w w':=by
 have HQ:Hid (∀ w' n,realL (zA s)=n→Below w.heap.size w w'→(fun (e:Ending) w'=>e=.returned (.int .u8 (realL (zA s):Nat))∧Below w.heap.size w w') (.returned (.int .u8 (n:Nat))) w'):=Hd fun w' n h h2=>⟨by rw [h],h2⟩
 generalize (fun (e:Ending) w'=>e=.returned (.int .u8 (realL (zA s):Nat))∧Below w.heap.size w w')=Q at *
 have HV:=Hd (zWj s)
 have CT:=Hd (zQe s hs w)
 have CW:Hid (∀ b:Nat,b≤16→Calls Tryz.prog 138 #[.string (s.extract 2 s.size),.int .i64 (b:Int)] w fun e w'=>e=.returned (.int .u8 (wholeL b ((zA s).drop 2):Nat))∧Below w.heap.size w w'):=Hd fun b hb=>by
  have:=zAs (s.extract 2 s.size) b hb (by rw [ByteArray.size_extract];omega) w
  rwa [xL] at this
 have CS:Hid (Calls Tryz.prog 139 #[.string (s.extract 2 s.size)] w fun e w'=>e=.returned (.int .u8 (zX ((zA s).drop 2):Nat))∧Below w.heap.size w w'):=Hd (by
  have:=zHc (s.extract 2 s.size) (by rw [ByteArray.size_extract];omega) w
  rwa [xL] at this)
 by_cases h1:1<s.size
 ·have h1':(1:Int)<s.size:=by omega
  have h2':(2:Int)≤s.size:=by omega
  have h0':(0:Int)<s.size:=by omega
  have y0:∀ h,((s[0]'h).toNat:Int)=(bt s 0:Int):=fun h=>by rw [yH s 0 h]
  have y1:∀ h,((s[1]'h).toNat:Int)=(bt s 1:Int):=fun h=>by rw [yH s 1 h]
  by_cases h48:bt s 0=48
  ·rw [if_pos ⟨h1,h48⟩] at HV
   rw [h48] at y0
   clear h48
   have hcs:bt s 1=98∨bt s 1=66∨bt s 1=111∨bt s 1=79∨bt s 1=120∨bt s 1=88∨(bt s 1≠98∧bt s 1≠66∧bt s 1≠111∧bt s 1≠79∧bt s 1≠120∧bt s 1≠88):=by omega
   generalize bt s 1=c at *
   rcases hcs with rfl | rfl | rfl | rfl | rfl | rfl | ⟨n1,n2,n3,n4,n5,n6⟩
   ·go_enter Tryz.func122,Tryz.ntmps122
    go_wp2_with fail
    refine (CW.out 2 (by omega)).mono ?_
    rintro e w1 ⟨rfl,hb1⟩
    have HB1:=Hd hb1
    clear hb1
    go_wp2_with fail
    show Q (.returned (.int .u8 (_:Nat))) _
    exact HQ.out _ _ (by rw [HV.out];rfl) HB1.out
   ·go_enter Tryz.func122,Tryz.ntmps122
    go_wp2_with fail
    refine (CW.out 2 (by omega)).mono ?_
    rintro e w1 ⟨rfl,hb1⟩
    have HB1:=Hd hb1
    clear hb1
    go_wp2_with fail
    show Q (.returned (.int .u8 (_:Nat))) _
    exact HQ.out _ _ (by rw [HV.out];rfl) HB1.out
   ·go_enter Tryz.func122,Tryz.ntmps122
    go_wp2_with fail
    refine (CW.out 8 (by omega)).mono ?_
    rintro e w1 ⟨rfl,hb1⟩
    have HB1:=Hd hb1
    clear hb1
    go_wp2_with fail
    show Q (.returned (.int .u8 (_:Nat))) _
    exact HQ.out _ _ (by rw [HV.out];rfl) HB1.out
   ·go_enter Tryz.func122,Tryz.ntmps122
    go_wp2_with fail
    refine (CW.out 8 (by omega)).mono ?_
    rintro e w1 ⟨rfl,hb1⟩
    have HB1:=Hd hb1
    clear hb1
    go_wp2_with fail
    show Q (.returned (.int .u8 (_:Nat))) _
    exact HQ.out _ _ (by rw [HV.out];rfl) HB1.out
   ·go_enter Tryz.func122,Tryz.ntmps122
    go_wp2_with fail
    refine CS.out.mono ?_
    rintro e w1 ⟨rfl,hb1⟩
    have HB1:=Hd hb1
    clear hb1
    go_wp2_with fail
    show Q (.returned (.int .u8 (_:Nat))) _
    exact HQ.out _ _ (by rw [HV.out];rfl) HB1.out
   ·go_enter Tryz.func122,Tryz.ntmps122
    go_wp2_with fail
    refine CS.out.mono ?_
    rintro e w1 ⟨rfl,hb1⟩
    have HB1:=Hd hb1
    clear hb1
    go_wp2_with fail
    show Q (.returned (.int .u8 (_:Nat))) _
    exact HQ.out _ _ (by rw [HV.out];rfl) HB1.out
   ·have m1:=nb c 98 n1
    have m2:=nb c 66 n2
    have m3:=nb c 111 n3
    have m4:=nb c 79 n4
    have m5:=nb c 120 n5
    have m6:=nb c 88 n6
    have HV2:Hid (realL (zA s)=tenL (zA s)):=Hd (by rw [HV.out,if_neg (by omega),if_neg (by omega),if_neg (by omega)])
    have k1:¬ (c:Int)=98:=by omega
    have k2:¬ (c:Int)=66:=by omega
    have k3:¬ (c:Int)=111:=by omega
    have k4:¬ (c:Int)=79:=by omega
    have k5:¬ (c:Int)=120:=by omega
    have k6:¬ (c:Int)=88:=by omega
    clear n1 n2 n3 n4 n5 n6 HV
    go_enter Tryz.func122,Tryz.ntmps122
    go_wp2_with fail
    refine CT.out.mono ?_
    rintro e w1 ⟨rfl,hb1⟩
    have HB1:=Hd hb1
    clear hb1
    go_wp2_with fail
    show Q (.returned (.int .u8 (_:Nat))) _
    exact HQ.out _ _ HV2.out HB1.out
  ·have g48:¬ (bt s 0:Int)=48:=by omega
   have g48b:=nb (bt s 0) 48 h48
   rw [if_neg (fun h=>h48 h.2)] at HV
   clear h48
   generalize bt s 0=c at *
   go_enter Tryz.func122,Tryz.ntmps122
   go_wp2_with fail
   refine CT.out.mono ?_
   rintro e w1 ⟨rfl,hb1⟩
   have HB1:=Hd hb1
   clear hb1
   go_wp2_with fail
   show Q (.returned (.int .u8 (_:Nat))) _
   exact HQ.out _ _ HV.out HB1.out
 ·have h1':¬ (1:Int)<s.size:=by omega
  rw [if_neg (fun h=>h1 h.1)] at HV
  go_enter Tryz.func122,Tryz.ntmps122
  go_wp2_with fail
  refine CT.out.mono ?_
  rintro e w1 ⟨rfl,hb1⟩
  have HB1:=Hd hb1
  clear hb1
  go_wp2_with fail
  show Q (.returned (.int .u8 (_:Nat))) _
  exact HQ.out _ _ HV.out HB1.out
theorem zHd (c:UInt8) (l:List UInt8):Lib.hasSuffix l [c]=true↔l.getLast?=some c:=by
 unfold Lib.hasSuffix
 rw [List.isSuffixOf_iff_suffix]
 constructor
 ·rintro ⟨t,rfl⟩;simp
 ·intro h
  obtain ⟨t,ht⟩:=List.getLast?_eq_some_iff.1 h
  exact ⟨t,ht.symm⟩
theorem zQf (s:ByteArray):Lib.hasSuffix s.data.toList [105]=decide ((zA s).getLast?=some 105):=by
 rw [Bool.eq_iff_iff,zHd,decide_eq_true_eq]
 unfold zA
 rw [List.getLast?_map]
 cases h:s.data.toList.getLast? with
 | none=>simp
 | some c =>
  simp only [Option.map_some,Option.some.injEq]
  constructor
  ·rintro rfl;rfl
  ·intro h;exact UInt8.toNat_inj.1 (by rw [h];rfl)
theorem zHe (s:ByteArray):zA (s.extract 0 (s.size-1))=(zA s).dropLast:=by
 unfold zA
 rw [jI,List.drop_zero,Nat.sub_zero,List.map_take,List.dropLast_eq_take]
 rw [List.length_map,← xB]
theorem zNo (s:ByteArray) (hs:s.size≤2147483647) (w:World) :
  Calls Tryz.prog 103 #[.string s] w fun e w'=>e=.returned (.int .u8 (kindL (zA s):Nat))∧Below w.heap.size w w':=by
 have HQ:Hid (∀ w' n,kindL (zA s)=n→Below w.heap.size w w'→(fun (e:Ending) w'=>e=.returned (.int .u8 (kindL (zA s):Nat))∧Below w.heap.size w w') (.returned (.int .u8 (n:Nat))) w'):=Hd fun w' n h h2=>⟨by rw [h],h2⟩
 generalize (fun (e:Ending) w'=>e=.returned (.int .u8 (kindL (zA s):Nat))∧Below w.heap.size w w')=Q at *
 have C1:=zFd s hs w
 have HV:Hid (kindL (zA s)=if realL (zA s)≠0 then realL (zA s) else if Lib.hasSuffix s.data.toList [105]=false then 0 else if realL (zA (s.extract 0 (s.size-1)))≠0∨(0<(s.extract 0 (s.size-1)).size∧rowL 10 (zA (s.extract 0 (s.size-1)))=(s.extract 0 (s.size-1)).size) then 5 else 0):=Hd (by
  unfold kindL
  rw [zQf,zHe,← zH (s.extract 0 (s.size-1)),zHe]
  simp only [decide_eq_false_iff_not,List.length_pos_iff])
 have CH:Hid (∀ w,Calls Tryz.prog 123 #[.string s,.string ⟨#[105]⟩] w fun e w'=>e=.returned (.bool (Lib.hasSuffix s.data.toList [105]))∧w'=w):=Hd fun w=>Tryz.strings_HasSuffix s ⟨#[105]⟩ w (by omega)
 have hsuf:=zHd 105 s.data.toList
 generalize hk:realL (zA s)=k at *
 by_cases hk0:k=0
 ·subst hk0
  have C1h:=Hd C1
  clear C1 hk
  rw [if_neg (by simp)] at HV
  cases hu:Lib.hasSuffix s.data.toList [105] with
  | false =>
   rw [hu] at CH HV
   have HV2:Hid (kindL (zA s)=0):=Hd (by rw [HV.out];rfl)
   clear HV hu hsuf
   go_enter Tryz.func103,Tryz.ntmps103
   go_wp2_with fail
   refine C1h.out.mono ?_
   rintro e w1 ⟨rfl,hb1⟩
   have HB1:=Hd hb1
   clear hb1
   go_wp2_with fail
   refine (CH.out _).mono ?_
   rintro e w2 ⟨rfl,rfl⟩
   go_wp2_with fail
   show Q (.returned (.int .u8 0)) _
   exact HQ.out _ 0 HV2.out HB1.out
  | true =>
   rw [hu] at CH HV
   rw [if_neg (by simp)] at HV
   have hpos:0<s.size:=by
    have:=hsuf.1 hu
    rcases Nat.eq_zero_or_pos s.size with h | h
    ·rw [xB] at h
     rw [List.eq_nil_of_length_eq_zero h] at this;simp at this
    ·exact h
   have hpos':(1:Int)≤s.size:=by omega
   clear hu hsuf
   have hsl:∀ w,(Instr.slice 9 (.string s) none (some (.int .i64 ((s.size:Int)-1))) none).run Tryz.prog w=.ok (.string (s.extract 0 (s.size-1))) w:=fun w=>by
    rw [run_slice_string_to_if _ _ s _ _ Tryz.underlying9,if_pos ⟨by omega,by omega⟩,show ((s.size:Int)-1).toNat=s.size-1 by omega]
   have hsz:(s.extract 0 (s.size-1)).size≤2147483647:=by rw [ByteArray.size_extract];omega
   have C2:=Hd (fun w=>zFd (s.extract 0 (s.size-1)) hsz w)
   have C3:=Hd (fun w=>kU (s.extract 0 (s.size-1)) 10 (by omega) hsz w)
   generalize s.extract 0 (s.size-1)=t at *
   generalize realL (zA t)=k2 at *
   generalize rowL 10 (zA t)=n at *
   by_cases hk2:k2=0
   ·subst hk2
    by_cases ht0:t.size=0
    ·have he:=zDg t ht0
     have hb:=zEg t ht0
     have HV2:Hid (kindL (zA s)=0):=Hd (by rw [HV.out,if_neg (by omega)])
     clear HV ht0
     go_enter Tryz.func103,Tryz.ntmps103
     go_wp2_with fail
     refine C1h.out.mono ?_
     rintro e w1 ⟨rfl,hb1⟩
     have HB1:=Hd hb1
     clear hb1
     go_wp2_with fail
     refine (CH.out _).mono ?_
     rintro e w2 ⟨rfl,rfl⟩
     go_wp2_with fail
     refine mB (C2.out _) HB1.out fun w2 HB2=>?_
     go_wp2_with fail
     show Q (.returned (.int .u8 0)) _
     exact HQ.out _ 0 HV2.out HB2.out
    ·have htp:0<t.size:=by omega
     have he:=zFy t htp
     have hb:=zHa t htp
     by_cases hn:n=t.size
     ·have hnb:((n:Int) == (t.size:Int))=true:=by simp;omega
      have HV2:Hid (kindL (zA s)=5):=Hd (by rw [HV.out,if_pos (Or.inr ⟨htp,hn⟩)])
      clear HV ht0 htp hn
      go_enter Tryz.func103,Tryz.ntmps103
      go_wp2_with fail
      refine C1h.out.mono ?_
      rintro e w1 ⟨rfl,hb1⟩
      have HB1:=Hd hb1
      clear hb1
      go_wp2_with fail
      refine (CH.out _).mono ?_
      rintro e w2 ⟨rfl,rfl⟩
      go_wp2_with fail
      refine mB (C2.out _) HB1.out fun w2 HB2=>?_
      go_wp2_with fail
      refine mB (C3.out _) HB2.out fun w3 HB3=>?_
      go_wp2_with fail
      show Q (.returned (.int .u8 5)) _
      exact HQ.out _ 5 HV2.out HB3.out
     ·have hnb:((n:Int) == (t.size:Int))=false:=by rw [beq_eq_false_iff_ne];omega
      have hnn:¬ (n:Int)=(t.size:Int):=by omega
      have HV2:Hid (kindL (zA s)=0):=Hd (by rw [HV.out,if_neg (by omega)])
      clear HV ht0 htp hn
      go_enter Tryz.func103,Tryz.ntmps103
      go_wp2_with fail
      refine C1h.out.mono ?_
      rintro e w1 ⟨rfl,hb1⟩
      have HB1:=Hd hb1
      clear hb1
      go_wp2_with fail
      refine (CH.out _).mono ?_
      rintro e w2 ⟨rfl,rfl⟩
      go_wp2_with fail
      refine mB (C2.out _) HB1.out fun w2 HB2=>?_
      go_wp2_with fail
      refine mB (C3.out _) HB2.out fun w3 HB3=>?_
      go_wp2_with fail
      show Q (.returned (.int .u8 0)) _
      exact HQ.out _ 0 HV2.out HB3.out
   ·have hkb:=nb k2 0 hk2
    have hkn:¬ (k2:Int)=0:=by omega
    have hk2':((k2:Int) == 0)=false:=hkb
    have HV2:Hid (kindL (zA s)=5):=Hd (by rw [HV.out,if_pos (Or.inl hk2)])
    clear HV hk2 hkb
    go_enter Tryz.func103,Tryz.ntmps103
    go_wp2_with fail
    refine C1h.out.mono ?_
    rintro e w1 ⟨rfl,hb1⟩
    have HB1:=Hd hb1
    clear hb1
    go_wp2_with fail
    refine (CH.out _).mono ?_
    rintro e w2 ⟨rfl,rfl⟩
    go_wp2_with fail
    refine mB (C2.out _) HB1.out fun w2 HB2=>?_
    go_wp2_with fail
    show Q (.returned (.int .u8 5)) _
    exact HQ.out _ 5 HV2.out HB2.out
 ·have hkn:¬ (k:Int)=0:=by omega
  have hk2':((k:Int) == 0)=false:=by rw [beq_eq_false_iff_ne];exact hkn
  have C1h:=Hd C1
  have HV2:Hid (kindL (zA s)=k):=Hd (by rw [HV.out,if_pos hk0])
  clear C1 hk hk0 HV
  go_enter Tryz.func103,Tryz.ntmps103
  go_wp2_with fail
  refine C1h.out.mono ?_
  rintro e w1 ⟨rfl,hb1⟩
  have HB1:=Hd hb1
  clear hb1
  go_wp2_with fail
  show Q (.returned (.int .u8 (k:Nat))) _
  exact HQ.out _ k HV2.out HB1.out
end Go.Proofs.YtfalelkfhandfaaGreatDoor
