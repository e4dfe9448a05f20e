/- Layer 5: the program's functions, walked: base 16, base 10. (Printed by gennum3.py.) -/
import Derived.Test.YtbjkdmbcpkopjaaGreatDoorCoreMt
import Derived.Test.YtbjkdmbcpkopjaaGreatDoorScanPMt
namespace Go.Proofs.YtbjkdmbcpkopjaaGreatDoor
set_option maxRecDepth 100000
set_option maxHeartbeats 32000000
set_option linter.all false
open Go.RowKit

theorem yL (t:ByteArray) (i:Int) (k:Nat) (h:i=k) (hk:k≤t.size) (w:World) :
  (Instr.slice 9 (.string t) (some (.int .i64 i)) none none).run Tryz.prog w=.ok (.string (t.extract k t.size)) w:=by
 subst h;rw [run_slice_string_from_if _ _ t _ _ Tryz.underlying9,iP ⟨by omega,by omega⟩,Int.toNat_natCast]
def sixF (ok u:Bool) (N K P len:Nat):Nat:=if ok=true then 3 else if N=0∧u=true then 0 else if K≠0∧N+(K-1)=0 then 0 else if K=0∧N=0 then 0 else if 0<P∧N+K+P=len then 4 else 0
def tenF (full one:Bool) (w8 N K P len:Nat):Nat:=if full=true then (if one=true then 3 else w8) else if K≠0∧N+(K-1)=0 then 0 else if 0<N+K∧0<K+P∧N+K+P=len then 4 else 0
theorem zBs {u:Bool} {N K P len:Nat} (h1:u=true→N≠0) (h2:¬ (K≠0∧N+(K-1)=0)) (h3:¬ (K=0∧N=0)) (h4:0<P) (h5:N+K+P=len):sixF false u N K P len=4:=by
 unfold sixF;rw [iN (by simp),iN (fun h=>h1 h.2 h.1),iN h2,iN h3,iP ⟨h4,h5⟩]
theorem xX {u:Bool} {N K P len:Nat} (h:(K≠0∧N+(K-1)=0)∨(K=0∧N=0)∨¬ (0<P∧N+K+P=len)):sixF false u N K P len=0:=by
 unfold sixF;rw [iN (by simp)];split
 ·rfl
 ·split
  ·rfl
  ·split
   ·rfl
   ·rw [iN (by omega)]
theorem zKz (s:ByteArray):Lib.hasPrefix s.data.toList [95]=decide ((zA s).head?=some 95):=by
 rw [Bool.eq_iff_iff,fP,zKy,decide_eq_true_eq]
theorem yCr (s:ByteArray):zN (zA s)=sixF (rowOK 16 (zA (bareS s))) (Lib.hasPrefix s.data.toList [95]) (rowL 16 (zA (bareS s))) (tailK 16 (zA (bareS s)))
  (powL 112 80 ((zA (bareS s)).drop (rowL 16 (zA (bareS s))+tailK 16 (zA (bareS s))))) (bareS s).size:=by
 unfold zN sixF noDigit;rw [← zAx,zH,zKz];simp only [decide_eq_true_eq]
theorem yBb (s:ByteArray):tenL (zA s)=tenF (decide (rowL 10 (zA s)=s.size∧0<rowL 10 (zA s))) (decide ((zA s).head?≠some 48∨rowL 10 (zA s)=1)) (wholeL 8 ((zA s).drop 1)) (rowL 10 (zA s)) (tailK 10 (zA s))
  (powL 101 69 ((zA s).drop (rowL 10 (zA s)+tailK 10 (zA s)))) s.size:=by
 unfold tenL tenF noDigit;rw [zH];simp only [decide_eq_true_eq]
theorem zJn (b:Nat) (t:ByteArray) (h:rowL b (zA t)<t.size) (hp:bt t (rowL b (zA t))=46):tailK b (zA t)=rowL b ((zA t).drop (rowL b (zA t)+1))+1:=by
 unfold tailK;rw [zAs t _ h,iP (by rw [hp])]
theorem zNh (b:Nat) (t:ByteArray) (h:¬ (rowL b (zA t)<t.size∧bt t (rowL b (zA t))=46)):tailK b (zA t)=0:=by
 unfold tailK;rw [iN];intro hh;by_cases hl:rowL b (zA t)<t.size
 ·rw [zAs t _ hl] at hh;exact h ⟨hl,by simpa using hh⟩
 ·rw [zJm t _ (by omega)] at hh;cases hh
theorem zGk (s:ByteArray) (hs:s.size≤2147483647) (w:World) :
  Calls Tryz.prog 170 #[.string s] w fun e w'=>e=.returned (.int .u8 (zN (zA s):Nat))∧Below w.heap.size w w':=by
 have HQ:Hid (∀ w' n,zN (zA s)=n→Below w.heap.size w w'→(fun (e:Ending) w'=>e=.returned (.int .u8 (zN (zA s):Nat))∧Below w.heap.size w w') (.returned (.int .u8 (n:Nat))) w'):=Hd fun w' n h h2=>⟨by rw [h],h2⟩
 generalize (fun (e:Ending) w'=>e=.returned (.int .u8 (zN (zA s):Nat))∧Below w.heap.size w w')=Q at *;have CT:Hid (∀ w,Calls Tryz.prog 203 #[.string s,.string ⟨#[95]⟩] w fun e w'=>e=.returned (.string (bareS s))∧w'=w):=Hd fun w=>Tryz.strings_TrimPrefix s ⟨#[95]⟩ w
 have CH:Hid (∀ w,Calls Tryz.prog 177 #[.string s,.string ⟨#[95]⟩] w fun e w'=>e=.returned (.bool (Lib.hasPrefix s.data.toList [95]))∧w'=w):=Hd fun w=>Tryz.strings_HasPrefix s ⟨#[95]⟩ w
 have CW:=fQ s 16 (by omega) hs w;have HV:=Hd (yCr s);have hwl:wholeL 16 (zA s)=if rowOK 16 (zA (bareS s))=true then 3 else 0:=by unfold wholeL;rw [← zAx]
 rw [hwl] at CW;have hsz:=zGj s;generalize Lib.hasPrefix s.data.toList [95]=u at *;generalize bareS s=t at *;have CR:=Hd (fun w=>vR t 16 (by omega) (by omega) w);have CR2:=Hd (fun i w=>vR (t.extract i t.size) 16 (by omega) (by rw [ByteArray.size_extract];omega) w);have CP:=Hd (fun i w=>zCl (t.extract i t.size) 112 80 (by rw [ByteArray.size_extract];omega) w);have hN:=kW 16 (zA t);rw [zH] at hN;have hKle:=zNk 16 (zA t);rw [zH] at hKle;have HKy:=Hd (zJn 16 t);have HKn:=Hd (zNh 16 t);generalize rowOK 16 (zA t)=ok at *;clear hwl;cases ok with
 | true =>
  rw [iP rfl] at CW;have CWh:=Hd CW;clear CW;go_enter Tryz.func170,Tryz.ntmps170;go_wp2_with fail;refine CWh.out.mono ?_;rintro e w1 ⟨rfl,hb1⟩;have HB1:=Hd hb1;clear hb1;go_wp2_with fail;show Q (.returned (.int .u8 3)) _;exact HQ.out _ 3 (by rw [HV.out];rfl) HB1.out
 | false =>
  rw [iN (by simp)] at CW;have CWh:=Hd CW;clear CW;generalize hNe:rowL 16 (zA t)=N at *;have HNe:=Hd hNe;clear hNe;cases u with
  | true =>
   by_cases hN0:N=0
   ·subst hN0;have HV2:Hid (zN (zA s)=0):=Hd (by rw [HV.out];unfold sixF;simp);clear HV HKy HKn;go_enter Tryz.func170,Tryz.ntmps170;go_wp2_with fail;refine (CWh.out).mono ?_;rintro e w1 ⟨rfl,hb1⟩;have HB1:=Hd (hb1);clear hb1;go_wp2_with fail;refine (CH.out _).mono ?_;rintro e w2 ⟨rfl,rfl⟩;go_wp2_with fail;refine (CT.out _).mono ?_;rintro e w2 ⟨rfl,rfl⟩;go_wp2_with fail;refine mB (CR.out _) HB1.out fun w3 HB3=>?_;go_wp2_with fail;show Q (.returned (.int .u8 0)) _;exact HQ.out _ 0 HV2.out HB3.out
   ·have hNb:((N:Int) == 0)=false:=by rw [bE];omega
    have hNz:¬ (N:Int)=0:=by omega
    have HN0:=Hd hN0;clear hN0;by_cases hpt:N<t.size∧bt t N=46
    ·obtain ⟨hlt,hpt⟩:=hpt;have hK:=HKy.out hlt hpt;clear HKy HKn;have CR3:=CR2.out (N+1);rw [yG] at CR3;generalize rowL 16 ((zA t).drop (N+1))=k0 at *;have CRh:=Hd CR3;have CPh:=CP.out (N+(k0+1));rw [yG] at CPh;rw [hK] at HV hKle;clear CR3 CR2 CP hK;have CP2:Hid (∀ w,Calls Tryz.prog 204 #[.string (t.extract (N+(k0+1)) t.size),.string ⟨#[112,80]⟩] w fun e w'=>e=.returned (.int .i64 (powL 112 80 ((zA t).drop (N+(k0+1))):Nat))∧Below w.heap.size w w'):=Hd CPh;clear CPh;have hPle:=gJ 112 80 ((zA t).drop (N+(k0+1)));rw [List.length_drop,zH] at hPle;generalize powL 112 80 ((zA t).drop (N+(k0+1)))=P at *;have hlt':(N:Int)<t.size:=by omega
     have hN0':(0:Int)≤N:=by omega
     have yN:∀ h,((t[N]'h).toNat:Int)=46:=fun h=>by rw [xC t N h,hpt];rfl
     have hs1:=fun w=>yL t ((N:Int)+1) (N+1) (by omega) (by omega) w
     have hs2:=fun w=>yL t ((N:Int)+((k0:Int)+1)) (N+(k0+1)) (by omega) (by omega) w
     by_cases hz:N+k0=0
     ·have hzb:(((N:Int)+(k0:Int)) == 0)=true:=by simp;omega
      have HV2:Hid (zN (zA s)=0):=Hd (by have hz0:=HN0.out;rw [HV.out];exact xX (by omega));have HZ:=Hd hz;clear HV hpt hz;go_enter Tryz.func170,Tryz.ntmps170;go_wp2_with fail;refine (CWh.out).mono ?_;rintro e w1 ⟨rfl,hb1⟩;have HB1:=Hd (hb1);clear hb1;go_wp2_with fail;refine (CH.out _).mono ?_;rintro e w2 ⟨rfl,rfl⟩;go_wp2_with fail;refine (CT.out _).mono ?_;rintro e w2 ⟨rfl,rfl⟩;go_wp2_with fail;refine mB (CR.out _) HB1.out fun w3 HB3=>?_;go_wp2_with fail;refine mB (CRh.out _) HB3.out fun w4 HB4=>?_;go_wp2_with fail;show Q (.returned (.int .u8 0)) _;exact HQ.out _ 0 HV2.out HB4.out
     ·have hzb:(((N:Int)+(k0:Int)) == 0)=false:=by rw [bE];omega
      have hzn:¬ ((N:Int)+(k0:Int))=0:=by omega
      generalize hKe:k0+1=K at *;have HKe:=Hd hKe;clear hpt;go_enter Tryz.func170,Tryz.ntmps170;go_wp2_with fail;refine (CWh.out).mono ?_;rintro e w1 ⟨rfl,hb1⟩;have HB1:=Hd (hb1);clear hb1;go_wp2_with fail;refine (CH.out _).mono ?_;rintro e w2 ⟨rfl,rfl⟩;go_wp2_with fail;refine (CT.out _).mono ?_;rintro e w2 ⟨rfl,rfl⟩;go_wp2_with fail;refine mB (CR.out _) HB1.out fun w3 HB3=>?_;go_wp2_with fail;refine mB (CRh.out _) HB3.out fun w4 HB4=>?_;go_wp2_with fail;refine mB (CP2.out _) HB4.out fun w5 HB5=>?_;have hkz:((k0:Int)+1)=(K:Int):=by omega
      by_cases hp:0<P
      ·have hp1:(0:Int)<P:=by omega
       by_cases hl:N+K+P=t.size
       ·have hl1:(((N:Int)+((k0:Int)+1)+P) == (t.size:Int))=true:=by simp;omega
        have HV2:Hid (zN (zA s)=4):=Hd (by have hz0:=HN0.out;rw [HV.out];exact zBs (by first | (intro _;omega) | (intro h;cases h)) (by omega) (by omega) (by omega) (by omega));clear hl HV;go_wp2_with fail;show Q (.returned (.int .u8 4)) _;exact HQ.out _ 4 HV2.out HB5.out
       ·have hl1:(((N:Int)+((k0:Int)+1)+P) == (t.size:Int))=false:=by rw [bE];omega
        have HV2:Hid (zN (zA s)=0):=Hd (by have hz0:=HN0.out;rw [HV.out];exact xX (by omega));clear hl HV;go_wp2_with fail;show Q (.returned (.int .u8 0)) _;exact HQ.out _ 0 HV2.out HB5.out
      ·have hp1:¬ (0:Int)<P:=by omega
       have HV2:Hid (zN (zA s)=0):=Hd (by have hz0:=HN0.out;rw [HV.out];exact xX (by omega));clear HV;go_wp2_with fail;show Q (.returned (.int .u8 0)) _;exact HQ.out _ 0 HV2.out HB5.out
    ·have hK:=HKn.out hpt;rw [hK] at HV hKle;clear HKy HKn hK CR2;have CPh:=CP.out N;rw [yG] at CPh;clear CP;have CP2:Hid (∀ w,Calls Tryz.prog 204 #[.string (t.extract N t.size),.string ⟨#[112,80]⟩] w fun e w'=>e=.returned (.int .i64 (powL 112 80 ((zA t).drop N):Nat))∧Below w.heap.size w w'):=Hd CPh;clear CPh;have hPle:=gJ 112 80 ((zA t).drop N);rw [List.length_drop,zH] at hPle;rw [Nat.add_zero] at HV;generalize powL 112 80 ((zA t).drop N)=P at *;have hN0':(0:Int)≤N:=by omega
     have hs2:=fun w=>yL t (N:Int) N rfl hN w
     by_cases hlt:N<t.size
     ·have hlt':(N:Int)<t.size:=by omega
      have yN:∀ h,((t[N]'h).toNat:Int)=(bt t N:Int):=fun h=>by rw [xC t N h]
      have hne:bt t N≠46:=fun h=>hpt ⟨hlt,h⟩
      have hne1:¬ (bt t N:Int)=46:=by omega
      have hneb:((bt t N:Int) == 46)=false:=by rw [bE];exact hne1
      clear hpt;generalize bt t N=cN at *;go_enter Tryz.func170,Tryz.ntmps170;go_wp2_with fail;refine (CWh.out).mono ?_;rintro e w1 ⟨rfl,hb1⟩;have HB1:=Hd (hb1);clear hb1;go_wp2_with fail;refine (CH.out _).mono ?_;rintro e w2 ⟨rfl,rfl⟩;go_wp2_with fail;refine (CT.out _).mono ?_;rintro e w2 ⟨rfl,rfl⟩;go_wp2_with fail;refine mB (CR.out _) HB1.out fun w3 HB3=>?_;go_wp2_with fail;refine mB (CP2.out _) HB3.out fun w5 HB5=>?_;by_cases hp:0<P
      ·have hp1:(0:Int)<P:=by omega
       by_cases hl:N+P=t.size
       ·have hl1:(((N:Int)+(P:Int)) == (t.size:Int))=true:=by simp;omega
        have HV2:Hid (zN (zA s)=4):=Hd (by have hz0:=HN0.out;rw [HV.out];exact zBs (by first | (intro _;omega) | (intro h;cases h)) (by omega) (by omega) (by omega) (by omega));clear hl HV;go_wp2_with fail;show Q (.returned (.int .u8 4)) _;exact HQ.out _ 4 HV2.out HB5.out
       ·have hl1:(((N:Int)+(P:Int)) == (t.size:Int))=false:=by rw [bE];omega
        have hl2:¬ ((N:Int)+(P:Int))=(t.size:Int):=by omega
        have HV2:Hid (zN (zA s)=0):=Hd (by have hz0:=HN0.out;rw [HV.out];exact xX (by omega));clear hl HV;go_wp2_with fail;show Q (.returned (.int .u8 0)) _;exact HQ.out _ 0 HV2.out HB5.out
      ·have hp1:¬ (0:Int)<P:=by omega
       have HV2:Hid (zN (zA s)=0):=Hd (by have hz0:=HN0.out;rw [HV.out];exact xX (by omega));clear HV;go_wp2_with fail;show Q (.returned (.int .u8 0)) _;exact HQ.out _ 0 HV2.out HB5.out
     ·have hlt':¬ (N:Int)<t.size:=by omega
      clear hpt;go_enter Tryz.func170,Tryz.ntmps170;go_wp2_with fail;refine (CWh.out).mono ?_;rintro e w1 ⟨rfl,hb1⟩;have HB1:=Hd (hb1);clear hb1;go_wp2_with fail;refine (CH.out _).mono ?_;rintro e w2 ⟨rfl,rfl⟩;go_wp2_with fail;refine (CT.out _).mono ?_;rintro e w2 ⟨rfl,rfl⟩;go_wp2_with fail;refine mB (CR.out _) HB1.out fun w3 HB3=>?_;go_wp2_with fail;refine mB (CP2.out _) HB3.out fun w5 HB5=>?_;by_cases hp:0<P
      ·have hp1:(0:Int)<P:=by omega
       by_cases hl:N+P=t.size
       ·have hl1:(((N:Int)+(P:Int)) == (t.size:Int))=true:=by simp;omega
        have HV2:Hid (zN (zA s)=4):=Hd (by have hz0:=HN0.out;rw [HV.out];exact zBs (by first | (intro _;omega) | (intro h;cases h)) (by omega) (by omega) (by omega) (by omega));clear hl HV;go_wp2_with fail;show Q (.returned (.int .u8 4)) _;exact HQ.out _ 4 HV2.out HB5.out
       ·have hl1:(((N:Int)+(P:Int)) == (t.size:Int))=false:=by rw [bE];omega
        have hl2:¬ ((N:Int)+(P:Int))=(t.size:Int):=by omega
        have HV2:Hid (zN (zA s)=0):=Hd (by have hz0:=HN0.out;rw [HV.out];exact xX (by omega));clear hl HV;go_wp2_with fail;show Q (.returned (.int .u8 0)) _;exact HQ.out _ 0 HV2.out HB5.out
      ·have hp1:¬ (0:Int)<P:=by omega
       have HV2:Hid (zN (zA s)=0):=Hd (by have hz0:=HN0.out;rw [HV.out];exact xX (by omega));clear HV;go_wp2_with fail;show Q (.returned (.int .u8 0)) _;exact HQ.out _ 0 HV2.out HB5.out
  | false =>
   by_cases hN0:N=0
   ·have hNb:((N:Int) == 0)=true:=by simp;omega
    have HN0:=Hd hN0;clear hN0;by_cases hpt:N<t.size∧bt t N=46
    ·obtain ⟨hlt,hpt⟩:=hpt;have hK:=HKy.out hlt hpt;clear HKy HKn;have CR3:=CR2.out (N+1);rw [yG] at CR3;generalize rowL 16 ((zA t).drop (N+1))=k0 at *;have CRh:=Hd CR3;have CPh:=CP.out (N+(k0+1));rw [yG] at CPh;rw [hK] at HV hKle;clear CR3 CR2 CP hK;have CP2:Hid (∀ w,Calls Tryz.prog 204 #[.string (t.extract (N+(k0+1)) t.size),.string ⟨#[112,80]⟩] w fun e w'=>e=.returned (.int .i64 (powL 112 80 ((zA t).drop (N+(k0+1))):Nat))∧Below w.heap.size w w'):=Hd CPh;clear CPh;have hPle:=gJ 112 80 ((zA t).drop (N+(k0+1)));rw [List.length_drop,zH] at hPle;generalize powL 112 80 ((zA t).drop (N+(k0+1)))=P at *;have hlt':(N:Int)<t.size:=by omega
     have hN0':(0:Int)≤N:=by omega
     have yN:∀ h,((t[N]'h).toNat:Int)=46:=fun h=>by rw [xC t N h,hpt];rfl
     have hs1:=fun w=>yL t ((N:Int)+1) (N+1) (by omega) (by omega) w
     have hs2:=fun w=>yL t ((N:Int)+((k0:Int)+1)) (N+(k0+1)) (by omega) (by omega) w
     by_cases hz:N+k0=0
     ·have hzb:(((N:Int)+(k0:Int)) == 0)=true:=by simp;omega
      have HV2:Hid (zN (zA s)=0):=Hd (by have hz0:=HN0.out;rw [HV.out];exact xX (by omega));have HZ:=Hd hz;clear HV hpt hz;go_enter Tryz.func170,Tryz.ntmps170;go_wp2_with fail;refine (CWh.out).mono ?_;rintro e w1 ⟨rfl,hb1⟩;have HB1:=Hd (hb1);clear hb1;go_wp2_with fail;refine (CH.out _).mono ?_;rintro e w2 ⟨rfl,rfl⟩;go_wp2_with fail;refine (CT.out _).mono ?_;rintro e w2 ⟨rfl,rfl⟩;go_wp2_with fail;refine mB (CR.out _) HB1.out fun w3 HB3=>?_;go_wp2_with fail;refine mB (CRh.out _) HB3.out fun w4 HB4=>?_;go_wp2_with fail;show Q (.returned (.int .u8 0)) _;exact HQ.out _ 0 HV2.out HB4.out
     ·have hzb:(((N:Int)+(k0:Int)) == 0)=false:=by rw [bE];omega
      have hzn:¬ ((N:Int)+(k0:Int))=0:=by omega
      generalize hKe:k0+1=K at *;have HKe:=Hd hKe;clear hpt;go_enter Tryz.func170,Tryz.ntmps170;go_wp2_with fail;refine (CWh.out).mono ?_;rintro e w1 ⟨rfl,hb1⟩;have HB1:=Hd (hb1);clear hb1;go_wp2_with fail;refine (CH.out _).mono ?_;rintro e w2 ⟨rfl,rfl⟩;go_wp2_with fail;refine (CT.out _).mono ?_;rintro e w2 ⟨rfl,rfl⟩;go_wp2_with fail;refine mB (CR.out _) HB1.out fun w3 HB3=>?_;go_wp2_with fail;refine mB (CRh.out _) HB3.out fun w4 HB4=>?_;go_wp2_with fail;refine mB (CP2.out _) HB4.out fun w5 HB5=>?_;have hkz:((k0:Int)+1)=(K:Int):=by omega
      by_cases hp:0<P
      ·have hp1:(0:Int)<P:=by omega
       by_cases hl:N+K+P=t.size
       ·have hl1:(((N:Int)+((k0:Int)+1)+P) == (t.size:Int))=true:=by simp;omega
        have HV2:Hid (zN (zA s)=4):=Hd (by have hz0:=HN0.out;rw [HV.out];exact zBs (by first | (intro _;omega) | (intro h;cases h)) (by omega) (by omega) (by omega) (by omega));clear hl HV;go_wp2_with fail;show Q (.returned (.int .u8 4)) _;exact HQ.out _ 4 HV2.out HB5.out
       ·have hl1:(((N:Int)+((k0:Int)+1)+P) == (t.size:Int))=false:=by rw [bE];omega
        have HV2:Hid (zN (zA s)=0):=Hd (by have hz0:=HN0.out;rw [HV.out];exact xX (by omega));clear hl HV;go_wp2_with fail;show Q (.returned (.int .u8 0)) _;exact HQ.out _ 0 HV2.out HB5.out
      ·have hp1:¬ (0:Int)<P:=by omega
       have HV2:Hid (zN (zA s)=0):=Hd (by have hz0:=HN0.out;rw [HV.out];exact xX (by omega));clear HV;go_wp2_with fail;show Q (.returned (.int .u8 0)) _;exact HQ.out _ 0 HV2.out HB5.out
    ·have hK:=HKn.out hpt;rw [hK] at HV hKle;clear HKy HKn hK CR2;have CPh:=CP.out N;rw [yG] at CPh;clear CP;have CP2:Hid (∀ w,Calls Tryz.prog 204 #[.string (t.extract N t.size),.string ⟨#[112,80]⟩] w fun e w'=>e=.returned (.int .i64 (powL 112 80 ((zA t).drop N):Nat))∧Below w.heap.size w w'):=Hd CPh;clear CPh;have hPle:=gJ 112 80 ((zA t).drop N);rw [List.length_drop,zH] at hPle;rw [Nat.add_zero] at HV;generalize powL 112 80 ((zA t).drop N)=P at *;have hN0':(0:Int)≤N:=by omega
     have hs2:=fun w=>yL t (N:Int) N rfl hN w
     by_cases hlt:N<t.size
     ·have hlt':(N:Int)<t.size:=by omega
      have yN:∀ h,((t[N]'h).toNat:Int)=(bt t N:Int):=fun h=>by rw [xC t N h]
      have hne:bt t N≠46:=fun h=>hpt ⟨hlt,h⟩
      have hne1:¬ (bt t N:Int)=46:=by omega
      have hneb:((bt t N:Int) == 46)=false:=by rw [bE];exact hne1
      clear hpt;generalize bt t N=cN at *;have HV2:Hid (zN (zA s)=0):=Hd (by have hz0:=HN0.out;rw [HV.out];exact xX (by omega));clear HV;go_enter Tryz.func170,Tryz.ntmps170;go_wp2_with fail;refine (CWh.out).mono ?_;rintro e w1 ⟨rfl,hb1⟩;have HB1:=Hd (hb1);clear hb1;go_wp2_with fail;refine (CH.out _).mono ?_;rintro e w2 ⟨rfl,rfl⟩;go_wp2_with fail;refine (CT.out _).mono ?_;rintro e w2 ⟨rfl,rfl⟩;go_wp2_with fail;refine mB (CR.out _) HB1.out fun w3 HB3=>?_;go_wp2_with fail;show Q (.returned (.int .u8 0)) _;exact HQ.out _ 0 HV2.out HB3.out
     ·have hlt':¬ (N:Int)<t.size:=by omega
      clear hpt;have HV2:Hid (zN (zA s)=0):=Hd (by have hz0:=HN0.out;rw [HV.out];exact xX (by omega));clear HV;go_enter Tryz.func170,Tryz.ntmps170;go_wp2_with fail;refine (CWh.out).mono ?_;rintro e w1 ⟨rfl,hb1⟩;have HB1:=Hd (hb1);clear hb1;go_wp2_with fail;refine (CH.out _).mono ?_;rintro e w2 ⟨rfl,rfl⟩;go_wp2_with fail;refine (CT.out _).mono ?_;rintro e w2 ⟨rfl,rfl⟩;go_wp2_with fail;refine mB (CR.out _) HB1.out fun w3 HB3=>?_;go_wp2_with fail;show Q (.returned (.int .u8 0)) _;exact HQ.out _ 0 HV2.out HB3.out
   ·have hNb:((N:Int) == 0)=false:=by rw [bE];omega
    have hNz:¬ (N:Int)=0:=by omega
    have HN0:=Hd hN0;clear hN0;by_cases hpt:N<t.size∧bt t N=46
    ·obtain ⟨hlt,hpt⟩:=hpt;have hK:=HKy.out hlt hpt;clear HKy HKn;have CR3:=CR2.out (N+1);rw [yG] at CR3;generalize rowL 16 ((zA t).drop (N+1))=k0 at *;have CRh:=Hd CR3;have CPh:=CP.out (N+(k0+1));rw [yG] at CPh;rw [hK] at HV hKle;clear CR3 CR2 CP hK;have CP2:Hid (∀ w,Calls Tryz.prog 204 #[.string (t.extract (N+(k0+1)) t.size),.string ⟨#[112,80]⟩] w fun e w'=>e=.returned (.int .i64 (powL 112 80 ((zA t).drop (N+(k0+1))):Nat))∧Below w.heap.size w w'):=Hd CPh;clear CPh;have hPle:=gJ 112 80 ((zA t).drop (N+(k0+1)));rw [List.length_drop,zH] at hPle;generalize powL 112 80 ((zA t).drop (N+(k0+1)))=P at *;have hlt':(N:Int)<t.size:=by omega
     have hN0':(0:Int)≤N:=by omega
     have yN:∀ h,((t[N]'h).toNat:Int)=46:=fun h=>by rw [xC t N h,hpt];rfl
     have hs1:=fun w=>yL t ((N:Int)+1) (N+1) (by omega) (by omega) w
     have hs2:=fun w=>yL t ((N:Int)+((k0:Int)+1)) (N+(k0+1)) (by omega) (by omega) w
     by_cases hz:N+k0=0
     ·have hzb:(((N:Int)+(k0:Int)) == 0)=true:=by simp;omega
      have HV2:Hid (zN (zA s)=0):=Hd (by have hz0:=HN0.out;rw [HV.out];exact xX (by omega));have HZ:=Hd hz;clear HV hpt hz;go_enter Tryz.func170,Tryz.ntmps170;go_wp2_with fail;refine (CWh.out).mono ?_;rintro e w1 ⟨rfl,hb1⟩;have HB1:=Hd (hb1);clear hb1;go_wp2_with fail;refine (CH.out _).mono ?_;rintro e w2 ⟨rfl,rfl⟩;go_wp2_with fail;refine (CT.out _).mono ?_;rintro e w2 ⟨rfl,rfl⟩;go_wp2_with fail;refine mB (CR.out _) HB1.out fun w3 HB3=>?_;go_wp2_with fail;refine mB (CRh.out _) HB3.out fun w4 HB4=>?_;go_wp2_with fail;show Q (.returned (.int .u8 0)) _;exact HQ.out _ 0 HV2.out HB4.out
     ·have hzb:(((N:Int)+(k0:Int)) == 0)=false:=by rw [bE];omega
      have hzn:¬ ((N:Int)+(k0:Int))=0:=by omega
      generalize hKe:k0+1=K at *;have HKe:=Hd hKe;clear hpt;go_enter Tryz.func170,Tryz.ntmps170;go_wp2_with fail;refine (CWh.out).mono ?_;rintro e w1 ⟨rfl,hb1⟩;have HB1:=Hd (hb1);clear hb1;go_wp2_with fail;refine (CH.out _).mono ?_;rintro e w2 ⟨rfl,rfl⟩;go_wp2_with fail;refine (CT.out _).mono ?_;rintro e w2 ⟨rfl,rfl⟩;go_wp2_with fail;refine mB (CR.out _) HB1.out fun w3 HB3=>?_;go_wp2_with fail;refine mB (CRh.out _) HB3.out fun w4 HB4=>?_;go_wp2_with fail;refine mB (CP2.out _) HB4.out fun w5 HB5=>?_;have hkz:((k0:Int)+1)=(K:Int):=by omega
      by_cases hp:0<P
      ·have hp1:(0:Int)<P:=by omega
       by_cases hl:N+K+P=t.size
       ·have hl1:(((N:Int)+((k0:Int)+1)+P) == (t.size:Int))=true:=by simp;omega
        have HV2:Hid (zN (zA s)=4):=Hd (by have hz0:=HN0.out;rw [HV.out];exact zBs (by first | (intro _;omega) | (intro h;cases h)) (by omega) (by omega) (by omega) (by omega));clear hl HV;go_wp2_with fail;show Q (.returned (.int .u8 4)) _;exact HQ.out _ 4 HV2.out HB5.out
       ·have hl1:(((N:Int)+((k0:Int)+1)+P) == (t.size:Int))=false:=by rw [bE];omega
        have HV2:Hid (zN (zA s)=0):=Hd (by have hz0:=HN0.out;rw [HV.out];exact xX (by omega));clear hl HV;go_wp2_with fail;show Q (.returned (.int .u8 0)) _;exact HQ.out _ 0 HV2.out HB5.out
      ·have hp1:¬ (0:Int)<P:=by omega
       have HV2:Hid (zN (zA s)=0):=Hd (by have hz0:=HN0.out;rw [HV.out];exact xX (by omega));clear HV;go_wp2_with fail;show Q (.returned (.int .u8 0)) _;exact HQ.out _ 0 HV2.out HB5.out
    ·have hK:=HKn.out hpt;rw [hK] at HV hKle;clear HKy HKn hK CR2;have CPh:=CP.out N;rw [yG] at CPh;clear CP;have CP2:Hid (∀ w,Calls Tryz.prog 204 #[.string (t.extract N t.size),.string ⟨#[112,80]⟩] w fun e w'=>e=.returned (.int .i64 (powL 112 80 ((zA t).drop N):Nat))∧Below w.heap.size w w'):=Hd CPh;clear CPh;have hPle:=gJ 112 80 ((zA t).drop N);rw [List.length_drop,zH] at hPle;rw [Nat.add_zero] at HV;generalize powL 112 80 ((zA t).drop N)=P at *;have hN0':(0:Int)≤N:=by omega
     have hs2:=fun w=>yL t (N:Int) N rfl hN w
     by_cases hlt:N<t.size
     ·have hlt':(N:Int)<t.size:=by omega
      have yN:∀ h,((t[N]'h).toNat:Int)=(bt t N:Int):=fun h=>by rw [xC t N h]
      have hne:bt t N≠46:=fun h=>hpt ⟨hlt,h⟩
      have hne1:¬ (bt t N:Int)=46:=by omega
      have hneb:((bt t N:Int) == 46)=false:=by rw [bE];exact hne1
      clear hpt;generalize bt t N=cN at *;go_enter Tryz.func170,Tryz.ntmps170;go_wp2_with fail;refine (CWh.out).mono ?_;rintro e w1 ⟨rfl,hb1⟩;have HB1:=Hd (hb1);clear hb1;go_wp2_with fail;refine (CH.out _).mono ?_;rintro e w2 ⟨rfl,rfl⟩;go_wp2_with fail;refine (CT.out _).mono ?_;rintro e w2 ⟨rfl,rfl⟩;go_wp2_with fail;refine mB (CR.out _) HB1.out fun w3 HB3=>?_;go_wp2_with fail;refine mB (CP2.out _) HB3.out fun w5 HB5=>?_;by_cases hp:0<P
      ·have hp1:(0:Int)<P:=by omega
       by_cases hl:N+P=t.size
       ·have hl1:(((N:Int)+(P:Int)) == (t.size:Int))=true:=by simp;omega
        have HV2:Hid (zN (zA s)=4):=Hd (by have hz0:=HN0.out;rw [HV.out];exact zBs (by first | (intro _;omega) | (intro h;cases h)) (by omega) (by omega) (by omega) (by omega));clear hl HV;go_wp2_with fail;show Q (.returned (.int .u8 4)) _;exact HQ.out _ 4 HV2.out HB5.out
       ·have hl1:(((N:Int)+(P:Int)) == (t.size:Int))=false:=by rw [bE];omega
        have hl2:¬ ((N:Int)+(P:Int))=(t.size:Int):=by omega
        have HV2:Hid (zN (zA s)=0):=Hd (by have hz0:=HN0.out;rw [HV.out];exact xX (by omega));clear hl HV;go_wp2_with fail;show Q (.returned (.int .u8 0)) _;exact HQ.out _ 0 HV2.out HB5.out
      ·have hp1:¬ (0:Int)<P:=by omega
       have HV2:Hid (zN (zA s)=0):=Hd (by have hz0:=HN0.out;rw [HV.out];exact xX (by omega));clear HV;go_wp2_with fail;show Q (.returned (.int .u8 0)) _;exact HQ.out _ 0 HV2.out HB5.out
     ·have hlt':¬ (N:Int)<t.size:=by omega
      clear hpt;go_enter Tryz.func170,Tryz.ntmps170;go_wp2_with fail;refine (CWh.out).mono ?_;rintro e w1 ⟨rfl,hb1⟩;have HB1:=Hd (hb1);clear hb1;go_wp2_with fail;refine (CH.out _).mono ?_;rintro e w2 ⟨rfl,rfl⟩;go_wp2_with fail;refine (CT.out _).mono ?_;rintro e w2 ⟨rfl,rfl⟩;go_wp2_with fail;refine mB (CR.out _) HB1.out fun w3 HB3=>?_;go_wp2_with fail;refine mB (CP2.out _) HB3.out fun w5 HB5=>?_;by_cases hp:0<P
      ·have hp1:(0:Int)<P:=by omega
       by_cases hl:N+P=t.size
       ·have hl1:(((N:Int)+(P:Int)) == (t.size:Int))=true:=by simp;omega
        have HV2:Hid (zN (zA s)=4):=Hd (by have hz0:=HN0.out;rw [HV.out];exact zBs (by first | (intro _;omega) | (intro h;cases h)) (by omega) (by omega) (by omega) (by omega));clear hl HV;go_wp2_with fail;show Q (.returned (.int .u8 4)) _;exact HQ.out _ 4 HV2.out HB5.out
       ·have hl1:(((N:Int)+(P:Int)) == (t.size:Int))=false:=by rw [bE];omega
        have hl2:¬ ((N:Int)+(P:Int))=(t.size:Int):=by omega
        have HV2:Hid (zN (zA s)=0):=Hd (by have hz0:=HN0.out;rw [HV.out];exact xX (by omega));clear hl HV;go_wp2_with fail;show Q (.returned (.int .u8 0)) _;exact HQ.out _ 0 HV2.out HB5.out
      ·have hp1:¬ (0:Int)<P:=by omega
       have HV2:Hid (zN (zA s)=0):=Hd (by have hz0:=HN0.out;rw [HV.out];exact xX (by omega));clear HV;go_wp2_with fail;show Q (.returned (.int .u8 0)) _;exact HQ.out _ 0 HV2.out HB5.out
theorem zXt {one:Bool} {w8 N K P len:Nat} (h2:¬ (K≠0∧N+(K-1)=0)) (h3:0<N+K) (h4:0<K+P) (h5:N+K+P=len):tenF false one w8 N K P len=4:=by
 unfold tenF;rw [iN (by simp),iN h2,iP ⟨h3,h4,h5⟩]
theorem zDj {one:Bool} {w8 N K P len:Nat} (h:(K≠0∧N+(K-1)=0)∨¬ (0<N+K∧0<K+P∧N+K+P=len)):tenF false one w8 N K P len=0:=by
 unfold tenF;rw [iN (by simp)];split
 ·rfl
 ·rw [iN (by omega)]
theorem zQt (s:ByteArray) (hs:s.size≤2147483647) (w:World) :
  Calls Tryz.prog 171 #[.string s] w fun e w'=>e=.returned (.int .u8 (tenL (zA s):Nat))∧Below w.heap.size w w':=by
 have HQ:Hid (∀ w' n,tenL (zA s)=n→Below w.heap.size w w'→(fun (e:Ending) w'=>e=.returned (.int .u8 (tenL (zA s):Nat))∧Below w.heap.size w w') (.returned (.int .u8 (n:Nat))) w'):=Hd fun w' n h h2=>⟨by rw [h],h2⟩
 generalize (fun (e:Ending) w'=>e=.returned (.int .u8 (tenL (zA s):Nat))∧Below w.heap.size w w')=Q at *;have HV:=Hd (yBb s);have CR:=Hd (fun w=>vR s 10 (by omega) hs w);have CR2:=Hd (fun i w=>vR (s.extract i s.size) 10 (by omega) (by rw [ByteArray.size_extract];omega) w);have CP:=Hd (fun i w=>zCl (s.extract i s.size) 101 69 (by rw [ByteArray.size_extract];omega) w);have CW:=Hd (fun w=>fQ (s.extract 1 s.size) 8 (by omega) (by rw [ByteArray.size_extract];omega) w);rw [yG] at CW;have hN:=kW 10 (zA s);rw [zH] at hN;have hKle:=zNk 10 (zA s);rw [zH] at hKle;have HKy:=Hd (zJn 10 s);have HKn:=Hd (zNh 10 s);generalize wholeL 8 ((zA s).drop 1)=w8 at *;generalize hNe:rowL 10 (zA s)=N at *;clear hNe;by_cases hfull:N=s.size∧0<N
 ·obtain ⟨hfs,hf0⟩:=hfull;have hf0':(0:Int)<N:=by omega
  have hfb:((N:Int) == (s.size:Int))=true:=by simp;omega
  have hpos:0<s.size:=by omega
  have hpos':(0:Int)<s.size:=by omega
  have hh:=zDh s hpos;rw [hh,decide_eq_true (show N=s.size∧0<N from ⟨hfs,hf0⟩)] at HV;have HFS:=Hd hfs;clear hfs hh HKy HKn CR2 CP;by_cases h48:bt s 0=48
  ·have y0:∀ h,((s[0]'h).toNat:Int)=48:=fun h=>by rw [xC s 0 h,h48];rfl
   rw [h48] at HV;clear h48;by_cases h1:N=1
   ·have h1b:((N:Int) == 1)=true:=by simp;omega
    have HV2:Hid (tenL (zA s)=3):=Hd (by rw [HV.out];unfold tenF;simp [h1]);clear HV h1;go_enter Tryz.func171,Tryz.ntmps171;go_wp2_with fail;refine (CR.out _).mono ?_;rintro e w1 ⟨rfl,hb1⟩;have HB1:=Hd hb1;clear hb1;go_wp2_with fail;show Q (.returned (.int .u8 3)) _;exact HQ.out _ 3 HV2.out HB1.out
   ·have h1b:((N:Int) == 1)=false:=by rw [bE];omega
    have h1n:¬ (N:Int)=1:=by omega
    have h1l:(1:Int)≤s.size:=by omega
    have HV2:Hid (tenL (zA s)=w8):=Hd (by rw [HV.out];unfold tenF;simp [h1]);clear HV h1;go_enter Tryz.func171,Tryz.ntmps171;go_wp2_with fail;refine (CR.out _).mono ?_;rintro e w1 ⟨rfl,hb1⟩;have HB1:=Hd hb1;clear hb1;go_wp2_with fail;refine mB (CW.out _) HB1.out fun w2 HB2=>?_;go_wp2_with fail;show Q (.returned (.int .u8 (w8:Nat))) _;exact HQ.out _ w8 HV2.out HB2.out
  ·have y0:∀ h,((s[0]'h).toNat:Int)=(bt s 0:Int):=fun h=>by rw [xC s 0 h]
   have g48:¬ (bt s 0:Int)=48:=by omega
   have g48b:((bt s 0:Int) == 48)=false:=by rw [bE];exact g48
   have HV2:Hid (tenL (zA s)=3):=Hd (by rw [HV.out];unfold tenF;simp [h48]);clear HV h48;generalize bt s 0=c at *;go_enter Tryz.func171,Tryz.ntmps171;go_wp2_with fail;refine (CR.out _).mono ?_;rintro e w1 ⟨rfl,hb1⟩;have HB1:=Hd hb1;clear hb1;go_wp2_with fail;show Q (.returned (.int .u8 3)) _;exact HQ.out _ 3 HV2.out HB1.out
 ·rw [decide_eq_false hfull] at HV;generalize decide ((zA s).head?≠some 48∨N=1)=one at *;clear CW;have hN0':(0:Int)≤N:=by omega
  by_cases hNs:N=s.size
  ·have hz:N=0:=by omega
   have hs0:s.size=0:=by omega
   have hfb:((N:Int) == (s.size:Int))=true:=by simp;omega
   have hnz:¬ (0:Int)<N:=by omega
   have hlt':¬ (N:Int)<s.size:=by omega
   have hK:=HKn.out (by omega);rw [hK] at HV;have HV2:Hid (tenL (zA s)=0):=Hd (by rw [HV.out];exact zDj (by omega));have hs2:=fun w=>yL s (N:Int) N rfl hN w
   have CP2:=Hd (CP.out N);clear HV HKy HKn CR2 CP hz hs0 hNs hK hfull;go_enter Tryz.func171,Tryz.ntmps171;go_wp2_with fail;refine (CR.out _).mono ?_;rintro e w1 ⟨rfl,hb1⟩;have HB1:=Hd hb1;clear hb1;go_wp2_with fail;refine mB (CP2.out _) HB1.out fun w2 HB2=>?_;generalize powL 101 69 _=P at *;go_wp2_with fail;show Q (.returned (.int .u8 0)) _;exact HQ.out _ 0 HV2.out HB2.out
  ·have hfb:((N:Int) == (s.size:Int))=false:=by rw [bE];omega
   have hfn:¬ (N:Int)=(s.size:Int):=by omega
   have hlt':(N:Int)<s.size:=by omega
   have hlt:N<s.size:=by omega
   have HNS:=Hd hNs;clear hfull hNs;by_cases hpt:bt s N=46
   ·have hK:=HKy.out hlt hpt;clear HKy HKn;have CR3:=CR2.out (N+1);rw [yG] at CR3;generalize rowL 10 ((zA s).drop (N+1))=k0 at *;have CRh:=Hd CR3;have CPh:=CP.out (N+(k0+1));rw [yG] at CPh;rw [hK] at HV hKle;clear CR3 CR2 CP hK;have CP2:Hid (∀ w,Calls Tryz.prog 204 #[.string (s.extract (N+(k0+1)) s.size),.string ⟨#[101,69]⟩] w fun e w'=>e=.returned (.int .i64 (powL 101 69 ((zA s).drop (N+(k0+1))):Nat))∧Below w.heap.size w w'):=Hd CPh;clear CPh;have hPle:=gJ 101 69 ((zA s).drop (N+(k0+1)));rw [List.length_drop,zH] at hPle;generalize powL 101 69 ((zA s).drop (N+(k0+1)))=P at *;have yN:∀ h,((s[N]'h).toNat:Int)=46:=fun h=>by rw [xC s N h,hpt];rfl
    have hs1:=fun w=>yL s ((N:Int)+1) (N+1) (by omega) (by omega) w
    have hs2:=fun w=>yL s ((N:Int)+((k0:Int)+1)) (N+(k0+1)) (by omega) (by omega) w
    clear hpt;by_cases hz:N+k0=0
    ·have hzb:(((N:Int)+(k0:Int)) == 0)=true:=by simp;omega
     have HV2:Hid (tenL (zA s)=0):=Hd (by rw [HV.out];exact zDj (by omega));clear HV hz;go_enter Tryz.func171,Tryz.ntmps171;go_wp2_with fail;refine (CR.out _).mono ?_;rintro e w1 ⟨rfl,hb1⟩;have HB1:=Hd hb1;clear hb1;go_wp2_with fail;refine mB (CRh.out _) HB1.out fun w2 HB2=>?_;go_wp2_with fail;show Q (.returned (.int .u8 0)) _;exact HQ.out _ 0 HV2.out HB2.out
    ·have hzb:(((N:Int)+(k0:Int)) == 0)=false:=by rw [bE];omega
     have hzn:¬ ((N:Int)+(k0:Int))=0:=by omega
     have g1:(0:Int)<(N:Int)+((k0:Int)+1):=by omega
     have g2:(0:Int)<((k0:Int)+1)+P:=by omega
     clear hz;by_cases hl:N+(k0+1)+P=s.size
     ·have hl1:(((N:Int)+((k0:Int)+1)+P) == (s.size:Int))=true:=by simp;omega
      have HV2:Hid (tenL (zA s)=4):=Hd (by rw [HV.out];exact zXt (by omega) (by omega) (by omega) (by omega));clear hl HV;go_enter Tryz.func171,Tryz.ntmps171;go_wp2_with fail;refine (CR.out _).mono ?_;rintro e w1 ⟨rfl,hb1⟩;have HB1:=Hd hb1;clear hb1;go_wp2_with fail;refine mB (CRh.out _) HB1.out fun w2 HB2=>?_;go_wp2_with fail;refine mB (CP2.out _) HB2.out fun w3 HB3=>?_;go_wp2_with fail;show Q (.returned (.int .u8 4)) _;exact HQ.out _ 4 HV2.out HB3.out
     ·have hl1:(((N:Int)+((k0:Int)+1)+P) == (s.size:Int))=false:=by rw [bE];omega
      have hl2:¬ ((N:Int)+((k0:Int)+1)+P)=(s.size:Int):=by omega
      have HV2:Hid (tenL (zA s)=0):=Hd (by rw [HV.out];exact zDj (by omega));clear hl HV;go_enter Tryz.func171,Tryz.ntmps171;go_wp2_with fail;refine (CR.out _).mono ?_;rintro e w1 ⟨rfl,hb1⟩;have HB1:=Hd hb1;clear hb1;go_wp2_with fail;refine mB (CRh.out _) HB1.out fun w2 HB2=>?_;go_wp2_with fail;refine mB (CP2.out _) HB2.out fun w3 HB3=>?_;go_wp2_with fail;show Q (.returned (.int .u8 0)) _;exact HQ.out _ 0 HV2.out HB3.out
   ·have hK:=HKn.out (fun h=>hpt h.2);rw [hK] at HV hKle;clear HKy HKn hK CR2;have CPh:=CP.out N;rw [yG] at CPh;clear CP;have CP2:Hid (∀ w,Calls Tryz.prog 204 #[.string (s.extract N s.size),.string ⟨#[101,69]⟩] w fun e w'=>e=.returned (.int .i64 (powL 101 69 ((zA s).drop N):Nat))∧Below w.heap.size w w'):=Hd CPh;clear CPh;have hPle:=gJ 101 69 ((zA s).drop N);rw [List.length_drop,zH] at hPle;rw [Nat.add_zero] at HV;generalize powL 101 69 ((zA s).drop N)=P at *;have hs2:=fun w=>yL s (N:Int) N rfl hN w
    have yN:∀ h,((s[N]'h).toNat:Int)=(bt s N:Int):=fun h=>by rw [xC s N h]
    have hne1:¬ (bt s N:Int)=46:=by omega
    have hneb:((bt s N:Int) == 46)=false:=by rw [bE];exact hne1
    clear hpt;generalize bt s N=cN at *;by_cases h1:0<N
    ·have g1:(0:Int)<N:=by omega
     by_cases h2:0<P
     ·have g2:(0:Int)<P:=by omega
      by_cases hl:N+P=s.size
      ·have hl1:(((N:Int)+P) == (s.size:Int))=true:=by simp;omega
       have HV2:Hid (tenL (zA s)=4):=Hd (by rw [HV.out];exact zXt (by omega) (by omega) (by omega) (by omega));clear hl HV;go_enter Tryz.func171,Tryz.ntmps171;go_wp2_with fail;refine (CR.out _).mono ?_;rintro e w1 ⟨rfl,hb1⟩;have HB1:=Hd hb1;clear hb1;have HB2:=HB1;go_wp2_with fail;refine mB (CP2.out _) HB2.out fun w3 HB3=>?_;go_wp2_with fail;show Q (.returned (.int .u8 4)) _;exact HQ.out _ 4 HV2.out HB3.out
      ·have hl1:(((N:Int)+P) == (s.size:Int))=false:=by rw [bE];omega
       have hl2:¬ ((N:Int)+P)=(s.size:Int):=by omega
       have HV2:Hid (tenL (zA s)=0):=Hd (by rw [HV.out];exact zDj (by omega));clear hl HV;go_enter Tryz.func171,Tryz.ntmps171;go_wp2_with fail;refine (CR.out _).mono ?_;rintro e w1 ⟨rfl,hb1⟩;have HB1:=Hd hb1;clear hb1;have HB2:=HB1;go_wp2_with fail;refine mB (CP2.out _) HB2.out fun w3 HB3=>?_;go_wp2_with fail;show Q (.returned (.int .u8 0)) _;exact HQ.out _ 0 HV2.out HB3.out
     ·have g2:¬ (0:Int)<P:=by omega
      have HV2:Hid (tenL (zA s)=0):=Hd (by rw [HV.out];exact zDj (by omega));clear HV;go_enter Tryz.func171,Tryz.ntmps171;go_wp2_with fail;refine (CR.out _).mono ?_;rintro e w1 ⟨rfl,hb1⟩;have HB1:=Hd hb1;clear hb1;have HB2:=HB1;go_wp2_with fail;refine mB (CP2.out _) HB2.out fun w3 HB3=>?_;go_wp2_with fail;show Q (.returned (.int .u8 0)) _;exact HQ.out _ 0 HV2.out HB3.out
    ·have g1:¬ (0:Int)<N:=by omega
     have HV2:Hid (tenL (zA s)=0):=Hd (by rw [HV.out];exact zDj (by omega));clear HV;go_enter Tryz.func171,Tryz.ntmps171;go_wp2_with fail;refine (CR.out _).mono ?_;rintro e w1 ⟨rfl,hb1⟩;have HB1:=Hd hb1;clear hb1;have HB2:=HB1;go_wp2_with fail;refine mB (CP2.out _) HB2.out fun w3 HB3=>?_;go_wp2_with fail;show Q (.returned (.int .u8 0)) _;exact HQ.out _ 0 HV2.out HB3.out
end Go.Proofs.YtbjkdmbcpkopjaaGreatDoor
