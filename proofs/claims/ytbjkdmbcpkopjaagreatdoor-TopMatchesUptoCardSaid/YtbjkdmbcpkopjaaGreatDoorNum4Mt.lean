/- Layer 5: the program's functions, walked: kinds, where a number begins, the number at a place. -/
import Derived.Test.YtbjkdmbcpkopjaaGreatDoorCoreMt
import Derived.Test.YtbjkdmbcpkopjaaGreatDoorNum3Mt
namespace Go.Proofs.YtbjkdmbcpkopjaaGreatDoor
set_option maxRecDepth 100000
set_option maxHeartbeats 32000000
set_option linter.all false
open Go.RowKit

theorem nb (c k:Nat) (h:c≠k):((c:Int) == (k:Int))=false:=by rw [bE];omega
theorem zXu (s:ByteArray):realL (zA s)=if 1<s.size∧bt s 0=48 then
  (if bt s 1=98∨bt s 1=66 then wholeL 2 ((zA s).drop 2) else if bt s 1=111∨bt s 1=79 then wholeL 8 ((zA s).drop 2)
   else if bt s 1=120∨bt s 1=88 then zN ((zA s).drop 2) else tenL (zA s)) else tenL (zA s):=by
 unfold realL;rw [zH];by_cases h:1<s.size
 ·rw [zDh s (by omega),zAs s 1 h];simp only [Option.some.injEq]
 ·rw [iN (fun hh=>h hh.1),iN (fun hh=>h hh.1)]
theorem zEg (s:ByteArray) (hs:s.size≤2147483647) (w:World) :
  Calls Tryz.prog 137 #[.string s] w fun e w'=>e=.returned (.int .u8 (realL (zA s):Nat))∧Below w.heap.size w w':=by
 have HQ:Hid (∀ w' n,realL (zA s)=n→Below w.heap.size w w'→(fun (e:Ending) w'=>e=.returned (.int .u8 (realL (zA s):Nat))∧Below w.heap.size w w') (.returned (.int .u8 (n:Nat))) w'):=Hd fun w' n h h2=>⟨by rw [h],h2⟩
 generalize (fun (e:Ending) w'=>e=.returned (.int .u8 (realL (zA s):Nat))∧Below w.heap.size w w')=Q at *;have HV:=Hd (zXu s);have CT:=Hd (zQt s hs w);have CW:Hid (∀ b:Nat,b≤16→Calls Tryz.prog 169 #[.string (s.extract 2 s.size),.int .i64 (b:Int)] w fun e w'=>e=.returned (.int .u8 (wholeL b ((zA s).drop 2):Nat))∧Below w.heap.size w w'):=Hd fun b hb=>by
  have:=fQ (s.extract 2 s.size) b hb (by rw [ByteArray.size_extract];omega) w
  rwa [yG] at this
 have CS:Hid (Calls Tryz.prog 170 #[.string (s.extract 2 s.size)] w fun e w'=>e=.returned (.int .u8 (zN ((zA s).drop 2):Nat))∧Below w.heap.size w w'):=Hd (by
  have:=zGk (s.extract 2 s.size) (by rw [ByteArray.size_extract];omega) w
  rwa [yG] at this)
 by_cases h1:1<s.size
 ·have h1':(1:Int)<s.size:=by omega
  have h2':(2:Int)≤s.size:=by omega
  have h0':(0:Int)<s.size:=by omega
  have y0:∀ h,((s[0]'h).toNat:Int)=(bt s 0:Int):=fun h=>by rw [xC s 0 h]
  have y1:∀ h,((s[1]'h).toNat:Int)=(bt s 1:Int):=fun h=>by rw [xC s 1 h]
  by_cases h48:bt s 0=48
  ·rw [iP ⟨h1,h48⟩] at HV;rw [h48] at y0;clear h48;have hcs:bt s 1=98∨bt s 1=66∨bt s 1=111∨bt s 1=79∨bt s 1=120∨bt s 1=88∨(bt s 1≠98∧bt s 1≠66∧bt s 1≠111∧bt s 1≠79∧bt s 1≠120∧bt s 1≠88):=by omega
   generalize bt s 1=c at *;rcases hcs with rfl | rfl | rfl | rfl | rfl | rfl | ⟨n1,n2,n3,n4,n5,n6⟩
   ·go_enter Tryz.func137,Tryz.ntmps137;go_wp2_with fail;refine (CW.out 2 (by omega)).mono ?_;rintro e w1 ⟨rfl,hb1⟩;have HB1:=Hd hb1;clear hb1;go_wp2_with fail;show Q (.returned (.int .u8 (_:Nat))) _;exact HQ.out _ _ (by rw [HV.out];rfl) HB1.out
   ·go_enter Tryz.func137,Tryz.ntmps137;go_wp2_with fail;refine (CW.out 2 (by omega)).mono ?_;rintro e w1 ⟨rfl,hb1⟩;have HB1:=Hd hb1;clear hb1;go_wp2_with fail;show Q (.returned (.int .u8 (_:Nat))) _;exact HQ.out _ _ (by rw [HV.out];rfl) HB1.out
   ·go_enter Tryz.func137,Tryz.ntmps137;go_wp2_with fail;refine (CW.out 8 (by omega)).mono ?_;rintro e w1 ⟨rfl,hb1⟩;have HB1:=Hd hb1;clear hb1;go_wp2_with fail;show Q (.returned (.int .u8 (_:Nat))) _;exact HQ.out _ _ (by rw [HV.out];rfl) HB1.out
   ·go_enter Tryz.func137,Tryz.ntmps137;go_wp2_with fail;refine (CW.out 8 (by omega)).mono ?_;rintro e w1 ⟨rfl,hb1⟩;have HB1:=Hd hb1;clear hb1;go_wp2_with fail;show Q (.returned (.int .u8 (_:Nat))) _;exact HQ.out _ _ (by rw [HV.out];rfl) HB1.out
   ·go_enter Tryz.func137,Tryz.ntmps137;go_wp2_with fail;refine CS.out.mono ?_;rintro e w1 ⟨rfl,hb1⟩;have HB1:=Hd hb1;clear hb1;go_wp2_with fail;show Q (.returned (.int .u8 (_:Nat))) _;exact HQ.out _ _ (by rw [HV.out];rfl) HB1.out
   ·go_enter Tryz.func137,Tryz.ntmps137;go_wp2_with fail;refine CS.out.mono ?_;rintro e w1 ⟨rfl,hb1⟩;have HB1:=Hd hb1;clear hb1;go_wp2_with fail;show Q (.returned (.int .u8 (_:Nat))) _;exact HQ.out _ _ (by rw [HV.out];rfl) HB1.out
   ·have m1:=nb c 98 n1;have m2:=nb c 66 n2;have m3:=nb c 111 n3;have m4:=nb c 79 n4;have m5:=nb c 120 n5;have m6:=nb c 88 n6;have HV2:Hid (realL (zA s)=tenL (zA s)):=Hd (by rw [HV.out,iN (by omega),iN (by omega),iN (by omega)]);have k1:¬ (c:Int)=98:=by omega
    have k2:¬ (c:Int)=66:=by omega
    have k3:¬ (c:Int)=111:=by omega
    have k4:¬ (c:Int)=79:=by omega
    have k5:¬ (c:Int)=120:=by omega
    have k6:¬ (c:Int)=88:=by omega
    clear n1 n2 n3 n4 n5 n6 HV;go_enter Tryz.func137,Tryz.ntmps137;go_wp2_with fail;refine CT.out.mono ?_;rintro e w1 ⟨rfl,hb1⟩;have HB1:=Hd hb1;clear hb1;go_wp2_with fail;show Q (.returned (.int .u8 (_:Nat))) _;exact HQ.out _ _ HV2.out HB1.out
  ·have g48:¬ (bt s 0:Int)=48:=by omega
   have g48b:=nb (bt s 0) 48 h48;rw [iN (fun h=>h48 h.2)] at HV;clear h48;generalize bt s 0=c at *;go_enter Tryz.func137,Tryz.ntmps137;go_wp2_with fail;refine CT.out.mono ?_;rintro e w1 ⟨rfl,hb1⟩;have HB1:=Hd hb1;clear hb1;go_wp2_with fail;show Q (.returned (.int .u8 (_:Nat))) _;exact HQ.out _ _ HV.out HB1.out
 ·have h1':¬ (1:Int)<s.size:=by omega
  rw [iN (fun h=>h1 h.1)] at HV;go_enter Tryz.func137,Tryz.ntmps137;go_wp2_with fail;refine CT.out.mono ?_;rintro e w1 ⟨rfl,hb1⟩;have HB1:=Hd hb1;clear hb1;go_wp2_with fail;show Q (.returned (.int .u8 (_:Nat))) _;exact HQ.out _ _ HV.out HB1.out
theorem zGl (c:UInt8) (l:List UInt8):Lib.hasSuffix l [c]=true↔l.getLast?=some c:=by
 unfold Lib.hasSuffix;rw [List.isSuffixOf_iff_suffix];constructor
 ·rintro ⟨t,rfl⟩;simp
 ·intro h;obtain ⟨t,ht⟩:=List.getLast?_eq_some_iff.1 h;exact ⟨t,ht.symm⟩
theorem zQu (s:ByteArray):Lib.hasSuffix s.data.toList [105]=decide ((zA s).getLast?=some 105):=by
 rw [Bool.eq_iff_iff,zGl,decide_eq_true_eq];unfold zA;rw [List.getLast?_map];cases h:s.data.toList.getLast? with
 | none=>simp
 | some c =>
  simp only [Option.map_some,Option.some.injEq];constructor
  ·rintro rfl;rfl
  ·intro h;exact UInt8.toNat_inj.1 (by rw [h];rfl)
theorem zGm (s:ByteArray):zA (s.extract 0 (s.size-1))=(zA s).dropLast:=by
 unfold zA;rw [yE,List.drop_zero,Nat.sub_zero,List.map_take,List.dropLast_eq_take];rw [List.length_map,← zQ]
theorem zEh (s:ByteArray) (hs:s.size≤2147483647) (w:World) :
  Calls Tryz.prog 111 #[.string s] w fun e w'=>e=.returned (.int .u8 (kindL (zA s):Nat))∧Below w.heap.size w w':=by
 have HQ:Hid (∀ w' n,kindL (zA s)=n→Below w.heap.size w w'→(fun (e:Ending) w'=>e=.returned (.int .u8 (kindL (zA s):Nat))∧Below w.heap.size w w') (.returned (.int .u8 (n:Nat))) w'):=Hd fun w' n h h2=>⟨by rw [h],h2⟩
 generalize (fun (e:Ending) w'=>e=.returned (.int .u8 (kindL (zA s):Nat))∧Below w.heap.size w w')=Q at *;have C1:=zEg s hs w;have HV:Hid (kindL (zA s)=if realL (zA s)≠0 then realL (zA s) else if Lib.hasSuffix s.data.toList [105]=false then 0 else if realL (zA (s.extract 0 (s.size-1)))≠0∨(0<(s.extract 0 (s.size-1)).size∧rowL 10 (zA (s.extract 0 (s.size-1)))=(s.extract 0 (s.size-1)).size) then 5 else 0):=Hd (by
  unfold kindL;rw [zQu,zGm,← zH (s.extract 0 (s.size-1)),zGm];simp only [decide_eq_false_iff_not,List.length_pos_iff])
 have CH:Hid (∀ w,Calls Tryz.prog 138 #[.string s,.string ⟨#[105]⟩] w fun e w'=>e=.returned (.bool (Lib.hasSuffix s.data.toList [105]))∧w'=w):=Hd fun w=>Tryz.strings_HasSuffix s ⟨#[105]⟩ w (by omega)
 have hsuf:=zGl 105 s.data.toList;generalize hk:realL (zA s)=k at *;by_cases hk0:k=0
 ·subst hk0;have C1h:=Hd C1;clear C1 hk;rw [iN (by simp)] at HV;cases hu:Lib.hasSuffix s.data.toList [105] with
  | false =>
   rw [hu] at CH HV;have HV2:Hid (kindL (zA s)=0):=Hd (by rw [HV.out];rfl);clear HV hu hsuf;go_enter Tryz.func111,Tryz.ntmps111;go_wp2_with fail;refine C1h.out.mono ?_;rintro e w1 ⟨rfl,hb1⟩;have HB1:=Hd hb1;clear hb1;go_wp2_with fail;refine (CH.out _).mono ?_;rintro e w2 ⟨rfl,rfl⟩;go_wp2_with fail;show Q (.returned (.int .u8 0)) _;exact HQ.out _ 0 HV2.out HB1.out
  | true =>
   rw [hu] at CH HV;rw [iN (by simp)] at HV;have hpos:0<s.size:=by
    have:=hsuf.1 hu;rcases Nat.eq_zero_or_pos s.size with h | h
    ·rw [zQ] at h;rw [List.eq_nil_of_length_eq_zero h] at this;simp at this
    ·exact h
   have hpos':(1:Int)≤s.size:=by omega
   clear hu hsuf;have hsl:∀ w,(Instr.slice 9 (.string s) none (some (.int .i64 ((s.size:Int)-1))) none).run Tryz.prog w=.ok (.string (s.extract 0 (s.size-1))) w:=fun w=>by
    rw [run_slice_string_to_if _ _ s _ _ Tryz.underlying9,iP ⟨by omega,by omega⟩,show ((s.size:Int)-1).toNat=s.size-1 by omega]
   have hsz:(s.extract 0 (s.size-1)).size≤2147483647:=by rw [ByteArray.size_extract];omega
   have C2:=Hd (fun w=>zEg (s.extract 0 (s.size-1)) hsz w);have C3:=Hd (fun w=>vR (s.extract 0 (s.size-1)) 10 (by omega) hsz w);generalize s.extract 0 (s.size-1)=t at *;generalize realL (zA t)=k2 at *;generalize rowL 10 (zA t)=n at *;by_cases hk2:k2=0
   ·subst hk2;by_cases ht0:t.size=0
    ·have he:=zCk t ht0;have hb:=zDi t ht0;have HV2:Hid (kindL (zA s)=0):=Hd (by rw [HV.out,iN (by omega)]);clear HV ht0;go_enter Tryz.func111,Tryz.ntmps111;go_wp2_with fail;refine C1h.out.mono ?_;rintro e w1 ⟨rfl,hb1⟩;have HB1:=Hd hb1;clear hb1;go_wp2_with fail;refine (CH.out _).mono ?_;rintro e w2 ⟨rfl,rfl⟩;go_wp2_with fail;refine mB (C2.out _) HB1.out fun w2 HB2=>?_;go_wp2_with fail;show Q (.returned (.int .u8 0)) _;exact HQ.out _ 0 HV2.out HB2.out
    ·have htp:0<t.size:=by omega
     have he:=zFi t htp;have hb:=zGi t htp;by_cases hn:n=t.size
     ·have hnb:((n:Int) == (t.size:Int))=true:=by simp;omega
      have HV2:Hid (kindL (zA s)=5):=Hd (by rw [HV.out,iP (Or.inr ⟨htp,hn⟩)]);clear HV ht0 htp hn;go_enter Tryz.func111,Tryz.ntmps111;go_wp2_with fail;refine C1h.out.mono ?_;rintro e w1 ⟨rfl,hb1⟩;have HB1:=Hd hb1;clear hb1;go_wp2_with fail;refine (CH.out _).mono ?_;rintro e w2 ⟨rfl,rfl⟩;go_wp2_with fail;refine mB (C2.out _) HB1.out fun w2 HB2=>?_;go_wp2_with fail;refine mB (C3.out _) HB2.out fun w3 HB3=>?_;go_wp2_with fail;show Q (.returned (.int .u8 5)) _;exact HQ.out _ 5 HV2.out HB3.out
     ·have hnb:((n:Int) == (t.size:Int))=false:=by rw [bE];omega
      have hnn:¬ (n:Int)=(t.size:Int):=by omega
      have HV2:Hid (kindL (zA s)=0):=Hd (by rw [HV.out,iN (by omega)]);clear HV ht0 htp hn;go_enter Tryz.func111,Tryz.ntmps111;go_wp2_with fail;refine C1h.out.mono ?_;rintro e w1 ⟨rfl,hb1⟩;have HB1:=Hd hb1;clear hb1;go_wp2_with fail;refine (CH.out _).mono ?_;rintro e w2 ⟨rfl,rfl⟩;go_wp2_with fail;refine mB (C2.out _) HB1.out fun w2 HB2=>?_;go_wp2_with fail;refine mB (C3.out _) HB2.out fun w3 HB3=>?_;go_wp2_with fail;show Q (.returned (.int .u8 0)) _;exact HQ.out _ 0 HV2.out HB3.out
   ·have hkb:=nb k2 0 hk2;have hkn:¬ (k2:Int)=0:=by omega
    have hk2':((k2:Int) == 0)=false:=hkb;have HV2:Hid (kindL (zA s)=5):=Hd (by rw [HV.out,iP (Or.inl hk2)]);clear HV hk2 hkb;go_enter Tryz.func111,Tryz.ntmps111;go_wp2_with fail;refine C1h.out.mono ?_;rintro e w1 ⟨rfl,hb1⟩;have HB1:=Hd hb1;clear hb1;go_wp2_with fail;refine (CH.out _).mono ?_;rintro e w2 ⟨rfl,rfl⟩;go_wp2_with fail;refine mB (C2.out _) HB1.out fun w2 HB2=>?_;go_wp2_with fail;show Q (.returned (.int .u8 5)) _;exact HQ.out _ 5 HV2.out HB2.out
 ·have hkn:¬ (k:Int)=0:=by omega
  have hk2':((k:Int) == 0)=false:=by rw [bE];exact hkn
  have C1h:=Hd C1;have HV2:Hid (kindL (zA s)=k):=Hd (by rw [HV.out,iP hk0]);clear C1 hk hk0 HV;go_enter Tryz.func111,Tryz.ntmps111;go_wp2_with fail;refine C1h.out.mono ?_;rintro e w1 ⟨rfl,hb1⟩;have HB1:=Hd hb1;clear hb1;go_wp2_with fail;show Q (.returned (.int .u8 (k:Nat))) _;exact HQ.out _ k HV2.out HB1.out
end Go.Proofs.YtbjkdmbcpkopjaaGreatDoor
