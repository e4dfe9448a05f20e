/- Layer 11: the document's read, walked (printed by tools/genrefread.py out of tools/refread.tpl). -/
import Derived.Test.YtpjglenogifclaaGreatDoorReadWM
import Derived.Test.YtpjglenogifclaaGreatDoorRef06hM
import Derived.Deep.QuietTactic
import Derived.BigQuiet
import Derived.Deep.CutBlock
import Derived.Deep.RegionHeld3
namespace Go.Proofs.YtpjglenogifclaaGreatDoor
set_option linter.all false
attribute [local irreducible] wpStill
attribute [local irreducible] Calls
open Go.RowKit

/-- What read answers. -/
@[irreducible] def rdPost (o : Option (List Prt × Nat)) (w0 : World) (e : Ending) (w' : World) : Prop :=
  Below w0.heap.size w0 w' ∧ match o with
    | some (k, t) => ∃ v, e = .returned (.tuple #[v, .int .i64 (t : Int)]) ∧ w'.ownsRow w0.heap.size 28 3 v k.length (partsV k)
    | none => e = .returned (.tuple #[.slice none 0 0, .int .i64 0])
theorem rdPost.no {o : Option (List Prt × Nat)} {w0 w' : World} (h : o = none) (hb : Below w0.heap.size w0 w') : rdPost o w0 (.returned (.tuple #[.slice none 0 0, .int .i64 0])) w' := by
  unfold rdPost; rw [h]; exact ⟨hb, rfl⟩
theorem rdPost.yes {o : Option (List Prt × Nat)} {w0 w' : World} {v : Value} {k : List Prt} {t : Nat} (h : o = some (k, t)) (hb : Below w0.heap.size w0 w') (ho : w'.ownsRow w0.heap.size 28 3 v k.length (partsV k)) : rdPost o w0 (.returned (.tuple #[v, .int .i64 (t : Int)])) w' := by
  unfold rdPost; rw [h]; exact ⟨hb, v, rfl, ho⟩
theorem numD_lt : ∀ (l : List UInt8) (a : Nat), DigL l → numD l a < (a + 1) * 10 ^ l.length
  | [], a, _ => by simp [numD]
  | c :: r, a, h => by
    have hc := h c List.mem_cons_self
    have := numD_lt r (10 * a + (c.toNat - 48)) (fun d hd => h d (List.mem_cons_of_mem _ hd))
    rw [numD, List.length_cons, Nat.pow_succ]
    refine Nat.lt_of_lt_of_le this ?_
    rw [show (a + 1) * (10 ^ r.length * 10) = ((a + 1) * 10) * 10 ^ r.length by rw [Nat.mul_assoc, Nat.mul_comm 10]]
    exact Nat.mul_le_mul_right _ (by omega)
theorem ext_snoc (s : ByteArray) (a j : Nat) (ha : a ≤ j) (hj : j < s.size) : ∃ c : UInt8, c.toNat = bt s j ∧ (s.extract a (j + 1)).data.toList = (s.extract a j).data.toList ++ [c] := by
  have hl : j < s.data.toList.length := by rw [← size_data]; exact hj
  refine ⟨s.data.toList[j], (data_get s j hl).symm, ?_⟩
  rw [extract_data, extract_data, show j + 1 - a = (j - a) + 1 by omega, List.take_succ_eq_append_getElem (by rw [List.length_drop]; omega)]
  congr 2
  rw [List.getElem_drop]
  congr 1
  omega
/-- What holds at the head of the digits' loop. -/
def dgRel (s : ByteArray) (i : Nat) (kv tv : Value) : Prop :=
  ∃ m k : Nat, tv = .int .i64 ((i + 1 + m : Nat) : Int) ∧ m ≤ 3 ∧ i + 1 + m ≤ s.size ∧ kv = .int .i64 (k : Int) ∧ numD (s.extract (i + 1) (i + 1 + m)).data.toList 0 = k ∧ DigL (s.extract (i + 1) (i + 1 + m)).data.toList ∧ dEnd s (3 - m) (i + 1 + m) = dEnd s 3 (i + 1) ∧ k < 1000
theorem dgRel.step {s : ByteArray} {i m k : Nat} (hm : m < 3) (hj : i + 1 + m < s.size) (h48 : 48 ≤ bt s (i + 1 + m)) (h57 : bt s (i + 1 + m) ≤ 57) (hk : numD (s.extract (i + 1) (i + 1 + m)).data.toList 0 = k) (hd : DigL (s.extract (i + 1) (i + 1 + m)).data.toList) (he : dEnd s (3 - m) (i + 1 + m) = dEnd s 3 (i + 1)) :
    dgRel s i (.int .i64 ((10 * k + (bt s (i + 1 + m) - 48) : Nat) : Int)) (.int .i64 ((i + 1 + m + 1 : Nat) : Int)) := by
  obtain ⟨c, hc, hx⟩ := ext_snoc s (i + 1) (i + 1 + m) (by omega) hj
  have hd2 : DigL (s.extract (i + 1) (i + 1 + (m + 1))).data.toList := by
    rw [show i + 1 + (m + 1) = i + 1 + m + 1 by omega, hx]
    intro d hdm
    rcases List.mem_append.1 hdm with h | h
    · exact hd d h
    · simp at h; subst h; omega
  have hn : numD (s.extract (i + 1) (i + 1 + (m + 1))).data.toList 0 = 10 * k + (bt s (i + 1 + m) - 48) := by
    rw [show i + 1 + (m + 1) = i + 1 + m + 1 by omega, hx, numD_snoc, hk, hc]
  refine ⟨m + 1, _, rfl, by omega, by omega, rfl, hn, hd2, ?_, ?_⟩
  · rw [← he, show 3 - m = (3 - (m + 1)) + 1 by omega, dEnd, if_pos ⟨hj, h48, h57⟩]
    rfl
  · have hlt := numD_lt _ 0 hd2
    rw [hn] at hlt
    have hl : (s.extract (i + 1) (i + 1 + (m + 1))).data.toList.length = m + 1 := by rw [← size_data, ByteArray.size_extract]; omega
    rw [hl] at hlt
    have : (10 : Nat) ^ (m + 1) ≤ 10 ^ 3 := Nat.pow_le_pow_right (by decide) (by omega)
    omega
theorem PK.word {W : World} {g k : Nat} {c : Int} {x : ByteArray} (h : PK W g (k, c, x)) (y : ByteArray) : PK (W.setCell ⟨g, 2, none⟩ (.string y)) g (k, c, y) := by
  unfold PK at *
  exact heap_setCell_same W g 2 _ _ (.string y) h
theorem dEnd_stop {s : ByteArray} {f j : Nat} (h : ¬ (j < s.size ∧ 48 ≤ bt s j ∧ bt s j ≤ 57)) : dEnd s f j = j := by
  cases f with
  | zero => rfl
  | succ f => rw [dEnd, if_neg h]
theorem partR_lt {s : ByteArray} {i n : Nat} {x : ByteArray} {t : Nat} (h : partR s i = some (n, x, t)) : i < t ∧ t ≤ s.size ∧ n < 256 := by
  rcases partR_cases s i with e | ⟨_, e | ⟨n', t', e, h1, h2, _⟩⟩
  · rw [e] at h; have := partZ_lt h; exact ⟨this.2.1, this.2.2, this.1⟩
  · rw [e] at h; cases h
  · rw [e] at h
    simp only [Option.some.injEq, Prod.mk.injEq] at h
    obtain ⟨rfl, _, rfl⟩ := h
    refine ⟨h1, by omega, ?_⟩
    unfold partR at e
    split at e
    · cases hk : kindZ (s.extract (i + 1) (dEnd s 3 (i + 1))) with
      | none => rw [hk] at e; cases e
      | some m =>
        rw [hk] at e
        have hm := (kindZ_lt hk).1
        simp only [] at e
        split at e
        · obtain ⟨rfl, _⟩ := wordZ_lt e; exact hm
        · simp only [Option.some.injEq, Prod.mk.injEq] at e; obtain ⟨rfl, _⟩ := e; exact hm
    · cases e
/-- What holds at the head of the kids' loop. -/
def kdRel (i0 : Nat) (s : ByteArray) (R : Nat → Option (List Prt × Nat)) (RK : Option (Int × List Prt × Nat)) (n : Nat) (x : ByteArray) (w0 : World) (tv ov : Value) (W : World) : Prop :=
  ∃ (j g : Nat) (c : Int) (l : List Prt), tv = .int .i64 (j : Int) ∧ i0 < j ∧ j ≤ s.size ∧ s.size < j + g ∧ 0 ≤ c ∧ c ≤ j ∧ l.length ≤ j ∧ W.ownsRow w0.heap.size 28 3 ov (l.length + 1) (partsV ((n, c, x) :: l)) ∧ rdK s R g c l j = RK ∧ Below w0.heap.size w0 W
noncomputable def rdNum : Code := fstC (fstC (sndN 4 (Tryz.f43.body.getD .skip)))
noncomputable def rdIf : Code := sndN 1 (fstC (sndN 4 (Tryz.f43.body.getD .skip)))
noncomputable def rdNumR : Code := sndN 5 (Tryz.f43.body.getD .skip)
set_option maxRecDepth 100000 in
set_option maxHeartbeats 16000000 in
theorem read_num (u2 u3 u4 u5 u8 u9 u10 u11 u12 u13 u14 u15 u16 u17 u18 u19 u20 u21 u22 u23 u24 u25 u26 u27 u28 u29 u30 u31 u32 u33 u34 u35 u36 u37 u38 u39 u40 u41 u42 u43 u44 u45 u46 u47 u48 u49 u50 u51 u52 u53 u54 u55 u56 u57 u58 u59 u60 u61 u62 u63 u64 u65 u66 u67 u68 u69 u70 u71 u72 u73 u74 u75 u76 u77 u78 u79 u80 u81 u82 u83 u84 u85 u86 u87 u88 u89 u90 u91 u92 u93 u94 u95 u96 u97 u98 u99 u100 u101 u102 u103 u104 u105 u106 u107 u108 u109 u110 u111 u112 u113 u114 u115 u116 u117 u118 u119 u120 u121 u122 u123 u124 u125 u126 u127 u128 u129 u130 u131 u132 u133 u134 u135 u136 u137 u138 u139 u140 u141 u142 u143 u144 u145 u146 u147 u148 u149 u150 u151 u152 u153 u154 u155 u156 u157 u158 u159 u160 u161 u162 u163 u164 u165 u166 u167 u168 u169 u170 u171 u172 u173 : Value) (s : ByteArray) (hs : s.size ≤ 100000000) (f i T kv : Nat) (hi : i < s.size) (hi1 : i + 1 ≤ T) (hT : T ≤ s.size) (w0 W : World) (HB : RowKit.Hid (Below w0.heap.size w0 W))
    (HD : RowKit.Hid (DigL (s.extract (i + 1) T).data.toList)) (HKV : RowKit.Hid (numD (s.extract (i + 1) T).data.toList 0 = kv)) (hkv : kv < 1000) (HTE : RowKit.Hid (T = dEnd s 3 (i + 1))) (H40 : RowKit.Hid (bt s i = 40))
    (IH : RowKit.Hid (∀ i, s.size < i + f → i ≤ s.size → ∀ w, Calls Tryz.prog 43 #[.string s, .int .i64 (i : Int)] w (rdPost (rdR s f i) w)))
    (hf : s.size < i + (f + 1)) (Q : Ending → World → Prop)
    (HQ : RowKit.Hid (∀ e w', rdPost (rdR s (f + 1) i) w0 e w' → Q e w'))
    (K Ki : Act → World → Prop) (hK : ∀ a' w', Code.wp Tryz.prog rdNumR (bodyPost Tryz.prog Tryz.f43 Q) a' w' → K a' w')
    (hKi : ∀ a' w', Code.wp Tryz.prog rdIf (Exit.then K (bodyPost Tryz.prog Tryz.f43 Q)) a' w' → Ki a' w') :
    Code.wp Tryz.prog rdNum (Exit.then Ki (Exit.then K (bodyPost Tryz.prog Tryz.f43 Q))) ⟨#[.string s, .int .i64 (i : Int), u2, u3, u4, u5, .int .i64 (kv : Int), .int .i64 (T : Int), u8, u9, u10, u11, u12, u13, u14, u15, u16, u17, u18, u19, u20, u21, u22, u23, u24, u25, u26, u27, u28, u29, u30, u31, u32, u33, u34, u35, u36, u37, u38, u39, u40, u41, u42, u43, u44, u45, u46, u47, u48, u49, u50, u51, u52, u53, u54, u55, u56, u57, u58, u59, u60, u61, u62, u63, u64, u65, u66, u67, u68, u69, u70, u71, u72, u73, u74, u75, u76, u77, u78, u79, u80, u81, u82, u83, u84, u85, u86, u87, u88, u89, u90, u91, u92, u93, u94, u95, u96, u97, u98, u99, u100, u101, u102, u103, u104, u105, u106, u107, u108, u109, u110, u111, u112, u113, u114, u115, u116, u117, u118, u119, u120, u121, u122, u123, u124, u125, u126, u127, u128, u129, u130, u131, u132, u133, u134, u135, u136, u137, u138, u139, u140, u141, u142, u143, u144, u145, u146, u147, u148, u149, u150, u151, u152, u153, u154, u155, u156, u157, u158, u159, u160, u161, u162, u163, u164, u165, u166, u167, u168, u169, u170, u171, u172, u173], []⟩ W := by
  unfold rdNum
  unfold rdNumR at hK
  unfold rdIf at hKi
  conv => arg 2; whnf
  conv at hK => enter [a', w', 1]; arg 2; whnf
  conv at hKi => enter [a', w', 1]; arg 2; whnf
  have hwi : IntKind.i64.wrap ((i : Int) + 1) = (i : Int) + 1 := by rw [IntKind.wrap_i64]; omega
  have h0 : (0 : Int) ≤ (i : Int) + 1 := by omega
  have h1 : (i : Int) + 1 ≤ (T : Int) := by omega
  have h2 : (T : Int) ≤ s.size := by omega
  have ht1 : ((i : Int) + 1).toNat = i + 1 := by omega
  have HKZ := Lib.hid (kindZ_digs HD.out)
  have hpr : ∀ o, kindZ (s.extract (i + 1) T) = o → partR s i = (match o with
      | none => none
      | some n => if T + 1 < s.size ∧ bt s T = 32 ∧ bt s (T + 1) = 34 then wordZ s n (T + 1) else some (n, ByteArray.empty, T)) := by
    intro o ho
    unfold partR
    rw [if_pos ⟨hi, H40.out⟩, ← HTE.out, ho]
    cases o <;> rfl
  have HPR := Lib.hid hpr
  have HNO : RowKit.Hid (∀ w', partR s i = none → Below w0.heap.size w0 w' → Q (.returned (.tuple #[.slice none 0 0, .int .i64 0])) w') := Lib.hid fun w' h hb => HQ.out _ w' (rdPost.no (by rw [rdR, h]) hb)
  rw [HKV.out] at HKZ
  clear hpr
  have HBd := Lib.hid HB.out.drew
  by_cases c1 : 255 < kv
  · have c1i : (255 : Int) < kv := by omega
    have HX := Lib.hid (fun w' => HNO.out w' (by rw [HPR.out none (by rw [HKZ.out, if_neg (by omega)])]))
    clear c1
    go_wp2_with fail
    go_quiet (fail)
    have HB2 := Lib.hid (bdrewN HB.out nq)
    go_wp2_with fail
    exact HX.out _ HB2.out
  have c1i : ¬ (255 : Int) < kv := by omega
  have c1d : decide ((255 : Int) < (kv : Int)) = false := decide_eq_false c1i
  by_cases c2 : T = i + 1
  · have HX := Lib.hid (fun w' => HNO.out w' (by rw [HPR.out none (by rw [HKZ.out, if_neg (fun h => h.2.1 (by rw [c2, extract_data, Nat.sub_self]; rfl))])]))
    clear c1 hkv h0 h1 h2 ht1
    subst c2
    have hcc : ((i + 1 : Nat) : Int) = (i : Int) + 1 := by omega
    rw [hcc]
    have c2i : ((i : Int) + 1 == (i : Int) + 1) = true := by rw [beq_iff_eq]
    clear hcc
    go_wp2_with fail
    go_quiet (fail)
    have HB2 := Lib.hid (bdrewN HB.out nq)
    go_wp2_with fail
    exact HX.out _ HB2.out
  have c2i : ((T : Int) == (i : Int) + 1) = false := by rw [beq_eq_false_iff_ne]; omega
  have hwk : IntKind.u8.wrap (kv : Int) = (kv : Int) := by rw [IntKind.wrap_u8]; omega
  have CD := Lib.hid (fun W => ref_digits11 kv (by omega) W)
  have hne : (s.extract (i + 1) T).data.toList ≠ [] := by
    intro e
    have := congrArg List.length e
    rw [← size_data, ByteArray.size_extract] at this
    simp at this; omega
  have HDT : RowKit.Hid ((s.extract (i + 1) T).toList = (s.extract (i + 1) T).data.toList) := Lib.hid (ByteArray.toList_eq _)
  have hDl : (⟨(Lib.decDigits kv).toArray⟩ : ByteArray).toList = Lib.decDigits kv := by rw [ByteArray.toList_eq]
  have HDL := Lib.hid hDl
  clear hDl
  generalize hds : s.extract (i + 1) T = ds at *
  generalize (⟨(Lib.decDigits kv).toArray⟩ : ByteArray) = D at *
  by_cases c3 : Lib.decDigits kv = ds.data.toList
  · have hkz : kindZ ds = some kv := by rw [HKZ.out, if_pos ⟨by omega, hne, c3⟩]
    have HPK := Lib.hid (HPR.out (some kv) hkz)
    have f1 : (D.toList == ds.toList) = true := by rw [beq_iff_eq, HDL.out, HDT.out, c3]
    have f2 : (D.toList != ds.toList) = false := by rw [bne_eq_false_iff_eq, HDL.out, HDT.out, c3]
    clear c1 c2 c3 hne hkz
    go_wp2_with fail
    go_region_held3 (fun W' => RowKit.Hid (Below w0.heap.size w0 W')) (first | exact HBd | exact Lib.hid (bthen HBd.out hb4)) ((go_at_call 57; (with_reducible refine (CD.out _).mono ?_); rintro e w4 ⟨rfl, hb4⟩; (try dsimp only)))
    all_goals
      have HB4 := Lib.hid (bthen HBd.out hb4)
      clear hb4 f1 f2 hds
      have HPB : RowKit.Hid (PK (w4.alloc (.cells #[.int .u8 (kv : Int), .int .i64 0, .string ⟨#[]⟩] 28)) w4.heap.size (kv, 0, ByteArray.empty)) := Lib.hid (PK.alloc_new w4 (kv, 0, ByteArray.empty))
      have HB5 := Lib.hid (HB4.out.alloc HB4.out.size (.cells #[.int .u8 (kv : Int), .int .i64 0, .string ⟨#[]⟩] 28))
      have HG0 : RowKit.Hid (w0.heap.size ≤ w4.heap.size) := Lib.hid HB4.out.size
      go_upto_region 10 with (fail)
      generalize w4.alloc (.cells #[.int .u8 (kv : Int), .int .i64 0, .string ⟨#[]⟩] 28) = W5 at *
      generalize w4.heap.size = g at *
      obtain ⟨pb, hpb⟩ : ∃ pb : Bool, decide (T + 1 < s.size ∧ bt s T = 32 ∧ bt s (T + 1) = 34) = pb := ⟨_, rfl⟩
      have HPBD := Lib.hid hpb
      clear hpb
      have hT0 : (0 : Int) ≤ (T : Int) := by omega
      have hwT : IntKind.i64.wrap ((T : Int) + 1) = (T : Int) + 1 := by rw [IntKind.wrap_i64]; omega
      have hT10 : (0 : Int) ≤ (T : Int) + 1 := by omega
      have hT1t : ((T : Int) + 1).toNat = T + 1 := by omega
      go_cut [99] from 82 (fun v99 W => v99 = .bool pb ∧ W = W5)
      case first =>
        by_cases g1 : T + 1 < s.size
        · have g1i : (T : Int) + 1 < s.size := by omega
          have g0i : (T : Int) < s.size := by omega
          have hxT : ∀ h, ((s[T]'h).toNat : Int) = (bt s T : Int) := fun h => by rw [bt_at s T h]
          have hxU : ∀ h, ((s[T + 1]'h).toNat : Int) = (bt s (T + 1) : Int) := fun h => by rw [bt_at s (T + 1) h]
          by_cases g2 : bt s T = 32
          · have f2 : ((bt s T : Int) == 32) = true := by rw [beq_iff_eq]; omega
            by_cases g3 : bt s (T + 1) = 34
            · have f3 : ((bt s (T + 1) : Int) == 34) = true := by rw [beq_iff_eq]; omega
              have HX := Lib.hid (show pb = true by rw [← HPBD.out]; exact decide_eq_true ⟨g1, g2, g3⟩)
              clear g2 g3
              generalize bt s T = cT at hxT f2
              generalize bt s (T + 1) = cU at hxU f3
              go_wp2_with fail
              go_meet
              case rel => exact ⟨by rw [HX.out], rfl⟩
            · have f3 : ((bt s (T + 1) : Int) == 34) = false := by rw [beq_eq_false_iff_ne]; omega
              have HX := Lib.hid (show pb = false by rw [← HPBD.out]; exact decide_eq_false fun h => g3 h.2.2)
              clear g2 g3
              generalize bt s T = cT at hxT f2
              generalize bt s (T + 1) = cU at hxU f3
              go_wp2_with fail
              go_meet
              case rel => exact ⟨by rw [HX.out], rfl⟩
          · have f2 : ((bt s T : Int) == 32) = false := by rw [beq_eq_false_iff_ne]; omega
            have HX := Lib.hid (show pb = false by rw [← HPBD.out]; exact decide_eq_false fun h => g2 h.2.1)
            clear g2
            generalize bt s T = cT at hxT f2
            go_wp2_with fail
            go_meet
            case rel => exact ⟨by rw [HX.out], rfl⟩
        · have g1i : ¬ (T : Int) + 1 < s.size := by omega
          have HX := Lib.hid (show pb = false by rw [← HPBD.out]; exact decide_eq_false fun h => g1 h.1)
          go_wp2_with fail
          go_meet
          case rel => exact ⟨by rw [HX.out], rfl⟩
      case rest =>
        obtain ⟨rfl, hWc⟩ := hcut
        subst hWc
        go_upto_if 99 with (fail)
        go_cut [7] from 9 (fun v7 W => ∃ (x : ByteArray) (t : Nat), v7 = .int .i64 (t : Int) ∧ partR s i = some (kv, x, t) ∧ PK W g (kv, 0, x) ∧ Below w0.heap.size w0 W)
        case first =>
          cases pb with
          | true =>
            have hp := of_decide_eq_true HPBD.out
            have g1i : (T : Int) + 1 < s.size := by omega
            have HPW := HPK.out
            rw [if_pos hp] at HPW
            have HPW := Lib.hid HPW
            have CB := Lib.hid (ref_Begun s ((T : Int) + 1) (by omega) wc)
            have HPP := Lib.hid hp
            clear hp
            go_wp2_with fail
            refine CB.out.mono ?_
            intro e w6 h6
            unfold rbegunPost at h6
            obtain ⟨rfl, hb6⟩ := h6
            have HB6 := Lib.hid (bthen HB5.out hb6)
            have HB6d := Lib.hid HB6.out.drew
            have HPB6 := Lib.hid (HPB.out.keep hb6)
            have HPB6d : RowKit.Hid (PK w6.drew g (kv, 0, ByteArray.empty)) := Lib.hid (HPB6.out)
            clear hb6 CB
            have hW : wordZ s kv (T + 1) = if (begun s ((T : Int) + 1)).2.2.2 = 0 then
              (if (value (s.extract (T + 1) (begun s ((T : Int) + 1)).2.1.toNat)).1.toList.isEmpty then none
               else if quote (value (s.extract (T + 1) (begun s ((T : Int) + 1)).2.1.toNat)).1 = s.extract (T + 1) (begun s ((T : Int) + 1)).2.1.toNat then some (kv, (value (s.extract (T + 1) (begun s ((T : Int) + 1)).2.1.toNat)).1, (begun s ((T : Int) + 1)).2.1.toNat) else none)
            else none := rfl
            have HFD := Lib.hid (fun k e v h => begun_found s ((T : Int) + 1) k e v h)
            have HW := Lib.hid hW
            clear hW
            generalize begun s ((T : Int) + 1) = bg at *
            obtain ⟨bk, be, bv, br⟩ := bg
            simp only [] at HW
            unfold begunVals
            simp only []
            by_cases hr : br = 0
            · subst hr
              obtain ⟨i', n', e1, e2, e3, e4, _, e5, _, _⟩ := HFD.out bk be bv rfl
              obtain rfl : i' = T + 1 := by omega
              subst e2
              rw [if_pos rfl, Int.toNat_natCast, e5] at HW
              simp only [] at HW
              have hn1 : (T : Int) + 1 ≤ (n' : Int) := by omega
              have hn2 : (n' : Int) ≤ s.size := by omega
              have hvl : bv.size ≤ 2147483647 := by
                have hq := HPP.out
                have hm : bt (s.extract (T + 1) n') 0 = 34 := by
                  rw [← hq.2.2]
                  unfold bt
                  rw [get!_lt (s.extract (T + 1) n') 0 (by rw [ByteArray.size_extract]; omega), get!_lt s (T + 1) hq.1]
                  simp [ByteArray.getElem_extract]
                have := value_len e5 hm
                rw [ByteArray.size_extract] at this
                omega
              have HVL := Lib.hid hvl
              clear e1 e3 e5 HFD hvl
              cases he : bv.toList.isEmpty with
              | true =>
                rw [he, if_pos rfl] at HW
                have hbe : bv.toList = [] := by simpa using he
                have HX := Lib.hid (fun w' => HNO.out w' (by rw [HPW.out, HW.out]))
                go_wp2_with fail
                go_quiet (fail)
                have HB7 := Lib.hid (bdrewN HB6.out nq)
                go_wp2_with fail
                exact HX.out _ HB7.out
              | false =>
                rw [he, if_neg (by simp)] at HW
                have he2 : (!bv.toList.isEmpty) = true := by rw [he]; rfl
                have CQ := Lib.hid (fun W => ref_Quote06 bv W HVL.out)
                have hTn : IntKind.i64.wrap ((T : Int) + 1) = (T : Int) + 1 := hwT
                have p0 := HPB6.out.c0
                have p1 := HPB6.out.c1
                have p2 := HPB6.out.c2
                have pz := HPB6.out.fz
                by_cases hqe : quote bv = s.extract (T + 1) n'
                · rw [if_pos hqe] at HW
                  have HX : RowKit.Hid (∀ W, PK W g (kv, 0, ByteArray.empty) → Below w0.heap.size w0 W → ∃ (x : ByteArray) (t : Nat), Value.int .i64 (n' : Int) = .int .i64 (t : Int) ∧ partR s i = some (kv, x, t) ∧ PK (W.setCell ⟨g, 2, none⟩ (.string bv)) g (kv, 0, x) ∧ Below w0.heap.size w0 (W.setCell ⟨g, 2, none⟩ (.string bv))) := Lib.hid fun W hp hb =>
                    ⟨bv, n', rfl, by rw [HPW.out, HW.out], hp.word bv, hb.setCell (p := ⟨g, 2, none⟩) HG0.out _⟩
                  have f6 : ((quote bv).toList == (s.extract (T + 1) n').toList) = true := by rw [beq_iff_eq, hqe]
                  have f7 : ((quote bv).toList != (s.extract (T + 1) n').toList) = false := by rw [bne_eq_false_iff_eq, hqe]
                  clear hqe
                  generalize quote bv = qw at *
                  clear p0 p1 p2 pz
                  go_wp2_with fail
                  go_region_held3 (fun W' => RowKit.Hid (Below w0.heap.size w0 W') ∧ RowKit.Hid (PK W' g (kv, 0, ByteArray.empty))) (first | exact ⟨HB6d, HPB6d⟩ | exact ⟨Lib.hid (bthen HB6d.out hb7), Lib.hid (HPB6d.out.keep hb7)⟩) ((go_at_call 58; (with_reducible refine (CQ.out _).mono ?_); rintro e w7 ⟨rfl, hb7⟩; (try dsimp only)))
                  all_goals
                    have HP7 := Lib.hid (HPB6d.out.keep hb7)
                    have HX7 := Lib.hid (HX.out w7 HP7.out (bthen HB6d.out hb7))
                    have p0 := HP7.out.c0
                    have p1 := HP7.out.c1
                    have p2 := HP7.out.c2
                    have pz := HP7.out.fz
                    clear hb7 f6 f7
                    go_wp2_with fail
                    go_meet
                    case rel => exact HX7.out
                · rw [if_neg hqe] at HW
                  have HX := Lib.hid (fun w' => HNO.out w' (by rw [HPW.out, HW.out]))
                  have f6 : ((quote bv).toList == (s.extract (T + 1) n').toList) = false := by rw [beq_eq_false_iff_ne]; intro e; rw [ByteArray.toList_eq, ByteArray.toList_eq] at e; exact hqe (ByteArray.ext (Array.ext' e))
                  have f7 : ((quote bv).toList != (s.extract (T + 1) n').toList) = true := by rw [bne_iff_ne]; intro e; rw [ByteArray.toList_eq, ByteArray.toList_eq] at e; exact hqe (ByteArray.ext (Array.ext' e))
                  clear hqe
                  generalize quote bv = qw at *
                  clear p0 p1 p2 pz
                  go_wp2_with fail
                  go_region_held3 (fun W' => RowKit.Hid (Below w0.heap.size w0 W')) (first | exact HB6d | exact Lib.hid (bthen HB6d.out hb7)) ((go_at_call 58; (with_reducible refine (CQ.out _).mono ?_); rintro e w7 ⟨rfl, hb7⟩; (try dsimp only)))
                  all_goals
                    have HX7 := Lib.hid (HX.out w7 (bthen HB6d.out hb7))
                    clear hb7 f6 f7
                    go_wp2_with fail
                    exact HX7.out
            · have hr1 : (br == 0) = false := by rw [beq_eq_false_iff_ne]; exact hr
              have hr2 : (br != 0) = true := by rw [bne_iff_ne]; exact hr
              rw [if_neg hr] at HW
              have HX := Lib.hid (fun w' => HNO.out w' (by rw [HPW.out, HW.out]))
              clear hr
              go_wp2_with fail
              go_quiet (fail)
              have HB7 := Lib.hid (bdrewN HB6.out nq)
              go_wp2_with fail
              exact HX.out _ HB7.out
          | false =>
            have hp := of_decide_eq_false HPBD.out
            have HX : RowKit.Hid (∃ (x : ByteArray) (t : Nat), Value.int .i64 (T : Int) = .int .i64 (t : Int) ∧ partR s i = some (kv, x, t) ∧ PK wc g (kv, 0, x) ∧ Below w0.heap.size w0 wc) := Lib.hid ⟨_, T, rfl, by rw [HPK.out, if_neg hp], HPB.out, HB5.out⟩
            clear hp
            go_wp2_with fail
            go_meet
            case rel => exact HX.out
        case rest =>
          obtain ⟨x, t, rfl, hpr2, hpk2, hbx⟩ := hcut
          have hlt := partR_lt hpr2
          have htz : t ≤ s.size := hlt.2.1
          have hti : i < t := hlt.1
          have hrr : rdR s (f + 1) i = match rdK s (rdR s f) (s.size + 1) 0 [] t with
            | none => none
            | some (c, l, j) => if j < s.size ∧ bt s j = 41 then some ((kv, c, x) :: l, j + 1) else none := by rw [rdR, hpr2]; rfl
          have HRR := Lib.hid hrr
          have HBX := Lib.hid hbx
          have p0 := hpk2.c0
          have p1 := hpk2.c1
          have p2 := hpk2.c2
          generalize wc = wx at *
          have HO : RowKit.Hid ((wx.alloc (.cells #[.int .u8 (kv : Int), .int .i64 0, .string x] 28)).ownsRow w0.heap.size 28 3 (.slice (some ⟨wx.heap.size, 0, none⟩) 1 1) (([] : List Prt).length + 1) (partsV ((kv, 0, x) :: []))) := Lib.hid
            ⟨rfl, Or.inr ⟨wx.heap.size, 1, _, rfl, hbx.size, heap_alloc_new _ _, Nat.le_refl _, by unfold maxLen; omega, rfl, rfl⟩⟩
          have HBY := Lib.hid (HBX.out.alloc HBX.out.size (.cells #[.int .u8 (kv : Int), .int .i64 0, .string x] 28))
          obtain ⟨RK, hRK⟩ : ∃ RK, rdK s (rdR s f) (s.size + 1) 0 [] t = RK := ⟨_, rfl⟩
          rw [hRK] at HRR
          have HAT : RowKit.Hid (kdRel i s (rdR s f) RK kv x w0 (.int .i64 (t : Int)) (.slice (some ⟨wx.heap.size, 0, none⟩) 1 1) (wx.alloc (.cells #[.int .u8 (kv : Int), .int .i64 0, .string x] 28))) := Lib.hid ⟨t, s.size + 1, 0, [], rfl, hti, htz, by omega, by omega, by omega, Nat.zero_le _, HO.out, hRK, HBY.out⟩
          clear hlt hrr hbx hpk2 hpr2 hRK HPK HPB HB5 HPBD HO
          have HNO' : ∀ w', rdR s (f + 1) i = none → Below w0.heap.size w0 w' → Q (.returned (.tuple #[.slice none 0 0, .int .i64 0])) w' := fun w' h hb => HQ.out _ w' (rdPost.no h hb)
          have HNO2 := Lib.hid HNO'
          clear HNO'
          go_upto_block 2 with (fail)
          clear p0 p1 p2
          generalize wx.alloc (.cells #[.int .u8 (kv : Int), .int .i64 0, .string x] 28) = wy at *
          go_wp2_with fail
          go_loopw [7, 13] (fun tv ov wr => kdRel i s (rdR s f) RK kv x w0 tv ov wr) (fun tv _ _ => s.size - (intOf tv).toNat)
          case atStart => exact HAT.out
          case round =>
            obtain ⟨j, m, c, l, rfl, hij, hj, hm, hc0, hcj, hlj, ho, hrk, hb⟩ := hrel
            obtain ⟨a0, n0, oc, rfl⟩ := owns_slice ho
            obtain rfl : n0 = l.length + 1 := by
              obtain ⟨_, _, _, e, _⟩ := Row.of_owns ho
              simp only [Value.slice.injEq] at e
              exact e.2.1
            obtain ⟨gq, rfl⟩ := ownsRow_some ho (by omega)
            obtain ⟨m, rfl⟩ : ∃ m', m = m' + 1 := ⟨m - 1, by omega⟩
            unfold rdK at hrk
            have HO := Lib.hid ho
            have HB := Lib.hid hb
            have hj0 : (0 : Int) ≤ (j : Int) := by omega
            clear ho hb
            by_cases hc1 : j < s.size ∧ bt s j = 32
            · rw [if_pos hc1] at hrk
              have hjl : (j : Int) < s.size := by omega
              have hxj : ∀ h, ((s[j]'h).toNat : Int) = (bt s j : Int) := fun h => by rw [bt_at s j h]
              have f2 : ((bt s j : Int) == 32) = true := by rw [beq_iff_eq]; omega
              have hwj : IntKind.i64.wrap ((j : Int) + 1) = ((j + 1 : Nat) : Int) := by rw [IntKind.wrap_i64]; omega
              have CR := Lib.hid (IH.out (j + 1) (by omega) (by omega) wr)
              have HJ := Lib.hid hc1.1
              clear hc1
              generalize bt s j = cj at *
              go_wp2_with fail
              refine CR.out.mono ?_
              intro e w7 h7
              unfold rdPost at h7
              obtain ⟨hb7, h7⟩ := h7
              have HB7 := Lib.hid (bthen HB.out hb7)
              cases hr : rdR s f (j + 1) with
              | none =>
                rw [hr] at h7 hrk
                simp only [] at h7 hrk
                subst h7
                have HX := Lib.hid (HNO2.out w7 (by rw [HRR.out, ← hrk]) HB7.out)
                clear hb7 hrk hr
                go_wp2_with fail
                exact HX.out
              | some q =>
                obtain ⟨k, t'⟩ := q
                rw [hr] at h7 hrk
                simp only [] at h7 hrk
                obtain ⟨vk, rfl, hok⟩ := h7
                rw [rdR_eq] at hr
                have hlt := rdZ_lt s f _ _ _ hr
                have hfn := rdZ_fine s f _ _ _ hr
                have hk0 := (rdZ_text s f _ _ _ hr).2.1
                obtain ⟨_, ka, kc, rfl, hkc, _, _⟩ := Row.of_owns hok
                obtain ⟨gk, rfl⟩ := ownsRow_some hok hk0
                have ho7 := owns_below HO.out hb7
                have hqk : gk ≠ gq := by
                  have h1 := HO.out
                  rcases hok.2 with ⟨hv, _⟩ | ⟨g1, c1, cur1, hv, hg1, _⟩
                  · cases hv
                  · rcases h1.2 with ⟨hv2, _⟩ | ⟨g2, c2, cur2, hv2, hg2, hh2, _⟩
                    · cases hv2
                    · simp only [Value.slice.injEq, Option.some.injEq, Addr.mk.injEq, and_true, true_and] at hv hv2
                      have := keeps_lt hh2
                      omega
                have p1 : w7.cell? ⟨gq, 1, none⟩ = some (.int .i64 c) := by rw [ho7.cellAt _ (by omega)]; rfl
                have pz : w7.frozen? ⟨gq, 1, none⟩ = false := by
                  rcases ho7.2 with ⟨hv, _⟩ | ⟨g', cap', cur, hv, _, hh, _⟩
                  · cases hv
                  · simp only [Value.slice.injEq, Option.some.injEq, Addr.mk.injEq, and_true, true_and] at hv
                    obtain ⟨rfl, rfl⟩ := hv
                    simp [World.frozen?, hh]
                have hset := owns_set ho7 1 (by rw [partsV_length]; simp only [List.length_cons]; omega) (.int .i64 (c + 1))
                have hsx : (partsV ((kv, c, x) :: l)).set 1 (.int .i64 (c + 1)) = partsV ((kv, c + 1, x) :: l) := rfl
                rw [hsx] at hset
                have hbs : Below w0.heap.size w0 (w7.setCell ⟨gq, 1, none⟩ (.int .i64 (c + 1))) := HB7.out.setCell (p := ⟨gq, 1, none⟩) (by
                  rcases HO.out.2 with ⟨hv2, _⟩ | ⟨g2, c2, cur2, hv2, hg2, hh2, _⟩
                  · cases hv2
                  · simp only [Value.slice.injEq, Option.some.injEq, Addr.mk.injEq, and_true, true_and] at hv2
                    show w0.heap.size ≤ gq
                    omega) _
                have hrowk : Row (w7.setCell ⟨gq, 1, none⟩ (.int .i64 (c + 1))) (.slice (some ⟨gk, 0, none⟩) k.length kc) k.length 3 (partsV k) := Row.of_owns (ownsRow_setCell_other hok (by simp [Value.ownBlock]; exact hqk) _)
                have hz0 := HB7.out.size
                obtain ⟨ov', w8, hrun, ho8, hg8, _⟩ := append_eq (P := Tryz.prog) (w7.setCell ⟨gq, 1, none⟩ (.int .i64 (c + 1))) 22 22 28 Tryz.underlying22 w0.heap.size Tinfo_part rfl (by decide) _ (l.length + 1) _ hset _ k.length (partsV k) hrowk (partsV_one k) (by omega) (by omega) (by simpa using hz0)
                have hb8 := grown_keeps hbs (by simpa using hz0) hset hg8
                have HNX : RowKit.Hid (kdRel i s (rdR s f) RK kv x w0 (.int .i64 (t' : Int)) ov' w8) := Lib.hid ⟨t', m, c + 1, l ++ k, rfl, by omega, hlt.2, by omega, by omega, by omega, by rw [List.length_append]; omega, by
                  rw [← partsV_append, List.cons_append, show l.length + 1 + k.length = (l ++ k).length + 1 by rw [List.length_append]; omega] at ho8
                  exact ho8, hrk, hb8⟩
                have HMS : RowKit.Hid (s.size - t' < s.size - j) := Lib.hid (by omega)
                have hk0i : ((k.length : Int) == 0) = false := by rw [beq_eq_false_iff_ne]; omega
                have hk1i : (0 : Int) < (l.length : Int) + 1 := by omega
                have hwc : IntKind.i64.wrap (c + 1) = c + 1 := by rw [IntKind.wrap_i64]; omega
                clear hset hsx hbs hrowk hg8 hb8 ho8 ho7 hok hfn hlt hrk hr hb7 hqk
                go_upto_region 22 with (fail)
                generalize w7.setCell ⟨gq, 1, none⟩ (.int .i64 (c + 1)) = w9 at *
                clear p1 pz
                go_wp2_with (at_builtin; refine wpList_append_run rfl _ _ _ _ hrun rfl rfl rfl rfl ?_)
                refine ⟨?_, (by have := HMS.out; simp [intOf]; try omega)⟩
                first
                  | exact HNX.out
                  | (repeat apply Exists.intro
                     refine ⟨?_, rfl⟩
                     exact HNX.out)
            · rw [if_neg hc1] at hrk
              subst hrk
              have hrr := HRR.out
              simp only [] at hrr
              have HRR2 := Lib.hid hrr
              have hwj : IntKind.i64.wrap ((j : Int) + 1) = ((j + 1 : Nat) : Int) := by rw [IntKind.wrap_i64]; omega
              clear hrr HRR
              by_cases hlt : j < s.size
              · have hjl : (j : Int) < s.size := by omega
                have hjg : ¬ (s.size : Int) ≤ (j : Int) := by omega
                have hxj : ∀ h, ((s[j]'h).toNat : Int) = (bt s j : Int) := fun h => by rw [bt_at s j h]
                have f2 : ((bt s j : Int) == 32) = false := by rw [beq_eq_false_iff_ne]; omega
                by_cases h41 : bt s j = 41
                · have f3 : ((bt s j : Int) != 41) = false := by rw [bne_eq_false_iff_eq]; omega
                  have f4 : ((bt s j : Int) == 41) = true := by rw [beq_iff_eq]; omega
                  have hy := HRR2.out
                  rw [if_pos ⟨hlt, h41⟩] at hy
                  have HX := Lib.hid (HQ.out _ wr (rdPost.yes hy HB.out (by rw [List.length_cons]; exact HO.out)))
                  clear hc1 h41 hy
                  generalize bt s j = cj at *
                  go_wp2_with fail
                  exact HX.out
                · have f3 : ((bt s j : Int) != 41) = true := by rw [bne_iff_ne]; omega
                  have f4 : ((bt s j : Int) == 41) = false := by rw [beq_eq_false_iff_ne]; omega
                  have HX := Lib.hid (HNO2.out wr (by rw [HRR2.out, if_neg (fun h => h41 h.2)]) HB.out)
                  clear hc1 h41
                  generalize bt s j = cj at *
                  go_wp2_with fail
                  exact HX.out
              · have hjl : ¬ (j : Int) < s.size := by omega
                have hjg : (s.size : Int) ≤ (j : Int) := by omega
                have HX := Lib.hid (HNO2.out wr (by rw [HRR2.out, if_neg (fun h => hlt h.1)]) HB.out)
                clear hc1
                go_wp2_with fail
                exact HX.out
  · have f1 : (D.toList == ds.toList) = false := by rw [beq_eq_false_iff_ne, HDL.out, HDT.out]; exact c3
    have f2 : (D.toList != ds.toList) = true := by rw [bne_iff_ne, HDL.out, HDT.out]; exact c3
    have HX := Lib.hid (fun w' => HNO.out w' (by rw [HPR.out none (by rw [HKZ.out, if_neg (fun h => c3 h.2.2)])]))
    clear c1 c2 c3 hne
    go_wp2_with fail
    go_region_held3 (fun W' => RowKit.Hid (Below w0.heap.size w0 W')) (first | exact HBd | exact Lib.hid (bthen HBd.out hb4)) ((go_at_call 57; (with_reducible refine (CD.out _).mono ?_); rintro e w4 ⟨rfl, hb4⟩; (try dsimp only)))
    all_goals
      go_wp2_with fail
      exact HX.out _ (bthen HBd.out hb4)
end Go.Proofs.YtpjglenogifclaaGreatDoor
