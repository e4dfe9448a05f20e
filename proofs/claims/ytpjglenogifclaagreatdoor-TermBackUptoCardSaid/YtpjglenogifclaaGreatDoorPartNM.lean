/- Layer 11: the program's part, walked. -/
import Derived.Test.YtpjglenogifclaaGreatDoorPartWM
import Derived.Deep.CutBlock
import Derived.Test.YtpjglenogifclaaGreatDoorSwapPM
namespace Go.Proofs.YtpjglenogifclaaGreatDoor
set_option linter.all false
open Go.RowKit

/-- Where a row of digits ends. -/
def dEnd (s : ByteArray) : Nat → Nat → Nat
  | 0, j => j
  | f + 1, j => if j < s.size ∧ 48 ≤ bt s j ∧ bt s j ≤ 57 then dEnd s f (j + 1) else j
def dE (s : ByteArray) (j : Nat) : Nat := dEnd s (s.size - j) j
theorem dE_yes {s : ByteArray} {j : Nat} (h : j < s.size) (h1 : 48 ≤ bt s j) (h2 : bt s j ≤ 57) : dE s j = dE s (j + 1) := by
  unfold dE
  rw [show s.size - j = (s.size - (j + 1)) + 1 by omega, dEnd, if_pos ⟨h, h1, h2⟩]
theorem dE_no {s : ByteArray} {j : Nat} (h : ¬ (j < s.size ∧ 48 ≤ bt s j ∧ bt s j ≤ 57)) : dE s j = j := by
  unfold dE
  cases hk : s.size - j with
  | zero => rfl
  | succ k => rw [dEnd, if_neg h]
theorem dEnd_le (s : ByteArray) : ∀ (f j : Nat), j ≤ dEnd s f j ∧ (j ≤ s.size → dEnd s f j ≤ s.size)
  | 0, j => ⟨Nat.le_refl _, fun h => h⟩
  | f + 1, j => by
    rw [dEnd]
    split
    · rename_i h
      have := dEnd_le s f (j + 1)
      exact ⟨by omega, fun _ => this.2 (by omega)⟩
    · exact ⟨Nat.le_refl _, fun h => h⟩
theorem dE_le (s : ByteArray) (j : Nat) : j ≤ dE s j ∧ (j ≤ s.size → dE s j ≤ s.size) := dEnd_le s _ j
/-- A part's beginning, read. -/
def partZ (s : ByteArray) (i : Nat) : Option (Nat × ByteArray × Nat) :=
  if i < s.size ∧ bt s i = 40 then (match kindZ (s.extract (i + 1) (dE s (i + 1))) with
    | none => none
    | some n => if dE s (i + 1) + 1 < s.size ∧ bt s (dE s (i + 1)) = 32 ∧ bt s (dE s (i + 1) + 1) = 34 then wordZ s n (dE s (i + 1) + 1) else some (n, ByteArray.empty, dE s (i + 1)))
  else none
theorem partZ_out {s : ByteArray} {i : Nat} (h : ¬ (i < s.size ∧ bt s i = 40)) : partZ s i = none := by unfold partZ; rw [if_neg h]
theorem partZ_num {s : ByteArray} {i t : Nat} (h : i < s.size) (h2 : bt s i = 40) (ht : dE s (i + 1) = t) (hn : kindZ (s.extract (i + 1) t) = none) : partZ s i = none := by unfold partZ; rw [if_pos ⟨h, h2⟩, ht, hn]
theorem partZ_word {s : ByteArray} {i t n : Nat} (h : i < s.size) (h2 : bt s i = 40) (ht : dE s (i + 1) = t) (hn : kindZ (s.extract (i + 1) t) = some n) (hw : t + 1 < s.size ∧ bt s t = 32 ∧ bt s (t + 1) = 34) : partZ s i = wordZ s n (t + 1) := by
  unfold partZ; rw [if_pos ⟨h, h2⟩, ht, hn]; simp only []; rw [if_pos hw]
theorem partZ_bare {s : ByteArray} {i t n : Nat} (h : i < s.size) (h2 : bt s i = 40) (ht : dE s (i + 1) = t) (hn : kindZ (s.extract (i + 1) t) = some n) (hw : ¬ (t + 1 < s.size ∧ bt s t = 32 ∧ bt s (t + 1) = 34)) : partZ s i = some (n, ByteArray.empty, t) := by
  unfold partZ; rw [if_pos ⟨h, h2⟩, ht, hn]; simp only []; rw [if_neg hw]
theorem parseM_le (M : Nat) : ∀ (l : List UInt8) (acc n : Nat), acc ≤ M → Lib.parseUintM M acc l = .ok n → n ≤ M
  | [], acc, n, h, e => by unfold Lib.parseUintM at e; cases e; exact h
  | c :: r, acc, n, h, e => by
    unfold Lib.parseUintM at e
    split at e
    · split at e
      · cases e
      · split at e
        · cases e
        · exact parseM_le M r _ n (by omega) e
    · cases e
theorem parseB_lt {l : List UInt8} {n : Nat} (h : Lib.parseUintB 8 l = .ok n) : n < 256 := by
  unfold Lib.parseUintB at h
  split at h
  · cases h
  · have := parseM_le _ _ _ _ (Nat.zero_le _) h; omega
theorem kindZ_lt {ds : ByteArray} {n : Nat} (h : kindZ ds = some n) : n < 256 ∧ Lib.parseUintB 8 ds.data.toList = .ok n ∧ Lib.decDigits n = ds.data.toList := by
  unfold kindZ at h
  cases hp : Lib.parseUintB 8 ds.data.toList with
  | ok m =>
    rw [hp] at h
    simp only [] at h
    split at h
    · rename_i hd
      cases h
      refine ⟨?_, rfl, hd⟩
      unfold Lib.parseUintB at hp
      split at hp
      · cases hp
      · have := parseM_le _ _ _ _ (Nat.zero_le _) hp; omega
    · cases h
  | range => rw [hp] at h; cases h
  | _ => rw [hp] at h; cases h
theorem prefix_at (s : ByteArray) (q : Nat) : Lib.hasPrefix (s.extract q s.size).data.toList [32, 34] = decide (q + 1 < s.size ∧ bt s q = 32 ∧ bt s (q + 1) = 34) := by
  have hN : s.data.toList.length = s.size := (size_data s).symm
  rw [extract_data, Lib.hasPrefix, List.take_of_length_le (by rw [List.length_drop, hN]; exact Nat.le_refl _)]
  by_cases h : q + 1 < s.size
  · have hl : q + 1 < s.data.toList.length := by rw [hN]; exact h
    rw [List.drop_eq_getElem_cons (show q < s.data.toList.length by omega), List.drop_eq_getElem_cons hl]
    have e1 : bt s q = (s.data.toList[q]).toNat := by unfold bt; rw [get!_list, List.getD_eq_getElem?_getD, List.getElem?_eq_getElem (by omega)]; rfl
    have e2 : bt s (q + 1) = (s.data.toList[q + 1]).toNat := by unfold bt; rw [get!_list, List.getD_eq_getElem?_getD, List.getElem?_eq_getElem hl]; rfl
    rw [e1, e2, Bool.eq_iff_iff]
    simp only [List.isPrefixOf, Bool.and_true, Bool.and_eq_true, beq_iff_eq, decide_eq_true_eq, h, true_and]
    constructor
    · rintro ⟨a, b⟩; rw [← a, ← b]; exact ⟨rfl, rfl⟩
    · rintro ⟨a, b⟩; exact ⟨UInt8.toNat_inj.1 (by rw [a]; rfl), UInt8.toNat_inj.1 (by rw [b]; rfl)⟩
  · rw [decide_eq_false (fun g => h g.1)]
    have hlen : (s.data.toList.drop q).length ≤ 1 := by rw [List.length_drop, hN]; omega
    match hd : s.data.toList.drop q, hlen with
    | [], _ => rfl
    | [a], _ => simp [List.isPrefixOf]
    | a :: b :: r, hlen => simp at hlen
noncomputable def ptNum : Code := fstC (sndN 4 (Tryz.f42.body.getD .skip))
noncomputable def ptNumR : Code := sndN 5 (Tryz.f42.body.getD .skip)
set_option maxRecDepth 100000 in
set_option maxHeartbeats 16000000 in
theorem part_num (u2 u3 u5 u6 u8 u9 u10 u11 u12 u13 u14 u15 u16 u17 u18 u19 u20 u21 u22 u23 u24 u25 u26 u27 u28 u29 u30 u31 u32 u33 u34 u35 u36 u37 u38 u39 u40 u41 u42 u43 u44 u45 u46 u47 u48 u49 u50 u51 u52 u53 u54 u55 u56 u57 u58 u59 u60 u61 u62 u63 u64 u65 u66 u67 u68 u69 u70 u71 u72 u73 u74 u75 u76 u77 u78 u79 u80 u81 u82 u83 u84 u85 u86 u87 u88 u89 u90 u91 u92 u93 u94 u95 u96 u97 u98 u99 u100 u101 u102 u103 u104 u105 u106 u107 u108 u109 u110 u111 : Value) (s : ByteArray) (hs : s.size ≤ 100000000) (i t : Nat) (hit : i + 1 ≤ t) (hts : t ≤ s.size) (b : Nat) (w0 W : World) (hb0 : w0.heap.size ≤ b) (HB : RowKit.Hid (Below w0.heap.size w0 W)) (HT : RowKit.Hid (Tabs W)) (HM : RowKit.Hid (MaxC W)) (HE : RowKit.Hid (ErrC W)) (HP : RowKit.Hid (Lib.TabBelow Tryz.prog w0.heap.size w0 "internal/strconv.uint64pow10" .u64 Lib.pow10Tab))
    (HPB : RowKit.Hid (PK W b (0, 0, ByteArray.empty))) (Q : Ending → World → Prop)
    (HNum : RowKit.Hid (kindZ (s.extract (i + 1) t) = none → ∀ e w', partPost none w0 e w' → Q e w'))
    (HWord : RowKit.Hid (∀ n, kindZ (s.extract (i + 1) t) = some n → (t + 1 < s.size ∧ bt s t = 32 ∧ bt s (t + 1) = 34) → ∀ e w', partPost (wordZ s n (t + 1)) w0 e w' → Q e w'))
    (HBare : RowKit.Hid (∀ n, kindZ (s.extract (i + 1) t) = some n → ¬ (t + 1 < s.size ∧ bt s t = 32 ∧ bt s (t + 1) = 34) → ∀ e w', partPost (some (n, ByteArray.empty, t)) w0 e w' → Q e w'))
    (K : Act → World → Prop) (hK : ∀ a' w', Code.wp Tryz.prog ptNumR (bodyPost Tryz.prog Tryz.f42 Q) a' w' → K a' w') :
    Code.wp Tryz.prog ptNum (Exit.then K (bodyPost Tryz.prog Tryz.f42 Q)) ⟨#[.string s, .int .i64 (i : Int), u2, u3, .pointer (some ⟨b, 0, none⟩), u5, u6, .int .i64 (t : Int), u8, u9, u10, u11, u12, u13, u14, u15, u16, u17, u18, u19, u20, u21, u22, u23, u24, u25, u26, u27, u28, u29, u30, u31, u32, u33, u34, u35, u36, u37, u38, u39, u40, u41, u42, u43, u44, u45, u46, u47, u48, u49, u50, u51, u52, u53, u54, u55, u56, u57, u58, u59, u60, u61, u62, u63, u64, u65, u66, u67, u68, u69, u70, u71, u72, u73, u74, u75, u76, u77, u78, u79, u80, u81, u82, u83, u84, u85, u86, u87, u88, u89, u90, u91, u92, u93, u94, u95, u96, u97, u98, u99, u100, u101, u102, u103, u104, u105, u106, u107, u108, u109, u110, u111], []⟩ W := by
  unfold ptNum
  unfold ptNumR at hK
  conv => arg 2; whnf
  conv at hK => enter [a', w', 1]; arg 2; whnf
  have hds : (s.extract (i + 1) t).size ≤ 281474976710656 := by rw [ByteArray.size_extract]; omega
  have CP := Lib.hid (strconv_ParseUint8 (s.extract (i + 1) t) hds W HE.out)
  have hwi : IntKind.i64.wrap ((i : Int) + 1) = (i : Int) + 1 := by rw [IntKind.wrap_i64]; omega
  have h0 : (0 : Int) ≤ (i : Int) + 1 := by omega
  have h1 : (i : Int) + 1 ≤ (t : Int) := by omega
  have h2 : (t : Int) ≤ s.size := by omega
  have ht1 : ((i : Int) + 1).toNat = i + 1 := by omega
  have HZ : RowKit.Hid (∀ (W : World), PK W b (0, 0, ByteArray.empty) → Below w0.heap.size w0 W → ∀ a k c, PK (((W.setCell ⟨b, 0, none⟩ (.int .u8 (a : Nat))).setCell ⟨b, 1, none⟩ (.int .i64 k)).setCell ⟨b, 2, none⟩ (.string c)) b (a, k, c) ∧ Below w0.heap.size w0 (((W.setCell ⟨b, 0, none⟩ (.int .u8 (a : Nat))).setCell ⟨b, 1, none⟩ (.int .i64 k)).setCell ⟨b, 2, none⟩ (.string c))) := Lib.hid fun W h1 h2 a k c => ⟨h1.set3 (a, k, c), ((h2.setCell (p := ⟨b, 0, none⟩) hb0 _).setCell (p := ⟨b, 1, none⟩) hb0 _).setCell (p := ⟨b, 2, none⟩) hb0 _⟩
  clear hds
  go_wp2_with fail
  refine CP.out.mono ?_
  intro e w1 hp
  unfold puPost at hp
  obtain ⟨hb1, hp⟩ := hp
  have HB1 := Lib.hid (bthen HB.out hb1)
  have HPB1 := Lib.hid (HPB.out.keep hb1)
  have HT1 := Lib.hid (HT.out.below hb1)
  have HM1 := Lib.hid (HM.out.below hb1)
  clear hb1 CP HPB HT HM HB HE
  have hn : kindZ (s.extract (i + 1) t) = (match Lib.parseUintB 8 (s.extract (i + 1) t).data.toList with
    | .ok n => if Lib.decDigits n = (s.extract (i + 1) t).data.toList then some n else none
    | _ => none) := rfl
  have HN := Lib.hid hn
  clear hn
  have HDT : RowKit.Hid ((s.extract (i + 1) t).toList = (s.extract (i + 1) t).data.toList) := Lib.hid (ByteArray.toList_eq _)
  have hlt := @kindZ_lt (s.extract (i + 1) t)
  generalize s.extract (i + 1) t = ds at *
  have bad : kindZ ds = none → ∀ (x : Int), RowKit.Hid (∀ W, PK W b (0, 0, ByteArray.empty) → Below w0.heap.size w0 W → True) := fun _ _ => Lib.hid fun _ _ _ => trivial
  clear bad
  have b0 := HPB1.out.c0
  have b1 := HPB1.out.c1
  have b2 := HPB1.out.c2
  have bz := HPB1.out.fz
  cases hpu : Lib.parseUintB 8 ds.data.toList with
  | ok n =>
    rw [hpu] at hp
    subst hp
    have hn256 := parseB_lt hpu
    have CF := Lib.hid (strconv_FormatUint n hn256 w1 (HP.out w1 HB1.out))
    have hDl : (⟨(Lib.decDigits n).toArray⟩ : ByteArray).toList = Lib.decDigits n := by rw [ByteArray.toList_eq]
    have HDL := Lib.hid hDl
    clear hDl hlt
    generalize (⟨(Lib.decDigits n).toArray⟩ : ByteArray) = D at *
    by_cases hc : Lib.decDigits n = ds.data.toList
    · have hnz := HN.out
      rw [hpu] at hnz
      simp only [] at hnz
      rw [if_pos hc] at hnz
      have HNZ := Lib.hid hnz
      have f1 : (D.toList == ds.toList) = true := by rw [beq_iff_eq, HDL.out, HDT.out, hc]
      have f2 : (D.toList != ds.toList) = false := by rw [bne_eq_false_iff_eq, HDL.out, HDT.out, hc]
      have hwn : IntKind.u8.wrap (n : Int) = (n : Int) := by rw [IntKind.wrap_u8]; omega
      have ht0 : (0 : Int) ≤ (t : Int) := by omega
      have CH := Lib.hid (fun w => Tryz.strings_HasPrefix (s.extract t s.size) ⟨#[32, 34]⟩ w)
      rw [show (⟨#[32, 34]⟩ : ByteArray).data.toList = [32, 34] from rfl, prefix_at] at CH
      clear hc hpu hnz b0 b1 b2 bz
      go_wp2_with fail
      refine CF.out.mono ?_
      rintro e w2 ⟨rfl, hb2⟩
      have HB2 := Lib.hid (bthen HB1.out hb2)
      have HPB2 := Lib.hid (HPB1.out.keep hb2)
      have HT2 := Lib.hid (HT1.out.below hb2)
      have HM2 := Lib.hid (HM1.out.below hb2)
      clear hb2 CF HT1 HM1 HPB1 HB1
      have hbA : Below w2.heap.size w2 (w2.alloc (.cells #[.int .u8 (n : Int), .int .i64 0, .string ⟨#[]⟩] 28)) := (Below.refl _ _).alloc (Nat.le_refl _) _
      have HPG := Lib.hid (show PK (w2.alloc (.cells #[.int .u8 (n : Int), .int .i64 0, .string ⟨#[]⟩] 28)) w2.heap.size (n, 0, ByteArray.empty) from PK.alloc_new w2 (n, 0, ByteArray.empty))
      have HB3 := Lib.hid (bthen HB2.out hbA)
      have HPB3 := Lib.hid (HPB2.out.keep hbA)
      have HT3 := Lib.hid (HT2.out.below hbA)
      have HM3 := Lib.hid (HM2.out.below hbA)
      have hgb : b ≠ w2.heap.size := by have := lt_of_block HPB2.out; omega
      have hg0 : w0.heap.size ≤ w2.heap.size := HB2.out.size
      clear hbA
      go_upto_region 11 with (fail)
      clear f1 f2 HB2 HPB2 HT2 HM2
      generalize w2.alloc (.cells #[.int .u8 (n : Int), .int .i64 0, .string ⟨#[]⟩] 28) = W3 at *
      generalize w2.heap.size = g at *
      have b0 := HPB3.out.c0
      have b1 := HPB3.out.c1
      have b2 := HPB3.out.c2
      have bz := HPB3.out.fz
      have g0 := HPG.out.c0
      have g1 := HPG.out.c1
      have g2 := HPG.out.c2
      by_cases hp : t + 1 < s.size ∧ bt s t = 32 ∧ bt s (t + 1) = 34
      · rw [decide_eq_true hp] at CH
        obtain ⟨p1, p2, p3⟩ := hp
        have HWQ := Lib.hid (HWord.out n HNZ.out ⟨p1, p2, p3⟩)
        clear p2 b0 b1 b2 bz g0 g1 g2
        go_wp2_with fail
        refine (CH.out _).mono ?_
        rintro e w4 ⟨rfl, rfl⟩
        go_upto_region 13 with (fail)
        rename_i hK'
        exact part_word _ _ _ _ _ _ _ _ _ _ _ _ _ _ _ _ _ _ _ _ _ _ _ _ _ _ _ _ _ _ _ _ _ _ _ _ _ _ _ _ _ _ _ _ _ _ _ _ _ _ _ _ _ _ _ _ _ _ _ _ _ _ _ _ _ _ _ _ _ _ _ _ _ _ _ _ _ _ _ _ _ _ _ _ _ _ _ _ _ _ _ _ _ _ _ _ _ _ _ _ _ _ _ _ _ _ _ _ s hs n t hn256 p1 p3 b g hgb w0 _ hb0 hg0 HB3 HT3 HM3 HPB3 HPG Q HWQ _ hK'
      · rw [decide_eq_false hp] at CH
        have HX := Lib.hid (HBare.out n HNZ.out hp (.returned (.tuple #[.agg #[.int .u8 (n : Int), .int .i64 0, .string ByteArray.empty], .int .i64 (t : Int), .bool true])) _ (by unfold partPost; exact ⟨(HZ.out W3 HPB3.out HB3.out n 0 ByteArray.empty).2, rfl⟩))
        have HPX := Lib.hid (HZ.out W3 HPB3.out HB3.out n 0 ByteArray.empty).1
        clear hp
        go_wp2_with fail
        refine (CH.out _).mono ?_
        rintro e w4 ⟨rfl, rfl⟩
        go_wp2_with fail
        exact bodyPost_ret (result_part _ _ b _ _ _ rfl HPX.out) rfl HX.out
    · have f1 : (D.toList == ds.toList) = false := by rw [beq_eq_false_iff_ne, HDL.out, HDT.out]; exact hc
      have f2 : (D.toList != ds.toList) = true := by rw [bne_iff_ne, HDL.out, HDT.out]; exact hc
      have hnone : kindZ ds = none := by rw [HN.out, hpu]; simp only []; rw [if_neg hc]
      have HNN := Lib.hid (HNum.out hnone)
      clear hc hpu hnone b0 b1 b2 bz
      go_wp2_with fail
      refine CF.out.mono ?_
      rintro e w2 ⟨rfl, hb2⟩
      have HPB2 := Lib.hid (HPB1.out.keep hb2)
      have HB2 := Lib.hid (bthen HB1.out hb2)
      have HX := Lib.hid (HNN.out (.returned (.tuple #[.agg #[.int .u8 ((0 : Nat) : Int), .int .i64 0, .string ByteArray.empty], .int .i64 0, .bool false])) _ (by unfold partPost; exact ⟨(HZ.out w2 HPB2.out HB2.out 0 0 ByteArray.empty).2, _, _, _, _, rfl⟩))
      have HPX := Lib.hid (HZ.out w2 HPB2.out HB2.out 0 0 ByteArray.empty).1
      have b0 := HPB2.out.c0
      have b1 := HPB2.out.c1
      have b2 := HPB2.out.c2
      have bz := HPB2.out.fz
      clear hb2
      go_wp2_with fail
      exact bodyPost_ret (result_part _ _ b _ _ _ rfl HPX.out) rfl HX.out
  | range =>
    rw [hpu] at hp
    obtain ⟨x, T, p, rfl⟩ := hp
    have HX := Lib.hid (HNum.out (by rw [HN.out, hpu]) (.returned (.tuple #[.agg #[.int .u8 ((0 : Nat) : Int), .int .i64 0, .string ByteArray.empty], .int .i64 0, .bool false])) _ (by unfold partPost; exact ⟨(HZ.out w1 HPB1.out HB1.out 0 0 ByteArray.empty).2, _, _, _, _, rfl⟩))
    have HPX := Lib.hid (HZ.out w1 HPB1.out HB1.out 0 0 ByteArray.empty).1
    clear hpu hlt
    go_wp2_with fail
    exact bodyPost_ret (result_part _ _ b _ _ _ rfl HPX.out) rfl HX.out
  | _ =>
    rw [hpu] at hp
    obtain ⟨x, T, p, rfl⟩ := hp
    have HX := Lib.hid (HNum.out (by rw [HN.out, hpu]) (.returned (.tuple #[.agg #[.int .u8 ((0 : Nat) : Int), .int .i64 0, .string ByteArray.empty], .int .i64 0, .bool false])) _ (by unfold partPost; exact ⟨(HZ.out w1 HPB1.out HB1.out 0 0 ByteArray.empty).2, _, _, _, _, rfl⟩))
    have HPX := Lib.hid (HZ.out w1 HPB1.out HB1.out 0 0 ByteArray.empty).1
    clear hpu hlt
    go_wp2_with fail
    exact bodyPost_ret (result_part _ _ b _ _ _ rfl HPX.out) rfl HX.out
end Go.Proofs.YtpjglenogifclaaGreatDoor
namespace Go.Proofs.YtpjglenogifclaaGreatDoor
set_option linter.all false
open Go.RowKit

set_option maxRecDepth 100000 in
set_option maxHeartbeats 16000000 in
theorem term_part (s : ByteArray) (hs : s.size ≤ 100000000) (i : Nat) (hi : i ≤ 1000000000) (w : World) (hT : Tabs w) (hM : MaxC w) (hE : ErrC w) (hP : Lib.TabIs Tryz.prog w "internal/strconv.uint64pow10" .u64 Lib.pow10Tab) :
    Calls Tryz.prog 42 #[.string s, .int .i64 (i : Int)] w (partPost (partZ s i) w) := by
  have HNO : RowKit.Hid (∀ w', partZ s i = none → Below w.heap.size w w' → partPost (partZ s i) w (.returned (.tuple #[.agg #[.int .u8 0, .int .i64 0, .string ByteArray.empty], .int .i64 0, .bool false])) w') := Lib.hid fun w' h hb => by unfold partPost; rw [h]; exact ⟨hb, _, _, _, _, rfl⟩
  have HYES : RowKit.Hid (∀ (n t : Nat) w', partZ s i = some (n, ByteArray.empty, t) → Below w.heap.size w w' → partPost (partZ s i) w (.returned (.tuple #[.agg #[.int .u8 (n : Int), .int .i64 0, .string ByteArray.empty], .int .i64 (t : Int), .bool true])) w') := Lib.hid fun n t w' h hb => by unfold partPost; rw [h]; exact ⟨hb, rfl⟩
  have HPP : RowKit.Hid (∀ o e w', partZ s i = o → partPost o w e w' → partPost (partZ s i) w e w') := Lib.hid fun o e w' h hp => by rw [h]; exact hp
  generalize hQ : partPost (partZ s i) w = Q at *
  clear hQ
  have HP := Lib.hid (Lib.tabBelow_of_tabIs hP)
  have HT := Lib.hid hT
  have HM := Lib.hid hM
  have HE := Lib.hid hE
  have hb0 : Below w.heap.size w (w.alloc (.cells #[.int .u8 0, .int .i64 0, .string ⟨#[]⟩] 28)) := (Below.refl _ _).alloc (Nat.le_refl _) _
  have HB0 := Lib.hid hb0
  have hpk0 : PK (w.alloc (.cells #[.int .u8 0, .int .i64 0, .string ⟨#[]⟩] 28)) w.heap.size (0, 0, ByteArray.empty) := PK.alloc_new w (0, 0, ByteArray.empty)
  have HPK0 := Lib.hid hpk0
  clear hT hM hE hP hb0 hpk0
  go_enter Tryz.func42, Tryz.ntmps42
  go_upto_region 1 with (fail)
  have HBW : RowKit.Hid (w.heap.size ≤ w.heap.size) := Lib.hid (Nat.le_refl _)
  generalize w.alloc (.cells #[.int .u8 0, .int .i64 0, .string ⟨#[]⟩] 28) = W0 at *
  generalize hbb : w.heap.size = b at HPK0 ⊢
  have HBB := Lib.hid hbb
  clear hbb HBW
  have hZ : ∀ (W : World), Below w.heap.size w W → Below w.heap.size w (((W.setCell ⟨b, 0, none⟩ (.int .u8 0)).setCell ⟨b, 1, none⟩ (.int .i64 0)).setCell ⟨b, 2, none⟩ (.string ⟨#[]⟩)) := fun W h => ((h.setCell (p := ⟨b, 0, none⟩) (Nat.le_of_eq HBB.out) _).setCell (p := ⟨b, 1, none⟩) (Nat.le_of_eq HBB.out) _).setCell (p := ⟨b, 2, none⟩) (Nat.le_of_eq HBB.out) _
  have HZ := Lib.hid hZ
  clear hZ
  have b0 := HPK0.out.c0
  have b1 := HPK0.out.c1
  have b2 := HPK0.out.c2
  have bz := HPK0.out.fz
  have hi0 : (0 : Int) ≤ (i : Int) := by omega
  by_cases h1 : i < s.size
  · have h1i : (i : Int) < s.size := by omega
    have h1n : ¬ (s.size : Int) ≤ (i : Int) := by omega
    have hxx : ∀ h, ((s[i]'h).toNat : Int) = (bt s i : Int) := fun h => by rw [bt_at s i h]
    by_cases h40 : bt s i = 40
    · have f40 : ((bt s i : Int) == 40) = true := by rw [beq_iff_eq]; omega
      have f40n : ((bt s i : Int) != 40) = false := by rw [bne_eq_false_iff_eq]; omega
      have H40 := Lib.hid h40
      have hwi : IntKind.i64.wrap ((i : Int) + 1) = (i : Int) + 1 := by rw [IntKind.wrap_i64]; omega
      clear h40
      generalize bt s i = c40 at hxx f40 f40n
      go_wp2_with fail
      have HT0 := Lib.hid (HT.out.below HB0.out)
      have HM0 := Lib.hid (HM.out.below HB0.out)
      have HE0 := Lib.hid (HE.out.below HB0.out)
      clear b0 b1 b2 bz hxx
      go_loop [7] (fun v => ∃ j : Nat, v = .int .i64 (j : Int) ∧ i + 1 ≤ j ∧ j ≤ s.size ∧ dE s j = dE s (i + 1)) (fun v => s.size - (intOf v).toNat)
      case atStart => exact ⟨i + 1, by simp, Nat.le_refl _, h1, rfl⟩
      case round =>
        obtain ⟨j, rfl, hj1, hj2, hj⟩ := hrel
        have HJ := Lib.hid hj
        clear hj
        have hj0 : (0 : Int) ≤ (j : Int) := by omega
        have stop : ¬ (j < s.size ∧ 48 ≤ bt s j ∧ bt s j ≤ 57) → dE s (i + 1) = j := fun h => by rw [← HJ.out, dE_no h]
        have HSTOP := Lib.hid stop
        clear stop
        by_cases hlt : j < s.size
        · have hjl : (j : Int) < s.size := by omega
          have hxj : ∀ h, ((s[j]'h).toNat : Int) = (bt s j : Int) := fun h => by rw [bt_at s j h]
          have hb256 := bt_lt s j
          have hwj : IntKind.i64.wrap ((j : Int) + 1) = (j : Int) + 1 := by rw [IntKind.wrap_i64]; omega
          by_cases c1 : 48 ≤ bt s j
          · by_cases c2 : bt s j ≤ 57
            · have HNX : RowKit.Hid (dE s (j + 1) = dE s (i + 1)) := Lib.hid (by rw [← dE_yes hlt c1 c2]; exact HJ.out)
              have c1i : (48 : Int) ≤ (bt s j : Int) := by omega
              have c2i : (bt s j : Int) ≤ 57 := by omega
              clear hb256
              generalize bt s j = c at *
              go_wp2_with fail
              go_round
              case rel => exact ⟨j + 1, by go_num, by omega, by omega, HNX.out⟩
              case measure => simp [intOf]; omega
            · have c1i : (48 : Int) ≤ (bt s j : Int) := by omega
              have c2i : ¬ (bt s j : Int) ≤ 57 := by omega
              have HSX := Lib.hid (HSTOP.out (fun h => c2 h.2.2))
              have HNum : RowKit.Hid (kindZ (s.extract (i + 1) j) = none → ∀ e w', partPost none w e w' → Q e w') := Lib.hid fun hn e w' hp => HPP.out none e w' (partZ_num h1 H40.out HSX.out hn) hp
              have HWord : RowKit.Hid (∀ n, kindZ (s.extract (i + 1) j) = some n → (j + 1 < s.size ∧ bt s j = 32 ∧ bt s (j + 1) = 34) → ∀ e w', partPost (wordZ s n (j + 1)) w e w' → Q e w') := Lib.hid fun n hn hw e w' hp => HPP.out _ e w' (partZ_word h1 H40.out HSX.out hn hw) hp
              have HBare : RowKit.Hid (∀ n, kindZ (s.extract (i + 1) j) = some n → ¬ (j + 1 < s.size ∧ bt s j = 32 ∧ bt s (j + 1) = 34) → ∀ e w', partPost (some (n, ByteArray.empty, j)) w e w' → Q e w') := Lib.hid fun n hn hw e w' hp => HPP.out _ e w' (partZ_bare h1 H40.out HSX.out hn hw) hp
              clear c2 c1 hb256
              generalize bt s j = c at hxj c1i c2i
              go_upto_region 6 with (fail)
              rename_i hK'
              exact part_num _ _ _ _ _ _ _ _ _ _ _ _ _ _ _ _ _ _ _ _ _ _ _ _ _ _ _ _ _ _ _ _ _ _ _ _ _ _ _ _ _ _ _ _ _ _ _ _ _ _ _ _ _ _ _ _ _ _ _ _ _ _ _ _ _ _ _ _ _ _ _ _ _ _ _ _ _ _ _ _ _ _ _ _ _ _ _ _ _ _ _ _ _ _ _ _ _ _ _ _ _ _ _ _ _ _ _ _ s hs i j hj1 hj2 b w W0 (Nat.le_of_eq HBB.out) HB0 HT0 HM0 HE0 HP HPK0 Q HNum HWord HBare _ hK'
          · have c1i : ¬ (48 : Int) ≤ (bt s j : Int) := by omega
            have HSX := Lib.hid (HSTOP.out (fun h => c1 h.2.1))
            have HNum : RowKit.Hid (kindZ (s.extract (i + 1) j) = none → ∀ e w', partPost none w e w' → Q e w') := Lib.hid fun hn e w' hp => HPP.out none e w' (partZ_num h1 H40.out HSX.out hn) hp
            have HWord : RowKit.Hid (∀ n, kindZ (s.extract (i + 1) j) = some n → (j + 1 < s.size ∧ bt s j = 32 ∧ bt s (j + 1) = 34) → ∀ e w', partPost (wordZ s n (j + 1)) w e w' → Q e w') := Lib.hid fun n hn hw e w' hp => HPP.out _ e w' (partZ_word h1 H40.out HSX.out hn hw) hp
            have HBare : RowKit.Hid (∀ n, kindZ (s.extract (i + 1) j) = some n → ¬ (j + 1 < s.size ∧ bt s j = 32 ∧ bt s (j + 1) = 34) → ∀ e w', partPost (some (n, ByteArray.empty, j)) w e w' → Q e w') := Lib.hid fun n hn hw e w' hp => HPP.out _ e w' (partZ_bare h1 H40.out HSX.out hn hw) hp
            clear c1 hb256
            generalize bt s j = c at hxj c1i
            go_upto_region 6 with (fail)
            rename_i hK'
            exact part_num _ _ _ _ _ _ _ _ _ _ _ _ _ _ _ _ _ _ _ _ _ _ _ _ _ _ _ _ _ _ _ _ _ _ _ _ _ _ _ _ _ _ _ _ _ _ _ _ _ _ _ _ _ _ _ _ _ _ _ _ _ _ _ _ _ _ _ _ _ _ _ _ _ _ _ _ _ _ _ _ _ _ _ _ _ _ _ _ _ _ _ _ _ _ _ _ _ _ _ _ _ _ _ _ _ _ _ _ s hs i j hj1 hj2 b w W0 (Nat.le_of_eq HBB.out) HB0 HT0 HM0 HE0 HP HPK0 Q HNum HWord HBare _ hK'
        · have hjl : ¬ (j : Int) < s.size := by omega
          have HSX := Lib.hid (HSTOP.out (fun h => hlt h.1))
          have HNum : RowKit.Hid (kindZ (s.extract (i + 1) j) = none → ∀ e w', partPost none w e w' → Q e w') := Lib.hid fun hn e w' hp => HPP.out none e w' (partZ_num h1 H40.out HSX.out hn) hp
          have HWord : RowKit.Hid (∀ n, kindZ (s.extract (i + 1) j) = some n → (j + 1 < s.size ∧ bt s j = 32 ∧ bt s (j + 1) = 34) → ∀ e w', partPost (wordZ s n (j + 1)) w e w' → Q e w') := Lib.hid fun n hn hw e w' hp => HPP.out _ e w' (partZ_word h1 H40.out HSX.out hn hw) hp
          have HBare : RowKit.Hid (∀ n, kindZ (s.extract (i + 1) j) = some n → ¬ (j + 1 < s.size ∧ bt s j = 32 ∧ bt s (j + 1) = 34) → ∀ e w', partPost (some (n, ByteArray.empty, j)) w e w' → Q e w') := Lib.hid fun n hn hw e w' hp => HPP.out _ e w' (partZ_bare h1 H40.out HSX.out hn hw) hp
          clear hlt
          go_upto_region 6 with (fail)
          rename_i hK'
          exact part_num _ _ _ _ _ _ _ _ _ _ _ _ _ _ _ _ _ _ _ _ _ _ _ _ _ _ _ _ _ _ _ _ _ _ _ _ _ _ _ _ _ _ _ _ _ _ _ _ _ _ _ _ _ _ _ _ _ _ _ _ _ _ _ _ _ _ _ _ _ _ _ _ _ _ _ _ _ _ _ _ _ _ _ _ _ _ _ _ _ _ _ _ _ _ _ _ _ _ _ _ _ _ _ _ _ _ _ _ s hs i j hj1 hj2 b w W0 (Nat.le_of_eq HBB.out) HB0 HT0 HM0 HE0 HP HPK0 Q HNum HWord HBare _ hK'
    · have f40 : ((bt s i : Int) == 40) = false := by rw [beq_eq_false_iff_ne]; omega
      have f40n : ((bt s i : Int) != 40) = true := by rw [bne_iff_ne]; omega
      have HX := Lib.hid (HNO.out _ (partZ_out (fun h => h40 h.2)) (HZ.out W0 HB0.out))
      have HPX := Lib.hid (HPK0.out.set3 (0, 0, ⟨#[]⟩))
      clear h40
      generalize bt s i = c40 at *
      go_wp2_with fail
      exact bodyPost_ret (result_part _ _ b _ _ _ rfl HPX.out) rfl HX.out
  · have h1i : ¬ (i : Int) < s.size := by omega
    have h1n : (s.size : Int) ≤ (i : Int) := by omega
    have HX := Lib.hid (HNO.out _ (partZ_out (fun h => h1 h.1)) (HZ.out W0 HB0.out))
    have HPX := Lib.hid (HPK0.out.set3 (0, 0, ⟨#[]⟩))
    go_wp2_with fail
    exact bodyPost_ret (result_part _ _ b _ _ _ rfl HPX.out) rfl HX.out
end Go.Proofs.YtpjglenogifclaaGreatDoor
namespace Go.Proofs.YtpjglenogifclaaGreatDoor
set_option linter.all false
open Go.RowKit

set_option maxRecDepth 100000 in
set_option maxHeartbeats 4000000 in
theorem take_yes (s : ByteArray) (hs : s.size ≤ 100000000) (j : Nat) (hj : j < s.size) (ga gs : Nat) (w : World) (ha : w.cell? ⟨ga, 0, none⟩ = some (.int .i64 (j : Int))) (hz : w.frozen? ⟨ga, 0, none⟩ = false) (hg : w.cell? ⟨gs, 0, none⟩ = some (.string s)) :
    Calls Tryz.prog 41 #[.int .u8 (bt s j : Int), .pointer (some ⟨ga, 0, none⟩), .pointer (some ⟨gs, 0, none⟩)] w fun e w' => e = .returned (.bool true) ∧ w' = w.setCell ⟨ga, 0, none⟩ (.int .i64 ((j + 1 : Nat) : Int)) := by
  have HQ : RowKit.Hid ((fun (e : Ending) w' => e = .returned (.bool true) ∧ w' = w.setCell ⟨ga, 0, none⟩ (.int .i64 ((j + 1 : Nat) : Int))) (.returned (.bool true)) (w.setCell ⟨ga, 0, none⟩ (.int .i64 ((j : Int) + 1)))) := Lib.hid ⟨rfl, by simp⟩
  generalize (fun (e : Ending) w' => e = .returned (.bool true) ∧ w' = w.setCell ⟨ga, 0, none⟩ (.int .i64 ((j + 1 : Nat) : Int))) = Q at *
  have hjl : (j : Int) < s.size := by omega
  have hj0 : (0 : Int) ≤ (j : Int) := by omega
  have hxx : ∀ h, ((s[j]'h).toNat : Int) = (bt s j : Int) := fun h => by rw [bt_at s j h]
  have hwj : IntKind.i64.wrap ((j : Int) + 1) = (j : Int) + 1 := by rw [IntKind.wrap_i64]; omega
  generalize bt s j = c at *
  go_enter Tryz.func41, Tryz.ntmps41
  go_wp2_with fail
  exact HQ.out
set_option maxRecDepth 100000 in
set_option maxHeartbeats 4000000 in
theorem take_no (s : ByteArray) (hs : s.size ≤ 100000000) (j c : Nat) (hj : ¬ (j < s.size ∧ bt s j = c)) (ga gs : Nat) (w : World) (ha : w.cell? ⟨ga, 0, none⟩ = some (.int .i64 (j : Int))) (hg : w.cell? ⟨gs, 0, none⟩ = some (.string s)) :
    Calls Tryz.prog 41 #[.int .u8 (c : Int), .pointer (some ⟨ga, 0, none⟩), .pointer (some ⟨gs, 0, none⟩)] w fun e w' => e = .returned (.bool false) ∧ w = w' := by
  have HQ : RowKit.Hid ((fun (e : Ending) w' => e = .returned (.bool false) ∧ w = w') (.returned (.bool false)) w) := Lib.hid ⟨rfl, rfl⟩
  generalize (fun (e : Ending) w' => e = .returned (.bool false) ∧ w = w') = Q at *
  have hj0 : (0 : Int) ≤ (j : Int) := by omega
  by_cases hlt : j < s.size
  · have hjl : (j : Int) < s.size := by omega
    have hxx : ∀ h, ((s[j]'h).toNat : Int) = (bt s j : Int) := fun h => by rw [bt_at s j h]
    have hne : ((bt s j : Int) == (c : Int)) = false := by rw [beq_eq_false_iff_ne]; intro e; exact hj ⟨hlt, by omega⟩
    have hne2 : (bt s j == c) = false := by rw [beq_eq_false_iff_ne]; intro e; exact hj ⟨hlt, e⟩
    clear hj
    generalize bt s j = x at *
    go_enter Tryz.func41, Tryz.ntmps41
    go_wp2_with fail
    exact HQ.out
  · have hjl : ¬ (j : Int) < s.size := by omega
    clear hj
    go_enter Tryz.func41, Tryz.ntmps41
    go_wp2_with fail
    exact HQ.out
end Go.Proofs.YtpjglenogifclaaGreatDoor
namespace Go.Proofs.YtpjglenogifclaaGreatDoor
set_option linter.all false

theorem wordZ_lt {s : ByteArray} {n q a : Nat} {w : ByteArray} {t : Nat} (h : wordZ s n q = some (a, w, t)) : a = n ∧ q < t ∧ t ≤ s.size ∧ w.toList.isEmpty = false ∧ quote w = s.extract q t := by
  unfold wordZ at h
  split at h
  · rename_i h0
    split at h
    · cases h
    · rename_i hw
      split at h
      · rename_i hq
        simp only [Option.some.injEq, Prod.mk.injEq] at h
        obtain ⟨rfl, rfl, rfl⟩ := h
        obtain ⟨i, n', e1, e2, e3, e4, _⟩ := begun_found s (q : Int) (begun s q).1 (begun s q).2.1 (begun s q).2.2.1 (by rw [← h0])
        have e5 : (begun s q).2.1.toNat = n' := by rw [e2]; rfl
        refine ⟨rfl, by omega, by omega, by simpa using hw, hq⟩
      · cases h
  · cases h
theorem partZ_lt {s : ByteArray} {i n : Nat} {w : ByteArray} {t : Nat} (h : partZ s i = some (n, w, t)) : n < 256 ∧ i < t ∧ t ≤ s.size := by
  unfold partZ at h
  split at h
  · rename_i h1
    have hd := dE_le s (i + 1)
    cases hn : kindZ (s.extract (i + 1) (dE s (i + 1))) with
    | none => rw [hn] at h; cases h
    | some m =>
      rw [hn] at h
      have hm := (kindZ_lt hn).1
      simp only [] at h
      split at h
      · rename_i hw
        obtain ⟨rfl, h2, h3, _⟩ := wordZ_lt h
        exact ⟨hm, by omega, h3⟩
      · simp only [Option.some.injEq, Prod.mk.injEq] at h
        obtain ⟨rfl, _, rfl⟩ := h
        exact ⟨hm, by omega, hd.2 (by omega)⟩
  · cases h
/-- A part is read, behind those that were. -/
def readO (s : ByteArray) (K : List Prt → List Nat → Nat → Option (List Prt × Nat)) (out : List Prt) (op : List Nat) (i : Nat) : Option (List Prt × Nat) :=
  match partZ s i with
  | none => none
  | some (n, w, t) => K (out ++ [(n, 0, w)]) (out.length :: op) t
/-- The machine: what was read, the parts that are open (the nearest first), the place. -/
def readM (s : ByteArray) : Nat → List Prt → List Nat → Nat → Option (List Prt × Nat)
  | 0, _, _, _ => none
  | f + 1, out, op, i => match op with
    | [] => some (out, i)
    | h :: r => if i < s.size ∧ bt s i = 41 then readM s f out r (i + 1)
      else if i < s.size ∧ bt s i = 32 then readO s (readM s f) (addK out h 1) (h :: r) (i + 1)
      else none
/-- What is read. -/
def readF (s : ByteArray) : Option (List Prt) := match readO s (readM s (s.size + 2)) [] [] 0 with
  | some (l, t) => if t = s.size then some l else none
  | none => none
theorem readM_fuel (s : ByteArray) : ∀ (f g : Nat) (out : List Prt) (op : List Nat) (i : Nat), s.size + 1 ≤ i + f → s.size + 1 ≤ i + g → 0 < f → 0 < g → readM s f out op i = readM s g out op i
  | 0, g, out, op, i, _, _, hf, _ => by omega
  | f + 1, 0, out, op, i, _, _, _, hg => by omega
  | f + 1, g + 1, out, op, i, h1, h2, _, _ => by
    unfold readM
    cases op with
    | nil => rfl
    | cons h r =>
      simp only []
      by_cases c1 : i < s.size ∧ bt s i = 41
      · rw [if_pos c1, if_pos c1]
        exact readM_fuel s f g _ _ _ (by omega) (by omega) (by omega) (by omega)
      · rw [if_neg c1, if_neg c1]
        by_cases c2 : i < s.size ∧ bt s i = 32
        · rw [if_pos c2, if_pos c2]
          unfold readO
          cases hp : partZ s (i + 1) with
          | none => rfl
          | some q =>
            obtain ⟨n, w, t⟩ := q
            have := partZ_lt hp
            exact readM_fuel s f g _ _ _ (by omega) (by omega) (by omega) (by omega)
        · rw [if_neg c2, if_neg c2]
end Go.Proofs.YtpjglenogifclaaGreatDoor
