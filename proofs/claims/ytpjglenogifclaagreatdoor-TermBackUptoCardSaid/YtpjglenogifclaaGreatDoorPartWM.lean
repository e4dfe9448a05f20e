/- Layer 11: the program's part, walked: its end, where a word stands. -/
import Derived.Test.YtpjglenogifclaaGreatDoorFormatM
import Derived.Test.YtpjglenogifclaaGreatDoorParseUM
import Derived.Test.YtpjglenogifclaaGreatDoorShowPM
import Derived.Test.YtpjglenogifclaaGreatDoorTermSameM
import Derived.Test.YtpjglenogifclaaGreatDoorSwapPM
import Derived.Test.YtpjglenogifclaaGreatDoorQuoted6M
import Derived.Test.YtpjglenogifclaaGreatDoorQuoted5M
import Derived.Deep.RegionHeld3
import Derived.Deep.DrawnRows
namespace Go.Proofs.YtpjglenogifclaaGreatDoor
set_option linter.all false
attribute [local irreducible] Calls
open Go.RowKit

/-- A number as it is written. -/
def kindZ (ds : ByteArray) : Option Nat := match Lib.parseUintB 8 ds.data.toList with
  | .ok n => if Lib.decDigits n = ds.data.toList then some n else none
  | _ => none
/-- The word at a place. -/
def wordZ (s : ByteArray) (n q : Nat) : Option (Nat × ByteArray × Nat) :=
  if (begun s q).2.2.2 = 0 then
    (if (value (s.extract q (begun s q).2.1.toNat)).1.toList.isEmpty then none
     else if quote (value (s.extract q (begun s q).2.1.toNat)).1 = s.extract q (begun s q).2.1.toNat then some (n, (value (s.extract q (begun s q).2.1.toNat)).1, (begun s q).2.1.toNat) else none)
  else none
/-- What part answers. -/
@[irreducible] def partPost (o : Option (Nat × ByteArray × Nat)) (w0 : World) (e : Ending) (w' : World) : Prop :=
  Below w0.heap.size w0 w' ∧ match o with
    | some (n, w, t) => e = .returned (.tuple #[.agg #[.int .u8 (n : Int), .int .i64 0, .string w], .int .i64 (t : Int), .bool true])
    | none => ∃ (a b : Int) (c : ByteArray) (x : Int), e = .returned (.tuple #[.agg #[.int .u8 a, .int .i64 b, .string c], .int .i64 x, .bool false])
theorem results_cell_tmp2 {P : Program} {fn : Func} {p t1 t2 : Tmp} {ty : TypeId} (h : fn.results = #[.cell p ty, .tmp t1, .tmp t2]) (tmps : Array Value) (w : World) (g : Nat) (t : TypeId) (cs : Array Value) (fr : Nat × Nat) (d : TypeDesc)
    (hp : tmps.getD p undef = .pointer (some ⟨g, 0, none⟩)) (hg : w.heap[g]? = some (.cells cs t fr))
    (hu : P.underlying ty = some d) (hd : (match d with | .struct _ | .array _ _ => true | _ => false) = true) (hi : (P.info? ty).map (·.size) = some cs.size) :
    (results fn tmps).run P w = .ok (.tuple #[.agg cs, tmps.getD t1 undef, tmps.getD t2 undef]) w := by
  have hp' : tmps[p]?.getD undef = .pointer (some ⟨g, 0, none⟩) := by simpa using hp
  simp [results, h, hp', asAddr, run_loadVar_row w g t ty cs fr d hg hu hd hi]
theorem result_part (tmps : Array Value) (w : World) (g : Nat) (a : Nat) (k : Int) (c : ByteArray) (hp : tmps.getD 4 undef = .pointer (some ⟨g, 0, none⟩)) (h0 : PK w g (a, k, c)) :
    (results Tryz.f42 tmps).run Tryz.prog w = .ok (.tuple #[.agg #[.int .u8 (a : Int), .int .i64 k, .string c], tmps.getD 5 undef, tmps.getD 6 undef]) w :=
  results_cell_tmp2 rfl tmps w g 28 #[.int .u8 (a : Int), .int .i64 k, .string c] (0, 0) _ hp h0 Tryz.underlying28 rfl (by kernel_rfl)
theorem PK.set3 {W : World} {g : Nat} {p : Prt} (h : PK W g p) (q : Prt) : PK (((W.setCell ⟨g, 0, none⟩ (.int .u8 (q.1 : Int))).setCell ⟨g, 1, none⟩ (.int .i64 q.2.1)).setCell ⟨g, 2, none⟩ (.string q.2.2)) g q := by
  unfold PK at *
  have h1 := heap_setCell_same W g 0 _ _ (.int .u8 (q.1 : Int)) h
  have h2 := heap_setCell_same _ g 1 _ _ (.int .i64 q.2.1) h1
  have h3 := heap_setCell_same _ g 2 _ _ (.string q.2.2) h2
  exact h3
theorem PK.set_word {W : World} {g : Nat} {p : Prt} (h : PK W g p) (x : ByteArray) : PK (W.setCell ⟨g, 2, none⟩ (.string x)) g (p.1, p.2.1, x) := by
  unfold PK at *
  exact heap_setCell_same W g 2 _ _ (.string x) h
theorem PK.other {W : World} {g b : Nat} {p : Prt} (h : PK W g p) (hne : g ≠ b) (i : Nat) (v : Value) : PK (W.setCell ⟨b, i, none⟩ v) g p := by
  unfold PK at *
  rw [heap_setCell_other _ _ _ _ (by exact hne)]; exact h
noncomputable def ptWord : Code := fstC (sndN 9 (Tryz.f42.body.getD .skip))
noncomputable def ptWordR : Code := sndN 10 (Tryz.f42.body.getD .skip)
set_option maxRecDepth 100000 in
set_option maxHeartbeats 16000000 in
theorem part_word (u1 u2 u3 u5 u6 u8 u9 u10 u12 u13 u14 u15 u16 u17 u18 u19 u20 u21 u22 u23 u24 u25 u26 u27 u28 u29 u30 u31 u32 u33 u34 u35 u36 u37 u38 u39 u40 u41 u42 u43 u44 u45 u46 u47 u48 u49 u50 u51 u52 u53 u54 u55 u56 u57 u58 u59 u60 u61 u62 u63 u64 u65 u66 u67 u68 u69 u70 u71 u72 u73 u74 u75 u76 u77 u78 u79 u80 u81 u82 u83 u84 u85 u86 u87 u88 u89 u90 u91 u92 u93 u94 u95 u96 u97 u98 u99 u100 u101 u102 u103 u104 u105 u106 u107 u108 u109 u110 u111 : Value) (s : ByteArray) (hs : s.size ≤ 100000000) (n q : Nat) (hn : n < 256) (hq : q + 1 < s.size) (h34 : bt s (q + 1) = 34) (b g : Nat) (hbg : b ≠ g) (w0 W : World) (hb0 : w0.heap.size ≤ b) (hg0 : w0.heap.size ≤ g) (HB : RowKit.Hid (Below w0.heap.size w0 W)) (HT : RowKit.Hid (Tabs W)) (HM : RowKit.Hid (MaxC W))
    (HPB : RowKit.Hid (PK W b (0, 0, ByteArray.empty))) (HPG : RowKit.Hid (PK W g (n, 0, ByteArray.empty))) (Q : Ending → World → Prop)
    (HQ : RowKit.Hid (∀ e w', partPost (wordZ s n (q + 1)) w0 e w' → Q e w'))
    (K : Act → World → Prop) (hK : ∀ a' w', Code.wp Tryz.prog ptWordR (bodyPost Tryz.prog Tryz.f42 Q) a' w' → K a' w') :
    Code.wp Tryz.prog ptWord (Exit.then K (bodyPost Tryz.prog Tryz.f42 Q)) ⟨#[.string s, u1, u2, u3, .pointer (some ⟨b, 0, none⟩), u5, u6, .int .i64 (q : Int), u8, u9, u10, .pointer (some ⟨g, 0, none⟩), u12, u13, u14, u15, u16, u17, u18, u19, u20, u21, u22, u23, u24, u25, u26, u27, u28, u29, u30, u31, u32, u33, u34, u35, u36, u37, u38, u39, u40, u41, u42, u43, u44, u45, u46, u47, u48, u49, u50, u51, u52, u53, u54, u55, u56, u57, u58, u59, u60, u61, u62, u63, u64, u65, u66, u67, u68, u69, u70, u71, u72, u73, u74, u75, u76, u77, u78, u79, u80, u81, u82, u83, u84, u85, u86, u87, u88, u89, u90, u91, u92, u93, u94, u95, u96, u97, u98, u99, u100, u101, u102, u103, u104, u105, u106, u107, u108, u109, u110, u111], []⟩ W := by
  unfold ptWord
  unfold ptWordR at hK
  conv => arg 2; whnf
  conv at hK => enter [a', w', 1]; arg 2; whnf
  have HNO : RowKit.Hid (∀ (a : Nat) (k : Int) (c : ByteArray) (x : Int) w', wordZ s n (q + 1) = none → Below w0.heap.size w0 w' → Q (.returned (.tuple #[.agg #[.int .u8 (a : Int), .int .i64 k, .string c], .int .i64 x, .bool false])) w') := Lib.hid fun a k c x w' h hb => HQ.out _ _ (by unfold partPost; rw [h]; exact ⟨hb, _, _, _, _, rfl⟩)
  have HYES : RowKit.Hid (∀ (c : ByteArray) (t : Nat) w', wordZ s n (q + 1) = some (n, c, t) → Below w0.heap.size w0 w' → Q (.returned (.tuple #[.agg #[.int .u8 (n : Int), .int .i64 0, .string c], .int .i64 (t : Int), .bool true])) w') := Lib.hid fun c t w' h hb => HQ.out _ _ (by unfold partPost; rw [h]; exact ⟨hb, rfl⟩)
  have CS := Lib.hid (quoted_Scan s ((q : Int) + 1) W HT.out HM.out (by omega))
  have hwq : IntKind.i64.wrap ((q : Int) + 1) = (q : Int) + 1 := by rw [IntKind.wrap_i64]; omega
  clear HQ
  go_wp2_with fail
  refine CS.out.mono ?_
  intro e w1 h1
  unfold scanPost at h1
  obtain ⟨rfl, hb1⟩ := h1
  have HB1 := Lib.hid (bthen HB.out hb1)
  have HPB1 := Lib.hid (HPB.out.keep hb1)
  have HPG1 := Lib.hid (HPG.out.keep hb1)
  have HT1 := Lib.hid (HT.out.below hb1)
  have HM1 := Lib.hid (HM.out.below hb1)
  clear hb1 CS HPB HPG HT HM HB
  have ebg : begun s ((q : Int) + 1) = begun s ((q + 1 : Nat) : Int) := rfl
  rw [ebg]
  clear ebg
  have HFD := Lib.hid (fun v k e h => begun_found s ((q + 1 : Nat) : Int) k e v h)
  have hW : wordZ s n (q + 1) = if (begun s ((q + 1 : Nat) : Int)).2.2.2 = 0 then
    (if (value (s.extract (q + 1) (begun s ((q + 1 : Nat) : Int)).2.1.toNat)).1.toList.isEmpty then none
     else if quote (value (s.extract (q + 1) (begun s ((q + 1 : Nat) : Int)).2.1.toNat)).1 = s.extract (q + 1) (begun s ((q + 1 : Nat) : Int)).2.1.toNat then some (n, (value (s.extract (q + 1) (begun s ((q + 1 : Nat) : Int)).2.1.toNat)).1, (begun s ((q + 1 : Nat) : Int)).2.1.toNat) else none)
  else none := rfl
  have HW := Lib.hid hW
  clear hW
  generalize hbg2 : begun s ((q + 1 : Nat) : Int) = bg at *
  have HBG := Lib.hid hbg2
  clear hbg2
  obtain ⟨bk, be, bv, br⟩ := bg
  simp only [] at HW
  by_cases hr : br = 0
  · subst hr
    obtain ⟨i', n', e1, e2, e3, e4, _, e5, _, _⟩ := HFD.out bv bk be rfl
    obtain rfl : i' = q + 1 := by omega
    subst e2
    rw [if_pos rfl, Int.toNat_natCast] at HW
    have hz : (s.extract (q + 1) n').size ≤ 2147483647 := by rw [ByteArray.size_extract]; omega
    have CV := Lib.hid (quoted_Value (s.extract (q + 1) n') w1 HT1.out HM1.out hz)
    have g2 := HPG1.out.c2
    have gz := HPG1.out.fz 2
    have h0 : (0 : Int) ≤ (q : Int) + 1 := by omega
    have h1 : (q : Int) + 1 ≤ (n' : Int) := by omega
    have ht1 : ((q : Int) + 1).toNat = q + 1 := by omega
    have h2 : (n' : Int) ≤ s.size := by omega
    have hvl : (value (s.extract (q + 1) n')).1.size ≤ 2147483647 := by
      rw [e5]
      have hm : bt (s.extract (q + 1) n') 0 = 34 := by
        rw [← h34]
        unfold bt
        rw [get!_lt (s.extract (q + 1) n') 0 (by rw [ByteArray.size_extract]; omega), get!_lt s (q + 1) hq]
        simp [ByteArray.getElem_extract]
      have := value_len e5 hm
      rw [ByteArray.size_extract] at this
      show bv.size ≤ _
      omega
    have HVL := Lib.hid hvl
    clear e1 e3 e4 e5 HFD hz hvl
    go_wp2_with fail
    refine CV.out.mono ?_
    intro e w2 h2'
    unfold valuePost at h2'
    obtain ⟨rfl, hb2⟩ := h2'
    have HB2 := Lib.hid (bthen HB1.out hb2)
    have HPB2 := Lib.hid (HPB1.out.keep hb2)
    have HPG2 := Lib.hid (HPG1.out.keep hb2)
    clear hb2 CV g2 gz HPB1 HPG1 HT1 HM1
    generalize value (s.extract (q + 1) n') = vv at *
    obtain ⟨vw, ve⟩ := vv
    simp only [] at HW
    simp only []
    have g2 := HPG2.out.c2
    have gz := HPG2.out.fz 2
    have HPB3 := Lib.hid (HPB2.out.other hbg 2 (.string vw) (b := g))
    have HPG3 := Lib.hid (HPG2.out.set_word vw)
    have HB3 := Lib.hid (HB2.out.setCell (p := ⟨g, 2, none⟩) hg0 (.string vw))
    go_upto_region 17 with (fail)
    clear g2 gz HPB2 HPG2 HB2
    generalize w2.setCell ⟨g, 2, none⟩ (.string vw) = W3 at *
    have b0 := HPB3.out.c0; have b1 := HPB3.out.c1; have b2 := HPB3.out.c2
    have g0 := HPG3.out.c0; have g1 := HPG3.out.c1; have g2 := HPG3.out.c2
    have bz := HPB3.out.fz
    simp only [] at b0 b1 b2 g0 g1 g2
    have HPGd := Lib.hid (show PK W3.drew g (n, 0, vw) from HPG3.out)
    have HPBd := Lib.hid (show PK W3.drew b (0, 0, ByteArray.empty) from HPB3.out)
    have HBd := Lib.hid HB3.out.drew
    have HS : RowKit.Hid (∀ W', PK W' g (n, 0, vw) → Below w0.heap.size w0 W' → (W'.cell? ⟨g, 0, none⟩ = some (.int .u8 (n : Int)) ∧ W'.cell? ⟨g, 1, none⟩ = some (.int .i64 0) ∧ W'.cell? ⟨g, 2, none⟩ = some (.string vw) ∧ RowKit.Hid (Below w0.heap.size w0 W') ∧ RowKit.Hid (PK W' g (n, 0, vw)))) := Lib.hid fun W' h1 h2 => ⟨h1.c0, h1.c1, h1.c2, Lib.hid h2, Lib.hid h1⟩
    clear HPG3 HPB3 HB3
    cases he : vw.toList.isEmpty with
    | true =>
      have he2 : vw.toList = [] := by simpa using he
      rw [he, if_pos rfl] at HW
      clear he
      refine wp_region_noPanic ?_
      refine wp_region_held_drew (S := fun W' => W'.cell? ⟨g, 0, none⟩ = some (.int .u8 (n : Int)) ∧ W'.cell? ⟨g, 1, none⟩ = some (.int .i64 0) ∧ W'.cell? ⟨g, 2, none⟩ = some (.string vw) ∧ RowKit.Hid (Below w0.heap.size w0 W') ∧ RowKit.Hid (PK W' g (n, 0, vw))) (by kernel_rfl) (HS.out _ HPGd.out HBd.out) (fun hHeld => ?_)
      refine wpAnyH_take (i := 0) (oi := _) (v := ?v1) rfl (by kernel_rfl) (by kernel_rfl) (by kernel_rfl) (fun _ _ _ h => h) (Or.inl ⟨by rfl, ?hy1⟩) hHeld ?rest1
      case hy1 => intro w hSw; (try dsimp only at hSw); go_simp; (try with_reducible rfl)
      (try simp only [Act.put, List.setIfInBounds_toArray, List.set_cons_zero, List.set_cons_succ])
      refine wpAnyH_take (i := 1) (oi := _) (v := ?v2) rfl (by kernel_rfl) (by kernel_rfl) (by kernel_rfl) (fun _ _ _ h => h) (Or.inl ⟨by rfl, ?hy2⟩) hHeld ?rest2
      case hy2 => intro w hSw; (try dsimp only at hSw); go_simp; (try with_reducible rfl)
      (try simp only [Act.put, List.setIfInBounds_toArray, List.set_cons_zero, List.set_cons_succ])
      refine wpAnyH_take (i := 2) (oi := _) (v := ?v3) rfl (by kernel_rfl) (by kernel_rfl) (by kernel_rfl) (fun _ _ _ h => h) (Or.inl ⟨by rfl, ?hy3⟩) hHeld ?rest3
      case hy3 => intro w hSw; (try dsimp only at hSw); go_simp; (try with_reducible rfl)
      (try simp only [Act.put, List.setIfInBounds_toArray, List.set_cons_zero, List.set_cons_succ])
      refine wpAnyH_take (i := 3) (oi := _) (v := ?v4) rfl (by kernel_rfl) (by kernel_rfl) (by kernel_rfl) (fun _ _ _ h => h) (Or.inl ⟨by rfl, ?hy4⟩) hHeld ?rest4
      case hy4 => intro w hSw; (try dsimp only at hSw); go_simp; (try with_reducible rfl)
      (try simp only [Act.put, List.setIfInBounds_toArray, List.set_cons_zero, List.set_cons_succ])
      refine wpAnyH_take (i := 4) (oi := _) (v := ?v5) rfl (by kernel_rfl) (by kernel_rfl) (by kernel_rfl) (fun _ _ _ h => h) (Or.inl ⟨by rfl, ?hy5⟩) hHeld ?rest5
      case hy5 => intro w hSw; (try dsimp only at hSw); go_simp; (try with_reducible rfl)
      (try simp only [Act.put, List.setIfInBounds_toArray, List.set_cons_zero, List.set_cons_succ])
      refine wpAnyH_take (i := 5) (oi := _) (v := ?v6) rfl (by kernel_rfl) (by kernel_rfl) (by kernel_rfl) (fun _ _ _ h => h) (Or.inl ⟨by rfl, ?hy6⟩) hHeld ?rest6
      case hy6 => intro w hSw; (try dsimp only at hSw); go_simp; (try with_reducible rfl)
      (try simp only [Act.put, List.setIfInBounds_toArray, List.set_cons_zero, List.set_cons_succ])
      refine wpAnyH_take (i := 6) (oi := _) (v := undef) rfl (by kernel_rfl) (by kernel_rfl) (by kernel_rfl) (fun _ _ _ h => h) (Or.inr ⟨by kernel_rfl, rfl⟩) hHeld ?_
      (try simp only [Act.put, List.setIfInBounds_toArray, List.set_cons_zero, List.set_cons_succ])
      refine wpAnyH_take (i := 7) (oi := _) (v := undef) rfl (by kernel_rfl) (by kernel_rfl) (by kernel_rfl) (fun _ _ _ h => h) (Or.inr ⟨by kernel_rfl, rfl⟩) hHeld ?_
      (try simp only [Act.put, List.setIfInBounds_toArray, List.set_cons_zero, List.set_cons_succ])
      refine wpAnyH_take (i := 9) (oi := _) (v := undef) rfl (by kernel_rfl) (by kernel_rfl) (by kernel_rfl) (fun _ _ _ h => h) (Or.inr ⟨by kernel_rfl, rfl⟩) hHeld ?_
      (try simp only [Act.put, List.setIfInBounds_toArray, List.set_cons_zero, List.set_cons_succ])
      refine wpAnyH_take (i := 10) (oi := _) (v := undef) rfl (by kernel_rfl) (by kernel_rfl) (by kernel_rfl) (fun _ _ _ h => h) (Or.inr ⟨by kernel_rfl, rfl⟩) hHeld ?_
      (try simp only [Act.put, List.setIfInBounds_toArray, List.set_cons_zero, List.set_cons_succ])
      refine wpAnyH_take (i := 11) (oi := _) (v := undef) rfl (by kernel_rfl) (by kernel_rfl) (by kernel_rfl) (fun _ _ _ h => h) (Or.inr ⟨by kernel_rfl, rfl⟩) hHeld ?_
      (try simp only [Act.put, List.setIfInBounds_toArray, List.set_cons_zero, List.set_cons_succ])
      refine wpAnyH_take (i := 12) (oi := _) (v := undef) rfl (by kernel_rfl) (by kernel_rfl) (by kernel_rfl) (fun _ _ _ h => h) (Or.inr ⟨by kernel_rfl, rfl⟩) hHeld ?_
      (try simp only [Act.put, List.setIfInBounds_toArray, List.set_cons_zero, List.set_cons_succ])
      refine wpAnyH_take (i := 13) (oi := _) (v := undef) rfl (by kernel_rfl) (by kernel_rfl) (by kernel_rfl) (fun _ _ _ h => h) (Or.inr ⟨by kernel_rfl, rfl⟩) hHeld ?_
      (try simp only [Act.put, List.setIfInBounds_toArray, List.set_cons_zero, List.set_cons_succ])
      refine wpAnyH_ready (rs := [8]) (by kernel_rfl) (by simp) ?_
      refine AllReadyH.cons (o := _) rfl (fun K hK => ?_) AllReadyH.nil
      rw [if_neg]
      rotate_left
      · exact fun h => Bool.noConfusion (h.symm.trans (by kernel_rfl : _ = false))
      refine hK.out _ _ hHeld (fun hHeld2 => ?_)
      clear hK K hHeld
      (try simp only [Act.put, List.setIfInBounds_toArray, List.set_cons_zero, List.set_cons_succ])
      refine wpAnyH_ready (rs := [14, 16]) (by kernel_rfl) (by simp) ?_
      refine AllReadyH.cons (o := _) rfl (fun K hK => ?_) (AllReadyH.cons (o := _) rfl (fun K hK => ?_) AllReadyH.nil)
      · rw [if_neg]
        rotate_left
        · exact fun h => Bool.noConfusion (h.symm.trans (by kernel_rfl : _ = false))
        refine hK.out _ _ hHeld2 (fun hHeld3 => ?_)
        clear hK K
        (try simp only [Act.put, List.setIfInBounds_toArray, List.set_cons_zero, List.set_cons_succ])
        refine wpAnyH_take (i := 15) (oi := _) (v := ?v101) rfl (by kernel_rfl) (by kernel_rfl) (by kernel_rfl) (fun _ _ _ h => h) (Or.inl ⟨by rfl, ?hy101⟩) hHeld3 ?rest101
        case hy101 => intro w hSw; (try dsimp only at hSw); go_simp; (try with_reducible rfl)
        (try simp only [Act.put, List.setIfInBounds_toArray, List.set_cons_zero, List.set_cons_succ])
        refine wpAnyH_ready (rs := [16]) (by kernel_rfl) (by simp) ?_
        refine AllReadyH.cons (o := _) rfl (fun K hK => ?_) AllReadyH.nil
        go_simp
        refine hK.out _ _ (HS.out _ (((HPGd.out.other (Ne.symm hbg) _ _).other (Ne.symm hbg) _ _).other (Ne.symm hbg) _ _) (((HBd.out.setCell (p := ⟨b, 0, none⟩) hb0 _).setCell (p := ⟨b, 1, none⟩) hb0 _).setCell (p := ⟨b, 2, none⟩) hb0 _)) (fun hHeld4 => ?_)
        clear hK K
        (try simp only [Act.put, List.setIfInBounds_toArray, List.set_cons_zero, List.set_cons_succ])
        refine wpAnyH_take (i := 17) (oi := _) (v := ?v102) rfl (by kernel_rfl) (by kernel_rfl) (by kernel_rfl) (fun _ _ _ h => h) (Or.inl ⟨by rfl, ?hy102⟩) hHeld4 ?rest102
        case hy102 => intro w hSw; (try dsimp only at hSw); go_simp; (try with_reducible rfl)
        (try simp only [Act.put, List.setIfInBounds_toArray, List.set_cons_zero, List.set_cons_succ])
        refine wpAnyH_take (i := 18) (oi := _) (v := ?v103) rfl (by kernel_rfl) (by kernel_rfl) (by kernel_rfl) (fun _ _ _ h => h) (Or.inl ⟨by rfl, ?hy103⟩) hHeld4 ?rest103
        case hy103 => intro w hSw; (try dsimp only at hSw); go_simp; (try with_reducible rfl)
        (try simp only [Act.put, List.setIfInBounds_toArray, List.set_cons_zero, List.set_cons_succ])
        refine wpAnyH_done (by kernel_rfl) ?_ _
        refine NoPanic.normal ?_
        have HPX := Lib.hid (HPBd.out.set3 (n, 0, vw))
        have HX := Lib.hid (HNO.out n 0 vw n' _ HW.out (((HBd.out.setCell (p := ⟨b, 0, none⟩) hb0 (.int .u8 (n : Int))).setCell (p := ⟨b, 1, none⟩) hb0 (.int .i64 0)).setCell (p := ⟨b, 2, none⟩) hb0 (.string vw)))
        go_wp2_with fail
        exact bodyPost_ret (result_part _ _ b _ _ _ rfl HPX.out) rfl HX.out
      · go_simp
        refine hK.out _ _ (HS.out _ (((HPGd.out.other (Ne.symm hbg) _ _).other (Ne.symm hbg) _ _).other (Ne.symm hbg) _ _) (((HBd.out.setCell (p := ⟨b, 0, none⟩) hb0 _).setCell (p := ⟨b, 1, none⟩) hb0 _).setCell (p := ⟨b, 2, none⟩) hb0 _)) (fun hHeld5 => ?_)
        clear hK K
        (try simp only [Act.put, List.setIfInBounds_toArray, List.set_cons_zero, List.set_cons_succ])
        refine wpAnyH_take (i := 17) (oi := _) (v := ?v104) rfl (by kernel_rfl) (by kernel_rfl) (by kernel_rfl) (fun _ _ _ h => h) (Or.inl ⟨by rfl, ?hy104⟩) hHeld5 ?rest104
        case hy104 => intro w hSw; (try dsimp only at hSw); go_simp; (try with_reducible rfl)
        (try simp only [Act.put, List.setIfInBounds_toArray, List.set_cons_zero, List.set_cons_succ])
        refine wpAnyH_ready (rs := [14]) (by kernel_rfl) (by simp) ?_
        refine AllReadyH.cons (o := _) rfl (fun K hK => ?_) AllReadyH.nil
        rw [if_neg]
        rotate_left
        · exact fun h => Bool.noConfusion (h.symm.trans (by kernel_rfl : _ = false))
        refine hK.out _ _ hHeld5 (fun hHeld6 => ?_)
        clear hK K
        (try simp only [Act.put, List.setIfInBounds_toArray, List.set_cons_zero, List.set_cons_succ])
        refine wpAnyH_take (i := 15) (oi := _) (v := ?v105) rfl (by kernel_rfl) (by kernel_rfl) (by kernel_rfl) (fun _ _ _ h => h) (Or.inl ⟨by rfl, ?hy105⟩) hHeld6 ?rest105
        case hy105 => intro w hSw; (try dsimp only at hSw); go_simp; (try with_reducible rfl)
        (try simp only [Act.put, List.setIfInBounds_toArray, List.set_cons_zero, List.set_cons_succ])
        refine wpAnyH_take (i := 18) (oi := _) (v := ?v106) rfl (by kernel_rfl) (by kernel_rfl) (by kernel_rfl) (fun _ _ _ h => h) (Or.inl ⟨by rfl, ?hy106⟩) hHeld6 ?rest106
        case hy106 => intro w hSw; (try dsimp only at hSw); go_simp; (try with_reducible rfl)
        (try simp only [Act.put, List.setIfInBounds_toArray, List.set_cons_zero, List.set_cons_succ])
        refine wpAnyH_done (by kernel_rfl) ?_ _
        refine NoPanic.normal ?_
        have HPX := Lib.hid (HPBd.out.set3 (n, 0, vw))
        have HX := Lib.hid (HNO.out n 0 vw n' _ HW.out (((HBd.out.setCell (p := ⟨b, 0, none⟩) hb0 (.int .u8 (n : Int))).setCell (p := ⟨b, 1, none⟩) hb0 (.int .i64 0)).setCell (p := ⟨b, 2, none⟩) hb0 (.string vw)))
        go_wp2_with fail
        exact bodyPost_ret (result_part _ _ b _ _ _ rfl HPX.out) rfl HX.out
    | false =>
      rw [he, if_neg (by simp)] at HW
      have CQ := Lib.hid (fun W => quoted_Quote vw W HVL.out)
      have hwq2 : IntKind.i64.wrap ((q : Int) + 1) = (q : Int) + 1 := hwq
      by_cases hqe : quote vw = s.extract (q + 1) n'
      · rw [if_pos hqe] at HW
        have f1 : ((quote vw).toList == (s.extract (q + 1) n').toList) = true := by rw [beq_iff_eq, hqe]
        clear hqe
        generalize quote vw = qw at *
        go_region_held3 (fun W' => W'.cell? ⟨g, 0, none⟩ = some (.int .u8 (n : Int)) ∧ W'.cell? ⟨g, 1, none⟩ = some (.int .i64 0) ∧ W'.cell? ⟨g, 2, none⟩ = some (.string vw) ∧ RowKit.Hid (Below w0.heap.size w0 W') ∧ RowKit.Hid (PK W' g (n, 0, vw)))
          (first
            | exact HS.out _ HPGd.out HBd.out
            | exact HS.out _ (HPGd.out.keep hb4) (bthen HBd.out hb4)
            | exact HS.out _ ((((HPGd.out.keep hb4).other (Ne.symm hbg) _ _).other (Ne.symm hbg) _ _).other (Ne.symm hbg) _ _) ((((bthen HBd.out hb4).setCell (p := ⟨b, 0, none⟩) hb0 _).setCell (p := ⟨b, 1, none⟩) hb0 _).setCell (p := ⟨b, 2, none⟩) hb0 _))
          ((go_at_call 39; (with_reducible refine (CQ.out _).mono ?_); rintro e w4 ⟨rfl, hb4⟩; have hp4 := HPBd.out.keep hb4; have b0' := hp4.c0; have b1' := hp4.c1; have b2' := hp4.c2; have bz' := hp4.fz; (try dsimp only)))
        all_goals
          have HPX := Lib.hid (hp4.set3 (n, 0, vw))
          have HX := Lib.hid (HYES.out vw n' _ HW.out (((((bthen HBd.out hb4).setCell (p := ⟨b, 0, none⟩) hb0 (.int .u8 (n : Int))).setCell (p := ⟨b, 1, none⟩) hb0 (.int .i64 0)).setCell (p := ⟨b, 2, none⟩) hb0 (.string vw))))
          go_wp2_with fail
          exact bodyPost_ret (result_part _ _ b _ _ _ rfl HPX.out) rfl HX.out
      · rw [if_neg hqe] at HW
        have f1 : ((quote vw).toList == (s.extract (q + 1) n').toList) = false := by rw [beq_eq_false_iff_ne]; intro e; rw [ByteArray.toList_eq, ByteArray.toList_eq] at e; exact hqe (ByteArray.ext (Array.ext' e))
        clear hqe
        generalize quote vw = qw at *
        go_region_held3 (fun W' => W'.cell? ⟨g, 0, none⟩ = some (.int .u8 (n : Int)) ∧ W'.cell? ⟨g, 1, none⟩ = some (.int .i64 0) ∧ W'.cell? ⟨g, 2, none⟩ = some (.string vw) ∧ RowKit.Hid (Below w0.heap.size w0 W') ∧ RowKit.Hid (PK W' g (n, 0, vw)))
          (first
            | exact HS.out _ HPGd.out HBd.out
            | exact HS.out _ (HPGd.out.keep hb4) (bthen HBd.out hb4)
            | exact HS.out _ ((((HPGd.out.keep hb4).other (Ne.symm hbg) _ _).other (Ne.symm hbg) _ _).other (Ne.symm hbg) _ _) ((((bthen HBd.out hb4).setCell (p := ⟨b, 0, none⟩) hb0 _).setCell (p := ⟨b, 1, none⟩) hb0 _).setCell (p := ⟨b, 2, none⟩) hb0 _))
          ((go_at_call 39; (with_reducible refine (CQ.out _).mono ?_); rintro e w4 ⟨rfl, hb4⟩; have hp4 := HPBd.out.keep hb4; have b0' := hp4.c0; have b1' := hp4.c1; have b2' := hp4.c2; have bz' := hp4.fz; (try dsimp only)))
        all_goals
          have HPX := Lib.hid (hp4.set3 (n, 0, vw))
          have HX := Lib.hid (HNO.out n 0 vw n' _ HW.out (((((bthen HBd.out hb4).setCell (p := ⟨b, 0, none⟩) hb0 (.int .u8 (n : Int))).setCell (p := ⟨b, 1, none⟩) hb0 (.int .i64 0)).setCell (p := ⟨b, 2, none⟩) hb0 (.string vw))))
          go_wp2_with fail
          exact bodyPost_ret (result_part _ _ b _ _ _ rfl HPX.out) rfl HX.out
  · have hrb : (br == 0) = false := by rw [beq_eq_false_iff_ne]; exact hr
    have hrn : (br != 0) = true := by rw [bne_iff_ne]; exact hr
    rw [if_neg hr] at HW
    have HX := Lib.hid (HNO.out 0 0 ByteArray.empty 0 _ HW.out (((HB1.out.setCell (p := ⟨b, 0, none⟩) hb0 (.int .u8 0)).setCell (p := ⟨b, 1, none⟩) hb0 (.int .i64 0)).setCell (p := ⟨b, 2, none⟩) hb0 (.string ByteArray.empty)))
    have HPX := Lib.hid (HPB1.out.set3 (0, 0, ByteArray.empty))
    have z0 := HPB1.out.fz
    have b0 := HPB1.out.c0
    have b1 := HPB1.out.c1
    have b2 := HPB1.out.c2
    clear hr
    go_wp2_with fail
    exact bodyPost_ret (result_part _ _ b _ _ _ rfl HPX.out) rfl HX.out
end Go.Proofs.YtpjglenogifclaaGreatDoor
