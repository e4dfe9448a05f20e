/- Layer 7: the document's begins, One, walked. -/
import Derived.Test.YtcnkcnalabjhgaaGreatDoorLexW
import Derived.Test.YtcnkcnalabjhgaaGreatDoorRef07a
import Derived.Test.YtcnkcnalabjhgaaGreatDoorScan6
import Derived.Test.YtcnkcnalabjhgaaGreatDoorScan7
namespace Go.Proofs.YtcnkcnalabjhgaaGreatDoor
set_option linter.all false
open Go.RowKit
attribute [local irreducible] Calls

theorem goes_go {s : ByteArray} {k at' : Nat} (h : k < at') (h0 : (rd s k).2 ≠ 0) : goes s k at' = goes s (k + (rd s k).2) at' := by rw [goes, dif_pos ⟨h, h0⟩]
theorem goes_end {s : ByteArray} {k at' : Nat} (h : ¬ k < at') : goes s k at' = k := by rw [goes, dif_neg (fun g => h g.1)]
theorem clean_ok {s : ByteArray} {i : Nat} (hc : cleanZ s i < 0) (hi : i < s.size) : (rd s i).2 ≠ 0 ∧ cleanZ s (i + (rd s i).2) < 0 := by
  have hb : badHere s i = false := by
    cases h : badHere s i
    · rfl
    · rw [clean_bad hi h] at hc; omega
  exact ⟨good_width hb, by rw [← clean_step hi hb]; exact hc⟩
set_option maxRecDepth 100000 in
set_option maxHeartbeats 4000000 in
theorem ref_begins (s : ByteArray) (a : Nat) (ha : a < s.size) (hc : cleanZ s 0 < 0) (hs : s.size ≤ 2147483647) (w : World) :
    Calls Tryz.prog 21 #[.string s, .int .i64 (a : Int)] w fun e w' => e = .returned (.bool (decide (bt s a / 64 ≠ 2))) ∧ Below w.heap.size w w' := by
  have HQ : RowKit.Hid (∀ w' x, decide (bt s a / 64 ≠ 2) = x → Below w.heap.size w w' → (fun (e : Ending) w' => e = .returned (.bool (decide (bt s a / 64 ≠ 2))) ∧ Below w.heap.size w w') (.returned (.bool x)) w') := Lib.hid fun w' x h h2 => ⟨by rw [h], h2⟩
  have HG := Lib.hid (goes_lead s a ha 0 (Nat.zero_le _) hc)
  generalize (fun (e : Ending) w' => e = .returned (.bool (decide (bt s a / 64 ≠ 2))) ∧ Below w.heap.size w w') = Q at *
  generalize decide (bt s a / 64 ≠ 2) = V at *
  generalize hG : goes s 0 a = G at *
  have HG0 := Lib.hid hG
  have HC0 := Lib.hid hc
  have CR := Lib.hid (fun (k : Nat) w => ref_Read s (k : Int) w (by omega))
  clear hG hc
  go_enter Tryz.func21, Tryz.ntmps21
  go_wp2_with fail
  go_loopw [5] (fun v wr => ∃ k : Nat, v = .int .i64 k ∧ k ≤ s.size ∧ RowKit.Hid (goes s k a = G) ∧ RowKit.Hid (cleanZ s k < 0) ∧ Below w.heap.size w wr) (fun v _ => s.size - (intOf v).toNat)
  case atStart => exact ⟨0, rfl, Nat.zero_le _, HG0, HC0, Below.refl _ _⟩
  case round =>
    obtain ⟨k, rfl, hk, HK, HC, hb⟩ := hrel
    have HB := Lib.hid hb
    clear hb
    by_cases hlt : k < a
    · have hlt' : (k : Int) < a := by omega
      have CRk := CR.out k wr
      rw [rdI_nat] at CRk
      obtain ⟨o1, o2⟩ := clean_ok HC.out (by omega : k < s.size)
      have hgo := (goes_go hlt o1).symm.trans HK.out
      have hwd := rd_width s k
      generalize rd s k = d at *
      obtain ⟨r, n⟩ := d
      simp only [] at *
      have CRh := Lib.hid CRk
      have HG2 := Lib.hid hgo
      have HC2 := Lib.hid o2
      have hwk : IntKind.i64.wrap ((k : Int) + (n : Int)) = ((k + n : Nat) : Int) := by rw [IntKind.wrap_i64]; omega
      have HLE : RowKit.Hid (k + n ≤ s.size ∧ k < k + n ∧ k < s.size) := Lib.hid (by omega)
      clear CRk hgo o2 o1 hwd HK HC
      go_wp2_with fail
      refine CRh.out.mono ?_
      rintro e w2 ⟨rfl, hb2⟩
      have HB2 := Lib.hid (bthen HB.out hb2)
      clear hb2
      go_wp2_with fail
      refine ⟨⟨k + n, congrArg (Value.int .i64) (by omega), HLE.out.1, HG2, HC2, HB2.out⟩, ?_⟩
      simp only [intOf]
      have := HLE.out
      omega
    · have hlt' : ¬ (k : Int) < a := by omega
      have hkg : k = G := by rw [← HK.out, goes_end hlt]
      have HGV := HG.out
      rw [← hkg] at HGV
      have HGV := Lib.hid HGV
      clear hkg HK
      cases V with
      | true =>
        obtain rfl : k = a := by have := HGV.out; simpa using this
        go_wp2_with fail
        exact HQ.out _ _ rfl HB.out
      | false =>
        have hne : ((k : Int) == (a : Int)) = false := by
          have := HGV.out
          rw [beq_eq_false_iff_ne] at this ⊢
          omega
        go_wp2_with fail
        exact HQ.out _ _ rfl HB.out
set_option maxRecDepth 100000 in
set_option maxHeartbeats 4000000 in
theorem ref_One07 (s : ByteArray) (at' : Int) (hs : s.size ≤ 2147483647) (w : World) :
    Calls Tryz.prog 9 #[.string s, .int .i64 at'] w (nextPost (oneZ s at') w) := by
  have HQ : RowKit.Hid (∀ w' q, oneZ s at' = q → Below w.heap.size w w' → nextPost (oneZ s at') w (.returned (.tuple #[.agg #[.int .u8 q.1, .int .i64 q.2.1, .int .i64 q.2.2.1], .int .i64 q.2.2.2])) w') := Lib.hid fun w' q h h2 => by
    unfold nextPost; rw [h]; exact ⟨rfl, h2⟩
  have HV : RowKit.Hid (oneZ s at' = if at' < 0 ∨ (s.size : Int) ≤ at' then (0, 0, 0, 1) else if 0 ≤ clean s ∨ bt s at'.toNat / 64 = 2 then (0, 0, 0, 3) else nextZ s at'.toNat) := Lib.hid (by unfold oneZ; rfl)
  generalize nextPost (oneZ s at') w = Q at *
  have CC := Lib.hid (fun w' => ref_Clean07 s (by omega) w')
  have CN := Lib.hid (fun a ha w' => ref_Lexeme s a ha hs w')
  have CBG := Lib.hid (fun a ha hc w' => ref_begins s a ha hc hs w')
  have HCL : RowKit.Hid (clean s = cleanZ s 0) := Lib.hid (by unfold clean; rfl)
  have HF : RowKit.Hid (∀ (tm : Array Value) W' (q : Int × Int × Int × Int), oneZ s at' = q → Below w.heap.size w W' → TK W' w.heap.size q.1 q.2.1 q.2.2.1 → tm.getD 4 undef = .pointer (some ⟨w.heap.size, 0, none⟩) → tm.getD 5 undef = .int .i64 q.2.2.2 → bodyPost Tryz.prog Tryz.f9 Q .ret ⟨tm, []⟩ W') :=
    Lib.hid fun tm W' q h1 h2 h3 h4 h5 => by
      refine bodyPost_ret (results_cell_tmp rfl tm W' w.heap.size 24 #[.int .u8 q.1, .int .i64 q.2.1, .int .i64 q.2.2.1] (0, 0) _ h4 h3 Tryz.underlying24 rfl (by kernel_rfl)) rfl ?_
      rw [h5]
      exact HQ.out W' q h1 h2
  have hT4 : TK (w.alloc (.cells #[.int .u8 0, .int .i64 0, .int .i64 0] 24)) w.heap.size 0 0 0 := by
    unfold TK; exact heap_alloc_new _ _
  have hbW : Below w.heap.size w (w.alloc (.cells #[.int .u8 0, .int .i64 0, .int .i64 0] 24)) := (Below.refl _ _).alloc (Nat.le_refl _) _
  have H4 := Lib.hid hT4
  have HBW := Lib.hid hbW
  clear hT4 hbW
  by_cases hout : at' < 0 ∨ (s.size : Int) ≤ at'
  · rw [if_pos hout] at HV
    rcases hout with h | h
    · go_enter Tryz.func9, Tryz.ntmps9
      go_wp2_with fail
      exact HF.out _ _ (0, 0, 0, 1) HV.out HBW.out H4.out rfl rfl
    · have h0 : ¬ at' < 0 := by omega
      go_enter Tryz.func9, Tryz.ntmps9
      go_wp2_with fail
      exact HF.out _ _ (0, 0, 0, 1) HV.out HBW.out H4.out rfl rfl
  · rw [if_neg hout] at HV
    obtain ⟨a, rfl⟩ : ∃ a : Nat, at' = a := ⟨at'.toNat, by omega⟩
    rw [Int.toNat_natCast] at HV
    have ha : a < s.size := by omega
    have ha' : (a : Int) < s.size := by omega
    have ha0 : (0 : Int) ≤ a := by omega
    clear hout
    have CNa := Lib.hid (CN.out a ha)
    clear CN
    have CBGa := Lib.hid (CBG.out a ha)
    have HNX : RowKit.Hid (nextZ s a = if (lex s a).1 = 0 then (0, 0, 0, 4) else ((lex s a).1, (a : Int), (lex s a).2, 0)) := Lib.hid (by unfold nextZ; rfl)
    generalize bt s a = c at *
    generalize clean s = cl at *
    by_cases hcl : 0 ≤ cl
    · rw [if_pos (Or.inl hcl)] at HV
      go_enter Tryz.func9, Tryz.ntmps9
      go_wp2_with fail
      refine (CC.out _).mono ?_
      rintro e w2 ⟨rfl, hb2⟩
      have HB2 := Lib.hid (bthen HBW.out hb2)
      have H42 := Lib.hid (H4.out.keep hb2)
      clear hb2
      have z40 := H42.out.fz 0; have z41 := H42.out.fz 1; have z42 := H42.out.fz 2; have c40 := H42.out.c0; have c41 := H42.out.c1; have c42 := H42.out.c2
      go_wp2_with fail
      exact HF.out _ _ (0, 0, 0, 3) HV.out (below_fill HB2.out (Nat.le_refl _) _ _ _) (H42.out.fill _ _ _) rfl rfl
    · have hcl' : ¬ (0 : Int) ≤ cl := hcl
      have CRS := Lib.hid (fun w' => CBGa.out (by have := HCL.out; omega) w')
      by_cases hc2 : c / 64 = 2
      · rw [if_pos (Or.inr hc2)] at HV
        rw [decide_eq_false (fun h => h hc2)] at CRS
        go_enter Tryz.func9, Tryz.ntmps9
        go_wp2_with fail
        refine (CC.out _).mono ?_
        rintro e w2 ⟨rfl, hb2⟩
        have HB2 := Lib.hid (bthen HBW.out hb2)
        have H42 := Lib.hid (H4.out.keep hb2)
        clear hb2
        have z40 := H42.out.fz 0; have z41 := H42.out.fz 1; have z42 := H42.out.fz 2; have c40 := H42.out.c0; have c41 := H42.out.c1; have c42 := H42.out.c2
        go_wp2_with fail
        refine (CRS.out _).mono ?_
        rintro e w3 ⟨rfl, hb3⟩
        have HB3 := Lib.hid (bthen HB2.out hb3)
        have H43 := Lib.hid (H42.out.keep hb3)
        clear hb3 z40 z41 z42 c40 c41 c42
        have z40 := H43.out.fz 0; have z41 := H43.out.fz 1; have z42 := H43.out.fz 2; have c40 := H43.out.c0; have c41 := H43.out.c1; have c42 := H43.out.c2
        go_wp2_with fail
        exact HF.out _ _ (0, 0, 0, 3) HV.out (below_fill HB3.out (Nat.le_refl _) _ _ _) (H43.out.fill _ _ _) rfl rfl
      · rw [if_neg (fun h => h.elim hcl hc2)] at HV
        rw [decide_eq_true hc2] at CRS
        go_enter Tryz.func9, Tryz.ntmps9
        go_wp2_with fail
        refine (CC.out _).mono ?_
        rintro e w2 ⟨rfl, hb2⟩
        have HB2 := Lib.hid (bthen HBW.out hb2)
        have H42 := Lib.hid (H4.out.keep hb2)
        clear hb2
        have z40 := H42.out.fz 0; have z41 := H42.out.fz 1; have z42 := H42.out.fz 2; have c40 := H42.out.c0; have c41 := H42.out.c1; have c42 := H42.out.c2
        go_wp2_with fail
        refine (CRS.out _).mono ?_
        rintro e w3 ⟨rfl, hb3⟩
        have HB3 := Lib.hid (bthen HB2.out hb3)
        have H43 := Lib.hid (H42.out.keep hb3)
        clear hb3 z40 z41 z42 c40 c41 c42
        go_wp2_with fail
        refine (CNa.out _).mono ?_
        rintro e w4 ⟨rfl, hb4⟩
        have HB4 := Lib.hid (bthen HB3.out hb4)
        have H44 := Lib.hid (H43.out.keep hb4)
        clear hb4
        have z40 := H44.out.fz 0; have z41 := H44.out.fz 1; have z42 := H44.out.fz 2; have c40 := H44.out.c0; have c41 := H44.out.c1; have c42 := H44.out.c2
        have HV2 := Lib.hid (HV.out.trans HNX.out)
        clear HV HNX CNa
        generalize lex s a = q at *
        obtain ⟨q1, q2⟩ := q
        simp only [] at *
        by_cases hq : q1 = 0
        · subst hq
          have HV3 := Lib.hid (HV2.out.trans (if_pos rfl))
          go_wp2_with fail
          exact HF.out _ _ (0, 0, 0, 4) HV3.out (below_fill HB4.out (Nat.le_refl _) _ _ _) (H44.out.fill _ _ _) rfl rfl
        · have HV3 := Lib.hid (HV2.out.trans (if_neg hq))
          have hqb : (q1 == 0) = false := by rw [beq_eq_false_iff_ne]; exact hq
          clear hq
          go_wp2_with fail
          exact HF.out _ _ (q1, (a : Int), q2, 0) HV3.out (below_fill HB4.out (Nat.le_refl _) _ _ _) (H44.out.fill _ _ _) rfl rfl
end Go.Proofs.YtcnkcnalabjhgaaGreatDoor
namespace Go.Proofs.YtcnkcnalabjhgaaGreatDoor
set_option linter.all false
open Go.RowKit

/-- What holds at the loop's head. -/
def rallRel (s : ByteArray) (w : World) (v i : Value) (wr : World) : Prop :=
  ∃ (pos : Nat) (l : List (Int × Nat × Nat)), i = .int .i64 pos ∧ pos ≤ s.size ∧ (alls s 0).1 = l ++ (alls s pos).1 ∧ (alls s 0).2 = (alls s pos).2 ∧ Below w.heap.size w wr ∧
    wr.ownsRow (w.heap.size + 1) 24 3 v l.length (toksV l) ∧ FK wr w.heap.size 0 0
set_option maxRecDepth 100000 in
set_option maxHeartbeats 8000000 in
theorem ref_All07 (s : ByteArray) (hs : s.size ≤ 2147483647) (w : World) :
    Calls Tryz.prog 11 #[.string s] w (allPost (scanAll s) w) := by
  have HQ : RowKit.Hid (∀ w' v l e a, scanAll s = (l, e, a) → Below w.heap.size w w' → w'.ownsRow w.heap.size 24 3 v l.length (toksV l) → allPost (scanAll s) w (.returned (.tuple #[v, .agg #[.int .i64 e, .int .i64 a]])) w') := Lib.hid fun w' v l e a h h2 h3 => by
    unfold allPost; rw [h]; exact ⟨v, rfl, h2, h3⟩
  have HV : RowKit.Hid (scanAll s = _) := Lib.hid (by unfold scanAll; rfl)
  generalize allPost (scanAll s) w = Q at *
  have CC := Lib.hid (fun w' => ref_Clean07 s (by omega) w')
  have CN := Lib.hid (fun a ha w' => ref_Lexeme s a ha hs w')
  have HF : RowKit.Hid (∀ (tm : Array Value) W' v l e a, scanAll s = (l, e, a) → Below w.heap.size w W' → W'.ownsRow w.heap.size 24 3 v l.length (toksV l) → FK W' w.heap.size e a → tm.getD 3 undef = .pointer (some ⟨w.heap.size, 0, none⟩) → tm.getD 2 undef = v → bodyPost Tryz.prog Tryz.f11 Q .ret ⟨tm, []⟩ W') :=
    Lib.hid fun tm W' v l e a h1 h2 h3 h4 h5 h6 => by
      refine bodyPost_ret (results_tmp_cell rfl tm W' w.heap.size 31 #[.int .i64 e, .int .i64 a] (0, 0) _ h5 h4 Tryz.underlying31 rfl (by kernel_rfl)) rfl ?_
      rw [h6]
      exact HQ.out W' v l e a h1 h2 h3
  have hT4 : FK (w.alloc (.cells #[.int .i64 0, .int .i64 0] 31)) w.heap.size 0 0 := by
    unfold FK; exact heap_alloc_new _ _
  have hbW : Below w.heap.size w (w.alloc (.cells #[.int .i64 0, .int .i64 0] 31)) := (Below.refl _ _).alloc (Nat.le_refl _) _
  have H4 := Lib.hid hT4
  have HBW := Lib.hid hbW
  clear hT4 hbW
  by_cases hbig : 65536 < s.size
  · rw [if_pos hbig] at HV
    have hbig' : (65536 : Int) < s.size := by omega
    go_enter Tryz.func11, Tryz.ntmps11
    go_wp2_with fail
    refine HF.out _ _ _ [] 2 0 HV.out ?_ ?_ ?_ rfl rfl
    · exact (Below.refl _ _).alloc (Nat.le_refl _) _
    · exact World.ownsRow_nil _ _ _ _
    · unfold FK; exact heap_alloc_new _ _
  · rw [if_neg hbig] at HV
    have hbig' : ¬ (65536 : Int) < s.size := by omega
    have hsz : s.size ≤ 65536 := by omega
    generalize clean s = cl at *
    by_cases hcl : 0 ≤ cl
    · rw [if_pos hcl] at HV
      go_enter Tryz.func11, Tryz.ntmps11
      go_wp2_with fail
      refine (CC.out _).mono ?_
      rintro e w2 ⟨rfl, hb2⟩
      have HB2 := Lib.hid (bthen HBW.out hb2)
      have H42 := Lib.hid (H4.out.keep hb2)
      clear hb2
      have z40 := H42.out.fz 0; have z41 := H42.out.fz 1; have c40 := H42.out.c0; have c41 := H42.out.c1
      go_wp2_with fail
      exact HF.out _ _ _ [] 3 cl HV.out (below_fill2 HB2.out (Nat.le_refl _) _ _) (World.ownsRow_nil _ _ _ _) (H42.out.fill _ _) rfl rfl
    · rw [if_neg hcl] at HV
      have hcl' : ¬ (0 : Int) ≤ cl := hcl
      go_enter Tryz.func11, Tryz.ntmps11
      go_wp2_with fail
      refine (CC.out _).mono ?_
      rintro e w2 ⟨rfl, hb2⟩
      have HB2 := Lib.hid (bthen HBW.out hb2)
      have H42 := Lib.hid (H4.out.keep hb2)
      clear hb2
      go_wp2_with fail
      go_loopw [5, 6] (fun v i wr => rallRel s w v i wr) (fun _ i _ => s.size - (intOf i).toNat)
      case atStart => exact ⟨0, [], rfl, Nat.zero_le _, rfl, rfl, HB2.out, World.ownsRow_nil _ _ _ _, H42.out⟩
      case round =>
        obtain ⟨pos, l, rfl, hpos, h1, h2, hb, ho, hf⟩ := hrel
        obtain ⟨va, vm, vc, rfl⟩ := owns_slice ho
        have HB := Lib.hid hb
        have HO := Lib.hid ho
        have HFK := Lib.hid hf
        have HL := Lib.hid h1
        have HE := Lib.hid h2
        have hlt0 := lt_of_block (show wr.heap[w.heap.size]? = some _ from hf)
        have hlen : l.length ≤ 65536 := by
          have := alls_len s 0
          rw [h1, List.length_append] at this; omega
        clear hb ho hf h1 h2
        by_cases hlt : pos < s.size
        · have hlt' : (pos : Int) < s.size := by omega
          have CNp := Lib.hid (CN.out pos hlt)
          have HGT := Lib.hid (lex_gt s pos hlt)
          have HAB := Lib.hid (@alls_bad s pos hlt)
          have HAS := Lib.hid (fun e k => @alls_step s pos e k hlt)
          go_wp2_with fail
          refine (CNp.out _).mono ?_
          rintro e w3 ⟨rfl, hb3⟩
          generalize lex s pos = q at *
          obtain ⟨k, t⟩ := q
          simp only [] at *
          have hz3 : w.heap.size < w3.heap.size := Nat.lt_of_lt_of_le hlt0 hb3.size
          have HB3 := Lib.hid (bthen HB.out hb3)
          have HF3 := Lib.hid (HFK.out.keep hb3)
          have HO3 := Lib.hid (owns_below HO.out hb3)
          clear hb3
          by_cases hk : k = 0
          · subst hk
            have HV2 : RowKit.Hid (scanAll s = ([], 4, (pos : Int))) := Lib.hid (by rw [HV.out, HE.out, HAB.out rfl])
            clear HV
            have z40 := HF3.out.fz 0; have z41 := HF3.out.fz 1; have c40 := HF3.out.c0; have c41 := HF3.out.c1
            go_wp2_with fail
            exact HF.out _ _ _ [] 4 pos HV2.out (below_fill2 HB3.out (Nat.le_refl _) _ _) (World.ownsRow_nil _ _ _ _) (HF3.out.fill _ _) rfl rfl
          · obtain ⟨e, rfl, he1, he2⟩ := HGT.out hk
            have hst := HAS.out e k rfl hk
            have hm1 : RowKit.Hid ((alls s 0).1 = (l ++ [(k, pos, e)]) ++ (alls s e).1) := Lib.hid (by rw [HL.out, hst]; simp)
            have hm2 : RowKit.Hid ((alls s 0).2 = (alls s e).2) := Lib.hid (by rw [HE.out, hst])
            have hkb : (k == 0) = false := by rw [beq_eq_false_iff_ne]; exact hk
            have HE12 : RowKit.Hid (pos < e ∧ e ≤ s.size) := Lib.hid ⟨he1, he2⟩
            clear HAB HAS HGT hst CNp HL HE hk he1 he2
            go_wp2_with (at_builtin; refine wpList_append_lit w3 #[.int .u8 k, .int .i64 (pos : Int), .int .i64 (e : Int)] _ rfl _ _ 29 24 rfl Tryz.underlying29 (w.heap.size + 1) info_tok rfl (by decide) _ _ _ rfl HO3.out 1 1 rfl rfl (by decide) (by intro u hu; simp at hu; rcases hu with rfl | rfl | rfl <;> rfl) (by omega) (by omega) (by omega) ?_)
            intro v' w' hown hgr _
            have hb4 := grown_below HB3.out (by omega) (owns_mono HO3.out (Nat.le_succ _)) hgr
            have hnf : (Value.slice va vm vc).ownBlock ≠ some w.heap.size := owns_not HO3.out (Or.inl (Nat.lt_succ_self _))
            have HF4 := Lib.hid ((HF3.out.alloc _).grown hgr hnf)
            have HR : RowKit.Hid (rallRel s w v' (.int .i64 (e : Int)) w') := Lib.hid ⟨e, l ++ [(k, pos, e)], rfl, HE12.out.2, hm1.out, hm2.out, hb4, by rw [List.length_append, toksV_snoc]; exact hown, HF4.out⟩
            clear hown hgr hb4 hnf
            go_wp2_with fail
            refine ⟨?_, (by have := HE12.out; simp [intOf]; try omega)⟩
            first
              | exact HR.out
              | (repeat apply Exists.intro
                 refine ⟨?_, rfl⟩
                 exact HR.out)
        · have hlt' : ¬ (pos : Int) < s.size := by omega
          have HV2 : RowKit.Hid (scanAll s = (l, 0, 0)) := Lib.hid (by
            have e := alls_end (s := s) (i := pos) hlt
            rw [HV.out, HE.out, e]
            have := HL.out
            rw [e, List.append_nil] at this
            rw [this])
          clear HV
          have z40 := HFK.out.fz 0; have z41 := HFK.out.fz 1; have c40 := HFK.out.c0; have c41 := HFK.out.c1
          go_wp2_with fail
          have hnf : (Value.slice va vm vc).ownBlock ≠ some w.heap.size := owns_not HO.out (Or.inl (Nat.lt_succ_self _))
          refine HF.out _ _ _ l 0 0 HV2.out (below_fill2 HB.out (Nat.le_refl _) _ _) (owns_mono (ownsRow_setCell_other (ownsRow_setCell_other HO.out (a := ⟨w.heap.size, 0, none⟩) hnf _) (a := ⟨w.heap.size, 1, none⟩) hnf _) (Nat.le_succ _)) (HFK.out.fill _ _) rfl rfl
end Go.Proofs.YtcnkcnalabjhgaaGreatDoor
