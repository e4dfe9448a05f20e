/- Layer 7: the document's has and run, walked. -/
import Derived.Test.YtcnkcnalabjhgaaGreatDoorRef05
import Derived.Test.YtcnkcnalabjhgaaGreatDoorRef02
import Derived.Test.YtcnkcnalabjhgaaGreatDoorLexP
namespace Go.Proofs.YtcnkcnalabjhgaaGreatDoor
set_option linter.all false
open Go.RowKit

/-- Does a text stand at a place? -/
def hasAt (s : ByteArray) (i : Nat) (t : ByteArray) : Bool := decide (i + t.size ≤ s.size) && decide (s.extract i (i + t.size) = t)
theorem toList_beq (a b : ByteArray) : (a.toList == b.toList) = decide (a = b) := by
  rw [Bool.eq_iff_iff, beq_iff_eq, decide_eq_true_eq, ByteArray.toList_eq, ByteArray.toList_eq]
  constructor
  · intro h; exact ByteArray.ext (Array.ext' h)
  · intro h; rw [h]
set_option maxRecDepth 100000 in
set_option maxHeartbeats 4000000 in
theorem ref_has (s : ByteArray) (i : Nat) (t : ByteArray) (hi : i ≤ s.size) (hs : s.size ≤ 2147483647) (ht : t.size ≤ 2147483647) (w : World) :
    Calls Tryz.prog 35 #[.string s, .int .i64 (i : Int), .string t] w fun e w' => e = .returned (.bool (hasAt s i t)) ∧ w = w' := by
  have HQ : RowKit.Hid (∀ x, hasAt s i t = x → (fun (e : Ending) w' => e = .returned (.bool (hasAt s i t)) ∧ w = w') (.returned (.bool x)) w) := Lib.hid fun x h => ⟨by rw [h], rfl⟩
  have HV : RowKit.Hid (hasAt s i t = (decide (i + t.size ≤ s.size) && decide (s.extract i (i + t.size) = t))) := Lib.hid rfl
  generalize (fun (e : Ending) w' => e = .returned (.bool (hasAt s i t)) ∧ w = w') = Q at *
  have hw1 : IntKind.i64.wrap ((s.size : Int) - (i : Int)) = ((s.size - i : Nat) : Int) := by rw [IntKind.wrap_i64]; omega
  have hi0 : (0 : Int) ≤ i := by omega
  by_cases h : i + t.size ≤ s.size
  · have h' : (t.size : Int) ≤ ((s.size - i : Nat) : Int) := by omega
    have h2 : (t.size : Int) ≤ (s.size : Int) - i := by omega
    have h3 : t.size ≤ s.size - i := by omega
    have hw2 : IntKind.i64.wrap ((i : Int) + (t.size : Int)) = ((i + t.size : Nat) : Int) := by rw [IntKind.wrap_i64]; omega
    have q1 : (i : Int) ≤ ((i + t.size : Nat) : Int) := by omega
    have q2 : ((i + t.size : Nat) : Int) ≤ s.size := by omega
    have q3 : (i : Int) + (t.size : Int) ≤ s.size := by omega
    have q4 : (i : Int) ≤ (i : Int) + t.size := by omega
    have q5 : ((i : Int) + (t.size : Int)).toNat = i + t.size := by omega
    rw [decide_eq_true h, Bool.true_and] at HV
    go_enter Tryz.func35, Tryz.ntmps35
    go_wp2_with fail
    exact HQ.out _ (by rw [HV.out, toList_beq])
  · have h' : ¬ (t.size : Int) ≤ ((s.size - i : Nat) : Int) := by omega
    have h2 : ¬ (t.size : Int) ≤ (s.size : Int) - i := by omega
    have h3 : ¬ t.size ≤ s.size - i ∨ i = s.size := by omega
    rw [decide_eq_false h] at HV
    have HF := Lib.hid (HV.out.trans (Bool.false_and _))
    clear h3
    go_enter Tryz.func35, Tryz.ntmps35
    go_wp2_with fail
    exact HQ.out _ HF.out
theorem blankB_four {c : Nat} (h : blankB c = true) : c = 32 ∨ c = 9 ∨ c = 10 ∨ c = 13 := by
  unfold blankB at h; simp at h; omega
theorem blank_iff (s : ByteArray) (i : Nat) (hi : i < s.size) : (blank (rd s i).1 = true ↔ blankB (bt s i) = true) ∧ (blank (rd s i).1 = true → (rd s i).2 = 1) := by
  have key : blankB (bt s i) = true → rd s i = (bt s i, 1) ∧ blank (rd s i).1 = true := fun h => by
    have h4 := blankB_four h
    have hr := rd_ascii hi (by omega)
    refine ⟨hr, ?_⟩
    rw [hr]
    unfold blank
    simp
    omega
  refine ⟨⟨fun h => (blank_byte h).2, fun h => (key h).2⟩, fun h => ?_⟩
  rw [(key (blank_byte h).2).1]
set_option maxRecDepth 100000 in
set_option maxHeartbeats 4000000 in
theorem ref_run0 (s : ByteArray) (i : Nat) (hi : i ≤ s.size) (hs : s.size ≤ 2147483647) (w : World) :
    Calls Tryz.prog 34 #[.string s, .int .i64 (i : Int), .int .i64 0] w fun e w' => e = .returned (.int .i64 (blankTo s i : Nat)) ∧ Below w.heap.size w w' := by
  have HQ : RowKit.Hid (∀ w' (n : Nat), blankTo s i = n → Below w.heap.size w w' → (fun (e : Ending) w' => e = .returned (.int .i64 (blankTo s i : Nat)) ∧ Below w.heap.size w w') (.returned (.int .i64 (n : Nat))) w') := Lib.hid fun w' n h h2 => ⟨by rw [h], h2⟩
  have HV0 : RowKit.Hid (blankTo s i = blankTo s i) := Lib.hid rfl
  generalize (fun (e : Ending) w' => e = .returned (.int .i64 (blankTo s i : Nat)) ∧ Below w.heap.size w w') = Q at *
  generalize hV : blankTo s i = V at *
  have HV := Lib.hid hV
  have CR := Lib.hid (fun (k : Nat) w => ref_Read s (k : Int) w (by omega))
  clear HV0 hV
  go_enter Tryz.func34, Tryz.ntmps34
  go_wp2_with fail
  go_loopw [1] (fun v wr => ∃ k : Nat, v = .int .i64 k ∧ k ≤ s.size ∧ RowKit.Hid (blankTo s k = V) ∧ Below w.heap.size w wr) (fun v _ => s.size - (intOf v).toNat)
  case atStart => exact ⟨i, rfl, hi, HV, Below.refl _ _⟩
  case round =>
    obtain ⟨k, rfl, hk, HK, hb⟩ := hrel
    have HB := Lib.hid hb
    clear hb
    by_cases hlt : k < s.size
    · have hlt' : (k : Int) < s.size := by omega
      have CRk := CR.out k wr
      rw [rdI_nat] at CRk
      obtain ⟨b1, b2⟩ := blank_iff s k hlt
      have HYES : RowKit.Hid (blankB (bt s k) = true → blankTo s (k + 1) = V) := Lib.hid fun h => by rw [← HK.out]; exact (by rw [blankTo.eq_def s k, if_pos ⟨hlt, h⟩])
      have HNO : RowKit.Hid (¬ blankB (bt s k) = true → V = k) := Lib.hid fun h => by rw [← HK.out, blankTo.eq_def s k, if_neg (fun g => h g.2)]
      have hz : (rd s k).2 = 0 → ¬ blank (rd s k).1 = true := fun h g => by have := b2 g; omega
      generalize rd s k = d at *
      obtain ⟨r, n⟩ := d
      simp only [] at *
      have CRh := Lib.hid CRk
      have CB := Lib.hid (fun w => ref_Blank (r : Int) w)
      clear CRk
      by_cases hbl : blank (r : Int) = true
      · obtain rfl := b2 hbl
        have HT2 := Lib.hid (HYES.out (b1.1 hbl))
        have hwk : IntKind.i64.wrap ((k : Int) + 1) = ((k + 1 : Nat) : Int) := by rw [IntKind.wrap_i64]; omega
        rw [hbl] at CB
        clear HYES HNO hz b1 b2 hbl HK
        go_wp2_with fail
        refine CRh.out.mono ?_
        rintro e w2 ⟨rfl, hb2⟩
        have HB2 := Lib.hid (bthen HB.out hb2)
        clear hb2
        go_wp2_with fail
        refine (CB.out w2).mono ?_
        rintro e w3 ⟨rfl, rfl⟩
        go_wp2_with fail
        refine ⟨⟨k + 1, congrArg (Value.int .i64) (by omega), hlt, HT2, HB2.out⟩, ?_⟩
        simp only [intOf]
        omega
      · have HF := Lib.hid (HNO.out (fun g => hbl (b1.2 g)))
        have hbf : blank (r : Int) = false := by simpa using hbl
        rw [hbf] at CB
        clear HYES HNO hz b1 b2 hbl hbf HK
        by_cases hn : n = 0
        · subst hn
          go_wp2_with fail
          refine CRh.out.mono ?_
          rintro e w2 ⟨rfl, hb2⟩
          have HB2 := Lib.hid (bthen HB.out hb2)
          clear hb2
          go_wp2_with fail
          exact HQ.out _ _ HF.out HB2.out
        · have hnb : ((n : Int) == 0) = false := by rw [beq_eq_false_iff_ne]; omega
          go_wp2_with fail
          refine CRh.out.mono ?_
          rintro e w2 ⟨rfl, hb2⟩
          have HB2 := Lib.hid (bthen HB.out hb2)
          clear hb2
          go_wp2_with fail
          refine (CB.out w2).mono ?_
          rintro e w3 ⟨rfl, rfl⟩
          go_wp2_with fail
          exact HQ.out _ _ HF.out HB2.out
    · have hlt' : ¬ (k : Int) < s.size := by omega
      have HF : RowKit.Hid (V = k) := Lib.hid (by rw [← HK.out, blankTo.eq_def s k, if_neg (fun g => hlt g.1)])
      go_wp2_with fail
      exact HQ.out _ _ HF.out HB.out
set_option maxRecDepth 100000 in
set_option maxHeartbeats 4000000 in
theorem ref_run1 (s : ByteArray) (i : Nat) (hi : i ≤ s.size) (hs : s.size ≤ 2147483647) (w : World) :
    Calls Tryz.prog 34 #[.string s, .int .i64 (i : Int), .int .i64 1] w fun e w' => e = .returned (.int .i64 (wordTo s i : Nat)) ∧ Below w.heap.size w w' := by
  have HQ : RowKit.Hid (∀ w' (n : Nat), wordTo s i = n → Below w.heap.size w w' → (fun (e : Ending) w' => e = .returned (.int .i64 (wordTo s i : Nat)) ∧ Below w.heap.size w w') (.returned (.int .i64 (n : Nat))) w') := Lib.hid fun w' n h h2 => ⟨by rw [h], h2⟩
  generalize (fun (e : Ending) w' => e = .returned (.int .i64 (wordTo s i : Nat)) ∧ Below w.heap.size w w') = Q at *
  generalize hV : wordTo s i = V at *
  have HV := Lib.hid hV
  have CR := Lib.hid (fun (k : Nat) w => ref_Read s (k : Int) w (by omega))
  clear hV
  go_enter Tryz.func34, Tryz.ntmps34
  go_wp2_with fail
  go_loopw [1] (fun v wr => ∃ k : Nat, v = .int .i64 k ∧ k ≤ s.size ∧ RowKit.Hid (wordTo s k = V) ∧ Below w.heap.size w wr) (fun v _ => s.size - (intOf v).toNat)
  case atStart => exact ⟨i, rfl, hi, HV, Below.refl _ _⟩
  case round =>
    obtain ⟨k, rfl, hk, HK, hb⟩ := hrel
    have HB := Lib.hid hb
    clear hb
    by_cases hlt : k < s.size
    · have hlt' : (k : Int) < s.size := by omega
      have CRk := CR.out k wr
      rw [rdI_nat] at CRk
      have hwd := rd_width s k
      have HIN : RowKit.Hid (inWord s k = (decide ((rd s k).2 ≠ 0) && (letter (rd s k).1 || digit (rd s k).1))) := Lib.hid rfl
      have HYES : RowKit.Hid (inWord s k = true → wordTo s (k + (rd s k).2) = V) := Lib.hid fun h => by rw [← HK.out]; exact (by rw [wordTo.eq_def s k, dif_pos ⟨hlt, h⟩])
      have HNO : RowKit.Hid (inWord s k = false → V = k) := Lib.hid fun h => by rw [← HK.out, wordTo.eq_def s k, dif_neg (fun g => by rw [h] at g; cases g.2)]
      generalize rd s k = d at *
      obtain ⟨r, n⟩ := d
      simp only [] at *
      have CRh := Lib.hid CRk
      have CL := Lib.hid (fun w => ref_Letter (r : Int) w)
      have CD := Lib.hid (fun w => ref_Digit (r : Int) w)
      clear CRk
      by_cases hn : n = 0
      · subst hn
        have HF := Lib.hid (HNO.out (by rw [HIN.out]; rfl))
        clear HYES HNO HK
        go_wp2_with fail
        refine CRh.out.mono ?_
        rintro e w2 ⟨rfl, hb2⟩
        have HB2 := Lib.hid (bthen HB.out hb2)
        clear hb2
        go_wp2_with fail
        exact HQ.out _ _ HF.out HB2.out
      · have hnb : ((n : Int) == 0) = false := by rw [beq_eq_false_iff_ne]; omega
        have hwk : IntKind.i64.wrap ((k : Int) + (n : Int)) = ((k + n : Nat) : Int) := by rw [IntKind.wrap_i64]; omega
        have HLE : RowKit.Hid (k + n ≤ s.size) := Lib.hid (by omega)
        have HNP : RowKit.Hid (0 < n) := Lib.hid (by omega)
        rw [decide_eq_true hn, Bool.true_and] at HIN
        generalize letter (r : Int) = lt at *
        generalize digit (r : Int) = dg at *
        cases lt with
        | true =>
          have HT2 := Lib.hid (HYES.out (by rw [HIN.out]; rfl))
          clear HYES HNO HK hwd hn
          go_wp2_with fail
          refine CRh.out.mono ?_
          rintro e w2 ⟨rfl, hb2⟩
          have HB2 := Lib.hid (bthen HB.out hb2)
          clear hb2
          go_wp2_with fail
          refine (CL.out w2).mono ?_
          rintro e w3 ⟨rfl, hb3⟩
          have HB3 := Lib.hid (bthen HB2.out hb3)
          clear hb3
          go_wp2_with fail
          refine ⟨⟨k + n, congrArg (Value.int .i64) (by omega), HLE.out, HT2, HB3.out⟩, ?_⟩
          simp only [intOf]
          have := HNP.out
          omega
        | false =>
          cases dg with
          | true =>
            have HT2 := Lib.hid (HYES.out (by rw [HIN.out]; rfl))
            clear HYES HNO HK hwd hn
            go_wp2_with fail
            refine CRh.out.mono ?_
            rintro e w2 ⟨rfl, hb2⟩
            have HB2 := Lib.hid (bthen HB.out hb2)
            clear hb2
            go_wp2_with fail
            refine (CL.out w2).mono ?_
            rintro e w3 ⟨rfl, hb3⟩
            have HB3 := Lib.hid (bthen HB2.out hb3)
            clear hb3
            go_wp2_with fail
            refine (CD.out w3).mono ?_
            rintro e w4 ⟨rfl, hb4⟩
            have HB4 := Lib.hid (bthen HB3.out hb4)
            clear hb4
            go_wp2_with fail
            refine ⟨⟨k + n, congrArg (Value.int .i64) (by omega), HLE.out, HT2, HB4.out⟩, ?_⟩
            simp only [intOf]
            have := HNP.out
            omega
          | false =>
            have HF := Lib.hid (HNO.out (by rw [HIN.out]; rfl))
            clear HYES HNO HK hwd hn
            go_wp2_with fail
            refine CRh.out.mono ?_
            rintro e w2 ⟨rfl, hb2⟩
            have HB2 := Lib.hid (bthen HB.out hb2)
            clear hb2
            go_wp2_with fail
            refine (CL.out w2).mono ?_
            rintro e w3 ⟨rfl, hb3⟩
            have HB3 := Lib.hid (bthen HB2.out hb3)
            clear hb3
            go_wp2_with fail
            refine (CD.out w3).mono ?_
            rintro e w4 ⟨rfl, hb4⟩
            have HB4 := Lib.hid (bthen HB3.out hb4)
            clear hb4
            go_wp2_with fail
            exact HQ.out _ _ HF.out HB4.out
    · have hlt' : ¬ (k : Int) < s.size := by omega
      have HF : RowKit.Hid (V = k) := Lib.hid (by rw [← HK.out, wordTo.eq_def s k, dif_neg (fun g => hlt g.1)])
      go_wp2_with fail
      exact HQ.out _ _ HF.out HB.out
end Go.Proofs.YtcnkcnalabjhgaaGreatDoor
namespace Go.Proofs.YtcnkcnalabjhgaaGreatDoor
set_option linter.all false
open Go.RowKit

def signsR : List (List UInt8) := [[43], [45], [42], [47], [37], [38], [124], [94], [60, 60], [62, 62], [38, 94], [43, 61], [45, 61], [42, 61], [47, 61], [37, 61], [38, 61], [124, 61], [94, 61], [60, 60, 61], [62, 62, 61], [38, 94, 61], [38, 38], [124, 124], [60, 45], [43, 43], [45, 45], [61, 61], [60], [62], [61], [33], [126], [33, 61], [60, 61], [62, 61], [58, 61], [46, 46, 46], [40], [41], [91], [93], [123], [125], [44], [46], [58]]
def signsN : List (List Nat) := signsR.map fun t => t.map fun b => b.toNat
def bestStep (l : List Nat) (b : Nat) (t : List Nat) : Nat := if l.take t.length = t ∧ b < t.length then t.length else b
def bestF (l : List Nat) (T : List (List Nat)) (b : Nat) : Nat := T.foldl (bestStep l) b
theorem best_spec (l : List Nat) : ∀ (T : List (List Nat)) (b : Nat), b ≤ bestF l T b ∧ (∀ t ∈ T, l.take t.length = t → t.length ≤ bestF l T b) ∧ (bestF l T b = b ∨ ∃ t ∈ T, l.take t.length = t ∧ t.length = bestF l T b)
  | [], b => ⟨Nat.le_refl _, (by intro t ht; cases ht), Or.inl rfl⟩
  | x :: T, b => by
    obtain ⟨h1, h2, h3⟩ := best_spec l T (bestStep l b x)
    have e : bestF l (x :: T) b = bestF l T (bestStep l b x) := rfl
    rw [e]
    have hb : b ≤ bestStep l b x ∧ (l.take x.length = x → x.length ≤ bestStep l b x) ∧ (bestStep l b x = b ∨ (l.take x.length = x ∧ x.length = bestStep l b x)) := by
      unfold bestStep
      by_cases g : l.take x.length = x ∧ b < x.length
      · rw [if_pos g]; exact ⟨by omega, fun _ => Nat.le_refl _, Or.inr ⟨g.1, rfl⟩⟩
      · rw [if_neg g]; exact ⟨Nat.le_refl _, fun q => by rcases Nat.lt_or_ge b x.length with w | w; exact absurd ⟨q, w⟩ g; exact w, Or.inl rfl⟩
    refine ⟨by omega, fun t ht hp => ?_, ?_⟩
    · rcases List.mem_cons.1 ht with rfl | ht
      · have := hb.2.1 hp; omega
      · exact h2 t ht hp
    · rcases h3 with h3 | ⟨t, ht, hp, hl⟩
      · rcases hb.2.2 with g | ⟨g1, g2⟩
        · exact Or.inl (h3.trans g)
        · exact Or.inr ⟨x, List.mem_cons_self, g1, g2.trans h3.symm⟩
      · exact Or.inr ⟨t, List.mem_cons_of_mem _ ht, hp, hl⟩
theorem signsN_all : ∀ t ∈ signsN, (t.length = 1 ∧ signs1.contains t = true) ∨ (t.length = 2 ∧ signs2.contains t = true) ∨ (t.length = 3 ∧ signs3.contains t = true) := by decide +kernel
theorem signsN_of3 : ∀ t ∈ signs3, t ∈ signsN ∧ t.length = 3 := by decide +kernel
theorem signsN_of2 : ∀ t ∈ signs2, t ∈ signsN ∧ t.length = 2 := by decide +kernel
theorem signsN_of1 : ∀ t ∈ signs1, t ∈ signsN ∧ t.length = 1 := by decide +kernel
theorem best_sign (l : List Nat) : bestF l signsN 0 = signL l := by
  obtain ⟨_, h2, h3⟩ := best_spec l signsN 0
  generalize bestF l signsN 0 = r at *
  have up3 : r = 3 → signs3.contains (l.take 3) = true := fun e => by
    rcases h3 with h3 | ⟨t, ht, hp, hl⟩
    · omega
    · rcases signsN_all t ht with ⟨a, b⟩ | ⟨a, b⟩ | ⟨a, b⟩
      · omega
      · omega
      · rw [a] at hp; rw [hp]; exact b
  have up2 : r = 2 → signs2.contains (l.take 2) = true := fun e => by
    rcases h3 with h3 | ⟨t, ht, hp, hl⟩
    · omega
    · rcases signsN_all t ht with ⟨a, b⟩ | ⟨a, b⟩ | ⟨a, b⟩
      · omega
      · rw [a] at hp; rw [hp]; exact b
      · omega
  have up1 : r = 1 → signs1.contains (l.take 1) = true := fun e => by
    rcases h3 with h3 | ⟨t, ht, hp, hl⟩
    · omega
    · rcases signsN_all t ht with ⟨a, b⟩ | ⟨a, b⟩ | ⟨a, b⟩
      · rw [a] at hp; rw [hp]; exact b
      · omega
      · omega
  have hr : r ≤ 3 := by
    rcases h3 with h3 | ⟨t, ht, hp, hl⟩
    · omega
    · rcases signsN_all t ht with ⟨a, b⟩ | ⟨a, b⟩ | ⟨a, b⟩ <;> omega
  unfold signL
  by_cases c3 : signs3.contains (l.take 3) = true
  · rw [if_pos c3]
    obtain ⟨g1, g2⟩ := signsN_of3 _ (List.contains_iff_mem.1 c3)
    have := h2 _ g1 (by rw [g2])
    omega
  · rw [if_neg c3]
    have n3 : r ≠ 3 := fun e => c3 (up3 e)
    by_cases c2 : signs2.contains (l.take 2) = true
    · rw [if_pos c2]
      obtain ⟨g1, g2⟩ := signsN_of2 _ (List.contains_iff_mem.1 c2)
      have := h2 _ g1 (by rw [g2])
      omega
    · rw [if_neg c2]
      have n2 : r ≠ 2 := fun e => c2 (up2 e)
      by_cases c1 : signs1.contains (l.take 1) = true
      · rw [if_pos c1]
        obtain ⟨g1, g2⟩ := signsN_of1 _ (List.contains_iff_mem.1 c1)
        have := h2 _ g1 (by rw [g2])
        omega
      · rw [if_neg c1]
        have n1 : r ≠ 1 := fun e => c1 (up1 e)
        omega
theorem mapN_inj : ∀ (a b : List UInt8), a.map (fun x => x.toNat) = b.map (fun x => x.toNat) → a = b
  | [], [], _ => rfl
  | [], _ :: _, h => by cases h
  | _ :: _, [], h => by cases h
  | x :: a, y :: b, h => by
    simp only [List.map_cons, List.cons.injEq] at h
    rw [UInt8.toNat_inj.1 h.1, mapN_inj a b h.2]
theorem size_of (x : List UInt8) : (⟨x.toArray⟩ : ByteArray).size = x.length := by rw [size_data]
theorem has_pre (s : ByteArray) (i : Nat) (hi : i ≤ s.size) (x : List UInt8) : hasAt s i ⟨x.toArray⟩ = decide ((byts (s.extract i s.size)).take x.length = x.map fun b => b.toNat) := by
  have e1 : (byts (s.extract i s.size)).take x.length = ((s.data.toList.drop i).take x.length).map fun b => b.toNat := by
    unfold byts; rw [extract_tail, List.map_take]
  have e2 : (s.extract i (i + x.length)).data.toList = (s.data.toList.drop i).take x.length := by rw [extract_data, Nat.add_sub_cancel_left]
  unfold hasAt
  rw [size_of, e1, Bool.eq_iff_iff]
  simp only [Bool.and_eq_true, decide_eq_true_eq]
  constructor
  · rintro ⟨_, h⟩
    rw [← e2, h]
  · intro h
    have h2 := mapN_inj _ _ h
    have h3 := congrArg List.length h2
    rw [List.length_take, List.length_drop, ← size_data] at h3
    refine ⟨by omega, ?_⟩
    apply ByteArray.ext
    apply Array.ext'
    rw [e2, h2]
theorem has2 (s : ByteArray) (i : Nat) (hi : i ≤ s.size) (c d : UInt8) : hasAt s i ⟨#[c, d]⟩ = decide (i + 1 < s.size ∧ bt s i = c.toNat ∧ bt s (i + 1) = d.toNat) := by
  have := has_pre s i hi [c, d]
  rw [show (⟨[c, d].toArray⟩ : ByteArray) = ⟨#[c, d]⟩ from rfl] at this
  rw [this, Bool.eq_iff_iff, decide_eq_true_eq, decide_eq_true_eq]
  have hl : (byts (s.extract i s.size)).length = s.size - i := by rw [byts_length, ByteArray.size_extract]; omega
  have hg : ∀ j, i + j < s.size → (byts (s.extract i s.size))[j]? = some (bt s (i + j)) := fun j hj => by
    rw [byts_get _ j (by rw [ByteArray.size_extract]; omega)]
    unfold bt; rw [get!_extract s i s.size j (by omega) (Nat.le_refl _)]
  constructor
  · intro h
    have h3 := congrArg List.length h
    simp only [List.length_take, hl, List.length_cons, List.length_nil, List.length_map] at h3
    have hi2 : i + 1 < s.size := by omega
    have a0 := congrArg (fun l => l[0]?) h
    have a1 := congrArg (fun l => l[1]?) h
    simp only [List.getElem?_take, List.length_cons, List.length_nil, List.map_cons, List.map_nil, List.getElem?_cons_zero, List.getElem?_cons_succ] at a0 a1
    rw [if_pos (by omega), hg 0 (by omega)] at a0
    rw [if_pos (by omega), hg 1 (by omega)] at a1
    simp only [Option.some.injEq, Nat.add_zero] at a0 a1
    exact ⟨hi2, a0, a1⟩
  · rintro ⟨h1, h2, h3⟩
    apply List.ext_getElem?
    intro j
    rw [List.getElem?_take]
    match j with
    | 0 => rw [if_pos (by simp), hg 0 (by omega)]; simp [h2]
    | 1 => rw [if_pos (by simp), hg 1 (by omega)]; simp [h3]
    | j + 2 => rw [if_neg (by simp)]; simp
theorem best_next (l : List Nat) (k : Nat) (hk : k < 47) : bestF l (signsN.take (k + 1)) 0 = bestStep l (bestF l (signsN.take k) 0) ((signsR.getD k []).map fun b => b.toNat) := by
  have hl : signsN.length = 47 := rfl
  have hg : signsN[k]? = some ((signsR.getD k []).map fun b => b.toNat) := by
    unfold signsN
    have h2 : k < signsR.length := hk
    rw [List.getElem?_map, List.getElem?_eq_getElem h2, List.getD_eq_getElem?_getD, List.getElem?_eq_getElem h2]; rfl
  rw [List.take_succ, hg]
  unfold bestF
  rw [Option.toList_some, List.foldl_append]; rfl
def signVals : Array Value := (signsR.map fun l => Value.string ⟨l.toArray⟩).toArray
theorem signVals_at (i : Nat) (hi : i < 47) : signVals[i]? = some (.string ⟨(signsR.getD i []).toArray⟩) := by
  have h : i < signsR.length := hi
  unfold signVals
  simp only [List.getElem?_toArray, List.getElem?_map, List.getElem?_eq_getElem h, Option.map_some, List.getD_eq_getElem?_getD, Option.getD_some]
set_option maxRecDepth 100000 in
theorem ref_Signs (w : World) :
    Calls Tryz.prog 13 #[] w fun e w' => e = .returned (.slice (some ⟨w.heap.size, 0, none⟩) 47 47) ∧ w' = w.alloc (.cells signVals 9) := by
  go_enter Tryz.func13, Tryz.ntmps13
  go_upto_region 1 with (fail)
  refine wp_region_lit ?_
  refine wpList_run_w 2 (w.alloc (.cells signVals 9)) (by kernel_rfl) (by kernel_rfl) ?_
  refine wpList_nil ?_
  generalize hA : actOf _ _ _ _ = A
  have hA0 : A.tmps.getD 0 undef = .slice (some ⟨w.heap.size, 0, none⟩) 47 47 := by rw [← hA]; kernel_rfl
  have hAd : A.defers = [] := by rw [← hA]; kernel_rfl
  clear hA
  obtain ⟨tm, df⟩ := A
  simp only [] at hA0 hAd
  subst hAd
  rename_i hK
  refine hK _ _ (wp_ret ?_)
  refine bodyPost_ret (results_tmp rfl _ _ _) rfl ?_
  exact ⟨by rw [hA0], rfl⟩
end Go.Proofs.YtcnkcnalabjhgaaGreatDoor
