/- Layer 11 in plain Lean: the document's text of a tree, and the program's: one text. -/
import Derived.Test.YtpjglenogifclaaGreatDoorShowPM
import Derived.Lib.ItoaLen
import Derived.Test.YtpjglenogifclaaGreatDoorShowM
import Derived.Test.YtpjglenogifclaaGreatDoorRef06M
import Derived.Test.YtpjglenogifclaaGreatDoorRef06hM
import Derived.Deep.RegionWith
import Derived.Deep.DrawnRows
import Derived.Deep.CutBlock
namespace Go.Proofs.YtpjglenogifclaaGreatDoor
set_option linter.all false

/-- The kids' texts, a blank ahead of each. -/
def kidsT (l : List Prt) (T : Nat → List UInt8) : Nat → Nat → List UInt8
  | 0, _ => []
  | n + 1, a => 32 :: (T a ++ kidsT l T n (endB l a))
/-- A tree's text. -/
def treeX (l : List Prt) : Nat → Nat → List UInt8
  | 0, _ => []
  | f + 1, i => match l[i]? with
    | none => []
    | some p => opn p ++ (kidsT l (treeX l f) p.2.1.toNat (i + 1) ++ [41])
theorem treeX_at {l : List Prt} {i : Nat} (hi : i < l.length) (f : Nat) : treeX l (f + 1) i = opn l[i] ++ (kidsT l (treeX l f) (l[i]).2.1.toNat (i + 1) ++ [41]) := by
  rw [treeX, List.getElem?_eq_getElem hi]
theorem popN_cons (i e : Nat) (r : List Nat) : popN i (e :: r) = if e = i + 1 then popN i r + 1 else 0 := rfl
theorem popS_cons (i e : Nat) (r : List Nat) : popS i (e :: r) = if e = i + 1 then popS i r else e :: r := rfl
theorem pop_over {e : Nat} (he : 0 < e) : ∀ {st : List Nat}, (∀ x ∈ st, e < x) → popN (e - 1) st = 0 ∧ popS (e - 1) st = st
  | [], _ => ⟨rfl, rfl⟩
  | x :: r, h => by
    have := h x List.mem_cons_self
    have hne : ¬ x = e - 1 + 1 := by omega
    rw [popN_cons, popS_cons, if_neg hne, if_neg hne]
    exact ⟨rfl, rfl⟩
theorem showG_tree {l : List Prt} {us : List Nat} (hu : rowsB l = some us) : ∀ (f i : Nat) (st : List Nat), i < l.length → l.length - i ≤ f → (∀ x ∈ st, endB l i ≤ x) →
    showG l (l.drop i) i st = sp i ++ (treeX l f i ++ (List.replicate (popN (endB l i - 1) st) 41 ++ showG l (l.drop (endB l i)) (endB l i) (popS (endB l i - 1) st)))
  | 0, i, st, hi, hf, _ => by omega
  | f + 1, i, st, hi, hf, hst => by
    obtain ⟨ts, q, h1, h2, h3, h4, _⟩ := kids_facts hu hi
    have forest : ∀ (n m : Nat) (st' : List Nat), n + m = q → 0 < n → (∀ x ∈ st', i + 1 + (ts.take q).sum ≤ x) →
        showG l (l.drop (i + 1 + (ts.take m).sum)) (i + 1 + (ts.take m).sum) st' = kidsT l (treeX l f) n (i + 1 + (ts.take m).sum) ++ (List.replicate (popN (endB l i - 1) st') 41 ++ showG l (l.drop (endB l i)) (endB l i) (popS (endB l i - 1) st')) := by
      intro n
      induction n with
      | zero => intro m st' _ h0 _; omega
      | succ n ih =>
        intro m st' hnm _ hst'
        obtain ⟨s1, s2, _, s4, s5, s6⟩ := kid_step hu h1 h3 (show m < q by omega)
        have hr := showG_tree hu f (i + 1 + (ts.take m).sum) st' s1 (by omega) (by rw [s2]; intro x hx; have := hst' x hx; omega)
        rw [hr, s2, kidsT, s2]
        have hsp : sp (i + 1 + (ts.take m).sum) = [32] := by unfold sp; rw [if_neg (by omega)]
        rw [hsp]
        cases n with
        | zero =>
          have e : m + 1 = q := by omega
          rw [kidsT, e, ← h4]
          simp
        | succ n =>
          have hlast : (ts.take (m + 1)).sum < (ts.take q).sum := (kid_step hu h1 h3 (show m + 1 < q by omega)).2.2.2.1
          obtain ⟨p1, p2⟩ := pop_over (e := i + 1 + (ts.take (m + 1)).sum) (by omega) (st := st') (fun x hx => by have := hst' x hx; omega)
          rw [p1, p2, ih (m + 1) st' (by omega) (by omega) hst']
          simp
    rw [List.drop_eq_getElem_cons hi, showG, treeX_at hi, h2, Int.toNat_natCast]
    have hst2 : ∀ x ∈ (endB l i :: st), endB l i ≤ x := by
      intro x hx
      rcases List.mem_cons.1 hx with rfl | hx
      · exact Nat.le_refl _
      · exact hst x hx
    by_cases hq : q = 0
    · subst hq
      have he : endB l i = i + 1 := by rw [h4]; simp
      rw [he, kidsT, Nat.add_sub_cancel]
      rw [popN_cons, popS_cons, if_pos rfl, if_pos rfl, List.replicate_succ]
      simp only [List.append_assoc, List.nil_append, List.cons_append]
    · have hpos : 0 < (ts.take q).sum := by
        have := (kid_step hu h1 h3 (show 0 < q by omega)).2.2.2.1
        simpa using this
      have hp := pop_over (e := i + 1) (by omega) (st := endB l i :: st) (fun x hx => by have := hst2 x hx; omega)
      rw [Nat.add_sub_cancel] at hp
      rw [hp.1, hp.2]
      have hfo := forest q 0 (endB l i :: st) (by omega) (by omega) (by rw [← h4]; exact hst2)
      simp only [List.take_zero, List.sum_nil, Nat.add_zero] at hfo
      rw [hfo]
      have hpe : popN (endB l i - 1) (endB l i :: st) = popN (endB l i - 1) st + 1 ∧ popS (endB l i - 1) (endB l i :: st) = popS (endB l i - 1) st := by
        have he : endB l i = endB l i - 1 + 1 := by omega
        rw [popN_cons, popS_cons, if_pos he, if_pos he]
        exact ⟨rfl, rfl⟩
      rw [hpe.1, hpe.2, List.replicate_succ]
      simp only [List.append_assoc, List.replicate_zero, List.nil_append, List.cons_append]
theorem showT_tree {l : List Prt} (hw : wellB l = true) : showT l = treeX l l.length 0 := by
  have hz := well_zero hw
  have := showG_tree (well_rows hw) l.length 0 [] hz.1 (by omega) (by simp)
  rw [List.drop_zero] at this
  unfold showT
  rw [this, hz.2, List.drop_length, showG]
  simp [sp, popN]
/-- How long it is at most. -/
theorem opn_le (p : Prt) (h1 : p.1 < 256) (h2 : p.2.2.size ≤ 2147483647) : (opn p).length ≤ 9000000000 := by
  have hd : (Lib.decDigits p.1).length ≤ 20 := by rw [Lib.decDigits_length]; exact Lib.nDigits_le20 _ (by omega)
  unfold opn
  rw [List.length_cons, List.length_append]
  have hq : (quote p.2.2).data.toList.length = (quote p.2.2).size := (size_data _).symm
  have hl := quoteTo_len p.2.2 p.2.2.size
  have hs : (quote p.2.2).size = (quoteTo p.2.2 p.2.2.size).length + 1 := by
    unfold quote; rw [strOfNums_size, quoteTo_all, List.length_append]; rfl
  split
  · simp; omega
  · rw [List.length_cons]; omega
theorem treeX_le {l : List Prt} {us : List Nat} (hu : rowsB l = some us) (hf : ∀ p ∈ l, p.1 < 256 ∧ p.2.2.size ≤ 2147483647) : ∀ (f i : Nat), i < l.length → l.length - i ≤ f → (treeX l f i).length + 1 ≤ 10000000000 * (endB l i - i)
  | 0, i, hi, h => by omega
  | f + 1, i, hi, h => by
    obtain ⟨ts, q, h1, h2, h3, h4, _⟩ := kids_facts hu hi
    have forest : ∀ (n m : Nat), n + m = q → (kidsT l (treeX l f) n (i + 1 + (ts.take m).sum)).length ≤ 10000000000 * ((ts.take q).sum - (ts.take m).sum) := by
      intro n
      induction n with
      | zero => intro m _; simp [kidsT]
      | succ n ih =>
        intro m hnm
        obtain ⟨s1, s2, _, s4, s5, s6⟩ := kid_step hu h1 h3 (show m < q by omega)
        have hr := treeX_le hu hf f (i + 1 + (ts.take m).sum) s1 (by omega)
        have := ih (m + 1) (by omega)
        rw [kidsT, s2, List.length_cons, List.length_append]
        rw [s2] at hr
        omega
    have hp := hf _ (List.getElem_mem hi)
    have := opn_le l[i] hp.1 hp.2
    have hk := forest q 0 (by omega)
    simp only [List.take_zero, List.sum_nil, Nat.add_zero, Nat.sub_zero] at hk
    rw [treeX_at hi, h2, Int.toNat_natCast, List.length_append, List.length_append, h4]
    simp only [List.length_cons, List.length_nil]
    omega
end Go.Proofs.YtpjglenogifclaaGreatDoor
namespace Go.Proofs.YtpjglenogifclaaGreatDoor
set_option linter.all false
open Go.RowKit

theorem dec_big {n : Nat} (h : ¬ n < 10) : Lib.decDigits n = Lib.decDigits (n / 10) ++ [UInt8.ofNat (48 + n % 10)] := by rw [Lib.decDigits, dif_neg h]
set_option maxRecDepth 100000 in
set_option maxHeartbeats 8000000 in
theorem kdig_small (n : Nat) (hn : n < 10) (w : World) :
    Calls Tryz.prog 57 #[.int .u8 (n : Int)] w fun e w' => e = .returned (.string ⟨(Lib.decDigits n).toArray⟩) ∧ Below w.heap.size w w' := by
  have HQ : RowKit.Hid (∀ w', Below w.heap.size w w' → (fun (e : Ending) w' => e = .returned (.string ⟨(Lib.decDigits n).toArray⟩) ∧ Below w.heap.size w w') (.returned (.string (strOfNums [48 + (n : Int)]))) w') := Lib.hid fun w' hb => ⟨by rw [Lib.decDigits_one hn]; congr 1, hb⟩
  generalize (fun (e : Ending) w' => e = .returned (.string ⟨(Lib.decDigits n).toArray⟩) ∧ Below w.heap.size w w') = Q at *
  have hcv := conv_lit w #[.int .u8 (48 + (n : Int))] [48 + (n : Int)] 1 1 rfl rfl
  have HX := Lib.hid (HQ.out _ ((Below.refl _ _).alloc (Nat.le_refl _) (.cells #[.int .u8 (48 + (n : Int))] 5)))
  go_enter Tryz.func57, Tryz.ntmps57
  go_wp2_with fail
  exact HX.out
theorem nd20 (n : Nat) (h : n < 256) : Lib.nDigits n ≤ 3 := by
  by_cases h10 : n < 10
  · rw [Lib.nDigits_small h10]; omega
  · rw [Lib.nDigits_big (by omega)]
    by_cases h100 : n / 10 < 10
    · rw [Lib.nDigits_small h100]; omega
    · rw [Lib.nDigits_big (by omega), Lib.nDigits_small (by omega)]; omega
/-- The literal's string, read later. -/
theorem conv_later {W w' : World} {x : Int} {g : Nat} (hb : Below W.heap.size W w') (hc : W.cell? ⟨g, 0, none⟩ = some (.int .u8 x)) (hg : g < W.heap.size) :
    (convert 56 9 (.slice (some ⟨g, 0, none⟩) 1 1)).run Tryz.prog w' = .ok (.string (strOfNums [x])) w' := by
  refine run_convert_bytes_arg _ 56 5 Tryz.underlying56 Tryz.underlying5 _ 0 1 1 [x] rfl (fun i hi => ?_) 9 Tryz.underlying9
  obtain rfl : i = 0 := by omega
  rw [hb.cell (p := ⟨g, 0 + 0, none⟩) hg]
  exact hc
set_option maxRecDepth 100000 in
set_option maxHeartbeats 8000000 in
theorem digits_big (n : Nat) (hn : ¬ n < 10) (hn2 : n < 256) (w : World) (C : ∀ w, Calls Tryz.prog 57 #[.int .u8 ((n / 10 : Nat) : Int)] w fun e w' => e = .returned (.string ⟨(Lib.decDigits (n / 10)).toArray⟩) ∧ Below w.heap.size w w') :
    Calls Tryz.prog 57 #[.int .u8 (n : Int)] w fun e w' => e = .returned (.string ⟨(Lib.decDigits n).toArray⟩) ∧ Below w.heap.size w w' := by
  have HQ : RowKit.Hid (∀ w', Below w.heap.size w w' → (fun (e : Ending) w' => e = .returned (.string ⟨(Lib.decDigits n).toArray⟩) ∧ Below w.heap.size w w') (.returned (.string ((⟨(Lib.decDigits (n / 10)).toArray⟩ : ByteArray) ++ strOfNums [48 + (n : Int) % 10]))) w') := Lib.hid fun w' hb => ⟨by
    rw [dec_big hn]; congr 1, hb⟩
  generalize (fun (e : Ending) w' => e = .returned (.string ⟨(Lib.decDigits n).toArray⟩) ∧ Below w.heap.size w w') = Q at *
  have hz : ¬ 9223372036854775807 < (⟨(Lib.decDigits (n / 10)).toArray⟩ : ByteArray).size + (strOfNums [48 + (n : Int) % 10]).size := by
    rw [strOfNums_size]
    show ¬ _ < (Lib.decDigits (n / 10)).toArray.size + _
    rw [List.size_toArray, Lib.decDigits_length]
    have := nd20 (n / 10) (by omega)
    simp only [List.length_cons, List.length_nil]
    omega
  rw [show ((n / 10 : Nat) : Int) = (n : Int) / 10 by omega] at C
  generalize (⟨(Lib.decDigits (n / 10)).toArray⟩ : ByteArray) = D at *
  have HC := Lib.hid C
  clear C
  have hge : (10 : Int) ≤ (n : Int) := by omega
  have hwm : IntKind.u8.wrap (48 + (n : Int).tmod 10) = 48 + (n : Int) % 10 := by rw [Int.tmod_eq_emod_of_nonneg (by omega), IntKind.wrap_u8]; omega
  have hwq : IntKind.u8.wrap ((n : Int) / 10) = (n : Int) / 10 := by rw [IntKind.wrap_u8]; omega
  have hcv : ∀ W : World, (convert 56 9 (.slice (some ⟨W.heap.size, 0, none⟩) 1 1)).run Tryz.prog (W.alloc (.cells #[.int .u8 (48 + (n : Int) % 10)] 5)) = .ok (.string (strOfNums [48 + (n : Int) % 10])) (W.alloc (.cells #[.int .u8 (48 + (n : Int) % 10)] 5)) := fun W => conv_lit W _ _ 1 1 rfl rfl
  have hcv0 : (convert 56 9 (.slice (some ⟨w.heap.size, 0, none⟩) 1 1)).run Tryz.prog (w.drew.alloc (.cells #[.int .u8 (48 + (n : Int) % 10)] 5)) = .ok (.string (strOfNums [48 + (n : Int) % 10])) (w.drew.alloc (.cells #[.int .u8 (48 + (n : Int) % 10)] 5)) := hcv w.drew
  have hcv1 : (convert 56 9 (.slice (some ⟨w.heap.size, 0, none⟩) 1 1)).run Tryz.prog (w.alloc (.cells #[.int .u8 (48 + (n : Int) % 10)] 5)).drew = .ok (.string (strOfNums [48 + (n : Int) % 10])) (w.alloc (.cells #[.int .u8 (48 + (n : Int) % 10)] 5)).drew := conv_later (Below.refl _ _) (lit_cell w #[.int .u8 (48 + (n : Int) % 10)] 5 [48 + (n : Int) % 10] rfl 0 (by simp)) (by simp)
  go_enter Tryz.func57, Tryz.ntmps57
  go_upto_region 3 with (fail)
  have HB0 : RowKit.Hid (Below w.heap.size w w.drew) := Lib.hid (Below.refl _ _).drew
  go_region_with ((go_at_call 57; (with_reducible refine (HC.out _).mono ?_); rintro e w1 ⟨rfl, hb⟩; (try have hcl : (convert 56 9 (.slice (some ⟨w.heap.size, 0, none⟩) 1 1)).run Tryz.prog w1 = .ok (.string (strOfNums [48 + (n : Int) % 10])) w1 := conv_later hb (lit_cell w #[.int .u8 (48 + (n : Int) % 10)] 5 [48 + (n : Int) % 10] rfl 0 (by simp)) (by simp)); (try dsimp only)))
  · have HE := Lib.hid (HQ.out _ ((bthen HB0.out hb).alloc (bthen HB0.out hb).size (.cells #[.int .u8 (48 + (n : Int) % 10)] 5)))
    go_wp2_with fail
    exact bodyPost_ret (results_tmp (fn := Tryz.f57) (t := 2) rfl _ _ _) rfl HE.out
  · have HE := Lib.hid (HQ.out _ (bthen ((Below.refl w.heap.size w).alloc (Nat.le_refl _) (.cells #[.int .u8 (48 + (n : Int) % 10)] 5)).drew hb))
    go_wp2_with fail
    exact bodyPost_ret (results_tmp (fn := Tryz.f57) (t := 2) rfl _ _ _) rfl HE.out
  · have HE := Lib.hid (HQ.out _ (bthen ((Below.refl w.heap.size w).alloc (Nat.le_refl _) (.cells #[.int .u8 (48 + (n : Int) % 10)] 5)).drew hb))
    go_wp2_with fail
    exact bodyPost_ret (results_tmp (fn := Tryz.f57) (t := 2) rfl _ _ _) rfl HE.out
theorem ref_digits11 : ∀ (n : Nat), n < 256 → ∀ (w : World), Calls Tryz.prog 57 #[.int .u8 (n : Int)] w fun e w' => e = .returned (.string ⟨(Lib.decDigits n).toArray⟩) ∧ Below w.heap.size w w' := by
  intro n
  induction n using Nat.strongRecOn with
  | ind n ih =>
    intro hn w
    by_cases hc : n < 10
    · exact kdig_small n hc w
    · exact digits_big n hc hn w (ih (n / 10) (by omega) (by omega))
theorem str_eq {S : ByteArray} {l : List UInt8} (h : S.data.toList = l) : S = ⟨l.toArray⟩ := by
  apply ByteArray.ext; apply Array.ext'; rw [h]
/-- What holds at the loop's head. -/
def treeRel (l : List Prt) (T : Nat → List UInt8) (ts : List Nat) (i q : Nat) (X0 : List UInt8) (w : World) (sv av nv : Value) (wr : World) : Prop :=
  ∃ (j : Nat) (S : ByteArray), nv = .int .i64 (j : Int) ∧ av = .int .i64 ((i + 1 + (ts.take j).sum : Nat) : Int) ∧ sv = .string S ∧ j ≤ q ∧ S.data.toList ++ kidsT l T (q - j) (i + 1 + (ts.take j).sum) = X0 ∧ Below w.heap.size w wr
set_option maxRecDepth 100000 in
set_option maxHeartbeats 16000000 in
theorem ref_Tree11 (l : List Prt) (hl : l.length ≤ 1000000) (hf : ∀ p ∈ l, p.1 < 256 ∧ p.2.2.size ≤ 2147483647) (us : List Nat) (hu : rowsB l = some us) (v : Value) :
    ∀ (f i : Nat), i < l.length → l.length - i ≤ f → ∀ (w : World), PartRow w v l → Calls Tryz.prog 40 #[v, .int .i64 (i : Int)] w fun e w' => e = .returned (.tuple #[.string ⟨(treeX l f i).toArray⟩, .int .i64 (endB l i : Int)]) ∧ Below w.heap.size w w'
  | 0, i, hi, h => by omega
  | f + 1, i, hi, h => by
    intro w hr
    have IH := Lib.hid (ref_Tree11 l hl hf us hu v f)
    have hTL := treeX_le hu hf (f + 1) i hi h
    have hTK := Lib.hid (treeX_le hu hf f)
    have hEG := (endB_gt hu hi).2
    obtain ⟨ts, q, h1, h2, h3, h4, h5⟩ := kids_facts hu hi
    clear h5
    have HQ : RowKit.Hid (∀ (S : ByteArray) w', S.data.toList = treeX l (f + 1) i → Below w.heap.size w w' → (fun (e : Ending) w' => e = .returned (.tuple #[.string ⟨(treeX l (f + 1) i).toArray⟩, .int .i64 (endB l i : Int)]) ∧ Below w.heap.size w w') (.returned (.tuple #[.string S, .int .i64 (endB l i : Int)])) w') := Lib.hid fun S w' hS hb => ⟨by rw [str_eq hS], hb⟩
    generalize (fun (e : Ending) w' => e = .returned (.tuple #[.string ⟨(treeX l (f + 1) i).toArray⟩, .int .i64 (endB l i : Int)]) ∧ Below w.heap.size w w') = Q at *
    rw [treeX_at hi, h2, Int.toNat_natCast] at HQ hTL
    have HST := Lib.hid (fun j (hj : j < q) => kid_step hu h1 h3 hj)
    have HF := hf _ (List.getElem_mem hi)
    have hk256 := HF.1
    have hsz := HF.2
    have HR := Lib.hid hr
    obtain ⟨va, vcap, rfl, hvc⟩ := hr.slice
    obtain ⟨lb, loff, rfl, g1, g2, g3, g4⟩ := hr.at (Below.refl _ _) (show 0 < l.length by omega)
    clear g1 g2 g3 g4
    have HPR : RowKit.Hid (∀ W', Below w.heap.size w W' → W'.cell? ⟨lb, loff + i * 3, none⟩ = some (.int .u8 ((l[i]).1 : Int)) ∧ W'.cell? ⟨lb, loff + i * 3 + 1, none⟩ = some (.int .i64 ((q : Nat) : Int)) ∧ W'.cell? ⟨lb, loff + i * 3 + 2, none⟩ = some (.string (l[i]).2.2)) := Lib.hid fun W' hb => by
      obtain ⟨b2, o2, hbb, _, _, _, hc2⟩ := HR.out.at hb (show 0 < l.length by omega)
      simp only [Option.some.injEq, Addr.mk.injEq, and_true] at hbb
      obtain ⟨rfl, rfl⟩ := hbb
      have := hc2 i hi
      rw [h2] at this
      exact this
    have CD := Lib.hid (ref_digits11 _ hk256 w)
    have CQ := Lib.hid (fun W => ref_Quote06 (l[i]).2.2 W hsz)
    have hop : opn l[i] = 40 :: (Lib.decDigits (l[i]).1 ++ (if (l[i]).2.2.toList.isEmpty then [] else 32 :: (quote (l[i]).2.2).data.toList)) := rfl
    have HOP := Lib.hid hop
    have hqs := quote_le (l[i]).2.2
    have hdl : (Lib.decDigits (l[i]).1).length ≤ 3 := by rw [Lib.decDigits_length]; exact nd20 _ hk256
    have HEND := Lib.hid h4
    have hq1 : q ≤ 1000000 := by have := (rowsB_sum h1).2.1; rw [List.length_drop] at this; omega
    have HTL := Lib.hid hTL
    have HEG := Lib.hid hEG
    have HQS := Lib.hid hqs
    have HHF := Lib.hid h
    clear h1 h2 h3 h4 hop HF hr hf hu hTL hEG hqs h
    generalize hop : opn l[i] = OP at *
    generalize l[i] = x at *
    obtain ⟨xk, xn, xw⟩ := x
    simp only [] at CD HPR hk256 hsz hdl
    clear hop
    have hi0 : (0 : Int) ≤ i := by omega
    have hil : (i : Int) < l.length := by omega
    have hic : (i : Int) < vcap := by omega
    obtain ⟨d0, d1, d2⟩ := HPR.out w (Below.refl _ _)
    generalize hEE : endB l i = ee at *
    have hD : (⟨(Lib.decDigits xk).toArray⟩ : ByteArray).data.toList = Lib.decDigits xk := by simp
    have HD := Lib.hid hD
    have hDs : (⟨(Lib.decDigits xk).toArray⟩ : ByteArray).size ≤ 3 := by show (Lib.decDigits xk).toArray.size ≤ 3; simpa using hdl
    have hz1 : ¬ 9223372036854775807 < (⟨#[40]⟩ : ByteArray).size + (⟨(Lib.decDigits xk).toArray⟩ : ByteArray).size := by show ¬ _ < 1 + _; omega
    clear hD
    generalize (⟨(Lib.decDigits xk).toArray⟩ : ByteArray) = D at *
    clear hEE
    go_enter Tryz.func40, Tryz.ntmps40
    go_wp2_with fail
    refine CD.out.mono ?_
    rintro e w1 ⟨rfl, hb1⟩
    obtain ⟨d0, d1, d2⟩ := HPR.out w1 hb1
    have HB1 := Lib.hid hb1
    clear hb1
    go_upto_region 2 with (fail)
    have hS1 : ((⟨#[40]⟩ : ByteArray) ++ D).data.toList = 40 :: Lib.decDigits xk := by rw [ByteArray.data_append, Array.toList_append, HD.out]; rfl
    have hS1s : ((⟨#[40]⟩ : ByteArray) ++ D).size ≤ 4 := by rw [ByteArray.size_append]; show 1 + _ ≤ 4; omega
    have HS1 := Lib.hid hS1
    have HS1s := Lib.hid hS1s
    clear hS1 hS1s hz1 hDs hdl d0 d1
    generalize (⟨#[40]⟩ : ByteArray) ++ D = S1 at *
    go_upto_if 23 with (fail)
    go_cut [6] from 11 (fun s6 W => ∃ S : ByteArray, s6 = .string S ∧ S.data.toList = OP ∧ Below w.heap.size w W)
    case first =>
      cases he : xw.toList.isEmpty with
      | true =>
        have HX : RowKit.Hid (∃ S : ByteArray, Value.string S1 = .string S ∧ S.data.toList = OP ∧ Below w.heap.size w w1) := Lib.hid ⟨S1, rfl, by rw [HS1.out, HOP.out, he]; simp, HB1.out⟩
        have he2 : xw.toList = [] := by simpa using he
        go_wp2_with fail
        go_meet
        case rel => exact HX.out
      | false =>
        have hz2 : ¬ 9223372036854775807 < (⟨#[32]⟩ : ByteArray).size + (quote xw).size := by show ¬ _ < 1 + _; have hq9 : (quote xw).size ≤ 2 + 4 * xw.size := HQS.out; omega
        have hz3 : ¬ 9223372036854775807 < S1.size + ((⟨#[32]⟩ : ByteArray) ++ quote xw).size := by rw [ByteArray.size_append]; show ¬ _ < _ + (1 + _); have hq9 : (quote xw).size ≤ 2 + 4 * xw.size := HQS.out; have := HS1s.out; omega
        have HX : RowKit.Hid (∀ W, Below w.heap.size w W → ∃ S : ByteArray, Value.string (S1 ++ ((⟨#[32]⟩ : ByteArray) ++ quote xw)) = .string S ∧ S.data.toList = OP ∧ Below w.heap.size w W) := Lib.hid fun W hb => ⟨_, rfl, by rw [HOP.out, he, ByteArray.data_append, ByteArray.data_append, Array.toList_append, Array.toList_append, HS1.out]; simp, hb⟩
        generalize hqw : quote xw = qw at *
        have HQW := Lib.hid hqw
        clear hqw
        go_wp2_with fail
        refine (CQ.out _).mono ?_
        rintro e w2 ⟨rfl, hb2⟩
        have HX2 := Lib.hid (HX.out w2 (bthen HB1.out hb2))
        clear hb2 HX
        go_wp2_with fail
        go_meet
        case rel => exact HX2.out
    case rest =>
      obtain ⟨S, rfl, hS, hb⟩ := hcut
      have HB := Lib.hid hb
      have HS := Lib.hid hS
      clear hS hb CQ HS1 HS1s HD d2
      have hwi : IntKind.i64.wrap ((i : Int) + 1) = ((i + 1 : Nat) : Int) := by rw [IntKind.wrap_i64]; omega
      go_upto_block 0 with (fail)
      generalize hX0 : OP ++ kidsT l (treeX l f) q (i + 1) = X0 at *
      have HX0 : RowKit.Hid (X0.length ≤ 10000000000000000) := Lib.hid (by
        have h1 := HTL.out
        have h2 := HEG.out
        rw [← List.append_assoc, hX0, List.length_append] at h1
        have h3 : 10000000000 * (ee - i) ≤ 10000000000 * 1000000 := Nat.mul_le_mul_left _ (by omega)
        omega)
      have HXE : RowKit.Hid (OP ++ kidsT l (treeX l f) q (i + 1) = X0) := Lib.hid hX0
      clear hX0
      have HATS : RowKit.Hid (treeRel l (treeX l f) ts i q X0 w (.string S) (.int .i64 ((i + 1 : Nat) : Int)) (.int .i64 0) wc) := Lib.hid ⟨0, S, rfl, by simp, rfl, Nat.zero_le _, by rw [HS.out, ← HXE.out]; simp, HB.out⟩
      go_wp2_with fail
      go_loopw [6, 7, 8] (fun sv av nv wr => treeRel l (treeX l f) ts i q X0 w sv av nv wr) (fun _ _ nv _ => q - (intOf nv).toNat)
      case atStart => exact HATS.out
      case round =>
        obtain ⟨j, S2, rfl, rfl, rfl, hj, hS2, hb2⟩ := hrel
        have HB2 := Lib.hid hb2
        have HS2 := Lib.hid hS2
        obtain ⟨e0, e1, e2⟩ := HPR.out wr hb2
        have HS2z : RowKit.Hid (S2.size ≤ 10000000000000000) := Lib.hid (by
          have := HX0.out
          rw [← hS2, List.length_append] at this
          rw [size_data]; omega)
        clear hb2 hS2 e0 e2 HATS
        by_cases hjq : j < q
        · have hjq' : (j : Int) < q := by omega
          obtain ⟨s1, s2, _, s4, s5, s6⟩ := HST.out j hjq
          have hwj : IntKind.i64.wrap ((j : Int) + 1) = (j : Int) + 1 := by rw [IntKind.wrap_i64]; omega
          have CK := Lib.hid (IH.out (i + 1 + (ts.take j).sum) s1 (by have := HHF.out; omega) wr (HR.out.below HB2.out))
          have HTS : RowKit.Hid ((treeX l f (i + 1 + (ts.take j).sum)).length ≤ 10000000000000000) := Lib.hid (by
            have h1 := hTK.out (i + 1 + (ts.take j).sum) s1 (by have := HHF.out; omega)
            rw [s2] at h1
            have h3 : 10000000000 * (i + 1 + (ts.take (j + 1)).sum - (i + 1 + (ts.take j).sum)) ≤ 10000000000 * 1000000 := Nat.mul_le_mul_left _ (by have := HEND.out; have := HEG.out; omega)
            omega)
          have HSTEP := HS2.out
          rw [show q - j = (q - (j + 1)) + 1 by omega, kidsT, s2] at HSTEP
          have HSTEP := Lib.hid HSTEP
          rw [s2] at CK
          have HJ1 : RowKit.Hid (j + 1 ≤ q) := Lib.hid hjq
          have HML : RowKit.Hid (q - (j + 1) < q - j) := Lib.hid (by omega)
          clear s1 s2 s4 s5 s6 hjq
          generalize i + 1 + (ts.take j).sum = at0 at *
          generalize hat1 : i + 1 + (ts.take (j + 1)).sum = at1 at *
          have HAT1 := Lib.hid hat1
          clear hat1
          generalize hTT : treeX l f at0 = TT at *
          clear hTT
          have hTs : (⟨TT.toArray⟩ : ByteArray).data.toList = TT := by simp
          have hTz : (⟨TT.toArray⟩ : ByteArray).size = TT.length := by show TT.toArray.size = _; simp
          have HTs := Lib.hid hTs
          have HTz := Lib.hid hTz
          clear hTs hTz
          generalize (⟨TT.toArray⟩ : ByteArray) = K at *
          have hz4 : ¬ 9223372036854775807 < (⟨#[32]⟩ : ByteArray).size + K.size := by show ¬ _ < 1 + _; have := HTz.out; have := HTS.out; omega
          have hz5 : ¬ 9223372036854775807 < S2.size + ((⟨#[32]⟩ : ByteArray) ++ K).size := by rw [ByteArray.size_append]; show ¬ _ < _ + (1 + _); have := HTz.out; have := HTS.out; have := HS2z.out; omega
          have HNX : RowKit.Hid (∀ W, Below w.heap.size w W → treeRel l (treeX l f) ts i q X0 w (.string (S2 ++ ((⟨#[32]⟩ : ByteArray) ++ K))) (.int .i64 (at1 : Int)) (.int .i64 ((j + 1 : Nat) : Int)) W) := Lib.hid fun W hb => ⟨j + 1, _, rfl, by rw [HAT1.out], rfl, HJ1.out, by
            rw [ByteArray.data_append, ByteArray.data_append, Array.toList_append, Array.toList_append, HTs.out, HAT1.out, ← HSTEP.out]; simp, hb⟩
          go_wp2_with fail
          refine CK.out.mono ?_
          rintro e w2 ⟨rfl, hb3⟩
          have HN2 := Lib.hid (HNX.out w2 (bthen HB2.out hb3))
          clear hb3 HNX
          go_upto_region 10 with (fail)
          generalize S2 ++ ((⟨#[32]⟩ : ByteArray) ++ K) = S3 at *
          generalize (⟨#[32]⟩ : ByteArray) ++ K = S4 at *
          go_wp2_with fail
          refine ⟨?_, (by have := HML.out; simp [intOf]; try omega)⟩
          first
            | exact HN2.out
            | (repeat apply Exists.intro
               refine ⟨?_, rfl⟩
               exact HN2.out)
        · obtain rfl : j = q := by omega
          have hjq' : ¬ (j : Int) < (j : Int) := by omega
          have hz6 : ¬ 9223372036854775807 < S2.size + (⟨#[41]⟩ : ByteArray).size := by show ¬ _ < _ + 1; have := HS2z.out; omega
          have HF : RowKit.Hid (Q (.returned (.tuple #[.string (S2 ++ ⟨#[41]⟩), .int .i64 (ee : Int)])) wr) := Lib.hid (HQ.out _ _ (by
            rw [ByteArray.data_append, Array.toList_append]
            have := HS2.out
            rw [Nat.sub_self, kidsT, List.append_nil] at this
            rw [this, ← HXE.out]; simp) HB2.out)
          rw [HEND.out] at HF
          clear hjq
          go_wp2_with fail
          exact HF.out
set_option maxRecDepth 100000 in
set_option maxHeartbeats 8000000 in
theorem ref_Show11 (l : List Prt) (hl : l.length ≤ 1000000) (hf : ∀ p ∈ l, p.1 < 256 ∧ p.2.2.size ≤ 2147483647) (v : Value) (w : World) (hr : PartRow w v l) :
    Calls Tryz.prog 18 #[v] w (showPost (showZ l) w) := by
  have HQ : RowKit.Hid (∀ q w', showZ l = q → Below w.heap.size w w' → showPost (showZ l) w (.returned (.tuple #[.string ⟨q.1.toArray⟩, .int .i64 q.2])) w') := Lib.hid fun q w' h hb => by
    unfold showPost; rw [h]; exact ⟨rfl, hb⟩
  generalize showPost (showZ l) w = Q at *
  have C1 := Lib.hid (ref_Well11 l (by omega) v w hr)
  have CT := Lib.hid (fun us hu h0 => ref_Tree11 l hl hf us hu v l.length 0 h0 (by omega) w hr)
  obtain ⟨va, vcap, rfl, hvc⟩ := hr.slice
  clear hr hf
  go_enter Tryz.func18, Tryz.ntmps18
  go_wp2_with fail
  refine C1.out.mono ?_
  rintro e w1 ⟨rfl, rfl⟩
  clear C1
  cases hw : wellB l with
  | false =>
    have HX := Lib.hid (HQ.out ([], 8) w (by unfold showZ; rw [hw]; rfl) (Below.refl _ _))
    clear hw
    go_wp2_with fail
    exact HX.out
  | true =>
    have HZ := Lib.hid (show showZ l = if 1048576 < (showT l).length then ([], 2) else (showT l, 0) by unfold showZ; rw [hw]; rfl)
    have CT2 := Lib.hid (CT.out _ (well_rows hw) (well_zero hw).1)
    rw [← showT_tree hw] at CT2
    have hTz : (⟨(showT l).toArray⟩ : ByteArray).size = (showT l).length := by show (showT l).toArray.size = _; simp
    have HTz := Lib.hid hTz
    clear hw CT hTz
    generalize hS : (⟨(showT l).toArray⟩ : ByteArray) = S at *
    have HS := Lib.hid hS
    clear hS
    go_wp2_with fail
    refine CT2.out.mono ?_
    rintro e w1 ⟨rfl, hb⟩
    have HB := Lib.hid hb
    clear hb
    by_cases hbig : 1048576 < S.size
    · have hbi : (1048576 : Int) < (S.size : Int) := by omega
      have HX := Lib.hid (HQ.out ([], 2) w1 (by rw [HZ.out, if_pos (by rw [← HTz.out]; exact hbig)]) HB.out)
      clear hbig
      go_wp2_with fail
      exact HX.out
    · have hbi : ¬ (1048576 : Int) < (S.size : Int) := by omega
      have HX := Lib.hid (HQ.out (showT l, 0) w1 (by rw [HZ.out, if_neg (by rw [← HTz.out]; exact hbig)]) HB.out)
      rw [HS.out] at HX
      clear hbig
      go_wp2_with fail
      exact HX.out
end Go.Proofs.YtpjglenogifclaaGreatDoor
