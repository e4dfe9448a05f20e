/- Layer 6: the reference's item, walked. -/
import Derived.Test.YtnnfkdjmpbgkaaaDoorRef06b
namespace Go.Proofs.YtnnfkdjmpbgkaaaDoor
set_option linter.all false
open Go.RowKit
attribute [local irreducible] wpStill

@[irreducible] def ritemPost (s : ByteArray) (i mark : Nat) (w0 : World) (e : Ending) (w' : World) : Prop := e = .returned (itemVal (item s i mark)) ∧ Below w0.heap.size w0 w'
theorem result_item2 (tmps : Array Value) (w : World) (g : Nat) (x y : Value) (hp : tmps.getD 6 undef = .pointer (some ⟨g, 0, none⟩)) (h0 : w.heap[g]? = some (.cells #[x, y] 47 (0, 0))) :
    (results Tryd.f25 tmps).run Tryd.prog w = .ok (.agg #[x, y]) w :=
  results_cell_row rfl tmps w g 47 #[x, y] (0, 0) _ hp h0 Tryd.underlying47 rfl (by kernel_rfl)
/-- What the reference cuts out where no escape begins. -/
theorem item_cut {s : ByteArray} {i mark : Nat} (hm : mark = 34 ∨ mark = 39) (hi : i < s.size) (h92 : bt s i ≠ 92) (h10 : bt s i ≠ 10) :
    itemVal (item s i mark) = .agg #[.int .i64 ((if mark = 34 then 1 else (rd s i).2 : Nat) : Int), .string (s.extract i (i + (if mark = 34 then 1 else (rd s i).2)))] := by
  unfold item
  rw [if_neg h92, if_neg h10]
  rcases hm with rfl | rfl
  · simp only [if_true]
    unfold itemVal
    have e : s.extract i (i + 1) = strOfNums [(bt s i : Int)] := by
      rw [← strOfNums_nums (s.extract i (i + 1))]
      congr 1
      have hz : (s.extract i (i + 1)).data.toList = [s.get! i] := by
        have := extract_list s i 1 (by omega)
        rw [ByteArray.toList_eq] at this
        rw [this]; rfl
      unfold nums
      rw [hz]; rfl
    rw [e]
  · have e39 : ¬ (39 = 34) := by decide
    simp only [e39, if_false]
    by_cases h0 : (rd s i).2 = 0
    · rw [if_pos h0, h0]
      unfold itemVal
      have e : s.extract i (i + 0) = ⟨#[]⟩ := by
        apply ByteArray.ext
        simp
      rw [e]; rfl
    · rw [if_neg h0]
      unfold itemVal
      simp only [strOfNums_nums]
set_option maxRecDepth 100000 in
set_option maxHeartbeats 4000000 in
theorem ref_item (s : ByteArray) (i mark : Nat) (hm : mark = 34 ∨ mark = 39) (hi : i < s.size) (hs : s.size ≤ 140737488351232) (w : World) :
    Calls Tryd.prog 25 #[.string s, .int .i64 i, .int .u8 mark] w (ritemPost s i mark w) := by
  have hHF : ∀ (tm : Array Value) W x y, IB w W w.heap.size → itemVal (item s i mark) = .agg #[x, y] → tm.getD 6 undef = .pointer (some ⟨w.heap.size, 0, none⟩) → bodyPost Tryd.prog Tryd.f25 (ritemPost s i mark w) .ret ⟨tm, []⟩ ((W.setCell ⟨w.heap.size, 0, none⟩ x).setCell ⟨w.heap.size, 1, none⟩ y) :=
    fun tm W x y hib hv ht => bodyPost_ret (result_item2 tm _ _ x y ht (hib.fin x y).1) rfl (by unfold ritemPost; rw [hv]; exact ⟨rfl, (hib.fin x y).2⟩)
  have hHF0 : ∀ (tm : Array Value) x y, itemVal (item s i mark) = .agg #[x, y] → tm.getD 6 undef = .pointer (some ⟨w.heap.size, 0, none⟩) → bodyPost Tryd.prog Tryd.f25 (ritemPost s i mark w) .ret ⟨tm, []⟩ (w.alloc (.cells #[x, y] 47)) :=
    fun tm x y hv ht => bodyPost_ret (result_item2 tm _ w.heap.size x y ht (heap_alloc_new _ _)) rfl (by unfold ritemPost; rw [hv]; exact ⟨rfl, (Below.refl _ _).alloc (Nat.le_refl _) _⟩)
  have HF := Lib.hid hHF
  have HF0 := Lib.hid hHF0
  clear hHF hHF0
  generalize ritemPost s i mark w = Q at *
  have hi' : (i : Int) < s.size := by omega
  have hi0 : (0 : Int) ≤ i := by omega
  have hbl := bt_lt s i
  have hxx : ∀ h, ((s[i]'h).toNat : Int) = (bt s i : Int) := fun h => by rw [bt_at s i h]
  have HIE := Lib.hid (fun (h : bt s i = 92) => (show item s i mark = esc s i mark by unfold item; rw [if_pos h]))
  have HIN := Lib.hid (fun (h92 : bt s i ≠ 92) (h10 : bt s i = 10) => (show item s i mark = none by unfold item; rw [if_neg h92, if_pos h10]))
  have HIC := Lib.hid (fun (h92 : bt s i ≠ 92) (h10 : bt s i ≠ 10) => item_cut hm hi h92 h10)
  generalize bt s i = c at *
  have hib0 : IB w (w.alloc (.cells #[.int .i64 0, .string ⟨#[]⟩] 47)) w.heap.size := ⟨Nat.le_refl _, (Below.refl _ _).alloc (Nat.le_refl _) _, _, _, heap_alloc_new _ _⟩
  have HIB := Lib.hid hib0
  clear hib0
  by_cases h92 : c = 92
  · have h92' : (c : Int) = 92 := by omega
    have CE := Lib.hid (ref_escape s i mark hm hi hs (w.alloc (.cells #[.int .i64 0, .string ⟨#[]⟩] 47)))
    have hz := HIE.out h92
    have HZ := Lib.hid hz
    clear hz
    have hsv : ∃ (x : Int) (y : ByteArray), itemVal (esc s i mark) = .agg #[.int .i64 x, .string y] := by
      cases esc s i mark with
      | none => exact ⟨_, _, rfl⟩
      | some q => exact ⟨_, _, rfl⟩
    obtain ⟨x, y, hsv⟩ := hsv
    have HSV := Lib.hid hsv
    clear hsv
    go_enter Tryd.func25, Tryd.ntmps25
    go_wp2_with fail
    refine CE.out.mono ?_
    intro e w2 h2
    unfold rescPost at h2
    obtain ⟨rfl, hb2⟩ := h2
    have hib2 := HIB.out.keep hb2
    obtain ⟨dx, dy, dg0, dg1⟩ := hib2.c
    have dz0 := hib2.fz 0
    have dz1 := hib2.fz 1
    have HIB2 := Lib.hid hib2
    clear hib2 hb2
    rw [HSV.out]
    go_wp2_with fail
    exact HF.out _ _ _ _ HIB2.out (by rw [HZ.out, HSV.out]) rfl
  · have h92' : ¬ (c : Int) = 92 := by omega
    by_cases h10 : c = 10
    · have h10' : (c : Int) = 10 := by omega
      have hz := HIN.out h92 h10
      have HZ := Lib.hid hz
      clear hz
      go_enter Tryd.func25, Tryd.ntmps25
      go_wp2_with fail
      exact HF0.out _ _ _ (by rw [HZ.out]; rfl) rfl
    · have h10' : ¬ (c : Int) = 10 := by omega
      have hz := HIC.out h92 h10
      have HZ := Lib.hid hz
      clear hz HIC HIN HIE
      rcases hm with rfl | rfl
      · have hsl : ∀ w, (Instr.slice 9 (.string s) (some (.int .i64 (i : Int))) (some (.int .i64 ((i : Int) + 1))) none).run Tryd.prog w = .ok (.string (s.extract i (i + 1))) w := fun w => by
          rw [run_slice_string_if w _ s _ _ _ _ Tryd.underlying9, if_pos (by omega), if_pos (by omega)]
          rfl
        have hw1 : IntKind.i64.wrap ((i : Int) + 1) = (i : Int) + 1 := by rw [IntKind.wrap_i64]; omega
        have hb1 : (i : Int) + 1 ≤ s.size := by omega
        have hb2 : (0 : Int) ≤ (i : Int) + 1 := by omega
        have hb3 : (i : Int) ≤ (i : Int) + 1 := by omega
        have hz2 : itemVal (item s i 34) = .agg #[.int .i64 1, .string (s.extract i (i + 1))] := HZ.out
        have HZ2 := Lib.hid hz2
        clear hz2 HZ
        generalize s.extract i (i + 1) = x at *
        go_enter Tryd.func25, Tryd.ntmps25
        go_wp2_with fail
        exact HF0.out _ _ _ HZ2.out rfl
      · have hrd := rd_width s i
        have hle : i + (rd s i).2 ≤ s.size := by omega
        have CR := Lib.hid (fun w => ref_Read s i w (by omega))
        have hz2 : itemVal (item s i 39) = .agg #[.int .i64 (rd s i).2, .string (s.extract i (i + (rd s i).2))] := HZ.out
        have HZ2 := Lib.hid hz2
        clear hz2 HZ
        rw [rdI_nat] at CR
        generalize (rd s i).2 = n at *
        generalize (rd s i).1 = r at *
        have hsl : ∀ w, (Instr.slice 9 (.string s) (some (.int .i64 (i : Int))) (some (.int .i64 ((i : Int) + n))) none).run Tryd.prog w = .ok (.string (s.extract i (i + n))) w := fun w => by
          rw [run_slice_string_if w _ s _ _ _ _ Tryd.underlying9, if_pos (by omega), if_pos (by omega)]
          rfl
        have hw1 : IntKind.i64.wrap ((i : Int) + n) = (i : Int) + n := by rw [IntKind.wrap_i64]; omega
        have hb1 : (i : Int) + n ≤ s.size := by omega
        have hb2 : (0 : Int) ≤ (i : Int) + n := by omega
        have hb3 : (i : Int) ≤ (i : Int) + n := by omega
        generalize s.extract i (i + n) = x at *
        go_enter Tryd.func25, Tryd.ntmps25
        go_wp2_with fail
        refine (CR.out _).mono ?_
        rintro e w2 ⟨rfl, hb2⟩
        have hib2 := HIB.out.keep hb2
        obtain ⟨dx, dy, dg0, dg1⟩ := hib2.c
        have dz0 := hib2.fz 0
        have dz1 := hib2.fz 1
        have HIB2 := Lib.hid hib2
        clear hib2 hb2
        go_wp2_with fail
        exact HF.out _ _ _ _ HIB2.out HZ2.out rfl
end Go.Proofs.YtnnfkdjmpbgkaaaDoor
