/- The statement ScanLong, walked: the call returns true. -/
import Derived.Test.YtcnkcnalabjhgaaDoorInside
import Derived.Test.YtcnkcnalabjhgaaDoorScanLongP
import Derived.Laws.MakeOwn
namespace Go.Proofs.YtcnkcnalabjhgaaDoor
set_option linter.all false
open Go.RowKit

/-- A block of 65537 bytes; the first i are sps. -/
def BK (W : World) (g i : Nat) : Prop := ∃ C : Array Value, W.heap[g]? = some (.cells C 5 (0, 0)) ∧ C.size = 65537 ∧ ∀ j, j < i → C[j]? = some (.int .u8 32)
theorem BK.new (W : World) (C : Array Value) (h : C.size = 65537) : BK (W.alloc (.cells C 5)) W.heap.size 0 := ⟨C, heap_alloc_new _ _, h, fun j hj => by omega⟩
theorem BK.cell {W : World} {g i : Nat} (h : BK W g i) (j : Nat) (hj : j < 65537) : ∃ u, W.cell? ⟨g, j, none⟩ = some u := by
  obtain ⟨C, h1, h2, _⟩ := h
  refine ⟨C[j]'(by omega), ?_⟩
  have : C[j]? = some (C[j]'(by omega)) := Array.getElem?_eq_getElem (by omega)
  simp [World.cell?, h1, this]
theorem BK.fz {W : World} {g i : Nat} (h : BK W g i) (j : Nat) : W.frozen? ⟨g, j, none⟩ = false := by
  obtain ⟨C, h1, h2, _⟩ := h
  simp [World.frozen?, h1]
theorem BK.set {W : World} {g i : Nat} (h : BK W g i) (hi : i < 65537) : BK (W.setCell ⟨g, i, none⟩ (.int .u8 32)) g (i + 1) := by
  obtain ⟨C, h1, h2, h3⟩ := h
  refine ⟨C.setIfInBounds i (.int .u8 32), heap_setCell_same W g i C _ _ h1, by simpa using h2, fun j hj => ?_⟩
  by_cases e : j = i
  · subst e; rw [Array.getElem?_setIfInBounds_self_of_lt (by omega)]
  · rw [Array.getElem?_setIfInBounds_ne (by omega)]; exact h3 j (by omega)
theorem BK.keep {W W' : World} {g i : Nat} (h : BK W g i) (hb : Below W.heap.size W W') : BK W' g i := by
  obtain ⟨C, h1, h2, h3⟩ := h
  exact ⟨C, keeps hb h1, h2, h3⟩
theorem BK.conv {W : World} {g i : Nat} (h : BK W g i) (n cap : Nat) (hn : n ≤ i) :
    (convert 35 9 (.slice (some ⟨g, 0, none⟩) n cap)).run Tryd.prog W = .ok (.string (sps n)) W := by
  obtain ⟨C, h1, h2, h3⟩ := h
  refine run_convert_bytes_arg _ 35 5 Tryd.underlying35 Tryd.underlying5 _ 0 n cap (List.replicate n 32) (List.length_replicate) (fun j hj => ?_) 9 Tryd.underlying9
  have := h3 j (by omega)
  simp [World.cell?, h1, this, hj]
set_option maxRecDepth 100000 in
theorem make_bytes' (n : Nat) (hn : n ≤ 100000) : ∃ C : Array Value, C.size = n ∧ ∀ w : World, (Instr.makeSlice 35 (.int .i64 (n : Int)) (.int .i64 (n : Int))).run Tryd.prog w = .ok (.slice (some ⟨w.heap.size, 0, none⟩) n n) (w.alloc (.cells C 5)) := by
  refine ⟨madeCells (Value.cells (.int .u8 0)) (n * 1), by rw [size_madeCells, Nat.mul_one], fun w => ?_⟩
  have := run_make (P := Tryd.prog) w 35 5 _ (.int .u8 0) Tryd.underlying35 rfl rfl .i64 .i64 (n : Int) (n : Int) (by omega) (by omega) (by show (1 : Int) * (n : Int) ≤ 281474976710656; omega) (by omega)
  rw [Int.toNat_natCast] at this
  exact this
set_option maxRecDepth 100000 in
theorem make_bytes : ∃ C : Array Value, C.size = 65537 ∧ ∀ w : World, (Instr.makeSlice 35 (.int .i64 65537) (.int .i64 65537)).run Tryd.prog w = .ok (.slice (some ⟨w.heap.size, 0, none⟩) 65537 65537) (w.alloc (.cells C 5)) := make_bytes' 65537 (by omega)
theorem tokrow_at {w w' : World} {a : Option Addr} {n cap : Nat} {l : List Tok} (h : TokRow w (.slice a n cap) l) (hb : Below w.heap.size w w') {i : Nat} (hi : i < l.length) :
    ∃ b, a = some ⟨b, 0, none⟩ ∧ n = l.length ∧ l.length ≤ cap ∧ w'.cell? ⟨b, i * 3, none⟩ = some (.int .u8 l[i].1) ∧ w'.cell? ⟨b, i * 3 + 1, none⟩ = some (.int .i64 (l[i].2.1 : Nat)) ∧ w'.cell? ⟨b, i * 3 + 2, none⟩ = some (.int .i64 (l[i].2.2 : Nat)) := by
  obtain ⟨a', cap', hv, hc, hcells⟩ := h.below hb
  simp only [Value.slice.injEq] at hv
  obtain ⟨rfl, rfl, rfl⟩ := hv
  obtain ⟨b, hb', _, hcell⟩ := hcells (by omega)
  have := hcell i hi
  exact ⟨b, hb', rfl, hc, this.1, this.2.1, this.2.2⟩
set_option maxRecDepth 100000 in
set_option maxHeartbeats 4000000 in
theorem ScanLong_walk (w : World) (_ : True) (hT : Tabs w) (hM : MaxC w) :
    Calls Tryd.prog 6 #[] w fun e w' => e = .returned (.bool true) ∧ Below w.heap.size w w' := by
  have HQ : RowKit.Hid (∀ w', Below w.heap.size w w' → (fun (e : Ending) w' => e = .returned (.bool true) ∧ Below w.heap.size w w') (.returned (.bool true)) w') := Lib.hid fun w' h => ⟨rfl, h⟩
  generalize (fun (e : Ending) w' => e = .returned (.bool true) ∧ Below w.heap.size w w') = Q at *
  have CA := Lib.hid (fun n (hn : n ≤ 65537) w' (hb : Below w.heap.size w w') => scan_All (sps n) (by rw [blanks_size]; omega) w' (hT.below hb) (hM.below hb))
  have CF := Lib.hid (fun w' (hb : Below w.heap.size w w') => law07_fixed w' (hT.below hb) (hM.below hb))
  obtain ⟨C, hC, hmk⟩ := make_bytes
  have HK0 := Lib.hid (BK.new w C hC)
  have HB0 := Lib.hid ((Below.refl w.heap.size w).alloc (Nat.le_refl _) (.cells C 5))
  generalize hwA : w.alloc (.cells C 5) = wA at *
  have hmk0 := hmk w
  rw [hwA] at hmk0
  clear hmk hC hwA
  go_enter Tryd.func6, Tryd.ntmps6
  go_wp2_with fail
  go_loopw [2] (fun i wr => ∃ ii : Nat, i = .int .i64 ii ∧ ii ≤ 65537 ∧ BK wr w.heap.size ii ∧ Below w.heap.size w wr) (fun i _ => 65537 - (intOf i).toNat)
  case atStart => exact ⟨0, rfl, by omega, HK0.out, HB0.out⟩
  case round =>
    obtain ⟨i, rfl, hi, hbk, hb⟩ := hrel
    have HB := Lib.hid hb
    have HK := Lib.hid hbk
    clear hb hbk
    by_cases hlt : i < 65537
    · have hlt' : (i : Int) < 65537 := by omega
      have hi0 : (0 : Int) ≤ i := by omega
      obtain ⟨u, hu⟩ := HK.out.cell i hlt
      have hfz := HK.out.fz i
      have HK2 := Lib.hid (HK.out.set hlt)
      have HB2 := Lib.hid (HB.out.setCell (p := ⟨w.heap.size, i, none⟩) (Nat.le_refl _) (.int .u8 32))
      have hwk : IntKind.i64.wrap ((i : Int) + 1) = ((i + 1 : Nat) : Int) := by rw [IntKind.wrap_i64]; omega
      go_wp2_with fail
      refine ⟨⟨i + 1, congrArg (Value.int .i64) (by omega), hlt, HK2.out, HB2.out⟩, ?_⟩
      simp only [intOf]
      omega
    · have hlt' : ¬ (i : Int) < 65537 := by omega
      obtain rfl : i = 65537 := by omega
      have hcv1 := HK.out.conv 65536 65537 (by omega)
      have hcv2 : ∀ w', Below wr.heap.size wr w' → (convert 35 9 (.slice (some ⟨w.heap.size, 0, none⟩) 65537 65537)).run Tryd.prog w' = .ok (.string (sps 65537)) w' := fun w' hb => (HK.out.keep hb).conv 65537 65537 (by omega)
      have C1 := Lib.hid (CA.out 65536 (by omega) wr HB.out)
      have C2 := Lib.hid (CA.out 65537 (by omega))
      go_wp2_with fail
      refine C1.out.mono ?_
      intro e w1 h1
      unfold allPost at h1
      rw [blanks_all 65536 (by omega) (by omega)] at h1
      obtain ⟨v1, rfl, hb1, ho1⟩ := h1
      simp only [] at ho1
      have HB1 := Lib.hid (bthen HB.out hb1)
      have HR1 := Lib.hid (TokRow.of_owns ho1)
      obtain ⟨a1, cap1, rfl, hcap1, _⟩ := HR1.out
      have HW1 := Lib.hid hb1
      have HF1 : RowKit.Hid (FK (w1.alloc (.cells #[.int .i64 0, .int .i64 0] 28)) w1.heap.size 0 0) := Lib.hid (by unfold FK; exact heap_alloc_new _ _)
      have HA1 : RowKit.Hid (Below w1.heap.size w1 (w1.alloc (.cells #[.int .i64 0, .int .i64 0] 28))) := Lib.hid ((Below.refl _ _).alloc (Nat.le_refl _) _)
      have hcv3 := hcv2 _ (bthen HW1.out HA1.out)
      clear hb1 ho1 C1 hcv1 hcv2
      go_wp2_with fail
      refine (C2.out _ (bthen HB1.out HA1.out)).mono ?_
      intro e w2 h2
      unfold allPost at h2
      rw [blanks_long 65537 (by omega)] at h2
      obtain ⟨v2, rfl, hb2, ho2⟩ := h2
      simp only [] at ho2
      have HR2 := Lib.hid (TokRow.of_owns (l := []) ho2)
      obtain ⟨a2, cap2, rfl, hcap2, _⟩ := HR2.out
      have HA2 := Lib.hid (bthen HA1.out hb2)
      have HF2 := Lib.hid ((HF1.out.keep hb2).alloc (.cells #[.int .i64 2, .int .i64 0] 28))
      have HG2 : RowKit.Hid (FK (w2.alloc (.cells #[.int .i64 2, .int .i64 0] 28)) w2.heap.size 2 0) := Lib.hid (by unfold FK; exact heap_alloc_new _ _)
      have HW2 : RowKit.Hid (Below w2.heap.size w2 (w2.alloc (.cells #[.int .i64 2, .int .i64 0] 28))) := Lib.hid ((Below.refl _ _).alloc (Nat.le_refl _) _)
      have HB3 := Lib.hid (bthen HB1.out (bthen HA2.out HW2.out))
      have C3' := CF.out _ HB3.out
      clear hb2 ho2 HA1 HF1 hcv3
      obtain ⟨b1, rfl, _, _, d0, d1, d2⟩ := tokrow_at HR1.out (bthen HA2.out HW2.out) (i := 0) (by show 0 < 1; omega)
      have f0 := HF2.out.c0; have f1 := HF2.out.c1
      have g0 := HG2.out.c0; have g1 := HG2.out.c1
      go_wp2_with fail
      refine C3'.mono ?_
      rintro e w3 ⟨rfl, hb3⟩
      have HB4 := Lib.hid (bthen HB3.out hb3)
      clear hb3 C3' f0 f1 g0 g1 d0 d1 d2
      go_wp2_with fail
      show Q (.returned (.bool true)) _
      exact HQ.out _ HB4.out
end Go.Proofs.YtcnkcnalabjhgaaDoor
