/- The statement ScanAlls, walked: the call returns true. -/
import Derived.Test.YtcnkcnalabjhgaaGreatDoorOneW
import Derived.Test.YtcnkcnalabjhgaaGreatDoorLaw07
namespace Go.Proofs.YtcnkcnalabjhgaaGreatDoor
set_option linter.all false
attribute [local irreducible] wpStill
open Go.RowKit

/-- A slice of tokens, read. -/
def TR (w : World) (v : Value) (l : List (Int × Nat × Nat)) : Prop :=
  ∃ a cap, v = .slice a l.length cap ∧ l.length ≤ cap ∧ (0 < l.length → ∃ b, a = some ⟨b, 0, none⟩ ∧ b < w.heap.size ∧ ∀ i (hi : i < l.length), w.cell? ⟨b, i * 3, none⟩ = some (.int .u8 l[i].1) ∧ w.cell? ⟨b, i * 3 + 1, none⟩ = some (.int .i64 (l[i].2.1 : Nat)) ∧ w.cell? ⟨b, i * 3 + 2, none⟩ = some (.int .i64 (l[i].2.2 : Nat)))
theorem TR.of_owns {w : World} {B : Nat} {v : Value} {l : List (Int × Nat × Nat)} (h : w.ownsRow B 24 3 v l.length (toksV l)) : TR w v l := by
  obtain ⟨_, a, cap, hv, hc, _, _⟩ := Row.of_owns h
  refine ⟨a, cap, hv, hc, fun hpos => ?_⟩
  obtain ⟨b, cap', hv', _, hbl, hcell⟩ := tok_row h hpos
  rw [hv] at hv'
  simp only [Value.slice.injEq] at hv'
  exact ⟨b, hv'.1, hbl, hcell⟩
theorem TR.below {w w' : World} {v : Value} {l : List (Int × Nat × Nat)} (h : TR w v l) (hb : Below w.heap.size w w') : TR w' v l := by
  obtain ⟨a, cap, hv, hc, h2⟩ := h
  refine ⟨a, cap, hv, hc, fun hpos => ?_⟩
  obtain ⟨b, ha, hbl, hcell⟩ := h2 hpos
  refine ⟨b, ha, Nat.lt_of_lt_of_le hbl hb.size, fun i hi => ?_⟩
  have := hcell i hi
  exact ⟨by rw [hb.cell (p := ⟨b, i * 3, none⟩) hbl]; exact this.1, by rw [hb.cell (p := ⟨b, i * 3 + 1, none⟩) hbl]; exact this.2.1, by rw [hb.cell (p := ⟨b, i * 3 + 2, none⟩) hbl]; exact this.2.2⟩
theorem TR.at {w w' : World} {a : Option Addr} {n cap : Nat} {l : List (Int × Nat × Nat)} (h : TR w (.slice a n cap) l) (hb : Below w.heap.size w w') {i : Nat} (hi : i < l.length) :
    ∃ b, a = some ⟨b, 0, none⟩ ∧ n = l.length ∧ l.length ≤ cap ∧ w'.cell? ⟨b, i * 3, none⟩ = some (.int .u8 l[i].1) ∧ w'.cell? ⟨b, i * 3 + 1, none⟩ = some (.int .i64 (l[i].2.1 : Nat)) ∧ w'.cell? ⟨b, i * 3 + 2, none⟩ = some (.int .i64 (l[i].2.2 : Nat)) := by
  obtain ⟨a', cap', hv, hc, hcells⟩ := h.below hb
  simp only [Value.slice.injEq] at hv
  obtain ⟨rfl, rfl, rfl⟩ := hv
  obtain ⟨b, hb', _, hcell⟩ := hcells (by omega)
  have := hcell i hi
  exact ⟨b, hb', rfl, hc, this.1, this.2.1, this.2.2⟩
set_option maxRecDepth 100000 in
set_option maxHeartbeats 8000000 in
theorem ref_Same07 (v1 v2 : Value) (l : List (Int × Nat × Nat)) (hl : l.length ≤ 200000) (w : World) (hr1 : TR w v1 l) (hr2 : TR w v2 l) :
    Calls Tryz.prog 12 #[v1, v2] w fun e w' => e = .returned (.bool true) ∧ Below w.heap.size w w' := by
  have HQ : RowKit.Hid (∀ w', Below w.heap.size w w' → (fun (e : Ending) w' => e = .returned (.bool true) ∧ Below w.heap.size w w') (.returned (.bool true)) w') := Lib.hid fun w' h => ⟨rfl, h⟩
  generalize (fun (e : Ending) w' => e = .returned (.bool true) ∧ Below w.heap.size w w') = Q at *
  have HR1 := Lib.hid hr1
  have HR2 := Lib.hid hr2
  obtain ⟨a1, cap1, rfl, hcap1, _⟩ := hr1
  obtain ⟨a2, cap2, rfl, hcap2, _⟩ := hr2
  go_enter Tryz.func12, Tryz.ntmps12
  go_wp2_with fail
  go_loopw [5] (fun i wr => ∃ k : Nat, i = .int .i64 k ∧ k ≤ l.length ∧ Below w.heap.size w wr) (fun i _ => l.length - (intOf i).toNat)
  case atStart => exact ⟨0, rfl, Nat.zero_le _, Below.refl _ _⟩
  case round =>
    obtain ⟨k, rfl, hk, hb⟩ := hrel
    have HB := Lib.hid hb
    clear hb
    by_cases hlt : k < l.length
    · have hlt' : (k : Int) < l.length := by omega
      obtain ⟨b1, rfl, _, _, d0, d1, d2⟩ := HR1.out.at HB.out hlt
      obtain ⟨b2, rfl, _, _, e0, e1, e2⟩ := HR2.out.at HB.out hlt
      generalize l[k] = t at *
      obtain ⟨kk, ff, tt⟩ := t
      simp only [] at d0 d1 d2 e0 e1 e2
      have hk0 : (0 : Int) ≤ k := by omega
      have hkc : (k : Int) < cap1 := by omega
      have hkc2 : (k : Int) < cap2 := by omega
      have hwk : IntKind.i64.wrap ((k : Int) + 1) = ((k + 1 : Nat) : Int) := by rw [IntKind.wrap_i64]; omega
      have HI : RowKit.Hid (k + 1 ≤ l.length) := Lib.hid hlt
      go_wp2_with fail
      go_quiet (fail)
      go_wp2_with fail
      refine ⟨⟨k + 1, congrArg (Value.int .i64) (by omega), HI.out, bdrewN HB.out nq⟩, ?_⟩
      simp only [intOf]
      omega
    · have hlt' : ¬ (k : Int) < l.length := by omega
      go_wp2_with fail
      show Q (.returned (.bool true)) _
      exact HQ.out _ HB.out
theorem sAll_len (s : ByteArray) : (scanAll s).1.length ≤ 65536 := by
  unfold scanAll
  split
  · simp
  · split
    · simp
    · split
      · simp
      · have := alls_len s 0
        simp only []
        omega
set_option maxRecDepth 100000 in
set_option maxHeartbeats 8000000 in
theorem ScanAlls_walk (s : ByteArray) (hs : s.size ≤ 1048576) (w : World) (hT : Tabs w) (hM : MaxC w) :
    Calls Tryz.prog 4 #[.string s] w fun e w' => e = .returned (.bool true) ∧ Below w.heap.size w w' := by
  have HQ : RowKit.Hid (∀ w', Below w.heap.size w w' → (fun (e : Ending) w' => e = .returned (.bool true) ∧ Below w.heap.size w w') (.returned (.bool true)) w') := Lib.hid fun w' h => ⟨rfl, h⟩
  generalize (fun (e : Ending) w' => e = .returned (.bool true) ∧ Below w.heap.size w w') = Q at *
  have C1 := Lib.hid (scan_All s (by omega) w hT hM)
  have C2 := Lib.hid (fun w' => ref_All07 s (by omega) w')
  have CF := Lib.hid (fun w' (hb : Below w.heap.size w w') => law07_fixed w' (hT.below hb) (hM.below hb))
  have HLN := sAll_len s
  by_cases hmid : 3000 < s.size ∧ s.size ≤ 65536
  · have h1' : (3000 : Int) < s.size := by omega
    have h2' : (s.size : Int) ≤ 65536 := by omega
    go_enter Tryz.func4, Tryz.ntmps4
    go_wp2_with fail
    refine (CF.out _ (Below.refl _ _)).mono ?_
    rintro e w1 ⟨rfl, hb1⟩
    go_wp2_with fail
    show Q (.returned (.bool true)) _
    exact HQ.out _ hb1
  · have hor : (¬ (3000 : Int) < s.size) ∨ ((3000 : Int) < s.size ∧ ¬ (s.size : Int) ≤ 65536) := by omega
    clear hmid
    rcases hor with h1' | ⟨h1', h2'⟩
    all_goals
      go_enter Tryz.func4, Tryz.ntmps4
      go_wp2_with fail
      refine C1.out.mono ?_
      intro e w1 g1
      unfold allPost at g1
      generalize scanAll s = q at *
      obtain ⟨L, er, ea⟩ := q
      simp only [] at *
      obtain ⟨v1, rfl, hb1, ho1⟩ := g1
      have HB1 := Lib.hid hb1
      have HR1 := Lib.hid (TR.of_owns ho1)
      have HF1 : RowKit.Hid (FK (w1.alloc (.cells #[.int .i64 er, .int .i64 ea] 31)) w1.heap.size er ea) := Lib.hid (by unfold FK; exact heap_alloc_new _ _)
      have HA1 : RowKit.Hid (Below w1.heap.size w1 (w1.alloc (.cells #[.int .i64 er, .int .i64 ea] 31))) := Lib.hid ((Below.refl _ _).alloc (Nat.le_refl _) _)
      clear hb1 ho1 C1
      go_wp2_with fail
      refine (C2.out _).mono ?_
      intro e w2 g2
      unfold allPost at g2
      obtain ⟨v2, rfl, hb2, ho2⟩ := g2
      simp only [] at ho2
      have HR2 := Lib.hid (TR.of_owns ho2)
      have HA2 := Lib.hid (bthen HA1.out hb2)
      have HF2 := Lib.hid ((HF1.out.keep hb2).alloc (.cells #[.int .i64 er, .int .i64 ea] 31))
      have HG2 : RowKit.Hid (FK (w2.alloc (.cells #[.int .i64 er, .int .i64 ea] 31)) w2.heap.size er ea) := Lib.hid (by unfold FK; exact heap_alloc_new _ _)
      have HW2 : RowKit.Hid (Below w2.heap.size w2 (w2.alloc (.cells #[.int .i64 er, .int .i64 ea] 31))) := Lib.hid ((Below.refl _ _).alloc (Nat.le_refl _) _)
      clear hb2 ho2 HA1 HF1 C2
      go_wp2_with fail
      refine (CF.out _ (bthen HB1.out (bthen HA2.out HW2.out))).mono ?_
      rintro e w3 ⟨rfl, hb3⟩
      have HW3 := Lib.hid (bthen HW2.out hb3)
      have HF3 := Lib.hid (HF2.out.keep hb3)
      have HG3 := Lib.hid (HG2.out.keep hb3)
      have HB3 := Lib.hid (bthen HB1.out (bthen HA2.out HW3.out))
      have CS := Lib.hid (ref_Same07 v1 v2 L (by omega) w3 (HR1.out.below (bthen HA2.out HW3.out)) (HR2.out.below HW3.out))
      clear hb3 HW2 HF2 HG2
      have f0 := HF3.out.c0; have f1 := HF3.out.c1
      have g0 := HG3.out.c0; have g1 := HG3.out.c1
      go_wp2_with fail
      refine CS.out.mono ?_
      rintro e w4 ⟨rfl, hb4⟩
      have HB4 := Lib.hid (bthen HB3.out hb4)
      clear hb4 f0 f1 g0 g1 HF3 HG3
      go_wp2_with fail
      show Q (.returned (.bool true)) _
      exact HQ.out _ HB4.out
end Go.Proofs.YtcnkcnalabjhgaaGreatDoor
