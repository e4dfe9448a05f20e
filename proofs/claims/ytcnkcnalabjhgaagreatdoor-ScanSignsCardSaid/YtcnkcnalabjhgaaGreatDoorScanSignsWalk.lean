/- The statement ScanSigns, walked: the call returns true. -/
import Derived.Test.YtcnkcnalabjhgaaGreatDoorOneW
import Derived.Test.YtcnkcnalabjhgaaGreatDoorLaw07
import Derived.Deep.RegionHeld3
namespace Go.Proofs.YtcnkcnalabjhgaaGreatDoor
set_option linter.all false
attribute [local irreducible] wpStill
open Go.RowKit

def sgn (k : Nat) : ByteArray := ⟨(signsR.getD k []).toArray⟩
theorem sgn_alone : ∀ k : Nat, k < 47 → oneZ (sgn k) 0 = (8, 0, ((sgn k).size : Int), 0) := by decide +kernel
theorem sgn_size : ∀ k : Nat, k < 47 → (sgn k).size ≤ 3 := by decide +kernel
set_option maxRecDepth 100000 in
set_option maxHeartbeats 16000000 in
theorem ScanSigns_walk (w : World) (_ : True) (hT : Tabs w) (hM : MaxC w) :
    Calls Tryz.prog 5 #[] w fun e w' => e = .returned (.bool true) ∧ Below w.heap.size w w' := by
  have HQ : RowKit.Hid (∀ w', Below w.heap.size w w' → (fun (e : Ending) w' => e = .returned (.bool true) ∧ Below w.heap.size w w') (.returned (.bool true)) w') := Lib.hid fun w' h => ⟨rfl, h⟩
  generalize (fun (e : Ending) w' => e = .returned (.bool true) ∧ Below w.heap.size w w') = Q at *
  have CO := Lib.hid (fun p (hp : p.size ≤ 2147483647) w' (hb : Below w.heap.size w w') => scan_One p 0 hp w' (hT.below hb) (hM.below hb))
  have CR := Lib.hid (fun p (hp : p.size ≤ 2147483647) w' => ref_One07 p 0 hp w')
  have CF := Lib.hid (fun w' (hb : Below w.heap.size w w') => law07_fixed w' (hT.below hb) (hM.below hb))
  have CS := Lib.hid (ref_Signs w)
  have HB0 := Lib.hid ((Below.refl w.heap.size w).alloc (Nat.le_refl _) (.cells signVals 9))
  have hcell : ∀ W', Below (w.alloc (.cells signVals 9)).heap.size (w.alloc (.cells signVals 9)) W' → ∀ k, k < 47 → W'.cell? ⟨w.heap.size, k, none⟩ = some (.string (sgn k)) := fun W' hb k hk => by
    rw [hb.cell (p := ⟨w.heap.size, k, none⟩) (by simp), World.cell?_alloc_at _ _ _ _ rfl, signVals_at k hk]; rfl
  have HCELL := Lib.hid hcell
  have HAL := Lib.hid sgn_alone
  have HSZ := Lib.hid sgn_size
  clear hcell
  go_enter Tryz.func5, Tryz.ntmps5
  go_wp2_with fail
  refine CS.out.mono ?_
  rintro e w1 ⟨rfl, rfl⟩
  generalize w.alloc (.cells signVals 9) = W0 at *
  generalize w.heap.size = b at HCELL ⊢
  go_wp2_with fail
  go_loopw [2] (fun i wr => ∃ k : Nat, i = .int .i64 k ∧ k ≤ 47 ∧ Below W0.heap.size W0 wr) (fun i _ => 47 - (intOf i).toNat)
  case atStart => exact ⟨0, rfl, Nat.zero_le _, Below.refl _ _⟩
  case round =>
    obtain ⟨i, rfl, hi, hb⟩ := hrel
    have HB := Lib.hid hb
    clear hb
    by_cases hlt : i < 47
    · have hlt' : (i : Int) < 47 := by omega
      have hi0 : (0 : Int) ≤ i := by omega
      have hwi : IntKind.i64.wrap ((i : Int) + 1) = ((i + 1 : Nat) : Int) := by rw [IntKind.wrap_i64]; omega
      have HI : RowKit.Hid (i + 1 ≤ 47) := Lib.hid hlt
      have d0 := HCELL.out _ HB.out i hlt
      have HA1 := Lib.hid (HAL.out i hlt)
      have hz1 := HSZ.out i hlt
      have HCi := Lib.hid (fun W' (hb : Below W0.heap.size W0 W') => HCELL.out W' hb i hlt)
      generalize sgn i = A at *
      go_wp2_with fail
      refine (CO.out A (by omega) wr (bthen HB0.out HB.out)).mono ?_
      intro e w3 h3
      unfold nextPost at h3
      rw [HA1.out] at h3
      obtain ⟨rfl, hb3⟩ := h3
      have HT3 := Lib.hid (TK.alloc_new w3 8 0 (A.size : Int))
      have HB3 := Lib.hid ((bthen HB.out hb3).alloc (bthen HB.out hb3).size (.cells #[.int .u8 8, .int .i64 0, .int .i64 (A.size : Int)] 24))
      clear hb3 d0 HB
      have d0 := HCi.out _ HB3.out
      have t0 := HT3.out.c0; have t1 := HT3.out.c1; have t2 := HT3.out.c2
      go_wp2_with fail
      go_quiet (fail)
      go_wp2_with fail
      have HB4 := Lib.hid (bdrewN HB3.out nq)
      clear d0 t0 t1 t2 HT3 HB3
      generalize (w3.alloc (.cells #[.int .u8 8, .int .i64 0, .int .i64 (A.size : Int)] 24)).drewN nq = W4 at *
      go_loopw [5] (fun j wr => ∃ k : Nat, j = .int .i64 k ∧ k ≤ 47 ∧ Below W0.heap.size W0 wr) (fun j _ => 47 - (intOf j).toNat)
      case atStart => exact ⟨0, rfl, Nat.zero_le _, HB4.out⟩
      case round =>
        obtain ⟨j, rfl, hj, hb⟩ := hrel
        have HB := Lib.hid hb
        clear hb HB4
        by_cases hjl : j < 47
        · have hjl' : (j : Int) < 47 := by omega
          have hj0 : (0 : Int) ≤ j := by omega
          have hwj : IntKind.i64.wrap ((j : Int) + 1) = ((j + 1 : Nat) : Int) := by rw [IntKind.wrap_i64]; omega
          have HJ : RowKit.Hid (j + 1 ≤ 47) := Lib.hid hjl
          have d0 := HCi.out _ HB.out
          have d1 := HCELL.out _ HB.out j hjl
          have hz2 := HSZ.out j hjl
          have HCj := Lib.hid (fun W' (hb : Below W0.heap.size W0 W') => HCELL.out W' hb j hjl)
          generalize sgn j = B at *
          have hsp : (⟨#[32]⟩ : ByteArray).size = 1 := rfl
          have hU : ((A ++ B) ++ (⟨#[32]⟩ : ByteArray)).size ≤ 2147483647 := by rw [ByteArray.size_append, ByteArray.size_append, hsp]; omega
          have COu := Lib.hid (CO.out ((A ++ B) ++ ⟨#[32]⟩) hU)
          have CRu := Lib.hid (CR.out ((A ++ B) ++ ⟨#[32]⟩) hU)
          have n1 : ¬ 9223372036854775807 < A.size + B.size := by omega
          have n2 : A.size + B.size ≤ 9223372036854775807 := by omega
          have n3 : ¬ 9223372036854775807 < A.size + B.size + 1 := by omega
          have n4 : A.size + B.size + 1 ≤ 9223372036854775807 := by omega
          generalize oneZ ((A ++ B) ++ ⟨#[32]⟩) 0 = q at *
          obtain ⟨q1, q2, q3, q4⟩ := q
          clear hU hsp
          go_wp2_with fail
          have HBd1 := Lib.hid (Below.refl wr.heap.size wr).drew
          have HBA1 := Lib.hid (HBd1.out.alloc HBd1.out.size (.cells #[.int .u8 0, .int .i64 0, .int .i64 0] 24))
          have HTA1 : RowKit.Hid (TK (wr.drew.alloc (.cells #[.int .u8 0, .int .i64 0, .int .i64 0] 24)) wr.drew.heap.size 0 0 0) := Lib.hid (TK.alloc_new _ 0 0 0)
          have HS1 : RowKit.Hid (∀ W', Below wr.heap.size wr W' → (W'.cell? { block := b, off := i } = some (Value.string A) ∧ W'.cell? { block := b, off := j } = some (Value.string B) ∧ RowKit.Hid (Below wr.heap.size wr W'))) := Lib.hid fun W' g => ⟨HCi.out W' (bthen HB.out g), HCj.out W' (bthen HB.out g), Lib.hid g⟩
          go_region_held3 (fun W' => W'.cell? { block := b, off := i } = some (Value.string A) ∧ W'.cell? { block := b, off := j } = some (Value.string B) ∧ RowKit.Hid (Below wr.heap.size wr W'))
            (first
              | exact HS1.out _ HBd1.out
              | exact HS1.out _ HBA1.out
              | exact HS1.out _ (bthen HBd1.out hb5)
              | exact HS1.out _ (bthen HBA1.out hb5)
              | exact HS1.out _ ((bthen HBd1.out hb5).alloc (bthen HBd1.out hb5).size _)
              | exact HS1.out _ (below_fill (bthen HBA1.out hb5) HBd1.out.size _ _ _)
              | exact HS1.out _ (below_fill ((bthen HBd1.out hb5).alloc (bthen HBd1.out hb5).size _) (bthen HBd1.out hb5).size _ _ _))
            (first
              | (go_at_call 8; refine (COu.out wr.drew (bthen HB0.out (bthen HB.out HBd1.out))).mono ?_; intro e w5 h5; unfold nextPost at h5; obtain ⟨rfl, hb5⟩ := h5; (try dsimp only))
              | (go_at_call 8; refine (COu.out (wr.drew.alloc (.cells #[.int .u8 0, .int .i64 0, .int .i64 0] 24)) (bthen HB0.out (bthen HB.out HBA1.out))).mono ?_; intro e w5 h5; unfold nextPost at h5; obtain ⟨rfl, hb5⟩ := h5; have HT5 := Lib.hid (HTA1.out.keep hb5); have z0 : w5.frozen? ⟨wr.heap.size, 0, none⟩ = false := HT5.out.fz 0; have z1 : w5.frozen? ⟨wr.heap.size, 1, none⟩ = false := HT5.out.fz 1; have z2 : w5.frozen? ⟨wr.heap.size, 2, none⟩ = false := HT5.out.fz 2; have y0 : w5.cell? ⟨wr.heap.size, 0, none⟩ = some (.int .u8 0) := HT5.out.c0; have y1 : w5.cell? ⟨wr.heap.size, 1, none⟩ = some (.int .i64 0) := HT5.out.c1; have y2 : w5.cell? ⟨wr.heap.size, 2, none⟩ = some (.int .i64 0) := HT5.out.c2; (try dsimp only)))
          · rename_i hH
            obtain ⟨_, _, HBN1⟩ := hH
            have HT1 := Lib.hid (TK.alloc_new w5 q1 q2 q3)
            have HLT1 : RowKit.Hid (w5.heap.size < (w5.alloc (.cells #[.int .u8 q1, .int .i64 q2, .int .i64 q3] 24)).heap.size) := Lib.hid (by simp)
            clear hb5
            generalize w5.alloc (.cells #[.int .u8 q1, .int .i64 q2, .int .i64 q3] 24) = W6 at *
            generalize w5.heap.size = g6 at *
            clear d0 d1 HBd1 HBA1 HTA1 HS1
            have HBX := Lib.hid (bthen HB.out HBN1.out)
            have d0 := HCi.out _ HBX.out
            have d1 := HCj.out _ HBX.out
            go_wp2_with fail
            have HBd2 := Lib.hid (Below.refl W6.heap.size W6).drew
            have HBA2 := Lib.hid (HBd2.out.alloc HBd2.out.size (.cells #[.int .u8 0, .int .i64 0, .int .i64 0] 24))
            have HTA2 : RowKit.Hid (TK (W6.drew.alloc (.cells #[.int .u8 0, .int .i64 0, .int .i64 0] 24)) W6.drew.heap.size 0 0 0) := Lib.hid (TK.alloc_new _ 0 0 0)
            have HS2 : RowKit.Hid (∀ W', Below W6.heap.size W6 W' → (W'.cell? { block := b, off := i } = some (Value.string A) ∧ W'.cell? { block := b, off := j } = some (Value.string B) ∧ RowKit.Hid (Below W6.heap.size W6 W'))) := Lib.hid fun W' g => ⟨HCi.out W' (bthen HBX.out g), HCj.out W' (bthen HBX.out g), Lib.hid g⟩
            go_region_held3 (fun W' => W'.cell? { block := b, off := i } = some (Value.string A) ∧ W'.cell? { block := b, off := j } = some (Value.string B) ∧ RowKit.Hid (Below W6.heap.size W6 W'))
              (first
                | exact HS2.out _ HBd2.out
                | exact HS2.out _ HBA2.out
                | exact HS2.out _ (bthen HBd2.out hb5)
                | exact HS2.out _ (bthen HBA2.out hb5)
                | exact HS2.out _ ((bthen HBd2.out hb5).alloc (bthen HBd2.out hb5).size _)
                | exact HS2.out _ (below_fill (bthen HBA2.out hb5) HBd2.out.size _ _ _)
                | exact HS2.out _ (below_fill ((bthen HBd2.out hb5).alloc (bthen HBd2.out hb5).size _) (bthen HBd2.out hb5).size _ _ _))
              (first
                | (go_at_call 9; refine (CRu.out W6.drew ).mono ?_; intro e w5 h5; unfold nextPost at h5; obtain ⟨rfl, hb5⟩ := h5; (try dsimp only))
                | (go_at_call 9; refine (CRu.out (W6.drew.alloc (.cells #[.int .u8 0, .int .i64 0, .int .i64 0] 24)) ).mono ?_; intro e w5 h5; unfold nextPost at h5; obtain ⟨rfl, hb5⟩ := h5; have HT5 := Lib.hid (HTA2.out.keep hb5); have z0 : w5.frozen? ⟨W6.heap.size, 0, none⟩ = false := HT5.out.fz 0; have z1 : w5.frozen? ⟨W6.heap.size, 1, none⟩ = false := HT5.out.fz 1; have z2 : w5.frozen? ⟨W6.heap.size, 2, none⟩ = false := HT5.out.fz 2; have y0 : w5.cell? ⟨W6.heap.size, 0, none⟩ = some (.int .u8 0) := HT5.out.c0; have y1 : w5.cell? ⟨W6.heap.size, 1, none⟩ = some (.int .i64 0) := HT5.out.c1; have y2 : w5.cell? ⟨W6.heap.size, 2, none⟩ = some (.int .i64 0) := HT5.out.c2; (try dsimp only)))
            · rename_i hH
              obtain ⟨_, _, HBN2⟩ := hH
              have HT2 := Lib.hid (TK.alloc_new w5 q1 q2 q3)
              have HLT2 : RowKit.Hid (w5.heap.size < (w5.alloc (.cells #[.int .u8 q1, .int .i64 q2, .int .i64 q3] 24)).heap.size) := Lib.hid (by simp)
              clear hb5
              generalize w5.alloc (.cells #[.int .u8 q1, .int .i64 q2, .int .i64 q3] 24) = W7 at *
              generalize w5.heap.size = g7 at *
              have HBY := Lib.hid (bthen HBX.out HBN2.out)
              have HT1' := Lib.hid (HT1.out.keep HBN2.out)
              have a0 := HT1'.out.c0; have a1 := HT1'.out.c1; have a2 := HT1'.out.c2
              have e0 := HT2.out.c0; have e1 := HT2.out.c1; have e2 := HT2.out.c2
              clear d0 d1 HBd2 HBA2 HTA2 HS2 HT1 HT1' HT2
              go_wp2_with fail
              refine ⟨⟨j + 1, congrArg (Value.int .i64) (by omega), HJ.out, HBY.out⟩, ?_⟩
              simp only [intOf]
              omega
            · rename_i hH
              obtain ⟨_, _, HBN2⟩ := hH
              have HT2 : RowKit.Hid (TK (((w5.setCell { block := W6.heap.size, off := 0 } (Value.int IntKind.u8 q1)).setCell { block := W6.heap.size, off := 1 } (Value.int IntKind.i64 q2)).setCell { block := W6.heap.size, off := 2 } (Value.int IntKind.i64 q3)) W6.heap.size q1 q2 q3) := Lib.hid (HT5.out.fill q1 q2 q3)
              clear z0 z1 z2 y0 y1 y2 HT5 hb5
              generalize (((w5.setCell { block := W6.heap.size, off := 0 } (Value.int IntKind.u8 q1)).setCell { block := W6.heap.size, off := 1 } (Value.int IntKind.i64 q2)).setCell { block := W6.heap.size, off := 2 } (Value.int IntKind.i64 q3)) = W7 at *
              generalize hgg : W6.heap.size = g7 at HT2 ⊢
              clear hgg
              have HBY := Lib.hid (bthen HBX.out HBN2.out)
              have HT1' := Lib.hid (HT1.out.keep HBN2.out)
              have a0 := HT1'.out.c0; have a1 := HT1'.out.c1; have a2 := HT1'.out.c2
              have e0 := HT2.out.c0; have e1 := HT2.out.c1; have e2 := HT2.out.c2
              clear d0 d1 HBd2 HBA2 HTA2 HS2 HT1 HT1' HT2
              go_wp2_with fail
              refine ⟨⟨j + 1, congrArg (Value.int .i64) (by omega), HJ.out, HBY.out⟩, ?_⟩
              simp only [intOf]
              omega
          · rename_i hH
            obtain ⟨_, _, HBN1⟩ := hH
            have HT1 : RowKit.Hid (TK (((w5.setCell { block := wr.heap.size, off := 0 } (Value.int IntKind.u8 q1)).setCell { block := wr.heap.size, off := 1 } (Value.int IntKind.i64 q2)).setCell { block := wr.heap.size, off := 2 } (Value.int IntKind.i64 q3)) wr.heap.size q1 q2 q3) := Lib.hid (HT5.out.fill q1 q2 q3)
            clear z0 z1 z2 y0 y1 y2 HT5 hb5
            generalize (((w5.setCell { block := wr.heap.size, off := 0 } (Value.int IntKind.u8 q1)).setCell { block := wr.heap.size, off := 1 } (Value.int IntKind.i64 q2)).setCell { block := wr.heap.size, off := 2 } (Value.int IntKind.i64 q3)) = W6 at *
            generalize hgg : wr.heap.size = g6 at HT1 ⊢
            clear hgg
            clear d0 d1 HBd1 HBA1 HTA1 HS1
            have HBX := Lib.hid (bthen HB.out HBN1.out)
            have d0 := HCi.out _ HBX.out
            have d1 := HCj.out _ HBX.out
            go_wp2_with fail
            have HBd2 := Lib.hid (Below.refl W6.heap.size W6).drew
            have HBA2 := Lib.hid (HBd2.out.alloc HBd2.out.size (.cells #[.int .u8 0, .int .i64 0, .int .i64 0] 24))
            have HTA2 : RowKit.Hid (TK (W6.drew.alloc (.cells #[.int .u8 0, .int .i64 0, .int .i64 0] 24)) W6.drew.heap.size 0 0 0) := Lib.hid (TK.alloc_new _ 0 0 0)
            have HS2 : RowKit.Hid (∀ W', Below W6.heap.size W6 W' → (W'.cell? { block := b, off := i } = some (Value.string A) ∧ W'.cell? { block := b, off := j } = some (Value.string B) ∧ RowKit.Hid (Below W6.heap.size W6 W'))) := Lib.hid fun W' g => ⟨HCi.out W' (bthen HBX.out g), HCj.out W' (bthen HBX.out g), Lib.hid g⟩
            go_region_held3 (fun W' => W'.cell? { block := b, off := i } = some (Value.string A) ∧ W'.cell? { block := b, off := j } = some (Value.string B) ∧ RowKit.Hid (Below W6.heap.size W6 W'))
              (first
                | exact HS2.out _ HBd2.out
                | exact HS2.out _ HBA2.out
                | exact HS2.out _ (bthen HBd2.out hb5)
                | exact HS2.out _ (bthen HBA2.out hb5)
                | exact HS2.out _ ((bthen HBd2.out hb5).alloc (bthen HBd2.out hb5).size _)
                | exact HS2.out _ (below_fill (bthen HBA2.out hb5) HBd2.out.size _ _ _)
                | exact HS2.out _ (below_fill ((bthen HBd2.out hb5).alloc (bthen HBd2.out hb5).size _) (bthen HBd2.out hb5).size _ _ _))
              (first
                | (go_at_call 9; refine (CRu.out W6.drew ).mono ?_; intro e w5 h5; unfold nextPost at h5; obtain ⟨rfl, hb5⟩ := h5; (try dsimp only))
                | (go_at_call 9; refine (CRu.out (W6.drew.alloc (.cells #[.int .u8 0, .int .i64 0, .int .i64 0] 24)) ).mono ?_; intro e w5 h5; unfold nextPost at h5; obtain ⟨rfl, hb5⟩ := h5; have HT5 := Lib.hid (HTA2.out.keep hb5); have z0 : w5.frozen? ⟨W6.heap.size, 0, none⟩ = false := HT5.out.fz 0; have z1 : w5.frozen? ⟨W6.heap.size, 1, none⟩ = false := HT5.out.fz 1; have z2 : w5.frozen? ⟨W6.heap.size, 2, none⟩ = false := HT5.out.fz 2; have y0 : w5.cell? ⟨W6.heap.size, 0, none⟩ = some (.int .u8 0) := HT5.out.c0; have y1 : w5.cell? ⟨W6.heap.size, 1, none⟩ = some (.int .i64 0) := HT5.out.c1; have y2 : w5.cell? ⟨W6.heap.size, 2, none⟩ = some (.int .i64 0) := HT5.out.c2; (try dsimp only)))
            · rename_i hH
              obtain ⟨_, _, HBN2⟩ := hH
              have HT2 := Lib.hid (TK.alloc_new w5 q1 q2 q3)
              have HLT2 : RowKit.Hid (w5.heap.size < (w5.alloc (.cells #[.int .u8 q1, .int .i64 q2, .int .i64 q3] 24)).heap.size) := Lib.hid (by simp)
              clear hb5
              generalize w5.alloc (.cells #[.int .u8 q1, .int .i64 q2, .int .i64 q3] 24) = W7 at *
              generalize w5.heap.size = g7 at *
              have HBY := Lib.hid (bthen HBX.out HBN2.out)
              have HT1' := Lib.hid (HT1.out.keep HBN2.out)
              have a0 := HT1'.out.c0; have a1 := HT1'.out.c1; have a2 := HT1'.out.c2
              have e0 := HT2.out.c0; have e1 := HT2.out.c1; have e2 := HT2.out.c2
              clear d0 d1 HBd2 HBA2 HTA2 HS2 HT1 HT1' HT2
              go_wp2_with fail
              refine ⟨⟨j + 1, congrArg (Value.int .i64) (by omega), HJ.out, HBY.out⟩, ?_⟩
              simp only [intOf]
              omega
            · rename_i hH
              obtain ⟨_, _, HBN2⟩ := hH
              have HT2 : RowKit.Hid (TK (((w5.setCell { block := W6.heap.size, off := 0 } (Value.int IntKind.u8 q1)).setCell { block := W6.heap.size, off := 1 } (Value.int IntKind.i64 q2)).setCell { block := W6.heap.size, off := 2 } (Value.int IntKind.i64 q3)) W6.heap.size q1 q2 q3) := Lib.hid (HT5.out.fill q1 q2 q3)
              clear z0 z1 z2 y0 y1 y2 HT5 hb5
              generalize (((w5.setCell { block := W6.heap.size, off := 0 } (Value.int IntKind.u8 q1)).setCell { block := W6.heap.size, off := 1 } (Value.int IntKind.i64 q2)).setCell { block := W6.heap.size, off := 2 } (Value.int IntKind.i64 q3)) = W7 at *
              generalize hgg : W6.heap.size = g7 at HT2 ⊢
              clear hgg
              have HBY := Lib.hid (bthen HBX.out HBN2.out)
              have HT1' := Lib.hid (HT1.out.keep HBN2.out)
              have a0 := HT1'.out.c0; have a1 := HT1'.out.c1; have a2 := HT1'.out.c2
              have e0 := HT2.out.c0; have e1 := HT2.out.c1; have e2 := HT2.out.c2
              clear d0 d1 HBd2 HBA2 HTA2 HS2 HT1 HT1' HT2
              go_wp2_with fail
              refine ⟨⟨j + 1, congrArg (Value.int .i64) (by omega), HJ.out, HBY.out⟩, ?_⟩
              simp only [intOf]
              omega
        · have hjl' : ¬ (j : Int) < 47 := by omega
          go_wp2_with fail
          refine ⟨⟨i + 1, congrArg (Value.int .i64) (by omega), HI.out, HB.out⟩, ?_⟩
          simp only [intOf]
          omega
    · have hlt' : ¬ (i : Int) < 47 := by omega
      go_wp2_with fail
      refine (CF.out _ (bthen HB0.out HB.out)).mono ?_
      rintro e w9 ⟨rfl, hb9⟩
      have HB9 := Lib.hid (bthen HB0.out (bthen HB.out hb9))
      clear hb9
      go_wp2_with fail
      show Q (.returned (.bool true)) _
      exact HQ.out _ HB9.out
end Go.Proofs.YtcnkcnalabjhgaaGreatDoor
