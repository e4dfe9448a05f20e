/- Layer 8: the document's Text and the law's own alike, walked. -/
import Derived.Test.YtcnkcnalabjhgaaDoorInside
import Derived.Test.YtcnkcnalabjhgaaDoorWrittenP
import Derived.Deep.RegionHeld3
namespace Go.Proofs.YtcnkcnalabjhgaaDoor
set_option linter.all false
attribute [local irreducible] wpStill
open Go.RowKit

set_option maxRecDepth 100000 in
set_option maxHeartbeats 4000000 in
theorem ref_Text08 (s : ByteArray) (k : Int) (ff tt : Nat) (h : k ≠ 9 → ff ≤ tt ∧ tt ≤ s.size) (w : World) :
    Calls Tryd.prog 22 #[.string s, .agg #[.int .u8 k, .int .i64 (ff : Int), .int .i64 (tt : Int)]] w fun e w' => e = .returned (.string (txt s (k, ff, tt))) ∧ Below w.heap.size w w' := by
  have HQ : RowKit.Hid (∀ b w', txt s (k, ff, tt) = b → Below w.heap.size w w' → (fun (e : Ending) w' => e = .returned (.string (txt s (k, ff, tt))) ∧ Below w.heap.size w w') (.returned (.string b)) w') := Lib.hid fun b w' h h2 => ⟨by rw [h], h2⟩
  have HV : RowKit.Hid (txt s (k, ff, tt) = if k = 9 then semS else s.extract ff tt) := Lib.hid rfl
  have HBA : RowKit.Hid (∀ o, Below w.heap.size w (w.alloc o)) := Lib.hid fun o => (Below.refl _ _).alloc (Nat.le_refl _) o
  generalize (fun (e : Ending) w' => e = .returned (.string (txt s (k, ff, tt))) ∧ Below w.heap.size w w') = Q at *
  by_cases h9 : k = 9
  · subst h9
    clear h
    go_enter Tryd.func22, Tryd.ntmps22
    go_wp2_with fail
    show Q (.returned (.string _)) _
    exact HQ.out _ _ HV.out (HBA.out _)
  · have m9 : (k == 9) = false := by rw [beq_eq_false_iff_ne]; exact h9
    obtain ⟨h1, h2⟩ := h h9
    have HV2 : RowKit.Hid (txt s (k, ff, tt) = s.extract ff tt) := Lib.hid (by rw [HV.out, if_neg h9])
    have q1 : (ff : Int) ≤ tt := by omega
    have q2 : (tt : Int) ≤ s.size := by omega
    have q3 : (0 : Int) ≤ ff := by omega
    clear HV h9
    go_enter Tryd.func22, Tryd.ntmps22
    go_wp2_with fail
    show Q (.returned (.string _)) _
    exact HQ.out _ _ HV2.out (HBA.out _)
theorem map_at {s u : ByteArray} {A B : List Tok} (h : A.map (tx s) = B.map (tx u)) : A.length = B.length ∧ ∀ i (hi : i < A.length) (hj : i < B.length), (A[i]).1 = (B[i]).1 ∧ txt s A[i] = txt u B[i] := by
  have hl := congrArg List.length h
  rw [List.length_map, List.length_map] at hl
  refine ⟨hl, fun i hi hj => ?_⟩
  have h1 : (A.map (tx s))[i]'(by rw [List.length_map]; exact hi) = (B.map (tx u))[i]'(by rw [List.length_map]; exact hj) := by
    congr 1
  rw [List.getElem_map, List.getElem_map] at h1
  unfold tx at h1
  simp only [Prod.mk.injEq] at h1
  exact h1
theorem tok_at2 {w w' : World} {a : Option Addr} {n cap : Nat} {l : List Tok} (h : TokRow w (.slice a n cap) l) (hb : Below w.heap.size w w') {i : Nat} (hi : i < l.length) :
    ∃ b, a = some ⟨b, 0, none⟩ ∧ n = l.length ∧ l.length ≤ cap ∧ w'.cell? ⟨b, i * 3, none⟩ = some (.int .u8 l[i].1) ∧ w'.cell? ⟨b, i * 3 + 1, none⟩ = some (.int .i64 (l[i].2.1 : Nat)) ∧ w'.cell? ⟨b, i * 3 + 2, none⟩ = some (.int .i64 (l[i].2.2 : Nat)) := by
  obtain ⟨a', cap', hv, hc, hcells⟩ := h.below hb
  simp only [Value.slice.injEq] at hv
  obtain ⟨rfl, rfl, rfl⟩ := hv
  obtain ⟨b, hb', _, hcell⟩ := hcells (by omega)
  have := hcell i hi
  exact ⟨b, hb', rfl, hc, this.1, this.2.1, this.2.2⟩
/-- What holds at the loop's head. -/
def alRel (w : World) (A : List Tok) (i : Value) (wr : World) : Prop := ∃ k : Nat, i = .int .i64 k ∧ k ≤ A.length ∧ Below w.heap.size w wr
set_option maxRecDepth 100000 in
set_option maxHeartbeats 8000000 in
theorem law08_alike (s u : ByteArray) (v1 v2 : Value) (A B : List Tok) (hAB : A.map (tx s) = B.map (tx u)) (hA : ∀ t ∈ A, t.2.1 ≤ t.2.2 ∧ t.2.2 ≤ s.size) (hB : ∀ t ∈ B, t.2.1 ≤ t.2.2 ∧ t.2.2 ≤ u.size)
    (hl : A.length ≤ 200000) (w : World) (hr1 : TokRow w v1 A) (hr2 : TokRow w v2 B) :
    Calls Tryd.prog 21 #[.string s, v1, .string u, v2] w fun e w' => e = .returned (.bool true) ∧ Below w.heap.size w w' := by
  have HQ : RowKit.Hid (∀ w', Below w.heap.size w w' → (fun (e : Ending) w' => e = .returned (.bool true) ∧ Below w.heap.size w w') (.returned (.bool true)) w') := Lib.hid fun w' h => ⟨rfl, h⟩
  generalize (fun (e : Ending) w' => e = .returned (.bool true) ∧ Below w.heap.size w w') = Q at *
  have HR1 := Lib.hid hr1
  have HR2 := Lib.hid hr2
  obtain ⟨a1, cap1, rfl, hcap1, _⟩ := hr1
  obtain ⟨a2, cap2, rfl, hcap2, _⟩ := hr2
  obtain ⟨hlen, hmap⟩ := map_at hAB
  have HMAP := Lib.hid hmap
  have HA := Lib.hid hA
  have HB' := Lib.hid hB
  have hle : ((A.length : Int) == (B.length : Int)) = true := by simp; omega
  have hle2 : decide (A.length = B.length) = true := decide_eq_true hlen
  have HLEN := Lib.hid hlen
  have hle3 : ((A.length : Int) != (B.length : Int)) = false := by simp; omega
  clear hAB hmap hA hB hlen
  go_enter Tryd.func21, Tryd.ntmps21
  go_wp2_with fail
  go_loopw [9] (fun i wr => alRel w A i wr) (fun i _ => A.length - (intOf i).toNat)
  case atStart => exact ⟨0, rfl, Nat.zero_le _, Below.refl _ _⟩
  case round =>
    obtain ⟨k, rfl, hk, hb⟩ := hrel
    have HB := Lib.hid hb
    clear hb
    by_cases hlt : k < A.length
    · have hlt' : (k : Int) < A.length := by omega
      have hlt2 : k < B.length := by have := HLEN.out; omega
      obtain ⟨b1, rfl, _, _, d0, d1, d2⟩ := tok_at2 HR1.out HB.out hlt
      obtain ⟨b2, rfl, _, _, e0, e1, e2⟩ := tok_at2 HR2.out HB.out hlt2
      have HAT1 := Lib.hid (fun w' (hb : Below w.heap.size w w') => tok_at2 HR1.out hb hlt)
      have HAT2 := Lib.hid (fun w' (hb : Below w.heap.size w w') => tok_at2 HR2.out hb hlt2)
      obtain ⟨m1, m2⟩ := HMAP.out k hlt hlt2
      have t1 := HA.out A[k] (List.getElem_mem hlt)
      have t2 := HB'.out B[k] (List.getElem_mem hlt2)
      generalize A[k] = x1 at *
      generalize B[k] = x2 at *
      obtain ⟨kk, ff, tt⟩ := x1
      obtain ⟨kk2, ff2, tt2⟩ := x2
      simp only [] at m1 t1 t2 d0 d1 d2 e0 e1 e2 HAT1 HAT2
      subst m1
      have CT1 := Lib.hid (fun W => ref_Text08 s kk ff tt (fun _ => t1) W)
      have CT2 := Lib.hid (fun W => ref_Text08 u kk ff2 tt2 (fun _ => t2) W)
      rw [← m2] at CT2
      generalize txt s (kk, ff, tt) = T at *
      clear m2 t1 t2
      have hk0 : (0 : Int) ≤ k := by omega
      have hkc : (k : Int) < cap1 := by omega
      have hkc2 : (k : Int) < cap2 := by omega
      have hkl2 : (k : Int) < B.length := by omega
      have hwk : IntKind.i64.wrap ((k : Int) + 1) = ((k + 1 : Nat) : Int) := by rw [IntKind.wrap_i64]; omega
      have HI : RowKit.Hid (k + 1 ≤ A.length) := Lib.hid hlt
      have HBd := Lib.hid HB.out.drew
      have HS : RowKit.Hid (∀ W', Below w.heap.size w W' → (W'.cell? { block := b1, off := k * 3 } = some (Value.int IntKind.u8 kk) ∧ W'.cell? { block := b1, off := k * 3 + 1 } = some (Value.int IntKind.i64 (ff : Int)) ∧ W'.cell? { block := b1, off := k * 3 + 2 } = some (Value.int IntKind.i64 (tt : Int)) ∧ W'.cell? { block := b2, off := k * 3 } = some (Value.int IntKind.u8 kk) ∧ W'.cell? { block := b2, off := k * 3 + 1 } = some (Value.int IntKind.i64 (ff2 : Int)) ∧ W'.cell? { block := b2, off := k * 3 + 2 } = some (Value.int IntKind.i64 (tt2 : Int)) ∧ RowKit.Hid (Below w.heap.size w W'))) := Lib.hid fun W' g1 => by
        obtain ⟨b1', hbb, _, _, x0, x1, x2⟩ := HAT1.out W' g1
        obtain ⟨b2', hbb2, _, _, y0, y1, y2⟩ := HAT2.out W' g1
        simp only [Option.some.injEq, Addr.mk.injEq, and_true] at hbb hbb2
        subst hbb; subst hbb2
        exact ⟨x0, x1, x2, y0, y1, y2, Lib.hid g1⟩
      go_wp2_with fail
      go_region_held3 (fun W' => W'.cell? { block := b1, off := k * 3 } = some (Value.int IntKind.u8 kk) ∧ W'.cell? { block := b1, off := k * 3 + 1 } = some (Value.int IntKind.i64 (ff : Int)) ∧ W'.cell? { block := b1, off := k * 3 + 2 } = some (Value.int IntKind.i64 (tt : Int)) ∧ W'.cell? { block := b2, off := k * 3 } = some (Value.int IntKind.u8 kk) ∧ W'.cell? { block := b2, off := k * 3 + 1 } = some (Value.int IntKind.i64 (ff2 : Int)) ∧ W'.cell? { block := b2, off := k * 3 + 2 } = some (Value.int IntKind.i64 (tt2 : Int)) ∧ RowKit.Hid (Below w.heap.size w W'))
        (first
          | exact HS.out _ HBd.out
          | exact HS.out _ (bthen HBd.out hbA)
          | exact HS.out _ (bthen HBd.out hbB)
          | exact HS.out _ (bthen (bthen HBd.out hbA) hbB)
          | exact HS.out _ (bthen (bthen HBd.out hbB) hbA))
        (first
          | (go_at_call_of 22 (Value.string s); refine (CT1.out _).mono ?_; rintro e wA ⟨rfl, hbA⟩; (try dsimp only))
          | (go_at_call_of 22 (Value.string u); refine (CT2.out _).mono ?_; rintro e wB ⟨rfl, hbB⟩; (try dsimp only)))
      all_goals
        rename_i hH
        obtain ⟨_, _, _, _, _, _, HBE⟩ := hH
        go_wp2_with fail
        refine ⟨?_, (by simp [intOf]; try omega)⟩
        have HR : RowKit.Hid (alRel w A (.int .i64 (k + 1 : Nat)) _) := Lib.hid ⟨k + 1, rfl, HI.out, HBE.out⟩
        first
          | exact HR.out
          | (repeat apply Exists.intro
             refine ⟨?_, rfl⟩
             exact HR.out)
    · have hlt' : ¬ (k : Int) < A.length := by omega
      go_wp2_with fail
      show Q (.returned (.bool true)) _
      exact HQ.out _ HB.out
end Go.Proofs.YtcnkcnalabjhgaaDoor
