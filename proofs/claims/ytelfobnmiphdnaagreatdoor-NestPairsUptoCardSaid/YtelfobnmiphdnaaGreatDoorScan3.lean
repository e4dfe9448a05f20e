/- Layer 7: the program's functions, walked: sign. -/
import Derived.Test.YtelfobnmiphdnaaGreatDoorScan2
namespace Go.Proofs.YtelfobnmiphdnaaGreatDoor
set_option linter.all false
open Go.RowKit

def allSigns : List (List UInt8) := [[60, 60, 61], [62, 62, 61], [38, 94, 61], [46, 46, 46],
  [60, 60], [62, 62], [38, 94], [43, 61], [45, 61], [42, 61], [47, 61], [37, 61], [38, 61], [124, 61], [94, 61], [38, 38], [124, 124], [60, 45], [43, 43], [45, 45], [61, 61], [33, 61], [60, 61], [62, 61], [58, 61],
  [43], [45], [42], [47], [37], [38], [124], [94], [60], [62], [61], [33], [126], [40], [41], [91], [93], [123], [125], [44], [46], [58]]
def isSign (x : ByteArray) : Bool := allSigns.any fun w => x.toList == w
theorem nat_u8_inj : ∀ l m : List UInt8, l.map (fun b => b.toNat) = m.map (fun b => b.toNat) → l = m
  | [], [], _ => rfl
  | [], _ :: _, h => by cases h
  | _ :: _, [], h => by cases h
  | a :: l, b :: m, h => by
    simp only [List.map_cons, List.cons.injEq] at h
    rw [UInt8.toNat_inj.1 h.1, nat_u8_inj l m h.2]
theorem isSign_iff (x : ByteArray) : isSign x = true ↔ byts x ∈ (allSigns.map fun l => l.map fun b => b.toNat) := by
  unfold isSign
  rw [List.any_eq_true, List.mem_map]
  constructor
  · rintro ⟨l, hl, h⟩
    refine ⟨l, hl, ?_⟩
    rw [beq_iff_eq, ByteArray.toList_eq] at h
    unfold byts; rw [h]
  · rintro ⟨l, hl, h⟩
    refine ⟨l, hl, ?_⟩
    rw [beq_iff_eq, ByteArray.toList_eq]
    exact (nat_u8_inj _ _ h).symm
theorem signs_parts : (allSigns.map fun l => l.map fun b => b.toNat) = signs3 ++ signs2 ++ signs1 := by decide +kernel
theorem signs_len : (∀ l ∈ signs3, l.length = 3) ∧ (∀ l ∈ signs2, l.length = 2) ∧ (∀ l ∈ signs1, l.length = 1) := by decide +kernel
theorem isSign_len (x : ByteArray) : isSign x = true ↔ (byts x ∈ signs3 ∨ byts x ∈ signs2 ∨ byts x ∈ signs1) := by
  rw [isSign_iff, signs_parts, List.mem_append, List.mem_append, or_assoc]
theorem byts_take (s : ByteArray) (n : Nat) : byts (s.extract 0 n) = (byts s).take n := by
  unfold byts
  rw [extract_data, List.drop_zero, Nat.sub_zero, List.map_take]
/-- What the program's loop finds is the length of the longest sign. -/
theorem signL_of (s : ByteArray) (n : Nat) (hn : n ≤ min 3 s.size) (h1 : ∀ m, n < m → m ≤ min 3 s.size → isSign (s.extract 0 m) = false) (h2 : n ≠ 0 → isSign (s.extract 0 n) = true) : signL (byts s) = n := by
  obtain ⟨l3, l2, l1⟩ := signs_len
  have hlen : ∀ k, ((byts s).take k).length = min k s.size := fun k => by rw [List.length_take, byts_length]
  have g : ∀ k, isSign (s.extract 0 k) = true ↔ ((byts s).take k ∈ signs3 ∨ (byts s).take k ∈ signs2 ∨ (byts s).take k ∈ signs1) := fun k => by rw [isSign_len, byts_take]
  have k3 : signs3.contains ((byts s).take 3) = true → 3 ≤ s.size ∧ isSign (s.extract 0 3) = true := fun h => by
    have h := List.contains_iff_mem.1 h
    have := l3 _ h
    rw [hlen] at this
    exact ⟨by omega, (g 3).2 (Or.inl h)⟩
  have k2 : signs2.contains ((byts s).take 2) = true → 2 ≤ s.size ∧ isSign (s.extract 0 2) = true := fun h => by
    have h := List.contains_iff_mem.1 h
    have := l2 _ h
    rw [hlen] at this
    exact ⟨by omega, (g 2).2 (Or.inr (Or.inl h))⟩
  have k1 : signs1.contains ((byts s).take 1) = true → 1 ≤ s.size ∧ isSign (s.extract 0 1) = true := fun h => by
    have h := List.contains_iff_mem.1 h
    have := l1 _ h
    rw [hlen] at this
    exact ⟨by omega, (g 1).2 (Or.inr (Or.inr h))⟩
  have back : n ≠ 0 → (n = 3 ∧ signs3.contains ((byts s).take 3) = true) ∨ (n = 2 ∧ signs2.contains ((byts s).take 2) = true) ∨ (n = 1 ∧ signs1.contains ((byts s).take 1) = true) := fun h0 => by
    have h := (g n).1 (h2 h0)
    have hl := hlen n
    rcases h with h | h | h
    · have := l3 _ h
      obtain rfl : n = 3 := by omega
      exact Or.inl ⟨rfl, List.contains_iff_mem.2 h⟩
    · have := l2 _ h
      obtain rfl : n = 2 := by omega
      exact Or.inr (Or.inl ⟨rfl, List.contains_iff_mem.2 h⟩)
    · have := l1 _ h
      obtain rfl : n = 1 := by omega
      exact Or.inr (Or.inr ⟨rfl, List.contains_iff_mem.2 h⟩)
  have no : ∀ k, n < k → k ≤ 3 → (k ≤ s.size ∧ isSign (s.extract 0 k) = true) → False := fun k hk hk3 h => by
    have := h1 k hk (by omega)
    rw [h.2] at this; cases this
  unfold signL
  by_cases c3 : signs3.contains ((byts s).take 3) = true
  · rw [if_pos c3]
    rcases Nat.lt_or_ge n 3 with h | h
    · exact (no 3 h (Nat.le_refl _) (k3 c3)).elim
    · omega
  · rw [if_neg c3]
    by_cases c2 : signs2.contains ((byts s).take 2) = true
    · rw [if_pos c2]
      rcases Nat.lt_or_ge n 2 with h | h
      · exact (no 2 h (by omega) (k2 c2)).elim
      · rcases back (by omega) with ⟨_, h'⟩ | ⟨h', _⟩ | ⟨h', _⟩
        · exact absurd h' c3
        · omega
        · omega
    · rw [if_neg c2]
      by_cases c1 : signs1.contains ((byts s).take 1) = true
      · rw [if_pos c1]
        rcases Nat.lt_or_ge n 1 with h | h
        · exact (no 1 h (by omega) (k1 c1)).elim
        · rcases back (by omega) with ⟨_, h'⟩ | ⟨_, h'⟩ | ⟨h', _⟩
          · exact absurd h' c3
          · exact absurd h' c2
          · omega
      · rw [if_neg c1]
        by_cases h0 : n = 0
        · exact h0.symm
        · rcases back h0 with ⟨_, h'⟩ | ⟨_, h'⟩ | ⟨_, h'⟩
          · exact absurd h' c3
          · exact absurd h' c2
          · exact absurd h' c1
set_option maxRecDepth 100000 in
set_option maxHeartbeats 8000000 in
theorem scan_sign (s : ByteArray) (hs : s.size ≤ 2147483647) (w : World) :
    Calls Tryz.prog 58 #[.string s] w fun e w' => e = .returned (.int .i64 (signL (byts s) : Nat)) ∧ w = w' := by
  have HQ : RowKit.Hid (∀ n : Nat, signL (byts s) = n → (fun (e : Ending) w' => e = .returned (.int .i64 (signL (byts s) : Nat)) ∧ w = w') (.returned (.int .i64 (n : Nat))) w) := Lib.hid fun n h => ⟨by rw [h], rfl⟩
  generalize (fun (e : Ending) w' => e = .returned (.int .i64 (signL (byts s) : Nat)) ∧ w = w') = Q at *
  have HS := Lib.hid (signL_of s)
  go_enter Tryz.func58, Tryz.ntmps58
  go_wp2_with fail
  go_step3
  go_wp2_with fail
  go_step3
  go_wp2_with fail
  go_loop [3] (fun v => ∃ n : Nat, v = .int .i64 n ∧ n ≤ min 3 s.size ∧ ∀ m, n < m → m ≤ min 3 s.size → isSign (s.extract 0 m) = false) (fun v => (intOf v).toNat)
  case atStart => exact ⟨min 3 s.size, by congr 1; omega, Nat.le_refl _, fun m h1 h2 => by omega⟩
  case round =>
    obtain ⟨n, rfl, hn, hm⟩ := hrel
    have HM := Lib.hid hm
    clear hm
    have HN := Lib.hid hn
    by_cases h0 : n = 0
    · subst h0
      have HV := Lib.hid (HS.out 0 HN.out HM.out (fun h => absurd rfl h))
      clear hn
      go_wp2_with fail
      try rw [Exit.noGoto_ret]
      show Q (.returned (.int .i64 (0 : Nat))) _
      exact HQ.out 0 HV.out
    · have hpos : (0 : Int) < n := by omega
      have hns : (n : Int) ≤ s.size := by omega
      have hsl : ∀ w, (Instr.slice 9 (.string s) none (some (.int .i64 (n : Int))) none).run Tryz.prog w = .ok (.string (s.extract 0 n)) w := fun w => by
        rw [run_slice_string_to_if _ _ s _ _ Tryz.underlying9, if_pos ⟨by omega, by omega⟩, Int.toNat_natCast]
      have HY : RowKit.Hid (isSign (s.extract 0 n) = true → signL (byts s) = n) := Lib.hid fun h => HS.out n HN.out HM.out fun _ => h
      have HNo : RowKit.Hid (isSign (s.extract 0 n) = false → ∀ m, n - 1 < m → m ≤ min 3 s.size → isSign (s.extract 0 m) = false) := Lib.hid fun h m h1 h2 => by
        by_cases e : m = n
        · rw [e]; exact h
        · exact HM.out m (by omega) h2
      have hnw : IntKind.i64.wrap ((n : Int) - 1) = ((n - 1 : Nat) : Int) := by rw [IntKind.wrap_i64]; omega
      clear hn
      generalize s.extract 0 n = x at *
      go_wp2_with fail
      all_goals first
        | (refine HQ.out n (HY.out ?_)
           unfold isSign allSigns
           clear HQ HS HM HN HY HNo hsl hnw h0 hpos hns
           simp only [List.any_cons, List.any_nil, *, Bool.true_or, Bool.or_true]
           done)
        | (refine ⟨⟨n - 1, rfl, by have := HN.out; omega, HNo.out ?_⟩, by simp [intOf]; omega⟩
           unfold isSign allSigns
           clear HQ HS HM HN HY HNo hsl hnw h0 hpos hns
           simp only [List.any_cons, List.any_nil, *, Bool.false_or, Bool.or_false]
           done)
        | (exfalso
           clear HQ HS HM HN HY HNo hsl hnw h0 hpos hns
           simp_all
           done)
end Go.Proofs.YtelfobnmiphdnaaGreatDoor
