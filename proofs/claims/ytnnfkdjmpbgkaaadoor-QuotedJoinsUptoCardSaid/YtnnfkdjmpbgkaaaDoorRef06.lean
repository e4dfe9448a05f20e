/- Layer 6: the reference's number, small, escape and item, walked. -/
import Derived.Test.YtnnfkdjmpbgkaaaDoorQuotedP
import Derived.Test.YtnnfkdjmpbgkaaaDoorRefBase
import Derived.Test.YtnnfkdjmpbgkaaaDoorStill
import Derived.Laws.Strings3
import Derived.Laws.DeepStrings4
namespace Go.Proofs.YtnnfkdjmpbgkaaaDoor
set_option linter.all false
open Go.RowKit
attribute [local irreducible] wpStill

theorem num_short (s : ByteArray) (b : Int) (hb : 0 < b) (i c : Nat) (hi : i ≤ s.size) (h : s.size < i + c) : num s b i c 0 = none := by
  cases hn : num s b i c 0 with
  | none => rfl
  | some m =>
    have := num_range s b hb c i 0 m (by omega) hn
    omega
theorem num_step (s : ByteArray) (bs : Int) (i c : Nat) (n : Int) (h : i < s.size) : num s bs i (c + 1) n = if 0 ≤ base (bt s i) ∧ base (bt s i) < bs then num s bs (i + 1) c (n * bs + base (bt s i)) else none := by
  rw [num]
  by_cases h1 : 0 ≤ base (bt s i) ∧ base (bt s i) < bs
  · rw [if_pos ⟨h, h1⟩, if_pos h1]
  · rw [if_neg (fun hh => h1 hh.2), if_neg h1]
/-- A number, or -1. -/
def numZ (o : Option Int) : Int := o.getD (-1)
set_option maxRecDepth 100000 in
set_option maxHeartbeats 4000000 in
theorem ref_number (s : ByteArray) (i count : Nat) (bs : Int) (hbs : bs = 8 ∨ bs = 16) (hcnt : count ≤ 8) (hi : i ≤ s.size) (hs : s.size ≤ 140737488351232) (w : World) :
    Calls Tryd.prog 42 #[.string s, .int .i64 i, .int .i64 count, .int .i64 bs] w fun e w' => e = .returned (.int .i64 (numZ (num s bs i count 0))) ∧ w = w' := by
  have HQ : RowKit.Hid (∀ v, v = numZ (num s bs i count 0) → (fun (e : Ending) w' => e = .returned (.int .i64 (numZ (num s bs i count 0))) ∧ w = w') (.returned (.int .i64 v)) w) := Lib.hid fun v hv => by subst hv; exact ⟨rfl, rfl⟩
  have HS := Lib.hid (num_short s bs (by omega) i count hi)
  generalize (fun (e : Ending) w' => e = .returned (.int .i64 (numZ (num s bs i count 0))) ∧ w = w') = Q at *
  have hw0 : IntKind.i64.wrap ((s.size : Int) - i) = (s.size : Int) - i := by rw [IntKind.wrap_i64]; omega
  by_cases hsh : s.size < i + count
  · have hsh' : (s.size : Int) - i < count := by omega
    have hz := HS.out hsh
    have HZ := Lib.hid hz
    clear hz HS
    go_enter Tryd.func42, Tryd.ntmps42
    go_wp2_with fail
    show Q (.returned (.int .i64 _)) _
    exact HQ.out _ (by rw [HZ.out]; rfl)
  · have hsh' : (count : Int) ≤ (s.size : Int) - i := by omega
    clear HS
    have HB := Lib.hid ref_Base
    go_enter Tryd.func42, Tryd.ntmps42
    go_wp2_with fail
    go_loopw [9, 10] (fun n k wr => ∃ (kk : Nat) (nn : Int), kk ≤ count ∧ n = .int .i64 nn ∧ k = .int .i64 kk ∧ 0 ≤ nn ∧ nn < 16 ^ kk ∧ num s bs i count 0 = num s bs (i + kk) (count - kk) nn ∧ wr = w) (fun _ k _ => count - (intOf k).toNat)
    case atStart => exact ⟨0, 0, Nat.zero_le _, rfl, rfl, by omega, by omega, rfl, rfl⟩
    case round =>
      obtain ⟨k, n, hk, rfl, rfl, hn0, hn1, hnum, rfl⟩ := hrel
      have HN := Lib.hid hnum
      clear hnum
      by_cases hlt : k < count
      · have hkl : (k : Int) < count := by omega
        have hp : i + k < s.size := by omega
        have hp1 : (i : Int) + k < s.size := by omega
        have hp0 : (0 : Int) ≤ (i : Int) + k := by omega
        have hwp : IntKind.i64.wrap ((i : Int) + k) = (i : Int) + k := by rw [IntKind.wrap_i64]; omega
        have hpn : ((i : Int) + k).toNat = i + k := by omega
        have hbt := bt_at s (i + k) hp
        have hbl := bt_lt s (i + k)
        have HST := Lib.hid (num_step s bs (i + k) (count - k - 1) n hp)
        have hrange := base_range (bt s (i + k))
        have C := fun w => ref_Base (bt s (i + k)) w
        have hw8 : IntKind.i64.wrap (bt s (i + k) : Int) = (bt s (i + k) : Int) := by rw [IntKind.wrap_i64]; omega
        have hxx : ∀ h, ((s[i + k]'h).toNat : Int) = (bt s (i + k) : Int) := fun h => by rw [bt_at s (i + k) h]
        generalize hx : base (bt s (i + k)) = x at *
        generalize bt s (i + k) = c at *
        have HX := Lib.hid hx
        have HC := Lib.hid C
        clear hx C
        go_wp2_with fail
        refine (HC.out _).mono ?_; rintro e w' ⟨rfl, rfl⟩
        by_cases g0 : x < 0
        · go_wp2_with fail
          show Q (.returned (.int .i64 _)) _
          refine HQ.out _ ?_
          rw [HN.out, show count - k = count - k - 1 + 1 by omega, HST.out, if_neg (by omega)]; rfl
        · by_cases g1 : bs ≤ x
          · go_wp2_with fail
            show Q (.returned (.int .i64 _)) _
            refine HQ.out _ ?_
            rw [HN.out, show count - k = count - k - 1 + 1 by omega, HST.out, if_neg (by omega)]; rfl
          · have hpow : (16 : Int) ^ k ≤ 16 ^ 7 := by
              have : 16 ^ k ≤ 16 ^ 7 := Nat.pow_le_pow_right (by omega) (by omega)
              exact_mod_cast this
            have hpow1 : (16 : Int) ^ (k + 1) = 16 ^ k * 16 := Int.pow_succ _ _
            have hm1 : 0 ≤ n * bs ∧ n * bs ≤ n * 16 := by rcases hbs with rfl | rfl <;> omega
            have hm2 : n * bs + x < 16 ^ (k + 1) := by omega
            have hw1 : IntKind.i64.wrap (n * bs) = n * bs := by rw [IntKind.wrap_i64]; omega
            have hw2 : IntKind.i64.wrap (n * bs + x) = n * bs + x := by rw [IntKind.wrap_i64]; omega
            have hm3 : 0 ≤ n * bs + x := by omega
            have hgood : num s bs i count 0 = num s bs (i + (k + 1)) (count - (k + 1)) (n * bs + x) := by
              rw [HN.out, show count - k = count - k - 1 + 1 by omega, HST.out, if_pos (by omega)]
              congr 1
            have HGood := Lib.hid hgood
            clear hgood HST HN
            generalize hmul : n * bs = m at *
            go_wp2_with fail
            refine ⟨?_, (by simp [intOf]; try omega)⟩
            exact ⟨k + 1, m + x, by omega, by go_num, by go_num, hm3, hm2, HGood.out, by simp⟩
      · have hkl : (count : Int) ≤ k := by omega
        obtain rfl : k = count := by omega
        go_wp2_with fail
        show Q (.returned (.int .i64 _)) _
        refine HQ.out _ ?_
        rw [HN.out, Nat.sub_self, num]; rfl
theorem ref_small (n : Int) (hn : 0 ≤ n ∧ n < 256) (mark : Nat) (hm : mark = 34 ∨ mark = 39) (w : World) :
    Calls Tryd.prog 43 #[.int .i64 n, .int .u8 mark] w fun e w' => e = .returned (.string (strOfNums (small n mark))) ∧ Below w.heap.size w w' := by
  rcases hm with rfl | rfl
  · have h1 : small n 34 = [n] := by unfold small; rw [if_pos rfl]
    have HS := Lib.hid h1
    have hw : IntKind.u8.wrap n = n := by unfold IntKind.wrap; simp [IntKind.signed, IntKind.bits]; omega
    have c1 := conv_lit w _ [n] 1 1 rfl rfl
    simp only [List.map_cons, List.map_nil] at c1
    clear h1
    go_enter Tryd.func43, Tryd.ntmps43
    go_wp2_with fail
    go_ret
    exact ⟨ret_str (by rw [HS.out]), (Below.refl _ _).alloc (Nat.le_refl _) _⟩
  · have h1 : form n = strOfNums (small n 39) := by unfold form small; rw [if_neg (by omega)]
    have HS := Lib.hid h1
    have CF := Lib.hid (ref_Form n)
    clear h1
    go_enter Tryd.func43, Tryd.ntmps43
    go_wp2_with fail
    refine (CF.out _).mono ?_; rintro e w' ⟨rfl, hb⟩
    go_wp2_with fail
    go_ret
    exact ⟨ret_str HS.out, hb⟩
end Go.Proofs.YtnnfkdjmpbgkaaaDoor
