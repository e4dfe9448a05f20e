/- Layer 8: the law's own inside, walked. -/
import Derived.Test.YtcnkcnalabjhgaaDoorLaw08
import Derived.Test.YtcnkcnalabjhgaaDoorSemiP2
namespace Go.Proofs.YtcnkcnalabjhgaaDoor
set_option linter.all false
open Go.RowKit

/-- A slice of tokens, read. -/
def TokRow (w : World) (v : Value) (l : List Tok) : Prop :=
  ∃ a cap, v = .slice a l.length cap ∧ l.length ≤ cap ∧ (0 < l.length → ∃ b, a = some ⟨b, 0, none⟩ ∧ b < w.heap.size ∧ ∀ i (hi : i < l.length), w.cell? ⟨b, i * 3, none⟩ = some (.int .u8 l[i].1) ∧ w.cell? ⟨b, i * 3 + 1, none⟩ = some (.int .i64 (l[i].2.1 : Nat)) ∧ w.cell? ⟨b, i * 3 + 2, none⟩ = some (.int .i64 (l[i].2.2 : Nat)))
theorem TokRow.of_owns {w : World} {B : Nat} {v : Value} {l : List Tok} (h : w.ownsRow B 32 3 v l.length (toksV l)) : TokRow w v l := by
  obtain ⟨_, a, cap, hv, hc, _, _⟩ := Row.of_owns h
  refine ⟨a, cap, hv, hc, fun hpos => ?_⟩
  obtain ⟨b, cap', hv', _, hbl, hcell⟩ := tok_row h hpos
  rw [hv] at hv'
  simp only [Value.slice.injEq] at hv'
  exact ⟨b, hv'.1, hbl, hcell⟩
theorem TokRow.below {w w' : World} {v : Value} {l : List Tok} (h : TokRow w v l) (hb : Below w.heap.size w w') : TokRow w' v l := by
  obtain ⟨a, cap, hv, hc, h2⟩ := h
  refine ⟨a, cap, hv, hc, fun hpos => ?_⟩
  obtain ⟨b, ha, hbl, hcell⟩ := h2 hpos
  refine ⟨b, ha, Nat.lt_of_lt_of_le hbl hb.size, fun i hi => ?_⟩
  have := hcell i hi
  exact ⟨by rw [hb.cell (p := ⟨b, i * 3, none⟩) hbl]; exact this.1, by rw [hb.cell (p := ⟨b, i * 3 + 1, none⟩) hbl]; exact this.2.1, by rw [hb.cell (p := ⟨b, i * 3 + 2, none⟩) hbl]; exact this.2.2⟩
def pAt (l : List Tok) (k : Nat) : Nat := if h : 0 < k ∧ k ≤ l.length then (l[k - 1]'(by omega)).2.2 else 0
theorem pAt_succ {l : List Tok} {k : Nat} (h : k < l.length) : pAt l (k + 1) = (l[k]).2.2 := by
  unfold pAt; rw [dif_pos ⟨by omega, by omega⟩]; rfl
theorem pAt_le {sz : Nat} {l : List Tok} (ho : inOrd sz 0 l) {k : Nat} (h : k < l.length) : pAt l k ≤ (l[k]).2.1 ∧ (l[k]).2.1 ≤ (l[k]).2.2 ∧ (l[k]).2.2 ≤ sz := by
  have := inOrd_at ho k h
  refine ⟨?_, this.2⟩
  unfold pAt
  by_cases h0 : 0 < k
  · rw [dif_pos ⟨h0, by omega⟩]; rw [dif_pos h0] at this; exact this.1
  · rw [dif_neg (fun h => h0 h.1)]; exact Nat.zero_le _
set_option maxRecDepth 100000 in
set_option maxHeartbeats 4000000 in
theorem law08_inside (s : ByteArray) (v : Value) (l : List Tok) (ho : inOrd s.size 0 l) (hs : s.size ≤ 2147483647) (hl : l.length ≤ 200000) (w : World) (hr : TokRow w v l) :
    Calls Tryd.prog 20 #[.string s, v] w fun e w' => e = .returned (.bool true) ∧ Below w.heap.size w w' := by
  have HQ : RowKit.Hid (∀ w', Below w.heap.size w w' → (fun (e : Ending) w' => e = .returned (.bool true) ∧ Below w.heap.size w w') (.returned (.bool true)) w') := Lib.hid fun w' h => ⟨rfl, h⟩
  generalize (fun (e : Ending) w' => e = .returned (.bool true) ∧ Below w.heap.size w w') = Q at *
  have HR := Lib.hid hr
  obtain ⟨a, cap, rfl, hcap, _⟩ := hr
  have HP := Lib.hid (fun k (h : k < l.length) => pAt_le ho h)
  have HPS := Lib.hid (fun k (h : k < l.length) => pAt_succ h)
  clear ho
  go_enter Tryd.func20, Tryd.ntmps20
  go_wp2_with fail
  go_loopw [5, 6] (fun p i wr => ∃ k : Nat, i = .int .i64 k ∧ k ≤ l.length ∧ p = .int .i64 (pAt l k : Nat) ∧ Below w.heap.size w wr) (fun _ i _ => l.length - (intOf i).toNat)
  case atStart => exact ⟨0, rfl, Nat.zero_le _, by unfold pAt; rfl, Below.refl _ _⟩
  case round =>
    obtain ⟨k, rfl, hk, rfl, hb⟩ := hrel
    have HB := Lib.hid hb
    clear hb
    by_cases hlt : k < l.length
    · have hlt' : (k : Int) < l.length := by omega
      obtain ⟨a', cap', hv, _, hcells⟩ := HR.out.below HB.out
      simp only [Value.slice.injEq] at hv
      obtain ⟨rfl, _, rfl⟩ := hv
      obtain ⟨b, rfl, hbl, hcell⟩ := hcells (by omega)
      have hc := hcell k hlt
      have hp := HP.out k hlt
      have hps := HPS.out k hlt
      generalize l[k] = t at *
      obtain ⟨kk, ff, tt⟩ := t
      simp only [] at hc hp hps
      obtain ⟨d0, d1, d2⟩ := hc
      have HN := Lib.hid hps
      have hkc : (k : Int) < cap := by omega
      obtain ⟨p1, p2, p3⟩ := hp
      have q1 : ¬ (ff : Int) < (pAt l k : Nat) := by omega
      have q2 : ¬ (tt : Int) < (ff : Int) := by omega
      have q3 : ¬ (s.size : Int) < (tt : Int) := by omega
      have r1 : decide (ff < pAt l k) = false := decide_eq_false (by omega)
      have r2 : decide (tt < ff) = false := decide_eq_false (by omega)
      have r3 : decide (s.size < tt) = false := decide_eq_false (by omega)
      have hk0 : (0 : Int) ≤ k := by omega
      clear hcell hps p1 p2 p3
      generalize pAt l k = pk at *
      go_wp2_with fail
      go_quiet (fail)
      have HB2 := Lib.hid (bdrewN HB.out nq)
      clear HB
      have d2 : (wr.drewN nq).cell? ⟨b, k * 3 + 2, none⟩ = some (.int .i64 (tt : Int)) := d2
      generalize wr.drewN nq = w2 at *
      have hwk : IntKind.i64.wrap ((k : Int) + 1) = ((k + 1 : Nat) : Int) := by rw [IntKind.wrap_i64]; omega
      go_wp2_with fail
      go_roundw
      case rel => exact ⟨k + 1, by go_num, hlt, by rw [HN.out], HB2.out⟩
      case measure => simp [intOf]; omega
    · have hlt' : ¬ (k : Int) < l.length := by omega
      go_wp2_with fail
      show Q (.returned (.bool true)) _
      exact HQ.out _ HB.out
end Go.Proofs.YtcnkcnalabjhgaaDoor
