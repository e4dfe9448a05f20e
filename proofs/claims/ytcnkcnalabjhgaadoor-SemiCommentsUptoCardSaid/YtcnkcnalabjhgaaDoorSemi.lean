/- Layer 8: the program's functions, walked: Ends, and the two closures of Of. -/
import Derived.Test.YtcnkcnalabjhgaaDoorScan7
import Derived.Test.YtcnkcnalabjhgaaDoorSemiP
namespace Go.Proofs.YtcnkcnalabjhgaaDoor
set_option linter.all false
open Go.RowKit

set_option maxRecDepth 100000 in
set_option maxHeartbeats 2000000 in
theorem semi_Ends (k : Int) (hk : 0 ≤ k ∧ k < 256) (t : ByteArray) (w : World) :
    Calls Tryd.prog 17 #[.int .u8 k, .string t] w fun e w' => e = .returned (.bool (endsK k t)) ∧ w = w' := by
  have HQ : RowKit.Hid (∀ b, endsK k t = b → (fun (e : Ending) w' => e = .returned (.bool (endsK k t)) ∧ w = w') (.returned (.bool b)) w) := Lib.hid fun b h => ⟨by rw [h], rfl⟩
  have HV : RowKit.Hid (endsK k t = if k = 1 ∨ (3 ≤ k ∧ k ≤ 7) then true else if k = 2 then endWords.any fun w => t.toList == w else if k = 8 then endSigns.any fun w => t.toList == w else false) := Lib.hid (by unfold endsK; rfl)
  generalize (fun (e : Ending) w' => e = .returned (.bool (endsK k t)) ∧ w = w') = Q at *
  have hcs : k = 1 ∨ k = 3 ∨ k = 4 ∨ k = 5 ∨ k = 6 ∨ k = 7 ∨ k = 2 ∨ k = 8 ∨ (k ≠ 1 ∧ k ≠ 2 ∧ k ≠ 3 ∧ k ≠ 4 ∧ k ≠ 5 ∧ k ≠ 6 ∧ k ≠ 7 ∧ k ≠ 8) := by omega
  rcases hcs with rfl | rfl | rfl | rfl | rfl | rfl | rfl | rfl | ⟨n1, n2, n3, n4, n5, n6, n7, n8⟩
  · go_enter Tryd.func17, Tryd.ntmps17
    go_wp2_with fail
    exact HQ.out _ (by rw [HV.out]; rfl)
  · go_enter Tryd.func17, Tryd.ntmps17
    go_wp2_with fail
    exact HQ.out _ (by rw [HV.out]; rfl)
  · go_enter Tryd.func17, Tryd.ntmps17
    go_wp2_with fail
    exact HQ.out _ (by rw [HV.out]; rfl)
  · go_enter Tryd.func17, Tryd.ntmps17
    go_wp2_with fail
    exact HQ.out _ (by rw [HV.out]; rfl)
  · go_enter Tryd.func17, Tryd.ntmps17
    go_wp2_with fail
    exact HQ.out _ (by rw [HV.out]; rfl)
  · go_enter Tryd.func17, Tryd.ntmps17
    go_wp2_with fail
    exact HQ.out _ (by rw [HV.out]; rfl)
  · have HV2 : RowKit.Hid (endsK 2 t = endWords.any fun w => t.toList == w) := Lib.hid (by rw [HV.out]; rfl)
    clear HV
    go_enter Tryd.func17, Tryd.ntmps17
    go_wp2_with fail
    all_goals (
      refine HQ.out _ ?_
      rw [HV2.out]
      unfold endWords
      clear HQ HV2
      first
        | (simp only [List.any_cons, List.any_nil, *, Bool.true_or, Bool.or_true, Bool.or_false, Bool.false_or]; done)
        | (simp_all [Bool.or_assoc]; done))
  · have HV2 : RowKit.Hid (endsK 8 t = endSigns.any fun w => t.toList == w) := Lib.hid (by rw [HV.out]; rfl)
    clear HV
    go_enter Tryd.func17, Tryd.ntmps17
    go_wp2_with fail
    all_goals (
      refine HQ.out _ ?_
      rw [HV2.out]
      unfold endSigns
      clear HQ HV2
      first
        | (simp only [List.any_cons, List.any_nil, *, Bool.true_or, Bool.or_true, Bool.or_false, Bool.false_or]; done)
        | (simp_all [Bool.or_assoc]; done))
  · have HV2 : RowKit.Hid (endsK k t = false) := Lib.hid (by rw [HV.out, if_neg (by omega), if_neg n2, if_neg n8])
    have m : ∀ c : Int, k ≠ c → (k == c) = false := fun c h => by rw [beq_eq_false_iff_ne]; exact h
    have m1 := m 1 n1; have m2 := m 2 n2; have m3 := m 3 n3; have m4 := m 4 n4; have m5 := m 5 n5; have m6 := m 6 n6; have m7 := m 7 n7; have m8 := m 8 n8
    clear HV m
    go_enter Tryd.func17, Tryd.ntmps17
    go_wp2_with fail
    exact HQ.out _ HV2.out
set_option maxRecDepth 100000 in
set_option maxHeartbeats 2000000 in
theorem semi_silent (k f t : Int) (w : World) :
    Calls Tryd.prog 27 #[.agg #[.int .u8 k, .int .i64 f, .int .i64 t]] w fun e w' => e = .returned (.bool (silentK k)) ∧ Below w.heap.size w w' := by
  have HQ : RowKit.Hid (∀ b w', silentK k = b → Below w.heap.size w w' → (fun (e : Ending) w' => e = .returned (.bool (silentK k)) ∧ Below w.heap.size w w') (.returned (.bool b)) w') := Lib.hid fun b w' h h2 => ⟨by rw [h], h2⟩
  generalize (fun (e : Ending) w' => e = .returned (.bool (silentK k)) ∧ Below w.heap.size w w') = Q at *
  have HB := Lib.hid ((Below.refl w.heap.size w).alloc (Nat.le_refl _) (.cells #[.int .u8 k, .int .i64 f, .int .i64 t] 32))
  have hcs : k = 10 ∨ k = 11 ∨ k = 12 ∨ (k ≠ 10 ∧ k ≠ 11 ∧ k ≠ 12) := by omega
  rcases hcs with rfl | rfl | rfl | ⟨n1, n2, n3⟩
  · go_enter Tryd.func27, Tryd.ntmps27
    go_wp2_with fail
    exact HQ.out _ _ rfl HB.out
  · go_enter Tryd.func27, Tryd.ntmps27
    go_wp2_with fail
    exact HQ.out _ _ rfl HB.out
  · go_enter Tryd.func27, Tryd.ntmps27
    go_wp2_with fail
    exact HQ.out _ _ rfl HB.out
  · have m : ∀ c : Int, k ≠ c → (k == c) = false := fun c h => by rw [beq_eq_false_iff_ne]; exact h
    have m1 := m 10 n1; have m2 := m 11 n2; have m3 := m 12 n3
    have HV : RowKit.Hid (silentK k = false) := Lib.hid (by unfold silentK; simp [n1, n2, n3])
    clear m n1 n2 n3
    go_enter Tryd.func27, Tryd.ntmps27
    go_wp2_with fail
    exact HQ.out _ _ HV.out HB.out
def endV : Option Nat → Int
  | some e => e
  | none => -1
/-- What a world holds of Of's two captured variables: the tokens so far (block g), where a line may end (block g + 1); the tokens' row lies behind. -/
structure SW (W : World) (g : Nat) (l : List Tok) (en : Option Nat) : Prop where
  out : ∃ v, W.heap[g]? = some (.cells #[v] 25 (0, 0)) ∧ W.ownsRow (g + 1 + 1) 32 3 v l.length (toksV l)
  ends : W.heap[g + 1]? = some (.cells #[.int .i64 (endV en)] 3 (0, 0))
theorem SW.keep {W W' : World} {g : Nat} {l : List Tok} {en : Option Nat} (h : SW W g l en) (hb : Below W.heap.size W W') : SW W' g l en := by
  obtain ⟨⟨v, h1, h2⟩, h3⟩ := h
  exact ⟨⟨v, keeps hb h1, owns_below h2 hb⟩, keeps hb h3⟩
theorem SW.setEnds {W : World} {g : Nat} {l : List Tok} {en : Option Nat} (h : SW W g l en) (en' : Option Nat) : SW (W.setCell ⟨g + 1, 0, none⟩ (.int .i64 (endV en'))) g l en' := by
  obtain ⟨⟨v, h1, h2⟩, h3⟩ := h
  refine ⟨⟨v, by rw [heap_setCell_other _ _ _ _ (by show g ≠ g + 1; omega)]; exact h1, ownsRow_setCell_other h2 (a := ⟨g + 1, 0, none⟩) (owns_not h2 (Or.inl (by show g + 1 < g + 1 + 1; omega))) _⟩, one_setCell h3⟩
/-- Behind an append to the tokens, whose value is then stored. -/
theorem SW.grew {W W1 W' : World} {g : Nat} {l : List Tok} {en : Option Nat} {v v' : Value} {t : Tok} (h : SW W g l en) (hc : W.heap[g]? = some (.cells #[v] 25 (0, 0))) (hb : Below W.heap.size W W1) (hg : W1.grownBy W' v.ownBlock)
    (ho : W'.ownsRow (g + 1 + 1) 32 3 v' (l.length + 1) (toksV l ++ tokV t)) : SW (W'.setCell ⟨g, 0, none⟩ v') g (l ++ [t]) en := by
  obtain ⟨⟨v0, h1, h2⟩, h3⟩ := h
  obtain rfl : v0 = v := by rw [h1] at hc; cases hc; rfl
  have hlt := lt_of_block h3
  have hsz := hb.size
  have n1 := owns_not h2 (g := g) (Or.inl (by omega))
  have n2 := owns_not h2 (g := g + 1) (Or.inl (by omega))
  have k1 : W'.heap[g]? = some (.cells #[v0] 25 (0, 0)) := by rw [hg.block g (by omega) (fun e => n1 e.symm), hb.block g (by omega)]; exact h1
  have k2 : W'.heap[g + 1]? = some (.cells #[.int .i64 (endV en)] 3 (0, 0)) := by rw [hg.block (g + 1) (by omega) (fun e => n2 e.symm), hb.block (g + 1) (by omega)]; exact h3
  refine ⟨⟨v', one_setCell k1, ?_⟩, ?_⟩
  · rw [List.length_append, toksV_snoc]
    exact ownsRow_setCell_other ho (a := ⟨g, 0, none⟩) (owns_not ho (Or.inl (by show g < g + 1 + 1; omega))) _
  · rw [heap_setCell_other _ _ _ _ (by show g + 1 ≠ g; omega)]; exact k2
/-- What flush leaves. -/
@[irreducible] def flushPost (g B : Nat) (w : World) (q : List Tok × Option Nat) (e : Ending) (w' : World) : Prop := e = .returned (.tuple #[]) ∧ SW w' g (flushZ q).1 (flushZ q).2 ∧ Below B w w'
set_option maxRecDepth 100000 in
set_option maxHeartbeats 2000000 in
theorem semi_flush (g B : Nat) (l : List Tok) (en : Option Nat) (hl : l.length ≤ 200000) (w : World) (hS : SW w g l en) (hB : B ≤ g) :
    Calls Tryd.prog 28 #[.pointer (some ⟨g + 1, 0, none⟩), .pointer (some ⟨g, 0, none⟩)] w (flushPost g B w (l, en)) := by
  have HQ : RowKit.Hid (∀ w' l' en', flushZ (l, en) = (l', en') → SW w' g l' en' → Below B w w' → flushPost g B w (l, en) (.returned (.tuple #[])) w') := Lib.hid fun w' l' en' h1 h2 h3 => by
    unfold flushPost; rw [h1]; exact ⟨rfl, h2, h3⟩
  generalize flushPost g B w (l, en) = Q at *
  have HS := Lib.hid hS
  obtain ⟨⟨v, h1, h2⟩, h3⟩ := hS
  have hlt := lt_of_block h3
  cases en with
  | none =>
    have c8 : w.cell? ⟨g + 1, 0, none⟩ = some (.int .i64 (-1)) := cell_of_one h3
    have z8 := free_of_one h3
    have HF : RowKit.Hid (flushZ (l, none) = (l, none)) := Lib.hid rfl
    have HS2 : RowKit.Hid (SW (w.setCell ⟨g + 1, 0, none⟩ (.int .i64 (-1))) g l none) := Lib.hid (HS.out.setEnds none)
    have HB2 := Lib.hid ((Below.refl B w).setCell (p := ⟨g + 1, 0, none⟩) (by show B ≤ g + 1; omega) (.int .i64 (-1)))
    clear h1 h2 h3
    go_enter Tryd.func28, Tryd.ntmps28
    go_wp2_with fail
    refine bodyPost_end (results_none rfl _ _ _) rfl ?_
    exact HQ.out _ _ _ HF.out HS2.out HB2.out
  | some e =>
    have c8 : w.cell? ⟨g + 1, 0, none⟩ = some (.int .i64 (e : Int)) := cell_of_one h3
    have z8 := free_of_one h3
    have c7 := cell_of_one h1
    have z7 := free_of_one h1
    have H1 := Lib.hid h1
    have HO := Lib.hid h2
    have HF : RowKit.Hid (flushZ (l, some e) = (l ++ [(9, e, e)], none)) := Lib.hid rfl
    obtain ⟨va, vm, vc, rfl⟩ := owns_slice HO.out
    have he0 : (0 : Int) ≤ e := by omega
    have hbase : g + 1 + 1 ≤ w.heap.size := by omega
    clear h1 h2 h3
    go_enter Tryd.func28, Tryd.ntmps28
    go_wp2_with (at_builtin; refine wpList_append_lit w #[.int .u8 9, .int .i64 (e : Int), .int .i64 (e : Int)] _ rfl _ _ 25 32 rfl Tryd.underlying25 (g + 1 + 1) info_tok rfl (by decide) _ _ _ rfl HO.out 1 1 rfl rfl (by decide) (by intro u hu; simp at hu; rcases hu with rfl | rfl | rfl <;> rfl) (by omega) (by omega) hbase ?_)
    intro v' w' hown hgr _
    obtain ⟨va', vm', vc', rfl⟩ := owns_slice hown
    have HS2 := Lib.hid (HS.out.grew (t := (9, e, e)) H1.out ((Below.refl _ _).alloc (Nat.le_refl _) _) hgr hown)
    have HS3 : RowKit.Hid (SW ((w'.setCell ⟨g, 0, none⟩ (.slice va' vm' vc')).setCell ⟨g + 1, 0, none⟩ (.int .i64 (-1))) g (l ++ [(9, e, e)]) none) := Lib.hid (HS2.out.setEnds none)
    have hb4 : Below B w w' := grown_below (B := B) (Below.refl B w) (by omega) (owns_mono HO.out (by omega)) hgr
    have HB4 := Lib.hid ((hb4.setCell (p := ⟨g, 0, none⟩) (by show B ≤ g; omega) (.slice va' vm' vc')).setCell (p := ⟨g + 1, 0, none⟩) (by show B ≤ g + 1; omega) (.int .i64 (-1)))
    obtain ⟨x2, k7, _⟩ := HS2.out.out
    have zz7 : w'.frozen? ⟨g, 0, none⟩ = false ∧ (w'.setCell ⟨g, 0, none⟩ (.slice va' vm' vc')).frozen? ⟨g + 1, 0, none⟩ = false ∧ w'.cell? ⟨g, 0, none⟩ = some (.slice va vm vc) ∧ (w'.setCell ⟨g, 0, none⟩ (.slice va' vm' vc')).cell? ⟨g + 1, 0, none⟩ = some (.int .i64 (e : Int)) := by
      have n1 := owns_not HO.out (g := g) (Or.inl (by omega))
      have k1 : w'.heap[g]? = some (.cells #[.slice va vm vc] 25 (0, 0)) := by
        rw [hgr.block g (by simp; omega) (fun e => n1 e.symm), Below.heap_alloc _ _ _ (by omega)]; exact H1.out
      exact ⟨free_of_one k1, free_of_one HS2.out.ends, cell_of_one k1, cell_of_one HS2.out.ends⟩
    obtain ⟨y1, y2, y3, y4⟩ := zz7
    clear hown hgr hb4 k7
    go_wp2_with fail
    refine bodyPost_end (results_none rfl _ _ _) rfl ?_
    exact HQ.out _ _ _ HF.out HS3.out HB4.out
end Go.Proofs.YtcnkcnalabjhgaaDoor
