/- Layer 8: the program's functions, walked: Ends, and the two closures of Of. -/
import Derived.Test.YtelfobnmiphdnaaGreatDoorScan7
import Derived.Test.YtelfobnmiphdnaaGreatDoorSemiP
import Derived.Test.YtelfobnmiphdnaaGreatDoorTokRow
namespace Go.Proofs.YtelfobnmiphdnaaGreatDoor
set_option linter.all false
open Go.RowKit

set_option maxRecDepth 100000 in
set_option maxHeartbeats 2000000 in
theorem semi_Ends (k : Int) (hk : 0 ≤ k ∧ k < 256) (t : ByteArray) (w : World) :
    Calls Tryz.prog 23 #[.int .u8 k, .string t] w fun e w' => e = .returned (.bool (endsK k t)) ∧ w = w' := by
  have HQ : RowKit.Hid (∀ b, endsK k t = b → (fun (e : Ending) w' => e = .returned (.bool (endsK k t)) ∧ w = w') (.returned (.bool b)) w) := Lib.hid fun b h => ⟨by rw [h], rfl⟩
  have HV : RowKit.Hid (endsK k t = if k = 1 ∨ (3 ≤ k ∧ k ≤ 7) then true else if k = 2 then endWords.any fun w => t.toList == w else if k = 8 then endSigns.any fun w => t.toList == w else false) := Lib.hid (by unfold endsK; rfl)
  generalize (fun (e : Ending) w' => e = .returned (.bool (endsK k t)) ∧ w = w') = Q at *
  have hcs : k = 1 ∨ k = 3 ∨ k = 4 ∨ k = 5 ∨ k = 6 ∨ k = 7 ∨ k = 2 ∨ k = 8 ∨ (k ≠ 1 ∧ k ≠ 2 ∧ k ≠ 3 ∧ k ≠ 4 ∧ k ≠ 5 ∧ k ≠ 6 ∧ k ≠ 7 ∧ k ≠ 8) := by omega
  rcases hcs with rfl | rfl | rfl | rfl | rfl | rfl | rfl | rfl | ⟨n1, n2, n3, n4, n5, n6, n7, n8⟩
  · go_enter Tryz.func23, Tryz.ntmps23
    go_wp2_with fail
    exact HQ.out _ (by rw [HV.out]; rfl)
  · go_enter Tryz.func23, Tryz.ntmps23
    go_wp2_with fail
    exact HQ.out _ (by rw [HV.out]; rfl)
  · go_enter Tryz.func23, Tryz.ntmps23
    go_wp2_with fail
    exact HQ.out _ (by rw [HV.out]; rfl)
  · go_enter Tryz.func23, Tryz.ntmps23
    go_wp2_with fail
    exact HQ.out _ (by rw [HV.out]; rfl)
  · go_enter Tryz.func23, Tryz.ntmps23
    go_wp2_with fail
    exact HQ.out _ (by rw [HV.out]; rfl)
  · go_enter Tryz.func23, Tryz.ntmps23
    go_wp2_with fail
    exact HQ.out _ (by rw [HV.out]; rfl)
  · have HV2 : RowKit.Hid (endsK 2 t = endWords.any fun w => t.toList == w) := Lib.hid (by rw [HV.out]; rfl)
    clear HV
    go_enter Tryz.func23, Tryz.ntmps23
    go_wp2_with fail
    all_goals (
      refine HQ.out _ ?_
      rw [HV2.out]
      unfold endWords
      clear HQ HV2
      first
        | (simp only [List.any_cons, List.any_nil, *, Bool.true_or, Bool.or_true, Bool.or_false, Bool.false_or]; done)
        | (simp_all [Bool.or_assoc]; done))
  · have HV2 : RowKit.Hid (endsK 8 t = endSigns.any fun w => t.toList == w) := Lib.hid (by rw [HV.out]; rfl)
    clear HV
    go_enter Tryz.func23, Tryz.ntmps23
    go_wp2_with fail
    all_goals (
      refine HQ.out _ ?_
      rw [HV2.out]
      unfold endSigns
      clear HQ HV2
      first
        | (simp only [List.any_cons, List.any_nil, *, Bool.true_or, Bool.or_true, Bool.or_false, Bool.false_or]; done)
        | (simp_all [Bool.or_assoc]; done))
  · have HV2 : RowKit.Hid (endsK k t = false) := Lib.hid (by rw [HV.out, if_neg (by omega), if_neg n2, if_neg n8])
    have m : ∀ c : Int, k ≠ c → (k == c) = false := fun c h => by rw [beq_eq_false_iff_ne]; exact h
    have m1 := m 1 n1; have m2 := m 2 n2; have m3 := m 3 n3; have m4 := m 4 n4; have m5 := m 5 n5; have m6 := m 6 n6; have m7 := m 7 n7; have m8 := m 8 n8
    clear HV m
    go_enter Tryz.func23, Tryz.ntmps23
    go_wp2_with fail
    exact HQ.out _ HV2.out
set_option maxRecDepth 100000 in
set_option maxHeartbeats 2000000 in
theorem semi_silent (k f t : Int) (w : World) :
    Calls Tryz.prog 20 #[.agg #[.int .u8 k, .int .i64 f, .int .i64 t]] w fun e w' => e = .returned (.bool (silentK k)) ∧ Below w.heap.size w w' := by
  have HQ : RowKit.Hid (∀ b w', silentK k = b → Below w.heap.size w w' → (fun (e : Ending) w' => e = .returned (.bool (silentK k)) ∧ Below w.heap.size w w') (.returned (.bool b)) w') := Lib.hid fun b w' h h2 => ⟨by rw [h], h2⟩
  generalize (fun (e : Ending) w' => e = .returned (.bool (silentK k)) ∧ Below w.heap.size w w') = Q at *
  have HB := Lib.hid ((Below.refl w.heap.size w).alloc (Nat.le_refl _) (.cells #[.int .u8 k, .int .i64 f, .int .i64 t] 41))
  have hcs : k = 10 ∨ k = 11 ∨ k = 12 ∨ (k ≠ 10 ∧ k ≠ 11 ∧ k ≠ 12) := by omega
  rcases hcs with rfl | rfl | rfl | ⟨n1, n2, n3⟩
  · go_enter Tryz.func20, Tryz.ntmps20
    go_wp2_with fail
    exact HQ.out _ _ rfl HB.out
  · go_enter Tryz.func20, Tryz.ntmps20
    go_wp2_with fail
    exact HQ.out _ _ rfl HB.out
  · go_enter Tryz.func20, Tryz.ntmps20
    go_wp2_with fail
    exact HQ.out _ _ rfl HB.out
  · have m : ∀ c : Int, k ≠ c → (k == c) = false := fun c h => by rw [beq_eq_false_iff_ne]; exact h
    have m1 := m 10 n1; have m2 := m 11 n2; have m3 := m 12 n3
    have HV : RowKit.Hid (silentK k = false) := Lib.hid (by unfold silentK; simp [n1, n2, n3])
    clear m n1 n2 n3
    go_enter Tryz.func20, Tryz.ntmps20
    go_wp2_with fail
    exact HQ.out _ _ HV.out HB.out
def endV : Option Nat → Int
  | some e => e
  | none => -1
/-- What a world holds of Of's two captured variables: the tokens so far (block g), where a line may end (block g + 1); the tokens' row lies behind. -/
structure SW (W : World) (g : Nat) (l : List Tok) (en : Option Nat) : Prop where
  out : ∃ v, W.heap[g]? = some (.cells #[v] 23 (0, 0)) ∧ W.ownsRow (g + 1 + 1) 41 3 v l.length (toksV l)
  ends : W.heap[g + 1]? = some (.cells #[.int .i64 (endV en)] 3 (0, 0))
theorem SW.keep {W W' : World} {g : Nat} {l : List Tok} {en : Option Nat} (h : SW W g l en) (hb : Below W.heap.size W W') : SW W' g l en := by
  obtain ⟨⟨v, h1, h2⟩, h3⟩ := h
  exact ⟨⟨v, keeps hb h1, owns_below h2 hb⟩, keeps hb h3⟩
theorem SW.setEnds {W : World} {g : Nat} {l : List Tok} {en : Option Nat} (h : SW W g l en) (en' : Option Nat) : SW (W.setCell ⟨g + 1, 0, none⟩ (.int .i64 (endV en'))) g l en' := by
  obtain ⟨⟨v, h1, h2⟩, h3⟩ := h
  refine ⟨⟨v, by rw [heap_setCell_other _ _ _ _ (by show g ≠ g + 1; omega)]; exact h1, ownsRow_setCell_other h2 (a := ⟨g + 1, 0, none⟩) (owns_not h2 (Or.inl (by show g + 1 < g + 1 + 1; omega))) _⟩, one_setCell h3⟩
/-- Behind an append to the tokens, whose value is then stored. -/
theorem SW.grew {W W1 W' : World} {g : Nat} {l : List Tok} {en : Option Nat} {v v' : Value} {t : Tok} (h : SW W g l en) (hc : W.heap[g]? = some (.cells #[v] 23 (0, 0))) (hb : Below W.heap.size W W1) (hg : W1.grownBy W' v.ownBlock)
    (ho : W'.ownsRow (g + 1 + 1) 41 3 v' (l.length + 1) (toksV l ++ tokV t)) : SW (W'.setCell ⟨g, 0, none⟩ v') g (l ++ [t]) en := by
  obtain ⟨⟨v0, h1, h2⟩, h3⟩ := h
  obtain rfl : v0 = v := by rw [h1] at hc; cases hc; rfl
  have hlt := lt_of_block h3
  have hsz := hb.size
  have n1 := owns_not h2 (g := g) (Or.inl (by omega))
  have n2 := owns_not h2 (g := g + 1) (Or.inl (by omega))
  have k1 : W'.heap[g]? = some (.cells #[v0] 23 (0, 0)) := by rw [hg.block g (by omega) (fun e => n1 e.symm), hb.block g (by omega)]; exact h1
  have k2 : W'.heap[g + 1]? = some (.cells #[.int .i64 (endV en)] 3 (0, 0)) := by rw [hg.block (g + 1) (by omega) (fun e => n2 e.symm), hb.block (g + 1) (by omega)]; exact h3
  refine ⟨⟨v', one_setCell k1, ?_⟩, ?_⟩
  · rw [List.length_append, toksV_snoc]
    exact ownsRow_setCell_other ho (a := ⟨g, 0, none⟩) (owns_not ho (Or.inl (by show g < g + 1 + 1; omega))) _
  · rw [heap_setCell_other _ _ _ _ (by show g + 1 ≠ g; omega)]; exact k2
/-- What flush leaves. -/
@[irreducible] def flushPost (g B : Nat) (w : World) (q : List Tok × Option Nat) (e : Ending) (w' : World) : Prop := e = .returned (.tuple #[]) ∧ SW w' g (flushZ q).1 (flushZ q).2 ∧ Below B w w'
set_option maxRecDepth 100000 in
set_option maxHeartbeats 2000000 in
theorem semi_flush (g B : Nat) (l : List Tok) (en : Option Nat) (hl : l.length ≤ 200000) (w : World) (hS : SW w g l en) (hB : B ≤ g) :
    Calls Tryz.prog 21 #[.pointer (some ⟨g + 1, 0, none⟩), .pointer (some ⟨g, 0, none⟩)] w (flushPost g B w (l, en)) := by
  have HQ : RowKit.Hid (∀ w' l' en', flushZ (l, en) = (l', en') → SW w' g l' en' → Below B w w' → flushPost g B w (l, en) (.returned (.tuple #[])) w') := Lib.hid fun w' l' en' h1 h2 h3 => by
    unfold flushPost; rw [h1]; exact ⟨rfl, h2, h3⟩
  generalize flushPost g B w (l, en) = Q at *
  have HS := Lib.hid hS
  obtain ⟨⟨v, h1, h2⟩, h3⟩ := hS
  have hlt := lt_of_block h3
  cases en with
  | none =>
    have c8 : w.cell? ⟨g + 1, 0, none⟩ = some (.int .i64 (-1)) := cell_of_one h3
    have z8 := free_of_one h3
    have HF : RowKit.Hid (flushZ (l, none) = (l, none)) := Lib.hid rfl
    have HS2 : RowKit.Hid (SW (w.setCell ⟨g + 1, 0, none⟩ (.int .i64 (-1))) g l none) := Lib.hid (HS.out.setEnds none)
    have HB2 := Lib.hid ((Below.refl B w).setCell (p := ⟨g + 1, 0, none⟩) (by show B ≤ g + 1; omega) (.int .i64 (-1)))
    clear h1 h2 h3
    go_enter Tryz.func21, Tryz.ntmps21
    go_wp2_with fail
    refine bodyPost_end (results_none rfl _ _ _) rfl ?_
    exact HQ.out _ _ _ HF.out HS2.out HB2.out
  | some e =>
    have c8 : w.cell? ⟨g + 1, 0, none⟩ = some (.int .i64 (e : Int)) := cell_of_one h3
    have z8 := free_of_one h3
    have c7 := cell_of_one h1
    have z7 := free_of_one h1
    have H1 := Lib.hid h1
    have HO := Lib.hid h2
    have HF : RowKit.Hid (flushZ (l, some e) = (l ++ [(9, e, e)], none)) := Lib.hid rfl
    obtain ⟨va, vm, vc, rfl⟩ := owns_slice HO.out
    have he0 : (0 : Int) ≤ e := by omega
    have hbase : g + 1 + 1 ≤ w.heap.size := by omega
    clear h1 h2 h3
    go_enter Tryz.func21, Tryz.ntmps21
    go_wp2_with (at_builtin; refine wpList_append_lit w #[.int .u8 9, .int .i64 (e : Int), .int .i64 (e : Int)] _ rfl _ _ 23 41 rfl Tryz.underlying23 (g + 1 + 1) info_tok rfl (by decide) _ _ _ rfl HO.out 1 1 rfl rfl (by decide) (by intro u hu; simp at hu; rcases hu with rfl | rfl | rfl <;> rfl) (by omega) (by omega) hbase ?_)
    intro v' w' hown hgr _
    obtain ⟨va', vm', vc', rfl⟩ := owns_slice hown
    have HS2 := Lib.hid (HS.out.grew (t := (9, e, e)) H1.out ((Below.refl _ _).alloc (Nat.le_refl _) _) hgr hown)
    have HS3 : RowKit.Hid (SW ((w'.setCell ⟨g, 0, none⟩ (.slice va' vm' vc')).setCell ⟨g + 1, 0, none⟩ (.int .i64 (-1))) g (l ++ [(9, e, e)]) none) := Lib.hid (HS2.out.setEnds none)
    have hb4 : Below B w w' := grown_below (B := B) (Below.refl B w) (by omega) (owns_mono HO.out (by omega)) hgr
    have HB4 := Lib.hid ((hb4.setCell (p := ⟨g, 0, none⟩) (by show B ≤ g; omega) (.slice va' vm' vc')).setCell (p := ⟨g + 1, 0, none⟩) (by show B ≤ g + 1; omega) (.int .i64 (-1)))
    obtain ⟨x2, k7, _⟩ := HS2.out.out
    have zz7 : w'.frozen? ⟨g, 0, none⟩ = false ∧ (w'.setCell ⟨g, 0, none⟩ (.slice va' vm' vc')).frozen? ⟨g + 1, 0, none⟩ = false ∧ w'.cell? ⟨g, 0, none⟩ = some (.slice va vm vc) ∧ (w'.setCell ⟨g, 0, none⟩ (.slice va' vm' vc')).cell? ⟨g + 1, 0, none⟩ = some (.int .i64 (e : Int)) := by
      have n1 := owns_not HO.out (g := g) (Or.inl (by omega))
      have k1 : w'.heap[g]? = some (.cells #[.slice va vm vc] 23 (0, 0)) := by
        rw [hgr.block g (by simp; omega) (fun e => n1 e.symm), Below.heap_alloc _ _ _ (by omega)]; exact H1.out
      exact ⟨free_of_one k1, free_of_one HS2.out.ends, cell_of_one k1, cell_of_one HS2.out.ends⟩
    obtain ⟨y1, y2, y3, y4⟩ := zz7
    clear hown hgr hb4 k7
    go_wp2_with fail
    refine bodyPost_end (results_none rfl _ _ _) rfl ?_
    exact HQ.out _ _ _ HF.out HS3.out HB4.out
end Go.Proofs.YtelfobnmiphdnaaGreatDoor
namespace Go.Proofs.YtelfobnmiphdnaaGreatDoor
set_option linter.all false
open Go.RowKit

theorem scanAll_err (s : ByteArray) (h : (scanAll s).2.1 = 0) : (scanAll s).2.2 = 0 := by
  unfold scanAll at h ⊢
  split
  · rfl
  · rename_i h1
    rw [if_neg h1] at h
    split
    · rename_i h2
      rw [if_pos h2] at h
      cases h
    · rename_i h2
      rw [if_neg h2] at h
      split
      · rename_i h3
        rw [h3] at h
        cases h
      · rfl
theorem TK.alloc {W : World} {g : Nat} {k f t : Int} (h : TK W g k f t) (o : Obj) : TK (W.alloc o) g k f t := by
  unfold TK at h ⊢; rw [Below.heap_alloc _ _ _ (lt_of_block h)]; exact h
theorem ite_le {c : Prop} [Decidable c] {a b n : Nat} (h1 : a ≤ n) (h2 : b ≤ n) : (if c then a else b) ≤ n := by split <;> assumption
theorem whole_le (b : Nat) (l : List Nat) : wholeL b l ≤ 4 := by unfold wholeL; exact ite_le (by omega) (by omega)
theorem sixteen_le (l : List Nat) : sixteenL l ≤ 4 := by
  unfold sixteenL
  exact ite_le (by omega) (ite_le (by omega) (ite_le (by omega) (ite_le (by omega) (ite_le (by omega) (by omega)))))
theorem ten_le (l : List Nat) : tenL l ≤ 4 := by
  unfold tenL
  exact ite_le (ite_le (by omega) (whole_le _ _)) (ite_le (by omega) (ite_le (by omega) (by omega)))
theorem real_le (l : List Nat) : realL l ≤ 4 := by
  unfold realL
  exact ite_le (ite_le (whole_le _ _) (ite_le (whole_le _ _) (ite_le (sixteen_le _) (ten_le _)))) (ten_le _)
theorem kindL_le (l : List Nat) : kindL l ≤ 5 := by
  unfold kindL
  exact ite_le (by have := real_le l; omega) (ite_le (by omega) (ite_le (by omega) (by omega)))
def byteP (q : Int × Int) : Prop := 0 ≤ q.1 ∧ q.1 < 256
theorem ite_byteP {c : Prop} [Decidable c] {a b : Int × Int} (h1 : byteP a) (h2 : byteP b) : byteP (if c then a else b) := by split <;> assumption
theorem byteP_mk (k x : Int) (h : 0 ≤ k ∧ k < 256) : byteP (k, x) := h
theorem num_byte (s : ByteArray) (i : Nat) : 0 ≤ (numScan s i).1 ∧ (numScan s i).1 < 256 := by
  unfold numScan
  split
  · split
    · have := kindL_le (byts (s.extract (i : Int).toNat (numEnd s (i : Int).toNat)))
      exact ⟨by show (0 : Int) ≤ ((kindL _ : Nat) : Int); omega, by show ((kindL _ : Nat) : Int) < 256; omega⟩
    · exact ⟨by decide, by decide⟩
  · exact ⟨by decide, by decide⟩
theorem begun_byte (s : ByteArray) (i : Nat) : 0 ≤ (begun s i).1 ∧ (begun s i).1 < 256 := by
  by_cases he : (begun s i).2.2.2 = 0
  · obtain ⟨j, n, _, _, _, _, _, _, _, h⟩ := begun_found s i (begun s i).1 (begun s i).2.1 (begun s i).2.2.1 (by rw [← he])
    rcases h with ⟨h, _⟩ | ⟨h, _⟩ <;> rw [h] <;> omega
  · rw [(begun_err s i he).1]; omega
theorem lex_kind (s : ByteArray) (i : Nat) : 0 ≤ (lex s i).1 ∧ (lex s i).1 < 256 := by
  unfold lex
  refine ite_byteP (byteP_mk _ _ (by omega)) (ite_byteP (byteP_mk _ _ (by omega)) (ite_byteP (byteP_mk _ _ (by omega)) (ite_byteP ?_ (ite_byteP (ite_byteP (byteP_mk _ _ (by omega)) (byteP_mk _ _ (by omega))) (ite_byteP (byteP_mk _ _ (by omega)) (ite_byteP (byteP_mk _ _ (num_byte s i)) (ite_byteP (byteP_mk _ _ (begun_byte s i)) (ite_byteP (byteP_mk _ _ (by omega)) (byteP_mk _ _ (by omega))))))))))
  cases blockTo s (i + 2) with
  | none => exact byteP_mk _ _ (by omega)
  | some e => exact byteP_mk _ _ (by omega)
theorem alls_kind (s : ByteArray) (i : Nat) : ∀ t ∈ (alls s i).1, 0 ≤ t.1 ∧ t.1 < 256 := by
  by_cases h : i < s.size
  · by_cases hk : (lex s i).1 = 0
    · rw [alls_bad h hk]; intro t ht; cases ht
    · obtain ⟨e, h1, h2, h3⟩ := lex_gt s i h hk
      rw [alls_step h (show lex s i = ((lex s i).1, (e : Int)) by rw [← h1]) hk]
      intro t ht
      rcases List.mem_cons.1 ht with rfl | ht
      · exact lex_kind s i
      · exact alls_kind s e t ht
  · rw [alls_end h]; intro t ht; cases ht
termination_by s.size - i
decreasing_by omega
theorem scanAll_kind (s : ByteArray) : ∀ t ∈ (scanAll s).1, 0 ≤ t.1 ∧ t.1 < 256 := by
  have h1 : ∀ i, ∀ t ∈ (alls s i).1, 0 ≤ t.1 ∧ t.1 < 256 := fun i => alls_kind s i
  unfold scanAll
  split
  · intro t ht; cases ht
  · split
    · intro t ht; cases ht
    · split
      · intro t ht; cases ht
      · exact h1 0
/-- The row of tokens that was there before is there still, with its old bounds. -/
theorem owns_at {W W' : World} {g : Nat} {l : List Tok} {en : Option Nat} {v : Value} (h : SW W g l en) (hc : W'.heap[g]? = some (.cells #[v] 23 (0, 0))) (hb : Below W.heap.size W W') : W.ownsRow (g + 1 + 1) 41 3 v l.length (toksV l) := by
  obtain ⟨⟨v0, h1, h2⟩, h3⟩ := h
  rw [hb.block g (lt_of_block h1), h1] at hc
  cases hc
  exact h2
/-- What holds of Of at its loop's head. -/
def ofRel (s : ByteArray) (w2 : World) (l : List Tok) (i : Value) (wr : World) : Prop :=
  ∃ k : Nat, i = .int .i64 k ∧ k ≤ l.length ∧ SW wr w2.heap.size (semiFold s (l.take k)).1 (semiFold s (l.take k)).2 ∧ Below w2.heap.size w2 wr
set_option maxRecDepth 100000 in
set_option maxHeartbeats 8000000 in
theorem semi_Of (s : ByteArray) (hs : s.size ≤ 2147483647) (w : World) (hT : Tabs w) (hM : MaxC w) :
    Calls Tryz.prog 13 #[.string s] w (allPost (semiAll s) w) := by
  have HQ : RowKit.Hid (∀ w' v l e a, semiAll s = (l, e, a) → Below w.heap.size w w' → w'.ownsRow w.heap.size 41 3 v l.length (toksV l) → allPost (semiAll s) w (.returned (.tuple #[v, .agg #[.int .i64 e, .int .i64 a]])) w') := Lib.hid fun w' v l e a h h2 h3 => by
    unfold allPost; rw [h]; exact ⟨v, rfl, h2, h3⟩
  have HV : RowKit.Hid (semiAll s = _) := Lib.hid (by unfold semiAll; rfl)
  generalize allPost (semiAll s) w = Q at *
  have CA := Lib.hid (fun w' (hb : Below w.heap.size w w') => scan_All s hs w' (hT.below hb) (hM.below hb))
  have HIN := Lib.hid (scanAll_in s)
  have HLN := scanAll_len s
  have HER := scanAll_err s
  have HK8 := Lib.hid (scanAll_kind s)
  have HF : RowKit.Hid (∀ (tm : Array Value) W' v l e a, semiAll s = (l, e, a) → Below w.heap.size w W' → W'.ownsRow w.heap.size 41 3 v l.length (toksV l) → FK W' w.heap.size e a → tm.getD 3 undef = .pointer (some ⟨w.heap.size, 0, none⟩) → tm.getD 2 undef = v → bodyPost Tryz.prog Tryz.f13 Q .ret ⟨tm, []⟩ W') :=
    Lib.hid fun tm W' v l e a h1 h2 h3 h4 h5 h6 => by
      refine bodyPost_ret (results_tmp_cell rfl tm W' w.heap.size 27 #[.int .i64 e, .int .i64 a] (0, 0) _ h5 h4 Tryz.underlying27 rfl (by kernel_rfl)) rfl ?_
      rw [h6]
      exact HQ.out W' v l e a h1 h2 h3
  have hT4 : FK (w.alloc (.cells #[.int .i64 0, .int .i64 0] 27)) w.heap.size 0 0 := by
    unfold FK; exact heap_alloc_new _ _
  have hbW : Below w.heap.size w (w.alloc (.cells #[.int .i64 0, .int .i64 0] 27)) := (Below.refl _ _).alloc (Nat.le_refl _) _
  have H4 := Lib.hid hT4
  have HBW := Lib.hid hbW
  clear hT4 hbW
  go_enter Tryz.func13, Tryz.ntmps13
  go_wp2_with fail
  refine (CA.out _ HBW.out).mono ?_
  intro e w1 h1
  unfold allPost at h1
  generalize scanAll s = q at *
  obtain ⟨l, er, ea⟩ := q
  simp only [] at *
  obtain ⟨v, rfl, hb1, ho1⟩ := h1
  have HB1 := Lib.hid (bthen HBW.out hb1)
  have HF1 := Lib.hid (H4.out.keep hb1)
  have HO1 := Lib.hid ho1
  have HA1 := Lib.hid (HB1.out.alloc HB1.out.size (.cells #[.int .i64 er, .int .i64 ea] 27))
  have HF2 := Lib.hid (HF1.out.alloc (.cells #[.int .i64 er, .int .i64 ea] 27))
  clear hb1 ho1 H4 HF1 HBW CA
  by_cases her : er = 0
  · obtain rfl := HER her
    subst her
    rw [if_pos ⟨rfl, rfl⟩] at HV
    have hX : FK (w1.alloc (.cells #[.int .i64 0, .int .i64 0] 27)) w1.heap.size 0 0 := by unfold FK; exact heap_alloc_new _ _
    have x0 := hX.c0; have x1 := hX.c1
    have hW1 : Below w1.heap.size w1 (w1.alloc (.cells #[.int .i64 0, .int .i64 0] 27)) := (Below.refl _ _).alloc (Nat.le_refl _) _
    have HW1 := Lib.hid hW1
    have hWlt := lt_of_block (show (w1.alloc (.cells #[.int .i64 0, .int .i64 0] 27)).heap[w.heap.size]? = _ from HF2.out)
    have HTR := Lib.hid (fun hpos => tok_row HO1.out hpos)
    obtain ⟨_, va, vcap, rfl, hvcap, _, _⟩ := Row.of_owns HO1.out
    clear hX hW1
    have hlc : (0 : Int) ≤ l.length := by omega
    go_upto_region 4 with (fail)
    generalize w1.alloc (.cells #[.int .i64 0, .int .i64 0] 27) = W at *
    have hS0 : SW ((W.alloc (.cells #[.slice none 0 0] 23)).alloc (.cells #[.int .i64 (-1)] 3)) W.heap.size [] none := by
      refine ⟨⟨.slice none 0 0, by rw [Below.heap_alloc _ _ _ (by simp)]; exact heap_alloc_new _ _, World.ownsRow_nil _ _ _ _⟩, ?_⟩
      have := heap_alloc_new (W.alloc (.cells #[.slice none 0 0] 23)) (.cells #[.int .i64 (-1)] 3)
      simpa [endV] using this
    have HS0 := Lib.hid hS0
    have HB0 : RowKit.Hid (Below W.heap.size W ((W.alloc (.cells #[.slice none 0 0] 23)).alloc (.cells #[.int .i64 (-1)] 3))) := Lib.hid (((Below.refl _ _).alloc (Nat.le_refl _) _).alloc (by simp) _)
    clear hS0 x0 x1
    go_wp2_with fail
    go_loopw [25] (fun i wr => ofRel s W l i wr) (fun i _ => l.length - (intOf i).toNat)
    case atStart => exact ⟨0, rfl, Nat.zero_le _, HS0.out, HB0.out⟩
    case round =>
      obtain ⟨k, rfl, hk, hsw, hbw⟩ := hrel
      have HSW := Lib.hid hsw
      have HBW2 := Lib.hid hbw
      have hbs := hbw.size
      clear hsw hbw
      have hfl := semiFold_len s (l.take k)
      have htl : (l.take k).length ≤ l.length := by rw [List.length_take]; omega
      by_cases hlt : k < l.length
      · have hlt' : (k : Int) < l.length := by omega
        obtain ⟨b, cap', hv, hcap, hbl, hcell⟩ := HTR.out (by omega)
        simp only [Value.slice.injEq] at hv
        obtain ⟨rfl, _, rfl⟩ := hv
        have hc := hcell k hlt
        have hin := HIN.out l[k] (List.getElem_mem hlt)
        have hstep := semiFold_snoc s (l.take k) l[k]
        have hkk := HK8.out l[k] (List.getElem_mem hlt)
        rw [← List.take_succ_eq_append_getElem hlt] at hstep
        generalize l[k] = t at *
        obtain ⟨kk, ff, tt⟩ := t
        simp only [] at hc hin hkk
        obtain ⟨c0, c1, c2⟩ := hc
        have hb12 : Below w1.heap.size w1 wr := bthen HW1.out HBW2.out
        have d0 : wr.cell? ⟨b, k * 3, none⟩ = some (.int .u8 kk) := by rw [hb12.cell (p := ⟨b, k * 3, none⟩) hbl]; exact c0
        have d1 : wr.cell? ⟨b, k * 3 + 1, none⟩ = some (.int .i64 (ff : Int)) := by rw [hb12.cell (p := ⟨b, k * 3 + 1, none⟩) hbl]; exact c1
        have d2 : wr.cell? ⟨b, k * 3 + 2, none⟩ = some (.int .i64 (tt : Int)) := by rw [hb12.cell (p := ⟨b, k * 3 + 2, none⟩) hbl]; exact c2
        have HST := Lib.hid hstep
        clear hcell hb12 c0 c1 c2 hstep hcap hbl
        have hsl : ∀ w, (Instr.slice 9 (.string s) (some (.int .i64 (ff : Int))) (some (.int .i64 (tt : Int))) none).run Tryz.prog w = .ok (.string (s.extract ff tt)) w := fun w => by
          rw [run_slice_string_if w _ s _ _ _ _ Tryz.underlying9, if_pos ⟨by omega, by omega⟩, if_pos ⟨by omega, by omega⟩, Int.toNat_natCast, Int.toNat_natCast]
        have HTA := Lib.hid (TK.alloc_new wr kk ff tt)
        have HBX0 := Lib.hid (Below.refl wr.heap.size wr)
        have HBA : RowKit.Hid (Below wr.heap.size wr (wr.alloc (.cells #[.int .u8 kk, .int .i64 (ff : Int), .int .i64 (tt : Int)] 41))) := Lib.hid ((Below.refl _ _).alloc (Nat.le_refl _) _)
        generalize (semiFold s (l.take k)) = q at *
        obtain ⟨o, en⟩ := q
        simp only [] at *
        go_wp2_with fail
        refine (semi_silent kk ff tt _).mono ?_
        rintro e w3 ⟨rfl, hb3⟩
        have HTB := Lib.hid (HTA.out.keep hb3)
        have hb4 := bthen HBA.out hb3
        have HBX := Lib.hid hb4
        have HSB := Lib.hid (HSW.out.keep hb4)
        have HBB := Lib.hid (bthen HBW2.out hb4)
        have hz3 : W.heap.size + 1 < w3.heap.size := by have := lt_of_block HSB.out.ends; exact this
        clear hb3 hb4 HTA HBA d0 d1 d2
        cases hsi : silentK kk with
        | true =>
          have CC : RowKit.Hid (∀ w, Calls Tryz.prog 22 #[.string (s.extract ff tt), .string ⟨#[10]⟩] w fun e w' => e = .returned (.bool (hasNl s (kk, ff, tt))) ∧ w' = w) := Lib.hid fun w => Tryz.strings_Contains_one (s.extract ff tt) 10 w
          go_wp2_with fail
          refine (CC.out _).mono ?_
          rintro e w4 ⟨rfl, rfl⟩
          cases hnl : hasNl s (kk, ff, tt) with
          | true =>
            have HN : RowKit.Hid (semiFold s (l.take (k + 1)) = flushZ (o, en)) := Lib.hid (by rw [HST.out]; unfold semiStep; rw [if_pos hsi, if_pos hnl])
            clear hsi hnl
            go_wp2_with fail
            refine (semi_flush W.heap.size W.heap.size o en (by omega) _ HSB.out (Nat.le_refl _)).mono ?_
            intro e w5 h5
            unfold flushPost at h5
            obtain ⟨rfl, hs5, hb5⟩ := h5
            have HR : RowKit.Hid (ofRel s W l (.int .i64 (k + 1 : Nat)) w5) := Lib.hid ⟨k + 1, rfl, hlt, by rw [HN.out]; exact hs5, HBB.out.trans hb5⟩
            clear hs5 hb5
            have hwk : IntKind.i64.wrap ((k : Int) + 1) = ((k + 1 : Nat) : Int) := by rw [IntKind.wrap_i64]; omega
            go_wp2_with fail
            refine ⟨?_, (by simp [intOf]; try omega)⟩
            first
              | exact HR.out
              | (repeat apply Exists.intro
                 refine ⟨?_, rfl⟩
                 exact HR.out)
          | false =>
            have HN : RowKit.Hid (semiFold s (l.take (k + 1)) = (o, en)) := Lib.hid (by rw [HST.out]; unfold semiStep; rw [if_pos hsi, if_neg (by simp [hnl])])
            clear hsi hnl
            have HR : RowKit.Hid (ofRel s W l (.int .i64 (k + 1 : Nat)) w4) := Lib.hid ⟨k + 1, rfl, hlt, by rw [HN.out]; exact HSB.out, HBB.out⟩
            have hwk : IntKind.i64.wrap ((k : Int) + 1) = ((k + 1 : Nat) : Int) := by rw [IntKind.wrap_i64]; omega
            go_wp2_with fail
            refine ⟨?_, (by simp [intOf]; try omega)⟩
            first
              | exact HR.out
              | (repeat apply Exists.intro
                 refine ⟨?_, rfl⟩
                 exact HR.out)
        | false =>
          obtain ⟨vo, hc7, ho7⟩ := HSB.out.out
          obtain ⟨oa, om, oc, rfl⟩ := owns_slice ho7
          have HC7 := Lib.hid hc7
          have HO7 := Lib.hid ho7
          have c7 := cell_of_one hc7
          have z7 := free_of_one hc7
          have z8 := free_of_one HSB.out.ends
          have x0 := HTB.out.c0; have x1 := HTB.out.c1; have x2 := HTB.out.c2
          have hbase : W.heap.size + 1 + 1 ≤ w3.heap.size := by omega
          clear hc7 ho7
          go_wp2_with (at_builtin; refine wpList_append_lit w3 #[.int .u8 kk, .int .i64 (ff : Int), .int .i64 (tt : Int)] _ rfl _ _ 23 41 rfl Tryz.underlying23 (W.heap.size + 1 + 1) info_tok rfl (by decide) _ _ _ rfl HO7.out 1 1 rfl rfl (by decide) (by intro u hu; simp at hu; rcases hu with rfl | rfl | rfl <;> rfl) (by omega) (by omega) hbase ?_)
          intro v' w' hown hgr _
          obtain ⟨va', vm', vc', rfl⟩ := owns_slice hown
          have HS2 := Lib.hid (HSB.out.grew (t := (kk, ff, tt)) HC7.out ((Below.refl _ _).alloc (Nat.le_refl _) _) hgr hown)
          have HS3 : RowKit.Hid (SW ((w'.setCell ⟨W.heap.size, 0, none⟩ (.slice va' vm' vc')).setCell ⟨W.heap.size + 1, 0, none⟩ (.int .i64 (-1))) W.heap.size (o ++ [(kk, ff, tt)]) none) := Lib.hid (HS2.out.setEnds none)
          have hb5 : Below W.heap.size W w' := grown_below HBB.out (by omega) (owns_mono HO7.out (by omega)) hgr
          have HB5 := Lib.hid ((hb5.setCell (p := ⟨W.heap.size, 0, none⟩) (Nat.le_refl _) (.slice va' vm' vc')).setCell (p := ⟨W.heap.size + 1, 0, none⟩) (by show W.heap.size ≤ W.heap.size + 1; omega) (.int .i64 (-1)))
          have n1 := owns_not HO7.out (g := W.heap.size) (Or.inl (by omega))
          have hzw : W.heap.size + 1 < wr.heap.size := lt_of_block (show wr.heap[W.heap.size + 1]? = _ from HSW.out.ends)
          have hwr : wr.heap.size < w3.heap.size := lt_of_block (show w3.heap[wr.heap.size]? = _ from HTB.out)
          have n3 : (Value.slice oa om oc).ownBlock ≠ some wr.heap.size := owns_not (owns_at HSW.out HC7.out HBX.out) (Or.inr (Nat.le_refl _))
          have k1 : w'.heap[W.heap.size]? = some (.cells #[.slice oa om oc] 23 (0, 0)) := by
            rw [hgr.block W.heap.size (by simp; omega) (fun e => n1 e.symm), Below.heap_alloc _ _ _ (by omega)]; exact HC7.out
          have hT5 : TK w' wr.heap.size kk ff tt := TK.grown (HTB.out.alloc _) hgr n3
          have hT6 : TK ((w'.setCell ⟨W.heap.size, 0, none⟩ (.slice va' vm' vc')).setCell ⟨W.heap.size + 1, 0, none⟩ (.int .i64 (-1))) wr.heap.size kk ff tt := (hT5.other _ _ (by show wr.heap.size ≠ W.heap.size; omega)).other _ _ (by show wr.heap.size ≠ W.heap.size + 1; omega)
          have y1 := free_of_one k1
          have y2 := free_of_one HS2.out.ends
          have y3 := cell_of_one k1
          have y4 := cell_of_one HS2.out.ends
          have y5 := free_of_one HS3.out.ends
          have u0 := hT6.c0; have u1 := hT6.c1; have u2' := hT6.c2
          clear hown hgr hb5 n1 n3 k1 hT5 hT6
          go_wp2_with fail
          refine (semi_Ends kk hkk _ _).mono ?_
          rintro e w6 ⟨rfl, rfl⟩
          cases hen : endsK kk (s.extract ff tt) with
          | true =>
            have HN : RowKit.Hid (semiFold s (l.take (k + 1)) = (o ++ [(kk, ff, tt)], some tt)) := Lib.hid (by rw [HST.out]; unfold semiStep; rw [if_neg (by simp [hsi]), if_pos hen])
            have HS4 : RowKit.Hid (SW (((w'.setCell ⟨W.heap.size, 0, none⟩ (.slice va' vm' vc')).setCell ⟨W.heap.size + 1, 0, none⟩ (.int .i64 (-1))).setCell ⟨W.heap.size + 1, 0, none⟩ (.int .i64 (tt : Int))) W.heap.size (o ++ [(kk, ff, tt)]) (some tt)) := Lib.hid (HS3.out.setEnds (some tt))
            have HR : RowKit.Hid (ofRel s W l (.int .i64 (k + 1 : Nat)) (((w'.setCell ⟨W.heap.size, 0, none⟩ (.slice va' vm' vc')).setCell ⟨W.heap.size + 1, 0, none⟩ (.int .i64 (-1))).setCell ⟨W.heap.size + 1, 0, none⟩ (.int .i64 (tt : Int)))) := Lib.hid ⟨k + 1, rfl, hlt, by rw [HN.out]; exact HS4.out, HB5.out.setCell (p := ⟨W.heap.size + 1, 0, none⟩) (by show W.heap.size ≤ W.heap.size + 1; omega) _⟩
            clear hsi hen
            have hwk : IntKind.i64.wrap ((k : Int) + 1) = ((k + 1 : Nat) : Int) := by rw [IntKind.wrap_i64]; omega
            go_wp2_with fail
            refine ⟨?_, (by simp [intOf]; try omega)⟩
            first
              | exact HR.out
              | (repeat apply Exists.intro
                 refine ⟨?_, rfl⟩
                 exact HR.out)
          | false =>
            have HN : RowKit.Hid (semiFold s (l.take (k + 1)) = (o ++ [(kk, ff, tt)], none)) := Lib.hid (by rw [HST.out]; unfold semiStep; rw [if_neg (by simp [hsi]), if_neg (by simp [hen])])
            have HR : RowKit.Hid (ofRel s W l (.int .i64 (k + 1 : Nat)) ((w'.setCell ⟨W.heap.size, 0, none⟩ (.slice va' vm' vc')).setCell ⟨W.heap.size + 1, 0, none⟩ (.int .i64 (-1)))) := Lib.hid ⟨k + 1, rfl, hlt, by rw [HN.out]; exact HS3.out, HB5.out⟩
            clear hsi hen
            have hwk : IntKind.i64.wrap ((k : Int) + 1) = ((k + 1 : Nat) : Int) := by rw [IntKind.wrap_i64]; omega
            go_wp2_with fail
            refine ⟨?_, (by simp [intOf]; try omega)⟩
            first
              | exact HR.out
              | (repeat apply Exists.intro
                 refine ⟨?_, rfl⟩
                 exact HR.out)
      · obtain rfl : k = l.length := by omega
        have hlt' : ¬ (l.length : Int) < l.length := by omega
        have etk : l.take l.length = l := List.take_of_length_le (Nat.le_refl _)
        rw [etk] at HSW hfl
        generalize semiFold s l = q at *
        obtain ⟨o, en⟩ := q
        simp only [] at *
        go_wp2_with fail
        refine (semi_flush W.heap.size W.heap.size o en (by omega) _ HSW.out (Nat.le_refl _)).mono ?_
        intro e w5 h5
        unfold flushPost at h5
        obtain ⟨rfl, hs5, hb5⟩ := h5
        obtain ⟨vo, hc7, ho7⟩ := hs5.out
        obtain ⟨oa, om, oc, rfl⟩ := owns_slice ho7
        have HO7 := Lib.hid ho7
        have HBF := Lib.hid (HA1.out.trans ((HBW2.out.trans hb5).mono (Nat.le_of_lt hWlt)))
        have HF5 : RowKit.Hid (FK w5 w.heap.size 0 0) := Lib.hid (by
          have hb6 := HBW2.out.trans hb5
          have := HF2.out
          unfold FK at this ⊢
          rw [hb6.block _ hWlt]; exact this)
        have c7 := cell_of_one hc7
        have z40 := HF5.out.fz 0; have z41 := HF5.out.fz 1; have c40 := HF5.out.c0; have c41 := HF5.out.c1
        clear hs5 hb5 hc7 ho7
        go_wp2_with fail
        have hnf : (Value.slice oa om oc).ownBlock ≠ some w.heap.size := owns_not HO7.out (Or.inl (by omega))
        exact HF.out _ _ _ (flushZ (o, en)).1 0 0 HV.out (below_fill2 HBF.out (Nat.le_refl _) _ _) (owns_mono (ownsRow_setCell_other (ownsRow_setCell_other HO7.out (a := ⟨w.heap.size, 0, none⟩) hnf _) (a := ⟨w.heap.size, 1, none⟩) hnf _) (by omega)) (HF5.out.fill _ _) rfl rfl
  · have herb : (er == 0) = false := by rw [beq_eq_false_iff_ne]; exact her
    rw [if_neg (fun h => her h.1)] at HV
    have hX : FK (w1.alloc (.cells #[.int .i64 er, .int .i64 ea] 27)) w1.heap.size er ea := by unfold FK; exact heap_alloc_new _ _
    have z40 := HF2.out.fz 0; have z41 := HF2.out.fz 1; have c40 := HF2.out.c0; have c41 := HF2.out.c1
    have x0 := hX.c0; have x1 := hX.c1
    have hlt := lt_of_block (show (w1.alloc (.cells #[.int .i64 er, .int .i64 ea] 27)).heap[w.heap.size]? = _ from HF2.out)
    clear hX
    go_wp2_with fail
    generalize w1.alloc (.cells #[.int .i64 er, .int .i64 ea] 27) = W at *
    go_region
    all_goals go_wp2_with fail
    all_goals exact HF.out _ _ _ [] er ea HV.out (below_fill2 HA1.out (Nat.le_refl _) _ _).drew (World.ownsRow_nil _ _ _ _) (HF2.out.fill _ _) rfl rfl
end Go.Proofs.YtelfobnmiphdnaaGreatDoor
