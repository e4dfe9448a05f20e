/- Lexemes set apart, in plain Lean: the text with a line's end behind each lexeme has the same lexemes but for blanks. -/
import Derived.Test.YtelfobnmiphdnaaGreatDoorSameP
import Derived.Test.YtelfobnmiphdnaaGreatDoorSemi
namespace Go.Proofs.YtelfobnmiphdnaaGreatDoor
set_option linter.all false

theorem blank_of : ∀ c : Nat, blankB c = true → blank c = true := by
  have h : ∀ c ∈ [32, 9, 10, 13], blank c = true := by unfold blank; decide +kernel
  intro c hc
  exact h c (by have := blankB_is hc; simp; omega)
theorem lex_blank {u : ByteArray} {a : Nat} (h : a < u.size) (hb : blankB (bt u a) = true) : lex u a = (10, (blankTo u a : Int)) := by
  have hr := rd_ascii h (by have := blankB_is hb; omega)
  unfold lex
  rw [hr, if_neg (by have := blankB_is hb; simp only []; omega), if_pos (blank_of _ hb)]
/-- The lexemes that are no blanks: kind and text. -/
def nbl (s : ByteArray) (l : List Tok) : List (Int × ByteArray) := (l.filter fun t => t.1 != 10).map fun t => (t.1, s.extract t.2.1 t.2.2)
theorem nbl_blank (s : ByteArray) (a e : Nat) (l : List Tok) : nbl s ((10, a, e) :: l) = nbl s l := by unfold nbl; rw [List.filter_cons_of_neg (by simp)]
theorem nbl_cons (s : ByteArray) (k : Int) (a e : Nat) (l : List Tok) (h : k ≠ 10) : nbl s ((k, a, e) :: l) = (k, s.extract a e) :: nbl s l := by
  unfold nbl; rw [List.filter_cons_of_pos (by simpa using h), List.map_cons]
theorem skip_one {u : ByteArray} {a : Nat} (h : a < u.size) (hb : blankB (bt u a) = true) : (alls u a).2 = (alls u (a + 1)).2 ∧ nbl u (alls u a).1 = nbl u (alls u (a + 1)).1 := by
  have e1 : blankTo u a = blankTo u (a + 1) := by rw [blankTo, if_pos ⟨h, hb⟩]
  have hl := lex_blank h hb
  rw [e1] at hl
  rw [alls_step h hl (by decide)]
  simp only []
  rw [nbl_blank]
  by_cases g : a + 1 < u.size ∧ blankB (bt u (a + 1)) = true
  · have hl2 := lex_blank g.1 g.2
    rw [alls_step g.1 hl2 (by decide)]
    simp only []
    rw [nbl_blank]
    first | exact ⟨rfl, rfl⟩ | exact ⟨trivial, rfl⟩
  · have : blankTo u (a + 1) = a + 1 := by rw [blankTo, if_neg g]
    rw [this]
    first | exact ⟨rfl, rfl⟩ | exact ⟨trivial, rfl⟩
theorem skip_many {u : ByteArray} (b : Nat) (hb : b ≤ u.size) (a : Nat) (h : a ≤ b) (hx : ∀ j, a ≤ j → j < b → blankB (bt u j) = true) : (alls u a).2 = (alls u b).2 ∧ nbl u (alls u a).1 = nbl u (alls u b).1 := by
  by_cases hlt : a < b
  · have h1 := skip_one (u := u) (a := a) (by omega) (hx a (Nat.le_refl _) hlt)
    have h2 := skip_many b hb (a + 1) hlt (fun j g1 g2 => hx j (by omega) g2)
    exact ⟨h1.1.trans h2.1, h1.2.trans h2.2⟩
  · obtain rfl : a = b := by omega
    exact ⟨rfl, rfl⟩
termination_by b - a
decreasing_by omega
theorem clean_ascii {u : ByteArray} {a : Nat} (h : a < u.size) (h1 : bt u a < 128) (h0 : bt u a ≠ 0) (hc : cleanZ u (a + 1) < 0) : cleanZ u a < 0 := by
  have hr := rd_ascii h h1
  have hb : badHere u a = false := by unfold badHere; rw [hr]; simp [h0]; omega
  rw [clean_step h hb, hr]; exact hc
/-- A clean piece stands in a text that goes on clean behind it. -/
theorem clean_put {u : ByteArray} {a b : Nat} (h1 : a ≤ b) (hb : b ≤ u.size) (hce : cleanZ u b < 0) (hbom : (rd (u.extract a b) 0).1 = 65279 → a = 0) (j : Nat) (hj : a + j ≤ b) (hc : cleanZ (u.extract a b) j < 0) : cleanZ u (a + j) < 0 := by
  by_cases hlt : a + j < b
  · have hz := piece_size h1 hb
    obtain ⟨hg, h0, hn⟩ := clean_good hc (by omega)
    have hw := rd_width (u.extract a b) j
    have hr := rd_of_piece h1 hb hlt h0
    have hgu : badHere u (a + j) = false := by
      unfold badHere at hg ⊢
      simp only [Bool.or_eq_false_iff, decide_eq_false_iff_not, Bool.and_eq_false_iff] at hg ⊢
      rw [hr]
      refine ⟨hg.1, ?_⟩
      rcases hg.2 with g | g
      · exact Or.inl g
      · obtain rfl : j = 0 := by omega
        by_cases g2 : (rd (u.extract a b) 0).1 = 65279
        · exact Or.inr (by have := hbom g2; omega)
        · exact Or.inl g2
    rw [clean_step (by omega) hgu, hr, Nat.add_assoc]
    exact clean_put h1 hb hce hbom (j + (rd (u.extract a b) j).2) (by omega) hn
  · obtain rfl : a + j = b := by omega
    exact hce
termination_by b - (a + j)
decreasing_by omega
theorem extract_mid (x p y : ByteArray) (n : Nat) (h : p.size = n) : (x ++ (p ++ y)).extract x.size (x.size + n) = p := by
  subst h
  apply ByteArray.ext
  apply Array.ext'
  rw [extract_data, data_append, data_append, show x.size = x.data.toList.length from size_data x]
  rw [List.drop_left, show x.data.toList.length + p.size - x.data.toList.length = p.data.toList.length by rw [size_data p]; omega, List.take_left]
theorem num_not10 (s : ByteArray) (i : Nat) : (numScan s i).1 ≠ 10 := by
  unfold numScan
  split
  · split
    · have := kindL_le (byts (s.extract (i : Int).toNat (numEnd s (i : Int).toNat)))
      show ((kindL _ : Nat) : Int) ≠ 10
      omega
    · decide
  · decide
theorem begun_not10 (s : ByteArray) (i : Nat) : (begun s i).1 ≠ 10 := by
  by_cases he : (begun s i).2.2.2 = 0
  · obtain ⟨j, n, _, _, _, _, _, _, _, h⟩ := begun_found s i (begun s i).1 (begun s i).2.1 (begun s i).2.2.1 (by rw [← he])
    rcases h with ⟨h, _⟩ | ⟨h, _⟩ <;> rw [h] <;> decide
  · rw [(begun_err s i he).1]; decide
theorem lex_not_blank {s : ByteArray} {i : Nat} (c1 : ¬ (rd s i).1 = 65279) (c2 : ¬ blank (rd s i).1 = true) : (lex s i).1 ≠ 10 := by
  unfold lex
  rw [if_neg c1, if_neg c2]
  split
  · show (11 : Int) ≠ 10; decide
  · split
    · cases blockTo s (i + 2) <;> simp
    · split
      · split <;> simp
      · split
        · show (9 : Int) ≠ 10; decide
        · split
          · exact num_not10 s i
          · split
            · exact begun_not10 s i
            · split <;> simp
def nlS : ByteArray := ⟨#[10]⟩
/-- Lexemes' texts, a line's end behind each. -/
def apartR (s : ByteArray) : List Tok → ByteArray
  | [] => ByteArray.empty
  | t :: r => (s.extract t.2.1 t.2.2 ++ nlS) ++ apartR s r
theorem bom_first {s : ByteArray} {i : Nat} (hc : cleanZ s i < 0) (hi : i < s.size) (h : (rd s i).1 = 65279) : i = 0 := by
  have := (clean_good hc hi).1
  unfold badHere at this
  simp only [Bool.or_eq_false_iff, decide_eq_false_iff_not, Bool.and_eq_false_iff] at this
  rcases this.2 with g | g
  · exact absurd h g
  · omega
theorem apart_main (s : ByteArray) (i : Nat) (hi : i ≤ s.size) (hc : cleanZ s i < 0) (hn : (alls s i).2 = none) (x : ByteArray) (hx : i = 0 → x.size = 0) (u : ByteArray) (hu : u = x ++ apartR s (alls s i).1) :
    cleanZ u x.size < 0 ∧ (alls u x.size).2 = none ∧ nbl u (alls u x.size).1 = nbl s (alls s i).1 := by
  by_cases hlt : i < s.size
  · by_cases hk : (lex s i).1 = 0
    · rw [alls_bad hlt hk] at hn; cases hn
    · obtain ⟨e, he, h1, h2⟩ := lex_gt s i hlt hk
      have hce := lex_clean s i hlt hc e hk he
      have hst := alls_step hlt (show lex s i = ((lex s i).1, (e : Int)) by rw [← he]) hk
      rw [hst] at hn hu ⊢
      simp only [] at hn hu ⊢
      have hz := piece_size (s := s) (i := i) (e := e) (by omega) h2
      have hnl : nlS.size = 1 := rfl
      have hu2 : u = (x ++ (s.extract i e ++ nlS)) ++ apartR s (alls s e).1 := by rw [hu]; simp only [apartR, ByteArray.append_assoc]
      obtain ⟨i1, i2, i3⟩ := apart_main s e h2 hce hn (x ++ (s.extract i e ++ nlS)) (fun g => by omega) u hu2
      have hxs : (x ++ (s.extract i e ++ nlS)).size = x.size + (e - i) + 1 := by rw [ByteArray.size_append, ByteArray.size_append, hz, hnl]; omega
      rw [hxs] at i1 i2 i3
      have hus : x.size + (e - i) + 1 ≤ u.size := by rw [hu2, ByteArray.size_append, hxs]; omega
      have hpe : u.extract x.size (x.size + (e - i)) = s.extract i e := by
        have hu3 : u = x ++ (s.extract i e ++ (nlS ++ apartR s (alls s e).1)) := by rw [hu2]; simp only [ByteArray.append_assoc]
        rw [hu3, extract_mid x _ _ (e - i) hz]
      have hbn : bt u (x.size + (e - i)) = 10 := by
        have hu3 : u = (x ++ s.extract i e) ++ (nlS ++ apartR s (alls s e).1) := by rw [hu2]; simp only [ByteArray.append_assoc]
        have := bt_right (x ++ s.extract i e) (nlS ++ apartR s (alls s e).1) 0
        rw [← hu3, Nat.add_zero, ByteArray.size_append, hz, bt_left _ _ 0 (by rw [hnl]; omega)] at this
        rw [this]; rfl
      have hcn : cleanZ u (x.size + (e - i)) < 0 := clean_ascii (by omega) (by omega) (by omega) i1
      have hbl : blankB (bt u (x.size + (e - i))) = true := by rw [hbn]; rfl
      have hsk := skip_one (u := u) (a := x.size + (e - i)) (by omega) hbl
      have hS : SameAt s i u x.size (e - i) := ⟨by omega, by omega, by rw [hpe, show i + (e - i) = e by omega], Or.inr ⟨by omega, hbl⟩⟩
      have hlead := clean_good hc hlt
      have hcu : cleanZ u x.size < 0 := by
        have := clean_put (u := u) (a := x.size) (b := x.size + (e - i)) (by omega) (by omega) hcn (fun g => by
          rw [hpe] at g
          by_cases hwide : (rd s i).2 ≤ e - i
          · have := piece_rd (s := s) (i := i) (e := e) (j := 0) (by omega) h2 (by rw [Nat.add_zero]; exact hlead.2.1) (by rw [Nat.add_zero]; omega)
            rw [this, Nat.add_zero] at g
            exact hx (bom_first hc hlt g)
          · exfalso
            have := rd_of_piece (s := s) (i := i) (e := e) (j := 0) (by omega) h2 (by omega) (by
              have := rd_pos (s := s.extract i e) (i := 0) (by omega); exact this.1)
            rw [Nat.add_zero] at this
            have hw2 := rd_pos (s := s.extract i e) (i := 0) (by omega)
            rw [← this, hz] at hw2
            omega) 0 (by omega) (by
          rw [hpe]
          exact piece_clean (by omega) h2 hce 0 (by omega) hc)
        exact this
      refine ⟨hcu, ?_⟩
      by_cases h10 : (lex s i).1 = 10
      · rw [h10, nbl_blank]
        by_cases c1 : (rd s i).1 = 65279
        · have hi0 := bom_first hc hlt c1
          have hl : lex s i = (10, ((i + (rd s i).2 : Nat) : Int)) := by unfold lex; rw [if_pos c1]
          have hew : e = i + (rd s i).2 := by rw [hl] at he; simp only [] at he; omega
          have hr := same_rd hS (j := 0) (by omega) (by rw [Nat.add_zero]; exact hlead.2.1) (by rw [Nat.add_zero]; omega)
          rw [Nat.add_zero, Nat.add_zero] at hr
          have hlu : lex u x.size = (10, ((x.size + (e - i) : Nat) : Int)) := by
            unfold lex
            rw [hr, if_pos c1, hew, show i + (rd s i).2 - i = (rd s i).2 by omega]
          rw [alls_step (by omega) hlu (by decide), nbl_blank]
          exact ⟨hsk.1.trans i2, hsk.2.trans i3⟩
        · have c2 : blank (rd s i).1 = true := by
            cases g : blank (rd s i).1 with
            | true => rfl
            | false => exact absurd h10 (lex_not_blank c1 (by rw [g]; decide))
          have hl : lex s i = (10, (blankTo s i : Int)) := by unfold lex; rw [if_neg c1, if_pos c2]
          have hew : e = blankTo s i := by rw [hl] at he; simp only [] at he; omega
          have := skip_many (u := u) (x.size + (e - i)) (by omega) x.size (by omega) (fun j g1 g2 => by
            have hb := same_bt hS (j := j - x.size) (by omega)
            rw [show x.size + (j - x.size) = j by omega] at hb
            rw [hb]
            exact (blankTo_in (s := s) i _ (by omega) (by omega)).2)
          exact ⟨this.1.trans (hsk.1.trans i2), this.2.trans (hsk.2.trans i3)⟩
      · have hlu := lex_same (n := e - i) hS hlt (Nat.le_refl _) hk h10 (fun _ => ⟨rfl, Or.inr hbn⟩) (by rw [he]; omega)
        rw [alls_step (by omega) hlu hk, nbl_cons _ _ _ _ _ h10, nbl_cons _ _ _ _ _ h10]
        simp only []
        rw [hpe]
        exact ⟨hsk.1.trans i2, by rw [hsk.2.trans i3]⟩
  · rw [alls_end hlt] at hu ⊢
    have hus : u.size = x.size := by rw [hu, ByteArray.size_append]; rfl
    rw [alls_end (by omega), clean_end (by omega)]
    exact ⟨by decide, rfl, rfl⟩
termination_by s.size - i
decreasing_by omega
theorem apartR_size (s : ByteArray) : ∀ (l : List Tok), (∀ t ∈ l, t.2.1 ≤ t.2.2 ∧ t.2.2 ≤ s.size) → (apartR s l).size = ((l.map fun t => t.2.2 - t.2.1).sum + l.length)
  | [], _ => rfl
  | t :: r, h => by
    have h1 := h t List.mem_cons_self
    have ih := apartR_size s r (fun t ht => h t (List.mem_cons_of_mem _ ht))
    rw [apartR, ByteArray.size_append, ByteArray.size_append, piece_size h1.1 h1.2, ih]
    simp only [List.map_cons, List.sum_cons, List.length_cons]
    have : nlS.size = 1 := rfl
    omega
theorem alls_sum (s : ByteArray) (i : Nat) (hi : i ≤ s.size) (hn : (alls s i).2 = none) : ((alls s i).1.map fun t => t.2.2 - t.2.1).sum = s.size - i := by
  by_cases hlt : i < s.size
  · by_cases hk : (lex s i).1 = 0
    · rw [alls_bad hlt hk] at hn; cases hn
    · obtain ⟨e, he, h1, h2⟩ := lex_gt s i hlt hk
      have hst := alls_step hlt (show lex s i = ((lex s i).1, (e : Int)) by rw [← he]) hk
      rw [hst] at hn ⊢
      have ih := alls_sum s e h2 hn
      simp only [List.map_cons, List.sum_cons]
      omega
  · rw [alls_end hlt]
    simp only [List.map_nil, List.sum_nil]; omega
termination_by s.size - i
decreasing_by omega
/-- The whole law of the texts. -/
theorem apart_all (s : ByteArray) (h : (scanAll s).2.1 = 0) (hs : s.size ≤ 4000) :
    (scanAll (apartR s (scanAll s).1)).2 = (0, 0) ∧ nbl (apartR s (scanAll s).1) (scanAll (apartR s (scanAll s).1)).1 = nbl s (scanAll s).1 ∧ (apartR s (scanAll s).1).size ≤ 8000 := by
  have e : ¬ 65536 < s.size := by omega
  have hcl : ¬ 0 ≤ clean s := fun g => by unfold scanAll at h; rw [if_neg e, if_pos g] at h; cases h
  have hal : (alls s 0).2 = none := by
    unfold scanAll at h; rw [if_neg e, if_neg hcl] at h
    cases ha : (alls s 0).2 with
    | none => rfl
    | some i => rw [ha] at h; cases h
  have hL : (scanAll s).1 = (alls s 0).1 := by unfold scanAll; rw [if_neg e, if_neg hcl, hal]
  rw [hL]
  have hcl2 : cleanZ s 0 < 0 := by unfold clean at hcl; omega
  obtain ⟨g1, g2, g3⟩ := apart_main s 0 (Nat.zero_le _) hcl2 hal ByteArray.empty (fun _ => rfl) (apartR s (alls s 0).1) (by rw [ByteArray.empty_append])
  have hsz : (apartR s (alls s 0).1).size ≤ 8000 := by
    rw [apartR_size s _ (fun t ht => by have := alls_in s 0 t ht; omega), alls_sum s 0 (Nat.zero_le _) hal]
    have := alls_len s 0
    omega
  generalize apartR s (alls s 0).1 = u at *
  have hz0 : ByteArray.empty.size = 0 := rfl
  rw [hz0] at g1 g2 g3
  have hsu : scanAll u = ((alls u 0).1, 0, 0) := by
    unfold scanAll
    rw [if_neg (by omega), if_neg (by unfold clean; omega), g2]
  rw [hsu]
  exact ⟨rfl, g3, hsz⟩
end Go.Proofs.YtelfobnmiphdnaaGreatDoor
