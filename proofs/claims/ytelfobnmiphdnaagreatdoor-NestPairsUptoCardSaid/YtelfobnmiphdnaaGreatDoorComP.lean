/- Layer 8 in plain Lean: kinds and texts of the tokens, by lexemes that are blank, silent or not. -/
import Derived.Test.YtelfobnmiphdnaaGreatDoorApartP
import Derived.Test.YtelfobnmiphdnaaGreatDoorSemiP
namespace Go.Proofs.YtelfobnmiphdnaaGreatDoor
set_option linter.all false

def semS : ByteArray := ⟨#[59]⟩
/-- A token's text: a semicolon's own, whether it was put in or stands there. -/
def txt (s : ByteArray) (t : Tok) : ByteArray := if t.1 = 9 then semS else s.extract t.2.1 t.2.2
def tx (s : ByteArray) (t : Tok) : Int × ByteArray := (t.1, txt s t)
def flE (en : Bool) : List (Int × ByteArray) := if en then [(9, semS)] else []
/-- Kinds and texts of the tokens of lexemes; en: may a line end here? -/
def semX (s : ByteArray) : Bool → List Tok → List (Int × ByteArray)
  | en, [] => flE en
  | en, t :: r => if silentK t.1 then (if hasNl s t then flE en ++ semX s false r else semX s en r)
      else tx s t :: semX s (endsK t.1 (s.extract t.2.1 t.2.2)) r
theorem semiRec_tx (s : ByteArray) : ∀ (l : List Tok) (en : Option Nat), (semiRec s en l).map (tx s) = semX s en.isSome l
  | [], en => by cases en <;> rfl
  | t :: r, en => by
    rw [semiRec, semX]
    by_cases hs : silentK t.1 = true
    · rw [if_pos hs, if_pos hs]
      by_cases hn : hasNl s t = true
      · rw [if_pos hn, if_pos hn, List.map_append, semiRec_tx s r none]
        cases en <;> rfl
      · rw [if_neg hn, if_neg hn, semiRec_tx s r en]
    · rw [if_neg hs, if_neg hs, List.map_cons, semiRec_tx s r]
      congr 2
      by_cases he : endsK t.1 (s.extract t.2.1 t.2.2) = true
      · rw [if_pos he, he]; rfl
      · rw [if_neg he]
        cases h : endsK t.1 (s.extract t.2.1 t.2.2) with
        | true => exact absurd h he
        | false => rfl
theorem indexByte_has (c : UInt8) : ∀ l : List UInt8, 0 ≤ Lib.indexByte l c ↔ c ∈ l
  | [] => by simp [Lib.indexByte]
  | b :: t => by
    have ih := indexByte_has c t
    have hge := Lib.indexByte_ge t c
    rw [Lib.indexByte]
    by_cases hb : b = c
    · subst hb; simp
    · rw [if_neg (by simpa using hb)]
      have hcb : ¬ c = b := fun e => hb e.symm
      simp only [List.mem_cons, hcb, false_or]
      rw [← ih]
      by_cases hm : Lib.indexByte t c = -1
      · rw [hm]; simp
      · rw [if_neg (by simpa using hm)]; omega
theorem hasNl_iff {s : ByteArray} {k : Int} {a e : Nat} (he : e ≤ s.size) : hasNl s (k, a, e) = true ↔ ∃ j, a ≤ j ∧ j < e ∧ bt s j = 10 := by
  unfold hasNl
  rw [decide_eq_true_eq, indexByte_has]
  simp only []
  rw [extract_data]
  constructor
  · intro h
    obtain ⟨j, hj, hx⟩ := List.getElem_of_mem h
    rw [List.getElem_take, List.getElem_drop] at hx
    rw [List.length_take, List.length_drop, ← size_data] at hj
    refine ⟨a + j, by omega, by omega, ?_⟩
    unfold bt
    rw [get!_list, List.getD_eq_getElem?_getD, List.getElem?_eq_getElem (by rw [← size_data]; omega), Option.getD_some, hx]
    rfl
  · rintro ⟨j, h1, h2, h3⟩
    have hj : j < s.data.toList.length := by rw [← size_data]; omega
    unfold bt at h3
    rw [get!_list, List.getD_eq_getElem?_getD, List.getElem?_eq_getElem hj, Option.getD_some] at h3
    have h4 : s.data.toList[j] = 10 := UInt8.toNat_inj.1 (by rw [h3]; rfl)
    rw [← h4]
    refine List.mem_iff_getElem.2 ⟨j - a, by rw [List.length_take, List.length_drop]; omega, ?_⟩
    rw [List.getElem_take, List.getElem_drop]
    congr 1; omega
theorem hasNl_kind (s : ByteArray) (k k' : Int) (a e : Nat) : hasNl s (k, a, e) = hasNl s (k', a, e) := rfl
theorem hasNl_text {s u : ByteArray} {k k' : Int} {a e a' e' : Nat} (h : u.extract a' e' = s.extract a e) : hasNl u (k', a', e') = hasNl s (k, a, e) := by
  unfold hasNl; simp only []; rw [h]
theorem hasNl_no {s : ByteArray} {k : Int} {a e : Nat} (he : e ≤ s.size) (h : ∀ j, a ≤ j → j < e → bt s j ≠ 10) : hasNl s (k, a, e) = false := by
  cases g : hasNl s (k, a, e) with
  | false => rfl
  | true =>
    obtain ⟨j, h1, h2, h3⟩ := (hasNl_iff he).1 g
    exact absurd h3 (h j h1 h2)
theorem semX_sil (s : ByteArray) (en : Bool) (t : Tok) (r : List Tok) (h : silentK t.1 = true) : semX s en (t :: r) = if hasNl s t then flE en ++ semX s false r else semX s en r := by rw [semX, if_pos h]
theorem semX_tok (s : ByteArray) (en : Bool) (t : Tok) (r : List Tok) (h : silentK t.1 = false) : semX s en (t :: r) = tx s t :: semX s (endsK t.1 (s.extract t.2.1 t.2.2)) r := by rw [semX, if_neg (by rw [h]; decide)]
/-- Two line ends are one. -/
theorem fl_false (l : List (Int × ByteArray)) : flE false ++ l = l := rfl
/-- One blank byte more. -/
theorem semX_blank {u : ByteArray} {a : Nat} (h : a < u.size) (hb : blankB (bt u a) = true) : (alls u a).2 = (alls u (a + 1)).2 ∧ ∀ en, semX u en (alls u a).1 = if bt u a = 10 then flE en ++ semX u false (alls u (a + 1)).1 else semX u en (alls u (a + 1)).1 := by
  have e1 : blankTo u a = blankTo u (a + 1) := by rw [blankTo, if_pos ⟨h, hb⟩]
  have hl := lex_blank h hb
  rw [e1] at hl
  rw [alls_step h hl (by decide)]
  have hle := blankTo_le u (a + 1) h
  by_cases g : a + 1 < u.size ∧ blankB (bt u (a + 1)) = true
  · have hl2 := lex_blank g.1 g.2
    rw [alls_step g.1 hl2 (by decide)]
    refine ⟨rfl, fun en => ?_⟩
    simp only []
    rw [semX_sil _ _ _ _ (by rfl)]
    generalize (alls u (blankTo u (a + 1))).1 = r
    by_cases h10 : bt u a = 10
    · rw [if_pos h10, (hasNl_iff hle.2).2 ⟨a, Nat.le_refl _, by omega, h10⟩, if_pos rfl, semX_sil _ _ _ _ (by rfl)]
      split <;> rfl
    · rw [if_neg h10, semX_sil _ _ _ _ (by rfl)]
      have : hasNl u (10, a, blankTo u (a + 1)) = hasNl u (10, a + 1, blankTo u (a + 1)) := by
        rw [Bool.eq_iff_iff, hasNl_iff hle.2, hasNl_iff hle.2]
        constructor
        · rintro ⟨j, j1, j2, j3⟩
          refine ⟨j, ?_, j2, j3⟩
          rcases Nat.lt_or_ge a j with q | q
          · exact q
          · obtain rfl : j = a := by omega
            exact absurd j3 h10
        · rintro ⟨j, j1, j2, j3⟩
          exact ⟨j, by omega, j2, j3⟩
      rw [this]
  · have : blankTo u (a + 1) = a + 1 := by rw [blankTo, if_neg g]
    rw [this]
    refine ⟨rfl, fun en => ?_⟩
    simp only []
    rw [semX_sil _ _ _ _ (by rfl)]
    by_cases h10 : bt u a = 10
    · rw [if_pos h10, (hasNl_iff h).2 ⟨a, Nat.le_refl _, by omega, h10⟩, if_pos rfl]
    · rw [if_neg h10, hasNl_no h (fun j j1 j2 => by obtain rfl : j = a := by omega
                                                    exact h10), if_neg (by decide)]
/-- Blank bytes, one behind the other. -/
theorem semX_blanks {u : ByteArray} (b : Nat) (hb : b ≤ u.size) (k : Int) (a : Nat) (h : a ≤ b) (hx : ∀ j, a ≤ j → j < b → blankB (bt u j) = true) :
    (alls u a).2 = (alls u b).2 ∧ ∀ en, semX u en (alls u a).1 = if hasNl u (k, a, b) then flE en ++ semX u false (alls u b).1 else semX u en (alls u b).1 := by
  by_cases hlt : a < b
  · have h1 := semX_blank (u := u) (a := a) (by omega) (hx a (Nat.le_refl _) hlt)
    have h2 := semX_blanks b hb k (a + 1) hlt (fun j g1 g2 => hx j (by omega) g2)
    refine ⟨h1.1.trans h2.1, fun en => ?_⟩
    rw [h1.2 en]
    by_cases h10 : bt u a = 10
    · rw [if_pos h10, (hasNl_iff hb).2 ⟨a, Nat.le_refl _, hlt, h10⟩, if_pos rfl, h2.2 false]
      split <;> rfl
    · rw [if_neg h10, h2.2 en]
      have : hasNl u (k, a, b) = hasNl u (k, a + 1, b) := by
        rw [Bool.eq_iff_iff, hasNl_iff hb, hasNl_iff hb]
        constructor
        · rintro ⟨j, j1, j2, j3⟩
          refine ⟨j, ?_, j2, j3⟩
          rcases Nat.lt_or_ge a j with q | q
          · exact q
          · obtain rfl : j = a := by omega
            exact absurd j3 h10
        · rintro ⟨j, j1, j2, j3⟩
          exact ⟨j, by omega, j2, j3⟩
      rw [this]
  · obtain rfl : a = b := by omega
    refine ⟨rfl, fun en => ?_⟩
    rw [hasNl_no hb (fun j j1 j2 => by omega), if_neg (by decide)]
termination_by b - a
decreasing_by omega
end Go.Proofs.YtelfobnmiphdnaaGreatDoor
namespace Go.Proofs.YtelfobnmiphdnaaGreatDoor
set_option linter.all false

theorem extract_nil (s : ByteArray) (i : Nat) : s.extract i i = ByteArray.empty := by
  apply ByteArray.ext
  apply Array.ext'
  rw [extract_data, Nat.sub_self, List.take_zero]
  rfl
def comQ (s : ByteArray) (t : Tok) : ByteArray := if t.1 = 11 then nlS else if t.1 = 12 then ⟨#[if hasNl s t then 10 else 32]⟩ else s.extract t.2.1 t.2.2
/-- The text with a line's end for each comment up to a line's end, and a blank or a line's end for each other one. -/
def comR (s : ByteArray) : List Tok → ByteArray
  | [] => ByteArray.empty
  | t :: r => comQ s t ++ comR s r
/-- How many bytes stand before the next comment. -/
def mrun : List Tok → Nat
  | [] => 0
  | t :: r => if t.1 = 11 ∨ t.1 = 12 then 0 else (t.2.2 - t.2.1) + mrun r
theorem same_nil {s u : ByteArray} {i a : Nat} (hi : i ≤ s.size) (ha : a = u.size ∨ (a < u.size ∧ blankB (bt u a) = true)) : SameAt s i u a 0 := by
  refine ⟨by omega, ?_, by rw [Nat.add_zero, Nat.add_zero, extract_nil, extract_nil], by rw [Nat.add_zero]; exact ha⟩
  rcases ha with h | h <;> omega
theorem same_join {s u : ByteArray} {i e a n m : Nat} (he : i + n = e) (h : SameAt s e u (a + n) m) (hx : u.extract a (a + n) = s.extract i e) : SameAt s i u a (n + m) := by
  subst he
  obtain ⟨h1, h2, h3, h4⟩ := h
  refine ⟨by omega, by omega, ?_, by rw [← Nat.add_assoc]; exact h4⟩
  rw [← Nat.add_assoc, ← Nat.add_assoc, ← extract_all u a (a + n) (a + n + m) (by omega) (by omega), ← extract_all s i (i + n) (i + n + m) (by omega) (by omega), hx, h3]
theorem num_not11 (s : ByteArray) (i : Nat) : (numScan s i).1 ≠ 11 := by
  unfold numScan
  split
  · split
    · have := kindL_le (byts (s.extract (i : Int).toNat (numEnd s (i : Int).toNat)))
      show ((kindL _ : Nat) : Int) ≠ 11
      omega
    · decide
  · decide
theorem begun_not11 (s : ByteArray) (i : Nat) : (begun s i).1 ≠ 11 := by
  by_cases he : (begun s i).2.2.2 = 0
  · obtain ⟨j, n, _, _, _, _, _, _, _, h⟩ := begun_found s i (begun s i).1 (begun s i).2.1 (begun s i).2.2.1 (by rw [← he])
    rcases h with ⟨h, _⟩ | ⟨h, _⟩ <;> rw [h] <;> decide
  · rw [(begun_err s i he).1]; decide
theorem lex_line {s : ByteArray} {i : Nat} (h : (lex s i).1 = 11) : lex s i = (11, (lineTo s i : Int)) := by
  by_cases c1 : (rd s i).1 = 65279
  · unfold lex at h; rw [if_pos c1] at h; exact absurd h (by show (10 : Int) ≠ 11; decide)
  by_cases c2 : blank (rd s i).1 = true
  · unfold lex at h; rw [if_neg c1, if_pos c2] at h; exact absurd h (by show (10 : Int) ≠ 11; decide)
  by_cases c3 : i + 1 < s.size ∧ bt s i = 47 ∧ bt s (i + 1) = 47
  · unfold lex; rw [if_neg c1, if_neg c2, if_pos c3]
  exfalso
  unfold lex at h
  rw [if_neg c1, if_neg c2, if_neg c3] at h
  split at h
  · cases hb : blockTo s (i + 2) <;> rw [hb] at h <;> simp at h
  · split at h
    · split at h <;> simp at h
    · split at h
      · simp at h
      · split at h
        · exact num_not11 s i h
        · split at h
          · exact begun_not11 s i h
          · split at h <;> simp at h
theorem com_main (s : ByteArray) (i : Nat) (hi : i ≤ s.size) (hc : cleanZ s i < 0) (hn : (alls s i).2 = none) (x : ByteArray) (hx : i = 0 → x.size = 0) (u : ByteArray) (hu : u = x ++ comR s (alls s i).1) :
    cleanZ u x.size < 0 ∧ (alls u x.size).2 = none ∧ (∀ en, semX u en (alls u x.size).1 = semX s en (alls s i).1) ∧ SameAt s i u x.size (mrun (alls s i).1) := by
  by_cases hlt : i < s.size
  · by_cases hk : (lex s i).1 = 0
    · rw [alls_bad hlt hk] at hn; cases hn
    · obtain ⟨e, he, h1, h2⟩ := lex_gt s i hlt hk
      have hce := lex_clean s i hlt hc e hk he
      have hst := alls_step hlt (show lex s i = ((lex s i).1, (e : Int)) by rw [← he]) hk
      rw [hst] at hn hu ⊢
      simp only [] at hn hu ⊢
      have hz := piece_size (s := s) (i := i) (e := e) (by omega) h2
      have hu2 : u = (x ++ comQ s ((lex s i).1, i, e)) ++ comR s (alls s e).1 := by rw [hu]; simp only [comR, ByteArray.append_assoc]
      obtain ⟨i1, i2, i3, i4⟩ := com_main s e h2 hce hn (x ++ comQ s ((lex s i).1, i, e)) (fun g => by omega) u hu2
      have hxs : (x ++ comQ s ((lex s i).1, i, e)).size = x.size + (comQ s ((lex s i).1, i, e)).size := by rw [ByteArray.size_append]
      rw [hxs] at i1 i2 i3 i4
      have hus : x.size + (comQ s ((lex s i).1, i, e)).size ≤ u.size := by rw [hu2, ByteArray.size_append, hxs]; omega
      have hqe : u.extract x.size (x.size + (comQ s ((lex s i).1, i, e)).size) = comQ s ((lex s i).1, i, e) := by
        have hu3 : u = x ++ (comQ s ((lex s i).1, i, e) ++ comR s (alls s e).1) := by rw [hu2]; simp only [ByteArray.append_assoc]
        rw [hu3, extract_mid x _ _ _ rfl]
      have hq0 : 0 < (comQ s ((lex s i).1, i, e)).size → bt u x.size = bt (comQ s ((lex s i).1, i, e)) 0 := fun g => by
        rw [← hqe, piece_bt (j := 0) (by omega) hus, Nat.add_zero]
      by_cases k11 : (lex s i).1 = 11
      · have hQ : comQ s ((lex s i).1, i, e) = nlS := by unfold comQ; rw [if_pos k11]
        rw [hQ] at i1 i2 i3 i4 hus hq0
        have hnl : nlS.size = 1 := rfl
        rw [hnl] at i1 i2 i3 i4 hus hq0
        have hb : bt u x.size = 10 := hq0 (by omega)
        have hbl : blankB (bt u x.size) = true := by rw [hb]; rfl
        have hsk := semX_blank (u := u) (a := x.size) (by omega) hbl
        have hll := lex_line k11
        have hee : e = lineTo s i := by rw [hll] at he; simp only [] at he; omega
        refine ⟨clean_ascii (by omega) (by omega) (by omega) i1, hsk.1.trans i2, fun en => ?_, ?_⟩
        · rw [hsk.2 en, if_pos hb, i3, k11, semX_sil _ _ _ _ (by rfl), hasNl_no h2 (fun j j1 j2 => (lineTo_in (s := s) i j j1 (by omega)).2), if_neg (by decide)]
          rcases lineTo_stop s i (by omega) with g | ⟨g1, g2⟩
          · rw [alls_end (by omega)]
            show flE en ++ semX s false [] = semX s en []
            rw [semX, semX]; simp [flE]
          · rw [← hee] at g1 g2
            have hs2 := (semX_blank (u := s) (a := e) g1 (by rw [g2]; rfl)).2
            rw [hs2 false, hs2 en, if_pos g2, if_pos g2]; rfl
        · have : mrun (((lex s i).1, i, e) :: (alls s e).1) = 0 := by rw [mrun, if_pos (Or.inl k11)]
          rw [this]
          exact same_nil hi (Or.inr ⟨by omega, hbl⟩)
      · by_cases k12 : (lex s i).1 = 12
        · have hQ : comQ s ((lex s i).1, i, e) = ⟨#[if hasNl s ((lex s i).1, i, e) then 10 else 32]⟩ := by unfold comQ; rw [if_neg k11, if_pos k12]
          have hQs : (comQ s ((lex s i).1, i, e)).size = 1 := by rw [hQ]; rfl
          rw [hQs] at i1 i2 i3 i4 hus hq0
          have hb : bt u x.size = if hasNl s ((lex s i).1, i, e) then 10 else 32 := by
            rw [hq0 (by omega), hQ]
            cases hasNl s ((lex s i).1, i, e) <;> rfl
          have hbl : blankB (bt u x.size) = true := by rw [hb]; cases hasNl s ((lex s i).1, i, e) <;> rfl
          have hlow : bt u x.size < 128 ∧ bt u x.size ≠ 0 := by rw [hb]; cases hasNl s ((lex s i).1, i, e) <;> decide
          have hsk := semX_blank (u := u) (a := x.size) (by omega) hbl
          refine ⟨clean_ascii (by omega) hlow.1 hlow.2 i1, hsk.1.trans i2, fun en => ?_, ?_⟩
          · rw [hsk.2 en, i3, i3, hb, semX_sil _ _ _ _ (by rw [k12]; rfl)]
            cases hasNl s ((lex s i).1, i, e) <;> rfl
          · have : mrun (((lex s i).1, i, e) :: (alls s e).1) = 0 := by rw [mrun, if_pos (Or.inr k12)]
            rw [this]
            exact same_nil hi (Or.inr ⟨by omega, hbl⟩)
        · have hQ : comQ s ((lex s i).1, i, e) = s.extract i e := by unfold comQ; rw [if_neg k11, if_neg k12]
          rw [hQ, hz] at i1 i2 i3 i4 hus hqe
          clear hq0 hxs hQ
          have hmr : mrun (((lex s i).1, i, e) :: (alls s e).1) = (e - i) + mrun (alls s e).1 := by rw [mrun, if_neg (fun g => g.elim k11 k12)]
          have hS : SameAt s i u x.size (mrun (((lex s i).1, i, e) :: (alls s e).1)) := by rw [hmr]; exact same_join (by omega) i4 hqe
          have hlead := clean_good hc hlt
          have hcu : cleanZ u x.size < 0 := by
            have := clean_put (u := u) (a := x.size) (b := x.size + (e - i)) (by omega) (by omega) i1 (fun g => by
              rw [hqe] at g
              by_cases hwide : (rd s i).2 ≤ e - i
              · have := piece_rd (s := s) (i := i) (e := e) (j := 0) (by omega) h2 (by rw [Nat.add_zero]; exact hlead.2.1) (by rw [Nat.add_zero]; omega)
                rw [this, Nat.add_zero] at g
                exact hx (bom_first hc hlt g)
              · exfalso
                have := rd_of_piece (s := s) (i := i) (e := e) (j := 0) (by omega) h2 (by omega) (by
                  have := rd_pos (s := s.extract i e) (i := 0) (by omega); exact this.1)
                rw [Nat.add_zero] at this
                have hw2 := rd_pos (s := s.extract i e) (i := 0) (by omega)
                rw [← this, hz] at hw2
                omega) 0 (by omega) (by
              rw [hqe]
              exact piece_clean (by omega) h2 hce 0 (by omega) hc)
            exact this
          refine ⟨hcu, ?_⟩
          rw [← and_assoc]
          refine ⟨?_, hS⟩
          by_cases h10 : (lex s i).1 = 10
          · by_cases c1 : (rd s i).1 = 65279
            · have hl : lex s i = (10, ((i + (rd s i).2 : Nat) : Int)) := by unfold lex; rw [if_pos c1]
              have hew : e = i + (rd s i).2 := by rw [hl] at he; simp only [] at he; omega
              have hr := same_rd hS (j := 0) (by omega) (by rw [Nat.add_zero]; exact hlead.2.1) (by rw [Nat.add_zero]; omega)
              rw [Nat.add_zero, Nat.add_zero] at hr
              have hlu : lex u x.size = (10, ((x.size + (e - i) : Nat) : Int)) := by
                unfold lex
                rw [hr, if_pos c1, hew, show i + (rd s i).2 - i = (rd s i).2 by omega]
              rw [alls_step (by omega) hlu (by decide)]
              refine ⟨i2, fun en => ?_⟩
              simp only []
              rw [semX_sil _ _ _ _ (by rfl), semX_sil _ _ _ _ (by rw [h10]; rfl), hasNl_text (k := (lex s i).1) hqe, i3, i3]
            · have c2 : blank (rd s i).1 = true := by
                cases g : blank (rd s i).1 with
                | true => rfl
                | false => exact absurd h10 (lex_not_blank c1 (by rw [g]; decide))
              have hl : lex s i = (10, (blankTo s i : Int)) := by unfold lex; rw [if_neg c1, if_pos c2]
              have hew : e = blankTo s i := by rw [hl] at he; simp only [] at he; omega
              have := semX_blanks (u := u) (x.size + (e - i)) (by omega) (lex s i).1 x.size (by omega) (fun j g1 g2 => by
                have hb := same_bt hS (j := j - x.size) (by omega)
                rw [show x.size + (j - x.size) = j by omega] at hb
                rw [hb]
                exact (blankTo_in (s := s) i _ (by omega) (by omega)).2)
              refine ⟨this.1.trans i2, fun en => ?_⟩
              rw [this.2 en, semX_sil _ _ _ _ (by rw [h10]; rfl), hasNl_text (k := (lex s i).1) hqe, i3, i3]
          · have hlu := lex_same (n := e - i) hS hlt (by omega) hk h10 (fun g => absurd g k11) (by rw [he]; omega)
            have hsil : silentK (lex s i).1 = false := by unfold silentK; simp [h10, k11, k12]
            rw [alls_step (by omega) hlu hk]
            refine ⟨i2, fun en => ?_⟩
            simp only []
            rw [semX_tok _ _ _ _ hsil, semX_tok _ _ _ _ hsil, i3]
            simp only []
            rw [hqe]
            congr 1
            unfold tx txt
            simp only []
            rw [hqe]
  · rw [alls_end hlt] at hu ⊢
    have hus : u.size = x.size := by rw [hu, ByteArray.size_append]; rfl
    have hcl : cleanZ u x.size < 0 := by rw [clean_end (by omega)]; decide
    refine ⟨hcl, by rw [alls_end (by omega)], fun en => by rw [alls_end (by omega)]; rfl, same_nil hi (Or.inl hus.symm)⟩
termination_by s.size - i
decreasing_by omega
theorem comQ_size {s : ByteArray} {t : Tok} (h1 : t.2.1 < t.2.2) (h2 : t.2.2 ≤ s.size) : (comQ s t).size ≤ t.2.2 - t.2.1 := by
  unfold comQ
  split
  · show 1 ≤ _; omega
  · split
    · show 1 ≤ _; omega
    · rw [piece_size (by omega) h2]; exact Nat.le_refl _
theorem comR_size (s : ByteArray) : ∀ (l : List Tok), (∀ t ∈ l, t.2.1 < t.2.2 ∧ t.2.2 ≤ s.size) → (comR s l).size ≤ (l.map fun t => t.2.2 - t.2.1).sum
  | [], _ => Nat.le_refl _
  | t :: r, h => by
    have h1 := h t List.mem_cons_self
    have ih := comR_size s r (fun t ht => h t (List.mem_cons_of_mem _ ht))
    have := comQ_size h1.1 h1.2
    rw [comR, ByteArray.size_append]
    simp only [List.map_cons, List.sum_cons]
    omega
theorem scanAll_good {s : ByteArray} (h : (scanAll s).2.1 = 0) : s.size ≤ 65536 ∧ cleanZ s 0 < 0 ∧ (alls s 0).2 = none ∧ (scanAll s).1 = (alls s 0).1 := by
  have e : ¬ 65536 < s.size := fun g => by unfold scanAll at h; rw [if_pos g] at h; cases h
  have hcl : ¬ 0 ≤ clean s := fun g => by unfold scanAll at h; rw [if_neg e, if_pos g] at h; cases h
  have hal : (alls s 0).2 = none := by
    unfold scanAll at h; rw [if_neg e, if_neg hcl] at h
    cases ha : (alls s 0).2 with
    | none => rfl
    | some i => rw [ha] at h; cases h
  refine ⟨by omega, by unfold clean at hcl; omega, hal, ?_⟩
  unfold scanAll; rw [if_neg e, if_neg hcl, hal]
theorem scanAll_of {u : ByteArray} (h : u.size ≤ 65536) (hc : cleanZ u 0 < 0) (ha : (alls u 0).2 = none) : scanAll u = ((alls u 0).1, 0, 0) := by
  unfold scanAll
  rw [if_neg (by omega), if_neg (by unfold clean; omega), ha]
/-- The whole law of the texts. -/
theorem com_all (s : ByteArray) (h : (scanAll s).2.1 = 0) :
    (comR s (scanAll s).1).size ≤ 65536 ∧ (semiAll (comR s (scanAll s).1)).2 = (0, 0) ∧ (semiAll (comR s (scanAll s).1)).1.map (tx (comR s (scanAll s).1)) = (semiAll s).1.map (tx s) := by
  obtain ⟨e1, e2, e3, e4⟩ := scanAll_good h
  have herr : (scanAll s).2.1 = 0 ∧ (scanAll s).2.2 = 0 := ⟨h, scanAll_err s h⟩
  rw [semiAll_rec s herr, e4]
  obtain ⟨g1, g2, g3, _⟩ := com_main s 0 (Nat.zero_le _) e2 e3 ByteArray.empty (fun _ => rfl) (comR s (alls s 0).1) (by rw [ByteArray.empty_append])
  have hsz : (comR s (alls s 0).1).size ≤ 65536 := by
    have := comR_size s _ (fun t ht => by have := alls_in s 0 t ht; exact ⟨this.2.1, this.2.2.1⟩)
    rw [alls_sum s 0 (Nat.zero_le _) e3] at this
    omega
  generalize comR s (alls s 0).1 = u at *
  have hz0 : ByteArray.empty.size = 0 := rfl
  rw [hz0] at g1 g2 g3
  have hsu := scanAll_of hsz g1 g2
  refine ⟨hsz, ?_⟩
  rw [semiAll_rec u ⟨by rw [hsu], by rw [hsu]⟩, hsu]
  refine ⟨rfl, ?_⟩
  simp only []
  rw [semiRec_tx, semiRec_tx]
  exact g3 false
end Go.Proofs.YtelfobnmiphdnaaGreatDoor
