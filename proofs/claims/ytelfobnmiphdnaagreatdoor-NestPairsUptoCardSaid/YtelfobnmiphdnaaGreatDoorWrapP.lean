/- A text in brackets, in plain Lean: '(' and a line's end and ')' around a text: its tokens are the text's own between the two. -/
import Derived.Test.YtelfobnmiphdnaaGreatDoorComP
namespace Go.Proofs.YtelfobnmiphdnaaGreatDoor
set_option linter.all false
attribute [local irreducible] byts

def opS : ByteArray := ⟨#[40]⟩
def clS : ByteArray := ⟨#[41]⟩
def endS : ByteArray := ⟨#[10, 41]⟩
theorem par_head3 : ∀ m ∈ signs3, m.headD 0 ≠ 40 ∧ m.headD 0 ≠ 41 := by decide +kernel
theorem par_head2 : ∀ m ∈ signs2, m.headD 0 ≠ 40 ∧ m.headD 0 ≠ 41 := by decide +kernel
theorem sign_par {l : List Nat} {c : Nat} (hc : c = 40 ∨ c = 41) (h : l.headD 0 = c) (hl : 0 < l.length) : signL l = 1 := by
  unfold signL
  have n3 : ¬ signs3.contains (l.take 3) = true := fun g => by
    have := par_head3 _ (List.contains_iff_mem.1 g)
    rw [headD_take _ _ (by omega), h] at this
    omega
  have n2 : ¬ signs2.contains (l.take 2) = true := fun g => by
    have := par_head2 _ (List.contains_iff_mem.1 g)
    rw [headD_take _ _ (by omega), h] at this
    omega
  have y1 : signs1.contains (l.take 1) = true := by
    cases l with
    | nil => simp at hl
    | cons x r =>
      have hx : x = c := h
      subst hx
      show signs1.contains [x] = true
      rcases hc with rfl | rfl <;> decide
  rw [if_neg n3, if_neg n2, if_pos y1]
theorem lex_par {u : ByteArray} {a : Nat} (ha : a < u.size) (h : bt u a = 40 ∨ bt u a = 41) : lex u a = (8, ((a + 1 : Nat) : Int)) := by
  have hr := rd_ascii ha (by omega)
  have hl : ∀ c : Nat, c = 40 ∨ c = 41 → letter (c : Int) = false ∧ blank (c : Int) = false := by
    have : ∀ c ∈ [40, 41], letter ((c : Nat) : Int) = false ∧ blank ((c : Nat) : Int) = false := by unfold letter blank; decide +kernel
    intro c hc
    exact this c (by simp; omega)
  have hlc := hl _ h
  have hs : signL (byts (u.extract a u.size)) = 1 := sign_par h (byts_headD a ha) (by rw [byts_length, ByteArray.size_extract]; omega)
  have hnb : numBegins u a = false := by
    unfold numBegins
    rcases h with h | h <;> rw [h] <;> simp [dval]
  have hns : numScan u (a : Nat) = (0, 0, 15) := by
    unfold numScan
    rw [Int.toNat_natCast, if_neg (fun g => by rw [hnb] at g; cases g.2)]
  have hbg : (begun u (a : Nat)).2.2.2 = 15 := by
    rw [begun_no (i := a) (by unfold isMark; rcases h with h | h <;> rw [h] <;> rfl)]
  have h1 : (rd u a).1 = bt u a := by rw [hr]
  exact lex_sign_at (n := 1) (by rw [h1]; omega) (by rw [h1, hlc.2]; decide) (by omega) (by omega) (by rw [h1, hlc.1]; decide) (by omega) (by rw [hns]; decide) (by rw [hbg]; decide) hs (by omega)
theorem same_sub {s u : ByteArray} {i a m : Nat} (H : SameAt s 0 u a m) (hi : i ≤ m) : SameAt s i u (a + i) (m - i) := by
  obtain ⟨h1, h2, h3, h4⟩ := H
  have := same_ext (H := ⟨h1, h2, h3, h4⟩) (a := i) (b := m) (Nat.le_refl _)
  refine ⟨by omega, by omega, ?_, ?_⟩
  · rw [show a + i + (m - i) = a + m by omega, show i + (m - i) = m by omega, this, Nat.zero_add, Nat.zero_add]
  · rw [show a + i + (m - i) = a + m by omega]; exact h4
theorem wrap_main (s u : ByteArray) (hu : u = opS ++ (s ++ endS)) (hbom : (rd s 0).1 ≠ 65279) (i : Nat) (hi : i ≤ s.size) (hc : cleanZ s i < 0) (hn : (alls s i).2 = none) :
    cleanZ u (1 + i) < 0 ∧ (alls u (1 + i)).2 = none ∧ ∀ en, semX u en (alls u (1 + i)).1 = semX s en (alls s i).1 ++ [(8, clS), (9, semS)] := by
  have ho : opS.size = 1 := rfl
  have he2 : endS.size = 2 := rfl
  have hus : u.size = s.size + 3 := by rw [hu, ByteArray.size_append, ByteArray.size_append, ho, he2]; omega
  have b1 : bt u (1 + s.size) = 10 := by
    have hu2 : u = (opS ++ s) ++ endS := by rw [hu, ByteArray.append_assoc]
    have := bt_right (opS ++ s) endS 0
    rw [← hu2, ByteArray.size_append, ho, Nat.add_zero] at this
    rw [this]; rfl
  have b2 : bt u (2 + s.size) = 41 := by
    have hu2 : u = (opS ++ s) ++ endS := by rw [hu, ByteArray.append_assoc]
    have := bt_right (opS ++ s) endS 1
    rw [← hu2, ByteArray.size_append, ho, show 1 + s.size + 1 = 2 + s.size by omega] at this
    rw [this]; rfl
  have hx : u.extract 1 (1 + s.size) = s := by
    have := extract_mid opS s endS s.size rfl
    rw [← hu, ho] at this; exact this
  have hS : SameAt s 0 u 1 s.size := ⟨by omega, by omega, by rw [hx, Nat.zero_add, extract_whole], Or.inr ⟨by omega, by rw [b1]; rfl⟩⟩
  by_cases hlt : i < s.size
  · by_cases hk : (lex s i).1 = 0
    · rw [alls_bad hlt hk] at hn; cases hn
    · obtain ⟨e, he, h1, h2⟩ := lex_gt s i hlt hk
      have hce := lex_clean s i hlt hc e hk he
      have hst := alls_step hlt (show lex s i = ((lex s i).1, (e : Int)) by rw [← he]) hk
      rw [hst] at hn ⊢
      simp only [] at hn ⊢
      obtain ⟨i1, i2, i3⟩ := wrap_main s u hu hbom e h2 hce hn
      have hSi := same_sub hS hi
      have hqe : u.extract (1 + i) (1 + e) = s.extract i e := by
        have := same_ext hS (a := i) (b := e) h2
        rw [Nat.zero_add, Nat.zero_add] at this; exact this
      have hlead := clean_good hc hlt
      have hcu : cleanZ u (1 + i) < 0 := by
        have := clean_put (u := u) (a := 1 + i) (b := 1 + e) (by omega) (by omega) i1 (fun g => by
          exfalso
          rw [hqe] at g
          have hr := rd_of_piece (s := s) (i := i) (e := e) (j := 0) (by omega) h2 (by omega) (by
            have := rd_pos (s := s.extract i e) (i := 0) (by omega); exact this.1)
          rw [Nat.add_zero] at hr
          rw [← hr] at g
          have := bom_first hc hlt g
          subst this
          exact hbom g) 0 (by omega) (by
          rw [hqe]
          exact piece_clean (by omega) h2 hce 0 (by omega) hc)
        exact this
      refine ⟨hcu, ?_⟩
      by_cases h10 : (lex s i).1 = 10
      · have c1 : ¬ (rd s i).1 = 65279 := fun g => by
          have := bom_first hc hlt g
          subst this
          exact hbom g
        have c2 : blank (rd s i).1 = true := by
          cases g : blank (rd s i).1 with
          | true => rfl
          | false => exact absurd h10 (lex_not_blank c1 (by rw [g]; decide))
        have hl : lex s i = (10, (blankTo s i : Int)) := by unfold lex; rw [if_neg c1, if_pos c2]
        have hew : e = blankTo s i := by rw [hl] at he; simp only [] at he; omega
        have := semX_blanks (u := u) (1 + e) (by omega) (lex s i).1 (1 + i) (by omega) (fun j g1 g2 => by
          have hb := same_bt hS (j := j - 1) (by omega)
          rw [show 1 + (j - 1) = j by omega, Nat.zero_add] at hb
          rw [hb]
          exact (blankTo_in (s := s) i _ (by omega) (by omega)).2)
        refine ⟨this.1.trans i2, fun en => ?_⟩
        rw [this.2 en, semX_sil _ _ _ _ (by rw [h10]; rfl), hasNl_text (k := (lex s i).1) hqe, i3, i3]
        split
        · rw [List.append_assoc]
        · rfl
      · have hlu : lex u (1 + i) = ((lex s i).1, ((1 + i + (e - i) : Nat) : Int)) := by
          by_cases k11 : (lex s i).1 = 11
          · have hll := lex_line k11
            have hee : e = lineTo s i := by rw [hll] at he; simp only [] at he; omega
            have hb10 : bt u (1 + e) = 10 := by
              rcases lineTo_stop s i (by omega) with g | ⟨g1, g2⟩
              · rw [← hee] at g; rw [g]; exact b1
              · rw [← hee] at g1 g2
                have := same_bt hS (j := e) g1
                rw [Nat.zero_add] at this
                rw [this]; exact g2
            have hS2 : SameAt s i u (1 + i) (e - i) := ⟨by omega, by omega, by rw [show 1 + i + (e - i) = 1 + e by omega, show i + (e - i) = e by omega]; exact hqe, Or.inr ⟨by omega, by rw [show 1 + i + (e - i) = 1 + e by omega, hb10]; rfl⟩⟩
            exact lex_same (n := e - i) hS2 hlt (Nat.le_refl _) hk h10 (fun _ => ⟨rfl, Or.inr (by rw [show 1 + i + (e - i) = 1 + e by omega]; exact hb10)⟩) (by rw [he]; omega)
          · exact lex_same (n := e - i) hSi hlt (by omega) hk h10 (fun g => absurd g k11) (by rw [he]; omega)
        rw [show 1 + i + (e - i) = 1 + e by omega] at hlu
        rw [alls_step (by omega) hlu hk]
        refine ⟨i2, fun en => ?_⟩
        simp only []
        by_cases hsil : silentK (lex s i).1 = true
        · rw [semX_sil _ _ _ _ hsil, semX_sil _ _ _ _ hsil, hasNl_text (k := (lex s i).1) hqe, i3, i3]
          split
          · rw [List.append_assoc]
          · rfl
        · have hsf : silentK (lex s i).1 = false := by simpa using hsil
          rw [semX_tok _ _ _ _ hsf, semX_tok _ _ _ _ hsf, i3]
          simp only []
          rw [hqe, List.cons_append]
          congr 1
          unfold tx txt
          simp only []
          rw [hqe]
  · obtain rfl : i = s.size := by omega
    have hsk := semX_blank (u := u) (a := 1 + s.size) (by omega) (by rw [b1]; rfl)
    have hlp := lex_par (u := u) (a := 2 + s.size) (by omega) (Or.inr b2)
    have hst := alls_step (s := u) (i := 2 + s.size) (by omega) hlp (by decide)
    have hend := alls_end (s := u) (i := 2 + s.size + 1) (by omega)
    have hc3 : cleanZ u (2 + s.size + 1) < 0 := by rw [clean_end (by omega)]; decide
    have hc2 : cleanZ u (2 + s.size) < 0 := clean_ascii (by omega) (by omega) (by omega) hc3
    have hpx : u.extract (2 + s.size) (2 + s.size + 1) = clS := by
      have hu2 : u = (opS ++ s ++ ⟨#[10]⟩) ++ (clS ++ ByteArray.empty) := by
        rw [hu, ByteArray.append_empty]
        have : endS = (⟨#[10]⟩ : ByteArray) ++ clS := rfl
        rw [this]; simp only [ByteArray.append_assoc]
      have := extract_mid (opS ++ s ++ ⟨#[10]⟩) clS ByteArray.empty 1 rfl
      have hz : (opS ++ s ++ (⟨#[10]⟩ : ByteArray)).size = 2 + s.size := by
        rw [ByteArray.size_append, ByteArray.size_append, ho]
        have : (⟨#[10]⟩ : ByteArray).size = 1 := rfl
        omega
      rw [← hu2, hz] at this; exact this
    rw [show 1 + s.size + 1 = 2 + s.size by omega] at hsk
    refine ⟨clean_ascii (by omega) (by omega) (by omega) (by rw [show 1 + s.size + 1 = 2 + s.size by omega]; exact hc2), hsk.1.trans (by rw [hst, hend]), fun en => ?_⟩
    rw [hsk.2 en, if_pos b1, hst, hend, alls_end hlt, semX_tok _ _ _ _ (by rfl)]
    simp only []
    rw [hpx]
    have hends : endsK 8 clS = true := by unfold endsK; decide +kernel
    rw [hends]
    show flE en ++ (tx u (8, 2 + s.size, 2 + s.size + 1) :: semX u true []) = semX s en [] ++ _
    have ht : tx u (8, 2 + s.size, 2 + s.size + 1) = (8, clS) := by
      unfold tx txt
      simp only []
      rw [if_neg (by decide), hpx]
    rw [ht, semX, semX]; rfl
termination_by s.size - i
decreasing_by omega
end Go.Proofs.YtelfobnmiphdnaaGreatDoor
namespace Go.Proofs.YtelfobnmiphdnaaGreatDoor
/-- The whole text's tokens: the bracket, the text's own, the other bracket and a semicolon. -/
theorem wrap_all (s u : ByteArray) (hu : u = opS ++ (s ++ endS)) (hbom : (rd s 0).1 ≠ 65279) (hsz : s.size ≤ 65533) (h : (scanAll s).2.1 = 0) :
    (semiAll u).2 = (0, 0) ∧ (semiAll u).1.map (tx u) = (8, opS) :: ((semiAll s).1.map (tx s) ++ [(8, clS), (9, semS)]) := by
  obtain ⟨e1, e2, e3, e4⟩ := scanAll_good h
  have herr : (scanAll s).2.1 = 0 ∧ (scanAll s).2.2 = 0 := ⟨h, scanAll_err s h⟩
  rw [semiAll_rec s herr, e4]
  obtain ⟨g1, g2, g3⟩ := wrap_main s u hu hbom 0 (Nat.zero_le _) e2 e3
  have ho : opS.size = 1 := rfl
  have he2 : endS.size = 2 := rfl
  have hus : u.size = s.size + 3 := by rw [hu, ByteArray.size_append, ByteArray.size_append, ho, he2]; omega
  have b0 : bt u 0 = 40 := by rw [hu, bt_left _ _ 0 (by rw [ho]; omega)]; rfl
  have hp0 : u.extract 0 1 = opS := by
    have := extract_mid ByteArray.empty opS (s ++ endS) 1 rfl
    rw [ByteArray.empty_append, ← hu] at this; exact this
  have hl0 := lex_par (u := u) (a := 0) (by omega) (Or.inl b0)
  have hst := alls_step (s := u) (i := 0) (by omega) hl0 (by decide)
  rw [Nat.zero_add] at hst
  rw [Nat.add_zero] at g1 g2 g3
  have hc0 : cleanZ u 0 < 0 := clean_ascii (by omega) (by omega) (by omega) (by rw [Nat.zero_add]; exact g1)
  have hsu := scanAll_of (by omega) hc0 (by rw [hst]; exact g2)
  rw [semiAll_rec u ⟨by rw [hsu], by rw [hsu]⟩, hsu, hst]
  refine ⟨rfl, ?_⟩
  simp only []
  rw [semiRec_tx, semiRec_tx]
  show semX u false _ = _
  rw [semX_tok _ _ _ _ (by rfl)]
  simp only []
  rw [hp0]
  have hends : endsK 8 opS = false := by unfold endsK; decide +kernel
  rw [hends, g3 false]
  have ht : tx u (8, 0, 1) = (8, opS) := by
    unfold tx txt
    simp only []
    rw [if_neg (by decide), hp0]
  rw [ht]; rfl
end Go.Proofs.YtelfobnmiphdnaaGreatDoor
