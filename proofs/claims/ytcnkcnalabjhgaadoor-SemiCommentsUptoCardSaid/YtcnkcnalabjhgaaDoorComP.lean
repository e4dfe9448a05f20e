/- Comments as blanks, in plain Lean: the text with a blank or a line's end for each comment has the same tokens. -/
import Derived.Test.YtcnkcnalabjhgaaDoorSemXP
namespace Go.Proofs.YtcnkcnalabjhgaaDoor
set_option linter.all false

theorem extract_nil (s : ByteArray) (i : Nat) : s.extract i i = ByteArray.empty := by
  apply ByteArray.ext
  apply Array.ext'
  rw [extract_data, Nat.sub_self, List.take_zero]
  rfl
def comQ (s : ByteArray) (t : Tok) : ByteArray := if t.1 = 11 then nlS else if t.1 = 12 then ⟨#[if hasNl s t then 10 else 32]⟩ else s.extract t.2.1 t.2.2
/-- The text with a line's end for each comment up to a line's end, and a blank or a line's end for each other one. -/
def comR (s : ByteArray) : List Tok → ByteArray
  | [] => ByteArray.empty
  | t :: r => comQ s t ++ comR s r
/-- How many bytes stand before the next comment. -/
def mrun : List Tok → Nat
  | [] => 0
  | t :: r => if t.1 = 11 ∨ t.1 = 12 then 0 else (t.2.2 - t.2.1) + mrun r
theorem same_nil {s u : ByteArray} {i a : Nat} (hi : i ≤ s.size) (ha : a = u.size ∨ (a < u.size ∧ blankB (bt u a) = true)) : SameAt s i u a 0 := by
  refine ⟨by omega, ?_, by rw [Nat.add_zero, Nat.add_zero, extract_nil, extract_nil], by rw [Nat.add_zero]; exact ha⟩
  rcases ha with h | h <;> omega
theorem same_join {s u : ByteArray} {i e a n m : Nat} (he : i + n = e) (h : SameAt s e u (a + n) m) (hx : u.extract a (a + n) = s.extract i e) : SameAt s i u a (n + m) := by
  subst he
  obtain ⟨h1, h2, h3, h4⟩ := h
  refine ⟨by omega, by omega, ?_, by rw [← Nat.add_assoc]; exact h4⟩
  rw [← Nat.add_assoc, ← Nat.add_assoc, ← extract_all u a (a + n) (a + n + m) (by omega) (by omega), ← extract_all s i (i + n) (i + n + m) (by omega) (by omega), hx, h3]
theorem num_not11 (s : ByteArray) (i : Nat) : (numScan s i).1 ≠ 11 := by
  unfold numScan
  split
  · split
    · have := kindL_le (byts (s.extract (i : Int).toNat (numEnd s (i : Int).toNat)))
      show ((kindL _ : Nat) : Int) ≠ 11
      omega
    · decide
  · decide
theorem begun_not11 (s : ByteArray) (i : Nat) : (begun s i).1 ≠ 11 := by
  by_cases he : (begun s i).2.2.2 = 0
  · obtain ⟨j, n, _, _, _, _, _, _, _, h⟩ := begun_found s i (begun s i).1 (begun s i).2.1 (begun s i).2.2.1 (by rw [← he])
    rcases h with ⟨h, _⟩ | ⟨h, _⟩ <;> rw [h] <;> decide
  · rw [(begun_err s i he).1]; decide
theorem lex_line {s : ByteArray} {i : Nat} (h : (lex s i).1 = 11) : lex s i = (11, (lineTo s i : Int)) := by
  by_cases c1 : (rd s i).1 = 65279
  · unfold lex at h; rw [if_pos c1] at h; exact absurd h (by show (10 : Int) ≠ 11; decide)
  by_cases c2 : blank (rd s i).1 = true
  · unfold lex at h; rw [if_neg c1, if_pos c2] at h; exact absurd h (by show (10 : Int) ≠ 11; decide)
  by_cases c3 : i + 1 < s.size ∧ bt s i = 47 ∧ bt s (i + 1) = 47
  · unfold lex; rw [if_neg c1, if_neg c2, if_pos c3]
  exfalso
  unfold lex at h
  rw [if_neg c1, if_neg c2, if_neg c3] at h
  split at h
  · cases hb : blockTo s (i + 2) <;> rw [hb] at h <;> simp at h
  · split at h
    · split at h <;> simp at h
    · split at h
      · simp at h
      · split at h
        · exact num_not11 s i h
        · split at h
          · exact begun_not11 s i h
          · split at h <;> simp at h
theorem com_main (s : ByteArray) (i : Nat) (hi : i ≤ s.size) (hc : cleanZ s i < 0) (hn : (alls s i).2 = none) (x : ByteArray) (hx : i = 0 → x.size = 0) (u : ByteArray) (hu : u = x ++ comR s (alls s i).1) :
    cleanZ u x.size < 0 ∧ (alls u x.size).2 = none ∧ (∀ en, semX u en (alls u x.size).1 = semX s en (alls s i).1) ∧ SameAt s i u x.size (mrun (alls s i).1) := by
  by_cases hlt : i < s.size
  · by_cases hk : (lex s i).1 = 0
    · rw [alls_bad hlt hk] at hn; cases hn
    · obtain ⟨e, he, h1, h2⟩ := lex_gt s i hlt hk
      have hce := lex_clean s i hlt hc e hk he
      have hst := alls_step hlt (show lex s i = ((lex s i).1, (e : Int)) by rw [← he]) hk
      rw [hst] at hn hu ⊢
      simp only [] at hn hu ⊢
      have hz := piece_size (s := s) (i := i) (e := e) (by omega) h2
      have hu2 : u = (x ++ comQ s ((lex s i).1, i, e)) ++ comR s (alls s e).1 := by rw [hu]; simp only [comR, ByteArray.append_assoc]
      obtain ⟨i1, i2, i3, i4⟩ := com_main s e h2 hce hn (x ++ comQ s ((lex s i).1, i, e)) (fun g => by omega) u hu2
      have hxs : (x ++ comQ s ((lex s i).1, i, e)).size = x.size + (comQ s ((lex s i).1, i, e)).size := by rw [ByteArray.size_append]
      rw [hxs] at i1 i2 i3 i4
      have hus : x.size + (comQ s ((lex s i).1, i, e)).size ≤ u.size := by rw [hu2, ByteArray.size_append, hxs]; omega
      have hqe : u.extract x.size (x.size + (comQ s ((lex s i).1, i, e)).size) = comQ s ((lex s i).1, i, e) := by
        have hu3 : u = x ++ (comQ s ((lex s i).1, i, e) ++ comR s (alls s e).1) := by rw [hu2]; simp only [ByteArray.append_assoc]
        rw [hu3, extract_mid x _ _ _ rfl]
      have hq0 : 0 < (comQ s ((lex s i).1, i, e)).size → bt u x.size = bt (comQ s ((lex s i).1, i, e)) 0 := fun g => by
        rw [← hqe, piece_bt (j := 0) (by omega) hus, Nat.add_zero]
      by_cases k11 : (lex s i).1 = 11
      · have hQ : comQ s ((lex s i).1, i, e) = nlS := by unfold comQ; rw [if_pos k11]
        rw [hQ] at i1 i2 i3 i4 hus hq0
        have hnl : nlS.size = 1 := rfl
        rw [hnl] at i1 i2 i3 i4 hus hq0
        have hb : bt u x.size = 10 := hq0 (by omega)
        have hbl : blankB (bt u x.size) = true := by rw [hb]; rfl
        have hsk := semX_blank (u := u) (a := x.size) (by omega) hbl
        have hll := lex_line k11
        have hee : e = lineTo s i := by rw [hll] at he; simp only [] at he; omega
        refine ⟨clean_ascii (by omega) (by omega) (by omega) i1, hsk.1.trans i2, fun en => ?_, ?_⟩
        · rw [hsk.2 en, if_pos hb, i3, k11, semX_sil _ _ _ _ (by rfl), hasNl_no h2 (fun j j1 j2 => (lineTo_in (s := s) i j j1 (by omega)).2), if_neg (by decide)]
          rcases lineTo_stop s i (by omega) with g | ⟨g1, g2⟩
          · rw [alls_end (by omega)]
            show flE en ++ semX s false [] = semX s en []
            rw [semX, semX]; simp [flE]
          · rw [← hee] at g1 g2
            have hs2 := (semX_blank (u := s) (a := e) g1 (by rw [g2]; rfl)).2
            rw [hs2 false, hs2 en, if_pos g2, if_pos g2]; rfl
        · have : mrun (((lex s i).1, i, e) :: (alls s e).1) = 0 := by rw [mrun, if_pos (Or.inl k11)]
          rw [this]
          exact same_nil hi (Or.inr ⟨by omega, hbl⟩)
      · by_cases k12 : (lex s i).1 = 12
        · have hQ : comQ s ((lex s i).1, i, e) = ⟨#[if hasNl s ((lex s i).1, i, e) then 10 else 32]⟩ := by unfold comQ; rw [if_neg k11, if_pos k12]
          have hQs : (comQ s ((lex s i).1, i, e)).size = 1 := by rw [hQ]; rfl
          rw [hQs] at i1 i2 i3 i4 hus hq0
          have hb : bt u x.size = if hasNl s ((lex s i).1, i, e) then 10 else 32 := by
            rw [hq0 (by omega), hQ]
            cases hasNl s ((lex s i).1, i, e) <;> rfl
          have hbl : blankB (bt u x.size) = true := by rw [hb]; cases hasNl s ((lex s i).1, i, e) <;> rfl
          have hlow : bt u x.size < 128 ∧ bt u x.size ≠ 0 := by rw [hb]; cases hasNl s ((lex s i).1, i, e) <;> decide
          have hsk := semX_blank (u := u) (a := x.size) (by omega) hbl
          refine ⟨clean_ascii (by omega) hlow.1 hlow.2 i1, hsk.1.trans i2, fun en => ?_, ?_⟩
          · rw [hsk.2 en, i3, i3, hb, semX_sil _ _ _ _ (by rw [k12]; rfl)]
            cases hasNl s ((lex s i).1, i, e) <;> rfl
          · have : mrun (((lex s i).1, i, e) :: (alls s e).1) = 0 := by rw [mrun, if_pos (Or.inr k12)]
            rw [this]
            exact same_nil hi (Or.inr ⟨by omega, hbl⟩)
        · have hQ : comQ s ((lex s i).1, i, e) = s.extract i e := by unfold comQ; rw [if_neg k11, if_neg k12]
          rw [hQ, hz] at i1 i2 i3 i4 hus hqe
          clear hq0 hxs hQ
          have hmr : mrun (((lex s i).1, i, e) :: (alls s e).1) = (e - i) + mrun (alls s e).1 := by rw [mrun, if_neg (fun g => g.elim k11 k12)]
          have hS : SameAt s i u x.size (mrun (((lex s i).1, i, e) :: (alls s e).1)) := by rw [hmr]; exact same_join (by omega) i4 hqe
          have hlead := clean_good hc hlt
          have hcu : cleanZ u x.size < 0 := by
            have := clean_put (u := u) (a := x.size) (b := x.size + (e - i)) (by omega) (by omega) i1 (fun g => by
              rw [hqe] at g
              by_cases hwide : (rd s i).2 ≤ e - i
              · have := piece_rd (s := s) (i := i) (e := e) (j := 0) (by omega) h2 (by rw [Nat.add_zero]; exact hlead.2.1) (by rw [Nat.add_zero]; omega)
                rw [this, Nat.add_zero] at g
                exact hx (bom_first hc hlt g)
              · exfalso
                have := rd_of_piece (s := s) (i := i) (e := e) (j := 0) (by omega) h2 (by omega) (by
                  have := rd_pos (s := s.extract i e) (i := 0) (by omega); exact this.1)
                rw [Nat.add_zero] at this
                have hw2 := rd_pos (s := s.extract i e) (i := 0) (by omega)
                rw [← this, hz] at hw2
                omega) 0 (by omega) (by
              rw [hqe]
              exact piece_clean (by omega) h2 hce 0 (by omega) hc)
            exact this
          refine ⟨hcu, ?_⟩
          rw [← and_assoc]
          refine ⟨?_, hS⟩
          by_cases h10 : (lex s i).1 = 10
          · by_cases c1 : (rd s i).1 = 65279
            · have hl : lex s i = (10, ((i + (rd s i).2 : Nat) : Int)) := by unfold lex; rw [if_pos c1]
              have hew : e = i + (rd s i).2 := by rw [hl] at he; simp only [] at he; omega
              have hr := same_rd hS (j := 0) (by omega) (by rw [Nat.add_zero]; exact hlead.2.1) (by rw [Nat.add_zero]; omega)
              rw [Nat.add_zero, Nat.add_zero] at hr
              have hlu : lex u x.size = (10, ((x.size + (e - i) : Nat) : Int)) := by
                unfold lex
                rw [hr, if_pos c1, hew, show i + (rd s i).2 - i = (rd s i).2 by omega]
              rw [alls_step (by omega) hlu (by decide)]
              refine ⟨i2, fun en => ?_⟩
              simp only []
              rw [semX_sil _ _ _ _ (by rfl), semX_sil _ _ _ _ (by rw [h10]; rfl), hasNl_text (k := (lex s i).1) hqe, i3, i3]
            · have c2 : blank (rd s i).1 = true := by
                cases g : blank (rd s i).1 with
                | true => rfl
                | false => exact absurd h10 (lex_not_blank c1 (by rw [g]; decide))
              have hl : lex s i = (10, (blankTo s i : Int)) := by unfold lex; rw [if_neg c1, if_pos c2]
              have hew : e = blankTo s i := by rw [hl] at he; simp only [] at he; omega
              have := semX_blanks (u := u) (x.size + (e - i)) (by omega) (lex s i).1 x.size (by omega) (fun j g1 g2 => by
                have hb := same_bt hS (j := j - x.size) (by omega)
                rw [show x.size + (j - x.size) = j by omega] at hb
                rw [hb]
                exact (blankTo_in (s := s) i _ (by omega) (by omega)).2)
              refine ⟨this.1.trans i2, fun en => ?_⟩
              rw [this.2 en, semX_sil _ _ _ _ (by rw [h10]; rfl), hasNl_text (k := (lex s i).1) hqe, i3, i3]
          · have hlu := lex_same (n := e - i) hS hlt (by omega) hk h10 (fun g => absurd g k11) (by rw [he]; omega)
            have hsil : silentK (lex s i).1 = false := by unfold silentK; simp [h10, k11, k12]
            rw [alls_step (by omega) hlu hk]
            refine ⟨i2, fun en => ?_⟩
            simp only []
            rw [semX_tok _ _ _ _ hsil, semX_tok _ _ _ _ hsil, i3]
            simp only []
            rw [hqe]
            congr 1
            unfold tx txt
            simp only []
            rw [hqe]
  · rw [alls_end hlt] at hu ⊢
    have hus : u.size = x.size := by rw [hu, ByteArray.size_append]; rfl
    have hcl : cleanZ u x.size < 0 := by rw [clean_end (by omega)]; decide
    refine ⟨hcl, by rw [alls_end (by omega)], fun en => by rw [alls_end (by omega)]; rfl, same_nil hi (Or.inl hus.symm)⟩
termination_by s.size - i
decreasing_by omega
theorem comQ_size {s : ByteArray} {t : Tok} (h1 : t.2.1 < t.2.2) (h2 : t.2.2 ≤ s.size) : (comQ s t).size ≤ t.2.2 - t.2.1 := by
  unfold comQ
  split
  · show 1 ≤ _; omega
  · split
    · show 1 ≤ _; omega
    · rw [piece_size (by omega) h2]; exact Nat.le_refl _
theorem comR_size (s : ByteArray) : ∀ (l : List Tok), (∀ t ∈ l, t.2.1 < t.2.2 ∧ t.2.2 ≤ s.size) → (comR s l).size ≤ (l.map fun t => t.2.2 - t.2.1).sum
  | [], _ => Nat.le_refl _
  | t :: r, h => by
    have h1 := h t List.mem_cons_self
    have ih := comR_size s r (fun t ht => h t (List.mem_cons_of_mem _ ht))
    have := comQ_size h1.1 h1.2
    rw [comR, ByteArray.size_append]
    simp only [List.map_cons, List.sum_cons]
    omega
theorem scanAll_good {s : ByteArray} (h : (scanAll s).2.1 = 0) : s.size ≤ 65536 ∧ cleanZ s 0 < 0 ∧ (alls s 0).2 = none ∧ (scanAll s).1 = (alls s 0).1 := by
  have e : ¬ 65536 < s.size := fun g => by unfold scanAll at h; rw [if_pos g] at h; cases h
  have hcl : ¬ 0 ≤ clean s := fun g => by unfold scanAll at h; rw [if_neg e, if_pos g] at h; cases h
  have hal : (alls s 0).2 = none := by
    unfold scanAll at h; rw [if_neg e, if_neg hcl] at h
    cases ha : (alls s 0).2 with
    | none => rfl
    | some i => rw [ha] at h; cases h
  refine ⟨by omega, by unfold clean at hcl; omega, hal, ?_⟩
  unfold scanAll; rw [if_neg e, if_neg hcl, hal]
theorem scanAll_of {u : ByteArray} (h : u.size ≤ 65536) (hc : cleanZ u 0 < 0) (ha : (alls u 0).2 = none) : scanAll u = ((alls u 0).1, 0, 0) := by
  unfold scanAll
  rw [if_neg (by omega), if_neg (by unfold clean; omega), ha]
/-- The whole law of the texts. -/
theorem com_all (s : ByteArray) (h : (scanAll s).2.1 = 0) :
    (comR s (scanAll s).1).size ≤ 65536 ∧ (semiAll (comR s (scanAll s).1)).2 = (0, 0) ∧ (semiAll (comR s (scanAll s).1)).1.map (tx (comR s (scanAll s).1)) = (semiAll s).1.map (tx s) := by
  obtain ⟨e1, e2, e3, e4⟩ := scanAll_good h
  have herr : (scanAll s).2.1 = 0 ∧ (scanAll s).2.2 = 0 := ⟨h, scanAll_err s h⟩
  rw [semiAll_rec s herr, e4]
  obtain ⟨g1, g2, g3, _⟩ := com_main s 0 (Nat.zero_le _) e2 e3 ByteArray.empty (fun _ => rfl) (comR s (alls s 0).1) (by rw [ByteArray.empty_append])
  have hsz : (comR s (alls s 0).1).size ≤ 65536 := by
    have := comR_size s _ (fun t ht => by have := alls_in s 0 t ht; exact ⟨this.2.1, this.2.2.1⟩)
    rw [alls_sum s 0 (Nat.zero_le _) e3] at this
    omega
  generalize comR s (alls s 0).1 = u at *
  have hz0 : ByteArray.empty.size = 0 := rfl
  rw [hz0] at g1 g2 g3
  have hsu := scanAll_of hsz g1 g2
  refine ⟨hsz, ?_⟩
  rw [semiAll_rec u ⟨by rw [hsu], by rw [hsu]⟩, hsu]
  refine ⟨rfl, ?_⟩
  simp only []
  rw [semiRec_tx, semiRec_tx]
  exact g3 false
end Go.Proofs.YtcnkcnalabjhgaaDoor
