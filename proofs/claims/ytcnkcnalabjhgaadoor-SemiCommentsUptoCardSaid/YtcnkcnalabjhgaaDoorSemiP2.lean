/- Layer 8 in plain Lean: the tokens of a text, from the front; they stand in order. -/
import Derived.Test.YtcnkcnalabjhgaaDoorSemiP
namespace Go.Proofs.YtcnkcnalabjhgaaDoor
set_option linter.all false

def flushL : Option Nat → List Tok
  | some e => [(9, e, e)]
  | none => []
/-- The tokens of lexemes, from the front; en: where a line may end. -/
def semiRec (s : ByteArray) : Option Nat → List Tok → List Tok
  | en, [] => flushL en
  | en, t :: r => if silentK t.1 then (if hasNl s t then flushL en ++ semiRec s none r else semiRec s en r)
      else t :: semiRec s (if endsK t.1 (s.extract t.2.1 t.2.2) then some t.2.2 else none) r
theorem fold_rec (s : ByteArray) : ∀ (l : List Tok) (o : List Tok) (en : Option Nat), (flushZ (l.foldl (semiStep s) (o, en))).1 = o ++ semiRec s en l
  | [], o, en => by
    cases en with
    | none => simp [flushZ, semiRec, flushL]
    | some e => simp [flushZ, semiRec, flushL]
  | t :: r, o, en => by
    rw [List.foldl_cons]
    unfold semiStep
    rw [semiRec]
    by_cases hs : silentK t.1 = true
    · rw [if_pos hs, if_pos hs]
      by_cases hn : hasNl s t = true
      · rw [if_pos hn, if_pos hn]
        cases en with
        | none => exact (fold_rec s r o none).trans (by simp [flushL])
        | some e => exact (fold_rec s r (o ++ [(9, e, e)]) none).trans (by simp [flushL])
      · rw [if_neg hn, if_neg hn]; exact fold_rec s r o en
    · rw [if_neg hs, if_neg hs]
      exact (fold_rec s r (o ++ [t]) _).trans (by simp)
theorem semiAll_rec (s : ByteArray) (h : (scanAll s).2.1 = 0 ∧ (scanAll s).2.2 = 0) : semiAll s = (semiRec s none (scanAll s).1, 0, 0) := by
  unfold semiAll
  rw [if_pos h]
  have := fold_rec s (scanAll s).1 [] none
  unfold semiFold
  rw [this, List.nil_append]
theorem semiAll_len (s : ByteArray) : (semiAll s).1.length ≤ 65537 := by
  unfold semiAll
  split
  · have h1 := scanAll_len s
    have h2 := semiFold_len s (scanAll s).1
    have h3 := (flushZ_len (semiFold s (scanAll s).1)).1
    simp only []; omega
  · simp
theorem semiRec_some (s : ByteArray) (e : Nat) : ∀ r : List Tok, semiRec s (some e) r = (9, e, e) :: semiRec s none r ∨ semiRec s (some e) r = semiRec s none r
  | [] => Or.inl rfl
  | t :: r => by
    rw [semiRec, semiRec]
    by_cases hs : silentK t.1 = true
    · rw [if_pos hs, if_pos hs]
      by_cases hn : hasNl s t = true
      · rw [if_pos hn, if_pos hn]; exact Or.inl rfl
      · rw [if_neg hn, if_neg hn]; exact semiRec_some s e r
    · rw [if_neg hs, if_neg hs]; exact Or.inr rfl
theorem semiRec_silent (s : ByteArray) (t : Tok) (r : List Tok) (h : silentK t.1 = true) : semiRec s none (t :: r) = semiRec s none r := by
  rw [semiRec, if_pos h]
  split
  · rfl
  · rfl
theorem semiRec_head (s : ByteArray) : ∀ r : List Tok, (∀ t ∈ r, t.2.1 < t.2.2) → ∀ t ∈ (semiRec s none r).head?, t.2.1 < t.2.2
  | [], _ => by intro t ht; simp [semiRec, flushL] at ht
  | x :: r, h => by
    by_cases hs : silentK x.1 = true
    · rw [semiRec_silent s x r hs]
      exact semiRec_head s r fun t ht => h t (List.mem_cons_of_mem _ ht)
    · rw [semiRec, if_neg hs]
      intro t ht
      simp at ht
      subst ht
      exact h _ List.mem_cons_self
/-- In order within a text of so many bytes. -/
def inOrd (sz : Nat) : Nat → List Tok → Prop
  | _, [] => True
  | a, t :: r => a ≤ t.2.1 ∧ t.2.1 ≤ t.2.2 ∧ t.2.2 ≤ sz ∧ inOrd sz t.2.2 r
theorem inOrd_le {sz : Nat} : ∀ {l : List Tok} {a b : Nat}, inOrd sz a l → b ≤ a → inOrd sz b l
  | [], _, _, _, _ => trivial
  | t :: r, a, b, h, hb => by
    obtain ⟨h1, h2, h3, h4⟩ := h
    exact ⟨by omega, h2, h3, h4⟩
theorem alls_ord (s : ByteArray) (i : Nat) : inOrd s.size i (alls s i).1 := by
  by_cases h : i < s.size
  · by_cases hk : (lex s i).1 = 0
    · rw [alls_bad h hk]; trivial
    · obtain ⟨e, h1, h2, h3⟩ := lex_gt s i h hk
      rw [alls_step h (show lex s i = ((lex s i).1, (e : Int)) by rw [← h1]) hk]
      exact ⟨Nat.le_refl _, Nat.le_of_lt h2, h3, alls_ord s e⟩
  · rw [alls_end h]; trivial
termination_by s.size - i
decreasing_by omega
theorem scanAll_ord (s : ByteArray) : inOrd s.size 0 (scanAll s).1 := by
  unfold scanAll
  split
  · trivial
  · split
    · trivial
    · split
      · trivial
      · exact alls_ord s 0
theorem semiRec_ord (s : ByteArray) (sz : Nat) : ∀ (l : List Tok) (en : Option Nat) (a b : Nat), inOrd sz a l → b ≤ a → (∀ e, en = some e → b ≤ e ∧ e ≤ a ∧ e ≤ sz) → inOrd sz b (semiRec s en l)
  | [], en, a, b, _, _, he => by
    cases en with
    | none => trivial
    | some e => obtain ⟨h1, h2, h3⟩ := he e rfl; exact ⟨h1, Nat.le_refl _, h3, trivial⟩
  | t :: r, en, a, b, h, hb, he => by
    obtain ⟨h1, h2, h3, h4⟩ := h
    rw [semiRec]
    by_cases hs : silentK t.1 = true
    · rw [if_pos hs]
      by_cases hn : hasNl s t = true
      · rw [if_pos hn]
        cases en with
        | none => exact semiRec_ord s sz r none t.2.2 b h4 (by omega) (fun e he => by cases he)
        | some e =>
          obtain ⟨g1, g2, g3⟩ := he e rfl
          exact ⟨g1, Nat.le_refl _, g3, semiRec_ord s sz r none t.2.2 e h4 (by omega) (fun e he => by cases he)⟩
      · rw [if_neg hn]
        exact semiRec_ord s sz r en t.2.2 b h4 (by omega) (fun e hee => by obtain ⟨g1, g2, g3⟩ := he e hee; exact ⟨g1, by omega, g3⟩)
    · rw [if_neg hs]
      refine ⟨by omega, h2, h3, semiRec_ord s sz r _ t.2.2 t.2.2 h4 (Nat.le_refl _) (fun e hee => ?_)⟩
      split at hee
      · cases hee; exact ⟨Nat.le_refl _, Nat.le_refl _, h3⟩
      · cases hee
theorem semiAll_ord (s : ByteArray) : inOrd s.size 0 (semiAll s).1 := by
  by_cases h : (scanAll s).2.1 = 0 ∧ (scanAll s).2.2 = 0
  · rw [semiAll_rec s h]
    exact semiRec_ord s s.size _ none 0 0 (scanAll_ord s) (Nat.le_refl _) (fun e he => by cases he)
  · unfold semiAll; rw [if_neg h]; trivial
theorem inOrd_at {sz : Nat} : ∀ {l : List Tok} {a : Nat}, inOrd sz a l → ∀ i (hi : i < l.length), (if h : 0 < i then (l[i - 1]'(by omega)).2.2 else a) ≤ (l[i]).2.1 ∧ (l[i]).2.1 ≤ (l[i]).2.2 ∧ (l[i]).2.2 ≤ sz
  | [], _, _, i, hi => by simp at hi
  | t :: r, a, h, i, hi => by
    obtain ⟨h1, h2, h3, h4⟩ := h
    cases i with
    | zero => rw [dif_neg (by omega)]; exact ⟨h1, h2, h3⟩
    | succ i =>
      rw [dif_pos (by omega)]
      have := inOrd_at h4 i (by simpa using hi)
      simp only [List.getElem_cons_succ]
      refine ⟨?_, this.2⟩
      cases i with
      | zero => rw [dif_neg (by omega)] at this; exact this.1
      | succ j => rw [dif_pos (by omega)] at this; simpa using this.1
end Go.Proofs.YtcnkcnalabjhgaaDoor
