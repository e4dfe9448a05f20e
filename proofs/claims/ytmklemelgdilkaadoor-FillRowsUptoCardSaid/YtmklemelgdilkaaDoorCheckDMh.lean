/- Layer 11: Check, the program's and the document's, walked. -/
import Derived.Test.YtmklemelgdilkaaDoorCheckBMh
import Derived.Test.YtmklemelgdilkaaDoorTermSameMh
import Derived.Test.YtmklemelgdilkaaDoorMatchP2Mh
namespace Go.Proofs.YtmklemelgdilkaaDoor
set_option linter.all false
open Go.RowKit

def partB (p : Prt) : Bool := decide (p.1 ≤ 68) && (decide (((arL p.1).1 : Int) ≤ p.2.1) && ((decide (p.2.1 = (arL p.1).1) || (arL p.1).2) && sptB p.1 p.2.2))
def checkB (l : List Prt) : Bool := wellB l && l.all partB
def FineP (l : List Prt) : Prop := ∀ p ∈ l, p.1 < 256 ∧ p.2.2.size ≤ 2147483647
theorem FineP.at {l : List Prt} (h : FineP l) {k : Nat} (hk : k < l.length) : (l[k]).1 < 256 ∧ (l[k]).2.2.size ≤ 2147483647 := h _ (List.getElem_mem hk)
theorem check_bad {l : List Prt} {k : Nat} (hk : k < l.length) (h : partB l[k] = false) : checkB l = false := by
 unfold checkB
 have : l.all partB = false := by rw [List.all_eq_false]; exact ⟨l[k], List.getElem_mem hk, by simp [h]⟩
 rw [this, Bool.and_false]
theorem check_good {l : List Prt} (hw : wellB l = true) (h : ∀ j (hj : j < l.length), partB l[j] = true) : checkB l = true := by
 unfold checkB
 rw [hw, Bool.true_and, List.all_eq_true]
 intro p hp
 obtain ⟨i, hi, rfl⟩ := List.getElem_of_mem hp
 exact h i hi
def chkRel (l : List Prt) (w : World) (i : Value) (wr : World) : Prop := ∃ k : Nat, i = .int .i64 (k : Int) ∧ k ≤ l.length ∧ (∀ j (hj : j < l.length), j < k → partB l[j] = true) ∧ Below w.heap.size w wr
theorem chk_next {l : List Prt} {k : Nat} (hk : k < l.length) (h : partB l[k] = true) (hn : ∀ j (hj : j < l.length), j < k → partB l[j] = true) : ∀ j (hj : j < l.length), j < k + 1 → partB l[j] = true := by
 intro j hj hlt
 by_cases e : j = k
 ·subst e; exact h
 ·exact hn j hj (by omega)
set_option maxRecDepth 100000 in
set_option maxHeartbeats 16000000 in
theorem term_Check (l : List Prt) (hl : l.length ≤ 1000000000) (hf : FineP l) (v : Value) (w : World) (hT : Tabs w) (hM : MaxC w) (hr : PartRow w v l) :
  Calls Tryd.prog 36 #[v] w fun e w' => e = .returned (.int .i64 (if checkB l then 0 else 8)) ∧ Below w.heap.size w w' := by
 have HQ : RowKit.Hid (∀ x w', (if checkB l then (0 : Int) else 8) = x → Below w.heap.size w w' → (fun (e : Ending) w' => e = .returned (.int .i64 (if checkB l then 0 else 8)) ∧ Below w.heap.size w w') (.returned (.int .i64 x)) w') := Lib.hid fun x w' h hb => ⟨by rw [h], hb⟩
 generalize (fun (e : Ending) w' => e = .returned (.int .i64 (if checkB l then 0 else 8)) ∧ Below w.heap.size w w') = Q at *
 have HR := Lib.hid hr
 have HF := Lib.hid hf
 have HT := Lib.hid hT
 have HM := Lib.hid hM
 have C1 := Lib.hid (term_Well l hl v w hr)
 obtain ⟨va, vcap, rfl, hvc⟩ := hr.slice
 clear hr hf hT hM
 go_enter Tryd.func36, Tryd.ntmps36
 go_wp2_with fail
 refine C1.out.mono ?_
 rintro e w1 ⟨rfl, hb1⟩
 have HB1 := Lib.hid hb1
 clear hb1 C1
 cases hw : wellB l with
 | false =>
  have HX := Lib.hid (show (if checkB l then (0 : Int) else 8) = 8 by unfold checkB; rw [hw]; rfl)
  clear hw
  go_wp2_with fail
  exact HQ.out _ _ HX.out HB1.out
 | true =>
  have HW := Lib.hid hw
  clear hw
  go_wp2_with fail
  go_loopw [12] (fun i wr => chkRel l w i wr) (fun i _ => l.length - (intOf i).toNat)
  case atStart => exact ⟨0, rfl, Nat.zero_le _, fun j _ h => by omega, HB1.out⟩
  case round =>
   obtain ⟨k, rfl, hk, hyes, hb⟩ := hrel
   have HB := Lib.hid hb
   have HY := Lib.hid hyes
   clear hb hyes
   by_cases hlt : k < l.length
   ·have hkl : (k : Int) < l.length := by omega
    obtain ⟨b1, o1, rfl, _, _, _, hc1⟩ := HR.out.at HB.out (show 0 < l.length by omega)
    obtain ⟨d0, d1, d2⟩ := hc1 k hlt
    have hk0 : (0 : Int) ≤ k := by omega
    have hkc : (k : Int) < vcap := by omega
    have hwk : IntKind.i64.wrap ((k : Int) + 1) = (k : Int) + 1 := by rw [IntKind.wrap_i64]; omega
    obtain ⟨hk256, hsz⟩ := HF.out.at hlt
    have HBAD := Lib.hid (fun (h : partB l[k] = false) => show (if checkB l then (0 : Int) else 8) = 8 by rw [check_bad hlt h]; rfl)
    have HGOOD := Lib.hid (fun (h : partB l[k] = true) => chk_next hlt h HY.out)
    have HML : RowKit.Hid (l.length - (k + 1) < l.length - k) := Lib.hid (by omega)
    have HK1 : RowKit.Hid (k + 1 ≤ l.length) := Lib.hid hlt
    have hpd : partB l[k] = (decide ((l[k]).1 ≤ 68) && (decide (((arL (l[k]).1).1 : Int) ≤ (l[k]).2.1) && ((decide ((l[k]).2.1 = (arL (l[k]).1).1) || (arL (l[k]).1).2) && sptB (l[k]).1 (l[k]).2.2))) := rfl
    have HPD := Lib.hid hpd
    clear hc1 hpd
    generalize hpb : partB l[k] = pb at *
    have HPB := Lib.hid hpb
    clear hpb
    generalize l[k] = x at *
    obtain ⟨xk, xn, xw⟩ := x
    simp only [] at d0 d1 d2 hk256 hsz HPD
    have HPK := PK.alloc_new wr (xk, xn, xw)
    have p0 := HPK.c0; have p1 := HPK.c1; have p2 := HPK.c2
    have HBA := Lib.hid (HB.out.alloc HB.out.size (.cells #[.int .u8 (xk : Int), .int .i64 xn, .string xw] 38))
    have HTA := Lib.hid (HT.out.below HBA.out)
    have HMA := Lib.hid (HM.out.below HBA.out)
    have CA := Lib.hid (fun w => term_arity xk hk256 w)
    have CS := Lib.hid (term_spelt xk hk256 xw _ HTA.out HMA.out hsz)
    clear HPK HTA HMA hsz
    generalize arL xk = ar at *
    generalize sptB xk xw = sp at *
    obtain ⟨am, ab⟩ := ar
    simp only [] at p0 p1 p2 HPD
    by_cases c1 : xk ≤ 68
    ·have c1i : ¬ (68 : Int) < (xk : Int) := by omega
     by_cases c2 : (am : Int) ≤ xn
     ·have c2i : ¬ xn < (am : Int) := by omega
      by_cases c3 : xn = (am : Int)
      ·have c3i : ¬ (am : Int) < xn := by omega
       have HP := Lib.hid (show pb = sp by rw [HPD.out, decide_eq_true c1, decide_eq_true c2, decide_eq_true c3]; simp)
       clear c3 c2 c1 HPD
       go_wp2_with fail
       refine (CA.out _).mono ?_
       rintro e w2 ⟨rfl, rfl⟩
       go_wp2_with fail
       refine CS.out.mono ?_
       rintro e w2 ⟨rfl, hb2⟩
       have HB2 := Lib.hid (bthen HBA.out hb2)
       clear hb2
       cases sp with
       | false =>
        have HX := Lib.hid (HBAD.out HP.out)
        go_wp2_with fail
        exact HQ.out _ _ HX.out HB2.out
       | true =>
        have HRL : RowKit.Hid (chkRel l w (.int .i64 ((k + 1 : Nat) : Int)) w2) := Lib.hid ⟨k + 1, rfl, HK1.out, HGOOD.out HP.out, HB2.out⟩
        go_wp2_with fail
        refine ⟨?_, (by have := HML.out; simp [intOf]; try omega)⟩
        first
         | exact HRL.out
         | (repeat apply Exists.intro
            refine ⟨?_, rfl⟩
            exact HRL.out)
      ·have c3i : (am : Int) < xn := by omega
       cases ab with
       | false =>
        have HP := Lib.hid (show pb = false by rw [HPD.out, decide_eq_false c3]; simp)
        have HX := Lib.hid (HBAD.out HP.out)
        clear c3 c2 c1 HPD
        go_wp2_with fail
        refine (CA.out _).mono ?_
        rintro e w2 ⟨rfl, rfl⟩
        go_wp2_with fail
        exact HQ.out _ _ HX.out HBA.out
       | true =>
        have HP := Lib.hid (show pb = sp by rw [HPD.out, decide_eq_true c1, decide_eq_true c2]; simp)
        clear c3 c2 c1 HPD
        go_wp2_with fail
        refine (CA.out _).mono ?_
        rintro e w2 ⟨rfl, rfl⟩
        go_wp2_with fail
        refine CS.out.mono ?_
        rintro e w2 ⟨rfl, hb2⟩
        have HB2 := Lib.hid (bthen HBA.out hb2)
        clear hb2
        cases sp with
        | false =>
         have HX := Lib.hid (HBAD.out HP.out)
         go_wp2_with fail
         exact HQ.out _ _ HX.out HB2.out
        | true =>
         have HRL : RowKit.Hid (chkRel l w (.int .i64 ((k + 1 : Nat) : Int)) w2) := Lib.hid ⟨k + 1, rfl, HK1.out, HGOOD.out HP.out, HB2.out⟩
         go_wp2_with fail
         refine ⟨?_, (by have := HML.out; simp [intOf]; try omega)⟩
         first
          | exact HRL.out
          | (repeat apply Exists.intro
             refine ⟨?_, rfl⟩
             exact HRL.out)
     ·have c2i : xn < (am : Int) := by omega
      have HP := Lib.hid (show pb = false by rw [HPD.out, decide_eq_false c2]; simp)
      have HX := Lib.hid (HBAD.out HP.out)
      clear c2 c1 HPD
      go_wp2_with fail
      refine (CA.out _).mono ?_
      rintro e w2 ⟨rfl, rfl⟩
      go_wp2_with fail
      exact HQ.out _ _ HX.out HBA.out
    ·have c1i : (68 : Int) < (xk : Int) := by omega
     have HP := Lib.hid (show pb = false by rw [HPD.out, decide_eq_false c1]; simp)
     have HX := Lib.hid (HBAD.out HP.out)
     clear c1 HPD
     go_wp2_with fail
     refine (CA.out _).mono ?_
     rintro e w2 ⟨rfl, rfl⟩
     go_wp2_with fail
     exact HQ.out _ _ HX.out HBA.out
   ·have hkl : ¬ (k : Int) < l.length := by omega
    have HX := Lib.hid (show (if checkB l then (0 : Int) else 8) = 0 by rw [check_good HW.out fun j hj => HY.out j hj (by omega)]; rfl)
    go_wp2_with fail
    exact HQ.out _ _ HX.out HB.out
end Go.Proofs.YtmklemelgdilkaaDoor
namespace Go.Proofs.YtmklemelgdilkaaDoor
set_option linter.all false

def holeB (r : RuleM) (i : Nat) : Bool := match r.holes[i]? with
 | none => true
 | some h => !(r.holes.take i).any (fun g => decide (g.1 = h.1)) && (name h.1 && (decide (1 ≤ h.2 ∧ h.2 ≤ 7) && (decide (1 ≤ placesZ r.fnd h) && decide (0 ≤ placesZ r.by' h))))
def sevN (hs : List Hl) : Nat := (hs.filter fun h => isSev h.2).length
def ruleTop (r : RuleM) : Bool := name r.nm && (decide (1 ≤ r.goal ∧ r.goal ≤ 3) && (checkB r.fnd && (checkB r.by' && !(decide (r.goal = 3) && decide (kindAt r.by' 0 ≠ 13)))))
def ruleZ (r : RuleM) : Int :=
 if ruleTop r = false then 10
 else if 16 < r.holes.length ∨ 2 < sevN r.holes then 14
 else if ∀ i, i < r.holes.length → holeB r i = true then 0 else 11
theorem checkB_inv {l : List Prt} (h : checkB l = true) : wellB l = true ∧ ∀ p (hp : p < l.length), partB l[p] = true := by
 unfold checkB at h
 simp only [Bool.and_eq_true, List.all_eq_true] at h
 exact ⟨h.1, fun p hp => h.2 _ (List.getElem_mem hp)⟩
theorem partB_leaf {p : Prt} (h : partB p = true) (hk : p.1 = 26) : p.2.1 = 0 := by
 unfold partB at h
 simp only [Bool.and_eq_true, Bool.or_eq_true, decide_eq_true_eq] at h
 rw [hk] at h
 have e : arL 26 = (0, false) := rfl
 rw [e] at h
 rcases h.2.2.1 with h1 | h1
 ·simpa using h1
 ·cases h1
theorem partB_stmt {p : Prt} (h : partB p = true) (hk : p.1 = 50) : p.2.1 = 1 := by
 unfold partB at h
 simp only [Bool.and_eq_true, Bool.or_eq_true, decide_eq_true_eq] at h
 rw [hk] at h
 have e : arL 50 = (1, false) := rfl
 rw [e] at h
 rcases h.2.2.1 with h1 | h1
 ·simpa using h1
 ·cases h1
theorem placesZ_ok {l : List Prt} {h : Hl} (h0 : 0 ≤ placesZ l h) : ∀ p (hp : p < l.length), isPlace l[p] h = true → placeOK l h.2 p = true :=
 fun p hp => placesF_ok l h l.length 0 0 (Int.le_refl _) (by omega) h0 p hp (by omega)
theorem ruleZ_inv {r : RuleM} (h : ruleZ r = 0) : name r.nm = true ∧ (1 ≤ r.goal ∧ r.goal ≤ 3) ∧ checkB r.fnd = true ∧ checkB r.by' = true ∧ (r.goal = 3 → kindAt r.by' 0 = 13) ∧ r.holes.length ≤ 16 ∧ sevN r.holes ≤ 2 ∧ ∀ i, i < r.holes.length → holeB r i = true := by
 unfold ruleZ at h
 split at h
 ·cases h
 ·rename_i h1
  split at h
  ·cases h
  ·rename_i h2
   split at h
   ·rename_i h3
    have h1 : ruleTop r = true := by simpa using h1
    unfold ruleTop at h1
    simp only [Bool.and_eq_true, Bool.not_eq_true', decide_eq_true_eq, Bool.and_eq_false_iff, decide_eq_false_iff_not] at h1
    obtain ⟨a1, a2, a3, a4, a5⟩ := h1
    refine ⟨a1, a2, a3, a4, fun e => ?_, by omega, by omega, h3⟩
    rcases a5 with a5 | a5
    ·exact absurd e a5
    ·exact Decidable.not_not.1 a5
   ·cases h
theorem holeB_inv {r : RuleM} {i : Nat} (hi : i < r.holes.length) (h : holeB r i = true) : (∀ k (hk : k < i), (r.holes[k]).1 ≠ (r.holes[i]).1) ∧ name (r.holes[i]).1 = true ∧ (1 ≤ (r.holes[i]).2 ∧ (r.holes[i]).2 ≤ 7) ∧ 1 ≤ placesZ r.fnd r.holes[i] ∧ 0 ≤ placesZ r.by' r.holes[i] := by
 unfold holeB at h
 rw [List.getElem?_eq_getElem hi] at h
 simp only [Bool.and_eq_true, decide_eq_true_eq, Bool.not_eq_true'] at h
 refine ⟨fun k hk e => ?_, h.2⟩
 have h1 := h.1
 rw [List.any_eq_false] at h1
 have h2 : k < (r.holes.take i).length := by rw [List.length_take]; omega
 have := h1 ((r.holes.take i)[k]) (List.getElem_mem h2)
 rw [List.getElem_take] at this
 simp [e] at this
theorem rule_holes {r : RuleM} (h : ruleZ r = 0) : HolesOK r.fnd r.holes ∧ HolesOK r.by' r.holes ∧ ∀ i (hi : i < r.holes.length), ∃ p, p < r.fnd.length ∧ holeOf r.fnd r.holes p = some i := by
 obtain ⟨a1, a2, a3, a4, a5, a6, a7, a8⟩ := ruleZ_inv h
 have hu : ∀ (a b : Nat) (ha : a < r.holes.length) (hb : b < r.holes.length), (r.holes[a]).1 = (r.holes[b]).1 → a = b := by
  intro a b ha hb e
  rcases Nat.lt_trichotomy a b with c | c | c
  ·exact absurd e ((holeB_inv hb (a8 b hb)).1 a c)
  ·exact c
  ·exact absurd e.symm ((holeB_inv ha (a8 a ha)).1 b c)
 have f3 := checkB_inv a3
 have f4 := checkB_inv a4
 have H1 : HolesOK r.fnd r.holes := ⟨f3.1, hu, fun p hp => partB_leaf (f3.2 p hp), fun p hp => partB_stmt (f3.2 p hp), fun i hi p hp hpl => placesZ_ok (by have := (holeB_inv hi (a8 i hi)).2.2.2.1; omega) p hp hpl⟩
 refine ⟨H1, ⟨f4.1, hu, fun p hp => partB_leaf (f4.2 p hp), fun p hp => partB_stmt (f4.2 p hp), fun i hi p hp hpl => placesZ_ok (holeB_inv hi (a8 i hi)).2.2.2.2 p hp hpl⟩, fun i hi => ?_⟩
 have h1 := (holeB_inv hi (a8 i hi)).2.2.2.1
 obtain ⟨p, hp, hpl⟩ := placesF_some r.fnd r.holes[i] r.fnd.length 0 0 (Int.le_refl _) (by omega) (by unfold placesZ at h1; omega)
 exact H1.place_at hi hp hpl
def fuelZ (f : List Prt) : Nat := 2 * f.length + 1
abbrev Bnd := ByteArray × Int × Int
theorem piece_well {l : List Prt} {us : List Nat} (hl : rowsB l = some us) {i : Nat} (hi : i < l.length) : wellB (piece l i (endB l i)) = true ∧ (piece l i (endB l i)).length = endB l i - i := by
 obtain ⟨t, ht⟩ := piece_one hl hi
 have hg := endB_gt hl hi
 have := (rowsB_sum ht).1
 simp at this
 exact ⟨by rw [wellB_iff, ht, this], piece_len (by omega) hg.2⟩
theorem piece_sits {l : List Prt} {us : List Nat} (hl : rowsB l = some us) {a b : Nat} (hab : a ≤ b) {ts : List Nat} (hp : rowsB (piece l a b) = some ts) : Sits (piece l a b) l a := ⟨⟨_, hp⟩, ⟨_, hl⟩, ⟨_, drop_piece hab⟩⟩
def instZ (t : List Prt) (hs : List Hl) (v : Nat → List Prt) : List Prt := iPart t hs v (fuelZ t) 0
theorem i_self {f : List Prt} {uf : List Nat} (hf : rowsB f = some uf) {hs : List Hl} (hn : ∀ p, holeOf f hs p = none) (v : Nat → List Prt) : ∀ n, (∀ p, p < f.length → 2 * (endB f p - p) ≤ n → iPart f hs v n p = piece f p (endB f p)) ∧
  (∀ p pend K, pend ≤ f.length → advT f K p pend = some pend → 2 * (pend - p) + 1 ≤ n → iKids f hs v n p pend = piece f p pend)
 | 0 => ⟨(fun p hp h => by have := (endB_gt hf hp).1; omega), (fun _ _ _ _ _ h => by omega)⟩
 | n + 1 => by
  obtain ⟨h1, h2⟩ := i_self hf hn v n
  constructor
  ·intro p hp h
   have hg := endB_gt hf hp
   obtain ⟨q, k1, k2⟩ := adv_kids hf hp
   rw [iPart, hn p, List.getElem?_eq_getElem hp]
   simp only []
   rw [h2 _ _ q hg.2 k2 (by omega), (piece_rows f hf hg.2 k2).2, piece_cons hg.1 hg.2, ← k1]
  ·intro p pend K hpe hK h
   rw [iKids]
   split
   ·rename_i e; subst e; rw [piece_self]
   ·rename_i e
    obtain ⟨hlt, J, _, hJ⟩ := adv_next hK e
    have hg := endB_gt hf (show p < f.length by omega)
    have hle := adv_le hf _ _ _ _ hpe hJ
    rw [h1 p (by omega) (by omega), h2 _ _ J hpe hJ (by omega), ← piece_add f (by omega) (by omega)]
theorem inst_self {f : List Prt} (hf : wellB f = true) {hs : List Hl} (hn : ∀ p, holeOf f hs p = none) (v : Nat → List Prt) : instZ f hs v = f := by
 have h0 := well_zero hf
 unfold instZ
 rw [(i_self (well_rows hf) hn v _).1 0 h0.1 (by rw [h0.2]; unfold fuelZ; omega), h0.2]
 unfold piece; simp
theorem up_of {l : List Prt} {us : List Nat} (hl : rowsB l = some us) {i k : Nat} (hi : i < l.length) (h1 : i < k) (h2 : k < endB l i) (h3 : ∀ j, i < j → j < k → endB l j ≤ k) : upN l k = (i : Int) := by
 unfold upN
 have key : ∀ m, i < m → m ≤ k → upI l k m = (i : Int) := by
  intro m
  induction m with
  | zero => intro h; omega
  | succ m ih =>
   intro h4 h5
   rw [upI]
   by_cases e : m = i
   ·subst e; rw [if_pos h2]
   ·rw [if_neg (by have := h3 m (by omega) (by omega); omega)]
    exact ih (by omega) (by omega)
 exact key k h1 (Nat.le_refl _)
theorem end_within {l : List Prt} {us : List Nat} (hl : rowsB l = some us) {i j : Nat} (hi : i < l.length) (h1 : i ≤ j) (h2 : j < endB l i) : endB l j ≤ endB l i := by
 have hp := piece_well hl hi
 have hg := endB_gt hl hi
 have hS := piece_sits hl (show i ≤ endB l i by omega) (wellB_iff.1 hp.1)
 have hx : j - i < (piece l i (endB l i)).length := by rw [hp.2]; omega
 have e1 := hS.end_ hx
 have e2 := endB_gt (wellB_iff.1 hp.1) hx
 rw [hp.2] at e2
 rw [show j - i + i = j by omega] at e1
 omega
def kidAt (l : List Prt) : Nat → Nat → Nat
 | 0, k => k
 | n + 1, k => kidAt l n (endB l k)
theorem adv_kid {l : List Prt} {k stop : Nat} : ∀ {n b : Nat}, advT l n k stop = some b → kidAt l n k = b
 | 0, b, h => by rw [advT] at h; cases h; rfl
 | n + 1, b, h => by
  rw [advT] at h
  split at h
  ·rw [kidAt]
   exact adv_kid h
  ·cases h
theorem kidAt_snoc (l : List Prt) : ∀ (n k : Nat), kidAt l (n + 1) k = endB l (kidAt l n k)
 | 0, k => rfl
 | n + 1, k => by rw [kidAt, kidAt_snoc l n (endB l k)]; rfl
theorem kids_go {l : List Prt} {us : List Nat} (hl : rowsB l = some us) {i : Nat} (hi : i < l.length) : ∃ q : Nat, (l[i]).2.1 = (q : Int) ∧ kidAt l q (i + 1) = endB l i ∧ q ≤ l.length ∧ ∀ c, c < q → i < kidAt l c (i + 1) ∧ kidAt l c (i + 1) < l.length := by
 obtain ⟨q, h1, h2⟩ := adv_kids hl hi
 have hg := endB_gt hl hi
 have hle := adv_le hl _ _ _ _ hg.2 h2
 refine ⟨q, h1, adv_kid h2, by omega, fun c hc => ?_⟩
 have h3 := h2
 rw [show q = c + (q - c) by omega, adv_add] at h3
 cases hx : advT l c (i + 1) (endB l i) with
 | none => rw [hx] at h3; cases h3
 | some x =>
  rw [hx, Option.bind_some, show q - c = (q - c - 1) + 1 by omega, advT] at h3
  rw [adv_kid hx]
  split at h3
  ·have := adv_le hl _ _ _ _ hg.2 hx
   omega
  ·cases h3
end Go.Proofs.YtmklemelgdilkaaDoor
namespace Go.Proofs.YtmklemelgdilkaaDoor
set_option linter.all false

def firstErr : List RuleM → Int
 | [] => 0
 | r :: t => if ruleZ r = 0 then firstErr t else ruleZ r
def findErr (rules : List RuleM) (l : List Prt) : Int := if wellB l = false then 8 else if 32 < rules.length then 14 else firstErr rules
theorem firstErr_zero : ∀ {rules : List RuleM}, firstErr rules = 0 ↔ ∀ r ∈ rules, ruleZ r = 0
 | [] => by simp [firstErr]
 | r :: t => by
  rw [firstErr]
  by_cases h : ruleZ r = 0
  ·rw [if_pos h, firstErr_zero]; simp [h]
  ·rw [if_neg h]; simp [h]
theorem findErr_zero {rules : List RuleM} {l : List Prt} : findErr rules l = 0 ↔ wellB l = true ∧ rules.length ≤ 32 ∧ ∀ r ∈ rules, ruleZ r = 0 := by
 unfold findErr
 cases hw : wellB l with
 | false => simp
 | true =>
  rw [if_neg (by simp)]
  by_cases h : 32 < rules.length
  ·rw [if_pos h]; constructor
   ·intro h; omega
   ·intro h; omega
  ·rw [if_neg h, firstErr_zero]
   constructor
   ·intro g; exact ⟨rfl, by omega, g⟩
   ·intro g; exact g.2.2
end Go.Proofs.YtmklemelgdilkaaDoor
namespace Go.Proofs.YtmklemelgdilkaaDoor
set_option linter.all false
open Go.RowKit

def e2Rel (l : List Prt) (w : World) (iv : Value) (wr : World) : Prop :=
 ∃ (k : Nat) (E : List Int), iv = .int .i64 ((k : Int) - 1) ∧ k ≤ l.length ∧ E.length = l.length ∧ (∀ j, k ≤ j → j < l.length → E.getD j 0 = (endB l j : Int)) ∧
  wr.heap[w.heap.size]? = some (.cells (E.map (Value.int .i64)).toArray 3 (0, 0)) ∧ Below w.heap.size w wr
def e2In (l : List Prt) (w : World) (E : List Int) (i q : Nat) (cv : Value) (wr : World) : Prop :=
 ∃ c : Nat, cv = .int .i64 (c : Int) ∧ c ≤ q ∧ wr.heap[w.heap.size]? = some (.cells ((E.set i (kidAt l c (i + 1) : Int)).map (Value.int .i64)).toArray 3 (0, 0)) ∧ Below w.heap.size w wr
@[irreducible] def ends2Post (l : List Prt) (w0 : World) (e : Ending) (w' : World) : Prop :=
 ∃ v, e = .returned v ∧ Below w0.heap.size w0 w' ∧ w'.ownsRow w0.heap.size 3 1 v l.length ((endsL l).map (Value.int .i64))
theorem owns_block {w : World} {B g : Nat} {n : Nat} {E : List Int} (h : w.heap[g]? = some (.cells (E.map (Value.int .i64)).toArray 3 (0, 0))) (hB : B ≤ g) (hn : E.length = n) (hm : n ≤ 1000000000) : w.ownsRow B 3 1 (.slice (some ⟨g, 0, none⟩) n n) n (E.map (Value.int .i64)) :=
 ⟨by simp [hn], Or.inr ⟨g, n, _, rfl, hB, h, Nat.le_refl _, by unfold maxLen; omega, by simp [hn], by simp; rw [List.take_of_length_le (by simp [hn])]⟩⟩
end Go.Proofs.YtmklemelgdilkaaDoor
namespace Go.Proofs.YtmklemelgdilkaaDoor
set_option linter.all false

def dupB (r : RuleM) (k : Nat) (s : ByteArray) : Bool := (r.holes.take k).any fun g => decide (g.1 = s)
def seenM (hs : List Hl) (x : ByteArray) : Option Int := if hs.any (fun g => decide (g.1 = x)) = true then some 1 else none
theorem seenM_put (hs : List Hl) (h : Hl) : (fun x => if x = h.1 then some 1 else seenM hs x) = seenM (hs ++ [h]) := by
 funext x
 unfold seenM
 rw [List.any_append]
 by_cases e : x = h.1
 ·subst e; simp
 ·rw [if_neg e]
  have : (List.any [h] fun g => decide (g.1 = x)) = false := by simp; exact fun e2 => e e2.symm
  rw [this, Bool.or_false]
theorem take_snoc {α : Type} {l : List α} {k : Nat} (hk : k < l.length) : l.take (k + 1) = l.take k ++ [l[k]] := by
 rw [List.take_add_one, List.getElem?_eq_getElem hk]; rfl
theorem holeB_eq {r : RuleM} {k : Nat} (hk : k < r.holes.length) : holeB r k = (!dupB r k (r.holes[k]).1 && (name (r.holes[k]).1 && (decide (1 ≤ (r.holes[k]).2 ∧ (r.holes[k]).2 ≤ 7) && (decide (1 ≤ placesZ r.fnd r.holes[k]) && decide (0 ≤ placesZ r.by' r.holes[k]))))) := by
 unfold holeB dupB
 rw [List.getElem?_eq_getElem hk]
theorem ruleZ_10 {r : RuleM} (h : ruleTop r = false) : ruleZ r = 10 := by unfold ruleZ; rw [if_pos h]
theorem ruleZ_14 {r : RuleM} (h : ruleTop r = true) (c : 16 < r.holes.length ∨ 2 < sevN r.holes) : ruleZ r = 14 := by unfold ruleZ; rw [if_neg (by simp [h]), if_pos c]
theorem ruleZ_11 {r : RuleM} (h : ruleTop r = true) (c1 : r.holes.length ≤ 16) (c2 : sevN r.holes ≤ 2) {k : Nat} (hk : k < r.holes.length) (hb : holeB r k = false) : ruleZ r = 11 := by
 unfold ruleZ
 rw [if_neg (by simp [h]), if_neg (by omega), if_neg (fun hh => by have := hh k hk; rw [hb] at this; cases this)]
theorem ruleZ_0 {r : RuleM} (h : ruleTop r = true) (c1 : r.holes.length ≤ 16) (c2 : sevN r.holes ≤ 2) (hh : ∀ i, i < r.holes.length → holeB r i = true) : ruleZ r = 0 := by
 unfold ruleZ
 rw [if_neg (by simp [h]), if_neg (by omega), if_pos hh]
theorem sevN_take {hs : List Hl} {k : Nat} (hk : k < hs.length) : sevN (hs.take (k + 1)) = sevN (hs.take k) + (if isSev (hs[k]).2 = true then 1 else 0) := by
 unfold sevN
 rw [take_snoc hk, List.filter_append, List.length_append]
 by_cases h : isSev (hs[k]).2 = true
 ·simp [h]
 ·simp [h]
theorem sevN_all (hs : List Hl) : sevN (hs.take hs.length) = sevN hs := by rw [List.take_length]
theorem sevN_le (hs : List Hl) : sevN hs ≤ hs.length := List.length_filter_le _ _
end Go.Proofs.YtmklemelgdilkaaDoor
