/- Layer 8: the document's Silent, ended, Of, walked. -/
import Derived.Test.YtcnkcnalabjhgaaGreatDoorScanAllsWalk
import Derived.Test.YtcnkcnalabjhgaaGreatDoorSemi
import Derived.Test.YtcnkcnalabjhgaaGreatDoorSemiP
import Derived.Test.YtcnkcnalabjhgaaGreatDoorRef08a
import Derived.Deep.RegionHeld3
import Derived.Test.YtcnkcnalabjhgaaGreatDoorLaw08
namespace Go.Proofs.YtcnkcnalabjhgaaGreatDoor
set_option linter.all false
attribute [local irreducible] wpStill
open Go.RowKit

/-- Does a line end behind a token, before these lexemes? -/
def endedL (s : ByteArray) : List Tok → Bool
  | [] => true
  | t :: r => if silentK t.1 then (if hasNl s t then true else endedL s r) else false
/-- The tokens of lexemes, by looking what stands behind each. -/
def putR (s : ByteArray) : List Tok → List Tok
  | [] => []
  | t :: r => if silentK t.1 then putR s r else t :: ((if endsK t.1 (s.extract t.2.1 t.2.2) && endedL s r then [(9, t.2.2, t.2.2)] else []) ++ putR s r)
theorem semi_put (s : ByteArray) : ∀ l : List Tok, semiRec s none l = putR s l ∧ ∀ e, semiRec s (some e) l = (if endedL s l then [(9, e, e)] else []) ++ putR s l
  | [] => ⟨rfl, fun e => rfl⟩
  | t :: r => by
    obtain ⟨h1, h2⟩ := semi_put s r
    by_cases hs : silentK t.1 = true
    · refine ⟨?_, fun e => ?_⟩
      · rw [semiRec_silent s t r hs, h1, putR, if_pos hs]
      · rw [semiRec, if_pos hs, endedL, if_pos hs, putR, if_pos hs]
        by_cases hn : hasNl s t = true
        · rw [if_pos hn, if_pos hn, if_pos rfl, h1]; rfl
        · rw [if_neg hn, if_neg hn, h2]
    · have key : semiRec s (if endsK t.1 (s.extract t.2.1 t.2.2) then some t.2.2 else none) r = (if endsK t.1 (s.extract t.2.1 t.2.2) && endedL s r then [(9, t.2.2, t.2.2)] else []) ++ putR s r := by
        cases endsK t.1 (s.extract t.2.1 t.2.2) with
        | true => rw [if_pos rfl, h2, Bool.true_and]
        | false => rw [if_neg (by decide), h1]; rfl
      refine ⟨?_, fun e => ?_⟩
      · rw [semiRec, if_neg hs, putR, if_neg hs, key]
      · rw [semiRec, if_neg hs, putR, if_neg hs, key, endedL, if_neg hs]; rfl
theorem putR_len (s : ByteArray) : ∀ l : List Tok, (putR s l).length ≤ 2 * l.length
  | [] => Nat.le_refl _
  | t :: r => by
    have ih := putR_len s r
    rw [putR]
    split
    · simp only [List.length_cons]; omega
    · rw [List.length_cons, List.length_append, List.length_cons]
      have : (if endsK t.1 (s.extract t.2.1 t.2.2) && endedL s r then [((9 : Int), t.2.2, t.2.2)] else []).length ≤ 1 := by split <;> simp
      omega
theorem nl_iff {s : ByteArray} {k : Int} {a e : Nat} (he : e ≤ s.size) : hasNl s (k, a, e) = true ↔ ∃ j, a ≤ j ∧ j < e ∧ bt s j = 10 := by
  have hm : ∀ l : List UInt8, 0 ≤ Lib.indexByte l 10 ↔ (10 : UInt8) ∈ l := by
    intro l
    induction l with
    | nil => simp [Lib.indexByte]
    | cons b t ih =>
      have hge := Lib.indexByte_ge t 10
      rw [Lib.indexByte]
      by_cases hb : b = 10
      · subst hb; simp
      · rw [if_neg (by simpa using hb)]
        have hcb : ¬ (10 : UInt8) = b := fun e => hb e.symm
        simp only [List.mem_cons, hcb, false_or]
        rw [← ih]
        by_cases hm : Lib.indexByte t 10 = -1
        · rw [hm]; simp
        · rw [if_neg (by simpa using hm)]; omega
  unfold hasNl
  rw [decide_eq_true_eq, hm]
  simp only []
  rw [extract_data]
  constructor
  · intro h
    obtain ⟨j, hj, hx⟩ := List.getElem_of_mem h
    rw [List.getElem_take, List.getElem_drop] at hx
    rw [List.length_take, List.length_drop, ← size_data] at hj
    refine ⟨a + j, by omega, by omega, ?_⟩
    unfold bt
    rw [get!_list, List.getD_eq_getElem?_getD, List.getElem?_eq_getElem (by rw [← size_data]; omega), Option.getD_some, hx]
    rfl
  · rintro ⟨j, h1, h2, h3⟩
    have hj : j < s.data.toList.length := by rw [← size_data]; omega
    unfold bt at h3
    rw [get!_list, List.getD_eq_getElem?_getD, List.getElem?_eq_getElem hj, Option.getD_some] at h3
    have h4 : s.data.toList[j] = 10 := UInt8.toNat_inj.1 (by rw [h3]; rfl)
    rw [← h4]
    refine List.mem_iff_getElem.2 ⟨j - a, by rw [List.length_take, List.length_drop]; omega, ?_⟩
    rw [List.getElem_take, List.getElem_drop]
    congr 1; omega
set_option maxRecDepth 100000 in
theorem ref_Silent (k : Int) (hk : 0 ≤ k ∧ k < 256) (w : World) :
    Calls Tryz.prog 27 #[.int .u8 k] w fun e w' => e = .returned (.bool (silentK k)) ∧ w = w' := by
  have HQ : RowKit.Hid (∀ x, silentK k = x → (fun (e : Ending) w' => e = .returned (.bool (silentK k)) ∧ w = w') (.returned (.bool x)) w) := Lib.hid fun x h => ⟨by rw [h], rfl⟩
  have HV : RowKit.Hid (silentK k = (k == 10 || k == 11 || k == 12)) := Lib.hid rfl
  generalize (fun (e : Ending) w' => e = .returned (.bool (silentK k)) ∧ w = w') = Q at *
  have h3 : (¬ (10 : Int) ≤ k) ∨ ((10 : Int) ≤ k ∧ k ≤ 12) ∨ ((10 : Int) ≤ k ∧ ¬ k ≤ 12) := by omega
  rcases h3 with h | ⟨h, h'⟩ | ⟨h, h'⟩
  · have HF := Lib.hid (show silentK k = false by rw [HV.out]; simp; omega)
    go_enter Tryz.func27, Tryz.ntmps27
    go_wp2_with fail
    exact HQ.out _ HF.out
  · have HF := Lib.hid (show silentK k = true by rw [HV.out]; simp; omega)
    go_enter Tryz.func27, Tryz.ntmps27
    go_wp2_with fail
    exact HQ.out _ HF.out
  · have HF := Lib.hid (show silentK k = false by rw [HV.out]; simp; omega)
    go_enter Tryz.func27, Tryz.ntmps27
    go_wp2_with fail
    exact HQ.out _ HF.out
set_option maxRecDepth 100000 in
set_option maxHeartbeats 4000000 in
theorem ref_ended (s : ByteArray) (hs : s.size ≤ 2147483647) (v : Value) (L : List Tok) (hL : L.length ≤ 200000) (hin : ∀ t ∈ L, t.2.1 ≤ t.2.2 ∧ t.2.2 ≤ s.size) (hkk : ∀ t ∈ L, 0 ≤ t.1 ∧ t.1 < 256) (i : Nat) (hi : i < L.length) (w : World) (hr : TR w v L) :
    Calls Tryz.prog 29 #[.string s, v, .int .i64 (i : Int)] w fun e w' => e = .returned (.bool (endedL s (L.drop (i + 1)))) ∧ w = w' := by
  have HQ : RowKit.Hid (∀ x, endedL s (L.drop (i + 1)) = x → (fun (e : Ending) w' => e = .returned (.bool (endedL s (L.drop (i + 1)))) ∧ w = w') (.returned (.bool x)) w) := Lib.hid fun x h => ⟨by rw [h], rfl⟩
  generalize (fun (e : Ending) w' => e = .returned (.bool (endedL s (L.drop (i + 1)))) ∧ w = w') = Q at *
  generalize hV : endedL s (L.drop (i + 1)) = V at *
  have HV := Lib.hid hV
  have HR := Lib.hid hr
  have HIN := Lib.hid hin
  have HKK := Lib.hid hkk
  obtain ⟨a1, cap1, rfl, hcap1, _⟩ := hr
  have hwi : IntKind.i64.wrap ((i : Int) + 1) = ((i + 1 : Nat) : Int) := by rw [IntKind.wrap_i64]; omega
  have hi1 : i + 1 ≤ L.length := hi
  clear hV hin hkk
  go_enter Tryz.func29, Tryz.ntmps29
  go_wp2_with fail
  go_loopw [7] (fun j wr => ∃ k : Nat, j = .int .i64 k ∧ k ≤ L.length ∧ RowKit.Hid (endedL s (L.drop k) = V) ∧ wr = w) (fun j _ => L.length - (intOf j).toNat)
  case atStart => exact ⟨i + 1, (by first | rfl | exact congrArg (Value.int .i64) (by omega)), hi1, HV, rfl⟩
  case round =>
    obtain ⟨k, rfl, hk, HK, rfl⟩ := hrel
    by_cases hlt : k < L.length
    · have hlt' : (k : Int) < L.length := by omega
      obtain ⟨b1, rfl, _, _, d0, d1, d2⟩ := HR.out.at (Below.refl _ _) hlt
      have hin := HIN.out L[k] (List.getElem_mem hlt)
      have hkk := HKK.out L[k] (List.getElem_mem hlt)
      have hdk := HK.out
      rw [List.drop_eq_getElem_cons hlt, endedL] at hdk
      generalize L[k] = t at *
      obtain ⟨kk, ff, tt⟩ := t
      simp only [] at hin hkk d0 d1 d2 hdk
      have hk0 : (0 : Int) ≤ k := by omega
      have hkc : (k : Int) < cap1 := by omega
      have hwk : IntKind.i64.wrap ((k : Int) + 1) = ((k + 1 : Nat) : Int) := by rw [IntKind.wrap_i64]; omega
      have HK1 : RowKit.Hid (k + 1 ≤ L.length) := Lib.hid hlt
      have HML : RowKit.Hid (L.length - (k + 1) < L.length - k) := Lib.hid (by omega)
      have CS := ref_Silent kk hkk wr
      clear HK
      cases hsl : silentK kk with
      | false =>
        rw [hsl] at CS hdk
        have CS := Lib.hid CS
        have HF := Lib.hid (show V = false by rw [← hdk]; rfl)
        clear hdk hsl
        go_wp2_with fail
        refine CS.out.mono ?_
        rintro e w2 ⟨rfl, rfl⟩
        go_wp2_with fail
        exact HQ.out _ HF.out
      | true =>
        rw [hsl] at CS hdk
        have CS := Lib.hid CS
        rw [if_pos rfl] at hdk
        have HDK := Lib.hid hdk
        have HNL := Lib.hid (@nl_iff s kk ff tt hin.2)
        obtain ⟨g1, g2⟩ := hin
        clear hdk hsl
        go_wp2_with fail
        refine CS.out.mono ?_
        rintro e w2 ⟨rfl, rfl⟩
        go_wp2_with fail
        go_loopw [8] (fun j wr2 => ∃ c : Nat, j = .int .i64 c ∧ ff ≤ c ∧ c ≤ tt ∧ RowKit.Hid (∀ x, ff ≤ x → x < c → bt s x ≠ 10) ∧ wr2 = wr) (fun j _ => tt - (intOf j).toNat)
        case atStart => exact ⟨ff, rfl, Nat.le_refl _, g1, Lib.hid (fun x h1 h2 => by omega), rfl⟩
        case round =>
          obtain ⟨c, rfl, hc1, hc2, HNO, rfl⟩ := hrel
          by_cases hcl : c < tt
          · have hcl' : (c : Int) < tt := by omega
            have hcs : (c : Int) < s.size := by omega
            have hc0 : (0 : Int) ≤ c := by omega
            have yc := bt_at s c (by omega)
            have hwc : IntKind.i64.wrap ((c : Int) + 1) = ((c + 1 : Nat) : Int) := by rw [IntKind.wrap_i64]; omega
            by_cases h10 : bt s c = 10
            · have HF := Lib.hid (show V = true by rw [← HDK.out, HNL.out.2 ⟨c, hc1, hcl, h10⟩]; rfl)
              rw [h10] at yc
              clear h10
              go_wp2_with fail
              exact HQ.out _ HF.out
            · have HN2 : RowKit.Hid (∀ x, ff ≤ x → x < c + 1 → bt s x ≠ 10) := Lib.hid fun x h1 h2 => by
                rcases Nat.lt_or_ge x c with q | q
                · exact HNO.out x h1 q
                · obtain rfl : x = c := by omega
                  exact h10
              have h10b : ((bt s c : Int) == 10) = false := by rw [beq_eq_false_iff_ne]; omega
              have HC1 : RowKit.Hid (ff ≤ c + 1 ∧ c + 1 ≤ tt) := Lib.hid (by omega)
              clear h10 HNO
              generalize bt s c = cc at *
              go_wp2_with fail
              refine ⟨⟨c + 1, congrArg (Value.int .i64) (by omega), HC1.out.1, HC1.out.2, HN2, (by first | trivial | rfl)⟩, ?_⟩
              simp only [intOf]
              omega
          · have hcl' : ¬ (c : Int) < tt := by omega
            have hnn : hasNl s (kk, ff, tt) = false := by
              cases g : hasNl s (kk, ff, tt) with
              | false => rfl
              | true =>
                obtain ⟨x, x1, x2, x3⟩ := HNL.out.1 g
                exact absurd x3 (HNO.out x x1 (by omega))
            have HT : RowKit.Hid (endedL s (L.drop (k + 1)) = V) := Lib.hid (by rw [← HDK.out, hnn]; rfl)
            clear hnn HNO
            go_wp2_with fail
            refine ⟨⟨k + 1, congrArg (Value.int .i64) (by omega), HK1.out, HT, (by first | trivial | rfl)⟩, ?_⟩
            have := HML.out
            simp only [intOf]
            omega
    · have hlt' : ¬ (k : Int) < L.length := by omega
      have HF : RowKit.Hid (V = true) := Lib.hid (by rw [← HK.out, List.drop_of_length_le (by omega)]; rfl)
      go_wp2_with fail
      exact HQ.out _ HF.out
/-- What holds at the loop's head. -/
def puRel (s : ByteArray) (W0 : World) (L : List Tok) (v i : Value) (wr : World) : Prop :=
  ∃ (k : Nat) (l : List Tok), i = .int .i64 k ∧ k ≤ L.length ∧ putR s L = l ++ putR s (L.drop k) ∧ Below W0.heap.size W0 wr ∧ wr.ownsRow W0.heap.size 24 3 v l.length (toksV l)
set_option maxRecDepth 100000 in
set_option maxHeartbeats 8000000 in
theorem ref_Of08 (s : ByteArray) (hs : s.size ≤ 2147483647) (w : World) :
    Calls Tryz.prog 16 #[.string s] w (allPost (semiAll s) w) := by
  have HQ : RowKit.Hid (∀ w' v l e a, semiAll s = (l, e, a) → Below w.heap.size w w' → w'.ownsRow w.heap.size 24 3 v l.length (toksV l) → allPost (semiAll s) w (.returned (.tuple #[v, .agg #[.int .i64 e, .int .i64 a]])) w') := Lib.hid fun w' v l e a h h2 h3 => by
    unfold allPost; rw [h]; exact ⟨v, rfl, h2, h3⟩
  have HREC := Lib.hid (semiAll_rec s)
  have HPUT := Lib.hid (semi_put s)
  have HBAD : RowKit.Hid (¬ ((scanAll s).2.1 = 0 ∧ (scanAll s).2.2 = 0) → semiAll s = ([], (scanAll s).2.1, (scanAll s).2.2)) := Lib.hid fun h => by unfold semiAll; rw [if_neg h]
  have HER := Lib.hid (scanAll_err s)
  have HINL := Lib.hid (scanAll_in s)
  have HKL := Lib.hid (scanAll_kind s)
  have HLN := scanAll_len s
  generalize allPost (semiAll s) w = Q at *
  have CA := Lib.hid (fun w' => ref_All07 s hs w')
  have HF : RowKit.Hid (∀ (tm : Array Value) W' v l e a, semiAll s = (l, e, a) → Below w.heap.size w W' → W'.ownsRow w.heap.size 24 3 v l.length (toksV l) → FK W' w.heap.size e a → tm.getD 3 undef = .pointer (some ⟨w.heap.size, 0, none⟩) → tm.getD 2 undef = v → bodyPost Tryz.prog Tryz.f16 Q .ret ⟨tm, []⟩ W') :=
    Lib.hid fun tm W' v l e a h1 h2 h3 h4 h5 h6 => by
      refine bodyPost_ret (results_tmp_cell rfl tm W' w.heap.size 31 #[.int .i64 e, .int .i64 a] (0, 0) _ h5 h4 Tryz.underlying31 rfl (by kernel_rfl)) rfl ?_
      rw [h6]
      exact HQ.out W' v l e a h1 h2 h3
  have hT4 : FK (w.alloc (.cells #[.int .i64 0, .int .i64 0] 31)) w.heap.size 0 0 := by
    unfold FK; exact heap_alloc_new _ _
  have hbW : Below w.heap.size w (w.alloc (.cells #[.int .i64 0, .int .i64 0] 31)) := (Below.refl _ _).alloc (Nat.le_refl _) _
  have H4 := Lib.hid hT4
  have HBW := Lib.hid hbW
  clear hT4 hbW
  go_enter Tryz.func16, Tryz.ntmps16
  go_wp2_with fail
  refine (CA.out _).mono ?_
  intro e w1 h1
  unfold allPost at h1
  generalize scanAll s = q1 at *
  obtain ⟨L, er, ea⟩ := q1
  simp only [] at *
  obtain ⟨v1, rfl, hb1, ho1⟩ := h1
  have HB1 := Lib.hid (bthen HBW.out hb1)
  have H41 := Lib.hid ((H4.out.keep hb1).alloc (.cells #[.int .i64 er, .int .i64 ea] 31))
  have HR1 := Lib.hid (TR.of_owns ho1)
  obtain ⟨a1, cap1, rfl, hcap1, _⟩ := HR1.out
  have HF1 : RowKit.Hid (FK (w1.alloc (.cells #[.int .i64 er, .int .i64 ea] 31)) w1.heap.size er ea) := Lib.hid (by unfold FK; exact heap_alloc_new _ _)
  have HA1 : RowKit.Hid (Below w1.heap.size w1 (w1.alloc (.cells #[.int .i64 er, .int .i64 ea] 31))) := Lib.hid ((Below.refl _ _).alloc (Nat.le_refl _) _)
  have hlt1 : w.heap.size < w1.heap.size := by
    have := hb1.size
    have h2 : (w.alloc (.cells #[.int .i64 0, .int .i64 0] 31)).heap.size = w.heap.size + 1 := by simp
    omega
  clear hb1 ho1 CA
  have f0 := HF1.out.c0; have f1 := HF1.out.c1
  by_cases her : er = 0
  · obtain rfl := HER.out her
    subst her
    have hv0 := HREC.out ⟨rfl, rfl⟩
    rw [(HPUT.out L).1] at hv0
    have HV := Lib.hid hv0
    have HR2 := Lib.hid (HR1.out.below HA1.out)
    have HB2 := Lib.hid (bthen HB1.out HA1.out)
    have HIN2 : RowKit.Hid (∀ t ∈ L, t.2.1 ≤ t.2.2 ∧ t.2.2 ≤ s.size) := Lib.hid fun t ht => by have := HINL.out t ht; omega
    have HLT : RowKit.Hid (w.heap.size < (w1.alloc (.cells #[.int .i64 0, .int .i64 0] 31)).heap.size) := Lib.hid (by simp; omega)
    clear hv0 HREC HBAD HER HINL HR1 HB1
    go_wp2_with fail
    clear f0 f1 HF1
    generalize w1.alloc (.cells #[.int .i64 0, .int .i64 0] 31) = W0 at *
    go_loopw [6, 7] (fun v i wr => puRel s W0 L v i wr) (fun _ i _ => L.length - (intOf i).toNat)
    case atStart => exact ⟨0, [], rfl, Nat.zero_le _, rfl, Below.refl _ _, World.ownsRow_nil _ _ _ _⟩
    case round =>
      obtain ⟨k, l, rfl, hk, hp, hb, ho⟩ := hrel
      obtain ⟨va, vm, vc, rfl⟩ := owns_slice ho
      have HB := Lib.hid hb
      have HO := Lib.hid ho
      have HP := Lib.hid hp
      have hlen : l.length ≤ 131072 := by
        have := putR_len s L
        rw [hp, List.length_append] at this; omega
      clear hb ho hp
      by_cases hlt : k < L.length
      · have hlt' : (k : Int) < L.length := by omega
        obtain ⟨b1, rfl, _, _, d0, d1, d2⟩ := HR2.out.at HB.out hlt
        have hin := HIN2.out L[k] (List.getElem_mem hlt)
        have hkk := HKL.out L[k] (List.getElem_mem hlt)
        have hpk := HP.out
        rw [List.drop_eq_getElem_cons hlt, putR] at hpk
        have HAT := Lib.hid (fun w' (hb : Below W0.heap.size W0 w') => HR2.out.at hb hlt)
        have CD := Lib.hid (fun W (hb : Below W0.heap.size W0 W) => ref_ended s hs _ L (by omega) HIN2.out HKL.out k hlt W (HR2.out.below hb))
        generalize L[k] = t at *
        obtain ⟨kk, ff, tt⟩ := t
        simp only [] at hin hkk d0 d1 d2 hpk HAT
        have CS := ref_Silent kk hkk wr
        have CE := Lib.hid (fun W => ref_Ends08 kk hkk (s.extract ff tt) W)
        have hk0 : (0 : Int) ≤ k := by omega
        have hkc : (k : Int) < cap1 := by omega
        have hwk : IntKind.i64.wrap ((k : Int) + 1) = ((k + 1 : Nat) : Int) := by rw [IntKind.wrap_i64]; omega
        have HK1 : RowKit.Hid (k + 1 ≤ L.length) := Lib.hid hlt
        have HML : RowKit.Hid (L.length - (k + 1) < L.length - k) := Lib.hid (by omega)
        have q1 : (ff : Int) ≤ tt := by omega
        have q2 : (tt : Int) ≤ s.size := by omega
        have q3 : (0 : Int) ≤ ff := by omega
        have hbs := HB.out.size
        cases hsl : silentK kk with
        | true =>
          rw [hsl] at CS hpk
          rw [if_pos rfl] at hpk
          have CS := Lib.hid CS
          have HPK := Lib.hid hpk
          clear hpk hsl CE CD
          go_wp2_with fail
          refine CS.out.mono ?_
          rintro e w2 ⟨rfl, rfl⟩
          have HR : RowKit.Hid (puRel s W0 L (.slice va vm vc) (.int .i64 (k + 1 : Nat)) wr) := Lib.hid ⟨k + 1, l, rfl, HK1.out, HPK.out, HB.out, HO.out⟩
          go_wp2_with fail
          refine ⟨?_, (by have := HML.out; simp [intOf]; try omega)⟩
          first
            | exact HR.out
            | (repeat apply Exists.intro
               refine ⟨?_, rfl⟩
               exact HR.out)
        | false =>
          rw [hsl] at CS hpk
          rw [if_neg (by decide)] at hpk
          have CS := Lib.hid CS
          have HPK := Lib.hid hpk
          clear hpk hsl
          go_wp2_with fail
          refine CS.out.mono ?_
          rintro e w2 ⟨rfl, rfl⟩
          go_wp2_with (at_builtin; refine wpList_append_lit wr #[.int .u8 kk, .int .i64 (ff : Int), .int .i64 (tt : Int)] _ rfl _ _ 29 24 rfl Tryz.underlying29 W0.heap.size info_tok rfl (by decide) _ _ _ rfl HO.out 1 1 rfl rfl (by decide) (by intro u hu; simp at hu; rcases hu with rfl | rfl | rfl <;> rfl) (by omega) (by omega) hbs ?_)
          intro v' w3 hown hgr _
          have hb3 := grown_below HB.out hbs HO.out hgr
          have HO3 : RowKit.Hid (w3.ownsRow W0.heap.size 24 3 v' (l ++ [(kk, ff, tt)]).length (toksV (l ++ [(kk, ff, tt)]))) := Lib.hid (by rw [List.length_append, toksV_snoc]; exact hown)
          have HB3 := Lib.hid hb3
          clear hown hgr hb3 d0 d1 d2 HO HB
          obtain ⟨b1', hbb, _, _, d0, d1, d2⟩ := HAT.out _ HB3.out
          simp only [Option.some.injEq, Addr.mk.injEq, and_true] at hbb
          subst hbb
          obtain ⟨vb, vn, vd, rfl⟩ := owns_slice HO3.out
          have HBd := Lib.hid (Below.refl w3.heap.size w3).drew
          have HS : RowKit.Hid (∀ W', Below w3.heap.size w3 W' → (W'.cell? { block := b1, off := k * 3 } = some (Value.int IntKind.u8 kk) ∧ W'.cell? { block := b1, off := k * 3 + 1 } = some (Value.int IntKind.i64 (ff : Int)) ∧ W'.cell? { block := b1, off := k * 3 + 2 } = some (Value.int IntKind.i64 (tt : Int)) ∧ RowKit.Hid (Below w3.heap.size w3 W'))) := Lib.hid fun W' g => by
            obtain ⟨b1', hbb, _, _, x0, x1, x2⟩ := HAT.out _ (bthen HB3.out g)
            simp only [Option.some.injEq, Addr.mk.injEq, and_true] at hbb
            subst hbb
            exact ⟨x0, x1, x2, Lib.hid g⟩
          have CD3 := Lib.hid (fun W (hb : Below w3.heap.size w3 W) => CD.out W (bthen HB3.out hb))
          have hbs3 := HB3.out.size
          have hlen3 : (l ++ [(kk, ff, tt)]).length ≤ 131073 := by simp; omega
          clear CD CS HAT hbs
          generalize endsK kk (s.extract ff tt) = ek at *
          generalize endedL s (L.drop (k + 1)) = ed at *
          cases ek with
          | false =>
            have HPN : RowKit.Hid (putR s L = (l ++ [(kk, ff, tt)]) ++ putR s (L.drop (k + 1))) := Lib.hid (by rw [HPK.out]; simp)
            clear HPK
            go_wp2_with fail
            refine wp_region_held_drew (S := fun W' => W'.cell? { block := b1, off := k * 3 } = some (Value.int IntKind.u8 kk) ∧ W'.cell? { block := b1, off := k * 3 + 1 } = some (Value.int IntKind.i64 (ff : Int)) ∧ W'.cell? { block := b1, off := k * 3 + 2 } = some (Value.int IntKind.i64 (tt : Int)) ∧ RowKit.Hid (Below w3.heap.size w3 W')) (by kernel_rfl) (HS.out _ HBd.out) (fun hHeld => ?_)
            refine wpAnyH_take (i := 0) (oi := _) (v := ?v0) rfl (by kernel_rfl) (by kernel_rfl) (by kernel_rfl) (fun _ _ _ h => h) (Or.inl ⟨by rfl, ?hy0⟩) hHeld ?rest0
            case hy0 => intro w hSw; (try dsimp only at hSw); go_simp; (try with_reducible rfl)
            (try simp only [Act.put, List.setIfInBounds_toArray, List.set_cons_zero, List.set_cons_succ])
            refine wpAnyH_take (i := 1) (oi := _) (v := ?v1) rfl (by kernel_rfl) (by kernel_rfl) (by kernel_rfl) (fun _ _ _ h => h) (Or.inl ⟨by rfl, ?hy1⟩) hHeld ?rest1
            case hy1 => intro w hSw; (try dsimp only at hSw); go_simp; (try with_reducible rfl)
            (try simp only [Act.put, List.setIfInBounds_toArray, List.set_cons_zero, List.set_cons_succ])
            refine wpAnyH_take (i := 2) (oi := _) (v := ?v2) rfl (by kernel_rfl) (by kernel_rfl) (by kernel_rfl) (fun _ _ _ h => h) (Or.inl ⟨by rfl, ?hy2⟩) hHeld ?rest2
            case hy2 => intro w hSw; (try dsimp only at hSw); go_simp; (try with_reducible rfl)
            (try simp only [Act.put, List.setIfInBounds_toArray, List.set_cons_zero, List.set_cons_succ])
            refine wpAnyH_take (i := 3) (oi := _) (v := ?v3) rfl (by kernel_rfl) (by kernel_rfl) (by kernel_rfl) (fun _ _ _ h => h) (Or.inl ⟨by rfl, ?hy3⟩) hHeld ?rest3
            case hy3 => intro w hSw; (try dsimp only at hSw); go_simp; (try with_reducible rfl)
            (try simp only [Act.put, List.setIfInBounds_toArray, List.set_cons_zero, List.set_cons_succ])
            refine wpAnyH_take (i := 4) (oi := _) (v := ?v4) rfl (by kernel_rfl) (by kernel_rfl) (by kernel_rfl) (fun _ _ _ h => h) (Or.inl ⟨by rfl, ?hy4⟩) hHeld ?rest4
            case hy4 => intro w hSw; (try dsimp only at hSw); go_simp; (try with_reducible rfl)
            (try simp only [Act.put, List.setIfInBounds_toArray, List.set_cons_zero, List.set_cons_succ])
            refine wpAnyH_take (i := 5) (oi := _) (v := ?v5) rfl (by kernel_rfl) (by kernel_rfl) (by kernel_rfl) (fun _ _ _ h => h) (Or.inl ⟨by rfl, ?hy5⟩) hHeld ?rest5
            case hy5 => intro w hSw; (try dsimp only at hSw); go_simp; (try with_reducible rfl)
            (try simp only [Act.put, List.setIfInBounds_toArray, List.set_cons_zero, List.set_cons_succ])
            refine wpAnyH_take (i := 6) (oi := _) (v := ?v6) rfl (by kernel_rfl) (by kernel_rfl) (by kernel_rfl) (fun _ _ _ h => h) (Or.inl ⟨by rfl, ?hy6⟩) hHeld ?rest6
            case hy6 => intro w hSw; (try dsimp only at hSw); go_simp; (try with_reducible rfl)
            (try simp only [Act.put, List.setIfInBounds_toArray, List.set_cons_zero, List.set_cons_succ])
            refine wpAnyH_take (i := 7) (oi := _) (v := ?v7) rfl (by kernel_rfl) (by kernel_rfl) (by kernel_rfl) (fun _ _ _ h => h) (Or.inl ⟨by rfl, ?hy7⟩) hHeld ?rest7
            case hy7 => intro w hSw; (try dsimp only at hSw); go_simp; (try with_reducible rfl)
            (try simp only [Act.put, List.setIfInBounds_toArray, List.set_cons_zero, List.set_cons_succ])
            refine wpAnyH_take (i := 8) (oi := _) (v := ?v8) rfl (by kernel_rfl) (by kernel_rfl) (by kernel_rfl) (fun _ _ _ h => h) (Or.inl ⟨by rfl, ?hy8⟩) hHeld ?rest8
            case hy8 => intro w hSw; (try dsimp only at hSw); go_simp; (try with_reducible rfl)
            (try simp only [Act.put, List.setIfInBounds_toArray, List.set_cons_zero, List.set_cons_succ])
            refine wpAnyH_take (i := 9) (oi := _) (v := ?v9) rfl (by kernel_rfl) (by kernel_rfl) (by kernel_rfl) (fun _ _ _ h => h) (Or.inl ⟨by rfl, ?hy9⟩) hHeld ?rest9
            case hy9 => intro w hSw; (try dsimp only at hSw); go_simp; (try with_reducible rfl)
            (try simp only [Act.put, List.setIfInBounds_toArray, List.set_cons_zero, List.set_cons_succ])
            refine wpAnyH_take (i := 10) (oi := _) (v := ?v10) rfl (by kernel_rfl) (by kernel_rfl) (by kernel_rfl) (fun _ _ _ h => h) (Or.inl ⟨by rfl, ?hy10⟩) hHeld ?rest10
            case hy10 => intro w hSw; (try dsimp only at hSw); go_simp; (try with_reducible rfl)
            (try simp only [Act.put, List.setIfInBounds_toArray, List.set_cons_zero, List.set_cons_succ])
            refine wpAnyH_take (i := 11) (oi := _) (v := ?v11) rfl (by kernel_rfl) (by kernel_rfl) (by kernel_rfl) (fun _ _ _ h => h) (Or.inl ⟨by rfl, ?hy11⟩) hHeld ?rest11
            case hy11 => intro w hSw; (try dsimp only at hSw); go_simp; (try with_reducible rfl)
            (try simp only [Act.put, List.setIfInBounds_toArray, List.set_cons_zero, List.set_cons_succ])
            refine wpAnyH_take (i := 12) (oi := _) (v := ?v12) rfl (by kernel_rfl) (by kernel_rfl) (by kernel_rfl) (fun _ _ _ h => h) (Or.inl ⟨by rfl, ?hy12⟩) hHeld ?rest12
            case hy12 => intro w hSw; (try dsimp only at hSw); go_simp; (try with_reducible rfl)
            (try simp only [Act.put, List.setIfInBounds_toArray, List.set_cons_zero, List.set_cons_succ])
            refine wpAnyH_take (i := 13) (oi := _) (v := ?v13) rfl (by kernel_rfl) (by kernel_rfl) (by kernel_rfl) (fun _ _ _ h => h) (Or.inl ⟨by rfl, ?hy13⟩) hHeld ?rest13
            case hy13 => intro w hSw; (try dsimp only at hSw); go_simp; (try with_reducible rfl)
            (try simp only [Act.put, List.setIfInBounds_toArray, List.set_cons_zero, List.set_cons_succ])
            refine wpAnyH_take (i := 14) (oi := _) (v := ?v14) rfl (by kernel_rfl) (by kernel_rfl) (by kernel_rfl) (fun _ _ _ h => h) (Or.inl ⟨by rfl, ?hy14⟩) hHeld ?rest14
            case hy14 => intro w hSw; (try dsimp only at hSw); go_simp; (try with_reducible rfl)
            (try simp only [Act.put, List.setIfInBounds_toArray, List.set_cons_zero, List.set_cons_succ])
            refine wpAnyH_take (i := 15) (oi := _) (v := ?v15) rfl (by kernel_rfl) (by kernel_rfl) (by kernel_rfl) (fun _ _ _ h => h) (Or.inl ⟨by rfl, ?hy15⟩) hHeld ?rest15
            case hy15 => intro w hSw; (try dsimp only at hSw); go_simp; (try with_reducible rfl)
            (try simp only [Act.put, List.setIfInBounds_toArray, List.set_cons_zero, List.set_cons_succ])
            refine wpAnyH_take (i := 16) (oi := _) (v := ?v16) rfl (by kernel_rfl) (by kernel_rfl) (by kernel_rfl) (fun _ _ _ h => h) (Or.inl ⟨by rfl, ?hy16⟩) hHeld ?rest16
            case hy16 => intro w hSw; (try dsimp only at hSw); go_simp; (try with_reducible rfl)
            (try simp only [Act.put, List.setIfInBounds_toArray, List.set_cons_zero, List.set_cons_succ])
            refine wpAnyH_ready (rs := [17]) (by kernel_rfl) (by simp) ?_
            refine AllReadyH.cons (o := _) rfl (fun K hK => ?_) AllReadyH.nil
            go_simp
            go_at_call 28
            refine (CE.out _).mono ?_
            rintro e wE ⟨rfl, hbE⟩
            (try dsimp only)
            refine hK.out _ _ (HS.out _ (bthen HBd.out hbE)) (fun hHeld2 => ?_)
            clear hK K hHeld
            (try simp only [Act.put, List.setIfInBounds_toArray, List.set_cons_zero, List.set_cons_succ])
            refine wpAnyH_take (i := 18) (oi := _) (v := ?v18) rfl (by kernel_rfl) (by kernel_rfl) (by kernel_rfl) (fun _ _ _ h => h) (Or.inl ⟨by rfl, ?hy18⟩) hHeld2 ?rest18
            case hy18 => intro w hSw; (try dsimp only at hSw); go_simp; (try with_reducible rfl)
            (try simp only [Act.put, List.setIfInBounds_toArray, List.set_cons_zero, List.set_cons_succ])
            refine wpAnyH_take (i := 19) (oi := _) (v := undef) rfl (by kernel_rfl) (by kernel_rfl) (by kernel_rfl) (fun _ _ _ h => h) (Or.inr ⟨by rfl, rfl⟩) hHeld2 ?_
            (try simp only [Act.put, List.setIfInBounds_toArray, List.set_cons_zero, List.set_cons_succ])
            refine wpAnyH_take (i := 20) (oi := _) (v := undef) rfl (by kernel_rfl) (by kernel_rfl) (by kernel_rfl) (fun _ _ _ h => h) (Or.inr ⟨by rfl, rfl⟩) hHeld2 ?_
            (try simp only [Act.put, List.setIfInBounds_toArray, List.set_cons_zero, List.set_cons_succ])
            refine wpAnyH_take (i := 21) (oi := _) (v := undef) rfl (by kernel_rfl) (by kernel_rfl) (by kernel_rfl) (fun _ _ _ h => h) (Or.inr ⟨by rfl, rfl⟩) hHeld2 ?_
            (try simp only [Act.put, List.setIfInBounds_toArray, List.set_cons_zero, List.set_cons_succ])
            refine wpAnyH_ready (rs := [22]) (by kernel_rfl) (by simp) ?_
            refine AllReadyH.cons (o := _) rfl (fun K hK => ?_) AllReadyH.nil
            rw [if_neg]
            rotate_left
            · exact fun h => Bool.noConfusion (h.symm.trans (by rfl : _ = false))
            refine hK.out _ _ hHeld2 (fun hHeld3 => ?_)
            clear hK K hHeld2
            (try simp only [Act.put, List.setIfInBounds_toArray, List.set_cons_zero, List.set_cons_succ])
            refine wpAnyH_take (i := 23) (oi := _) (v := ?v23) rfl (by kernel_rfl) (by kernel_rfl) (by kernel_rfl) (fun _ _ _ h => h) (Or.inl ⟨by rfl, ?hy23⟩) hHeld3 ?rest23
            case hy23 => intro w hSw; (try dsimp only at hSw); go_simp; (try with_reducible rfl)
            (try simp only [Act.put, List.setIfInBounds_toArray, List.set_cons_zero, List.set_cons_succ])
            refine wpAnyH_done (by kernel_rfl) ?_ _
            clear d0 d1 d2
            obtain ⟨d0, d1, d2, HBN⟩ := hHeld3
            have HB4 := Lib.hid (bthen HB3.out HBN.out)
            have HO4 := Lib.hid (owns_below HO3.out HBN.out)
            clear HO3 HB3 HBN HS CE CD3 HBd hbE d0 d1 d2
            have HR : RowKit.Hid (puRel s W0 L (.slice vb vn vd) (.int .i64 (k + 1 : Nat)) _) := Lib.hid ⟨k + 1, l ++ [(kk, ff, tt)], rfl, HK1.out, HPN.out, HB4.out, HO4.out⟩
            go_wp2_with fail
            refine ⟨?_, (by have := HML.out; simp [intOf]; try omega)⟩
            first
              | exact HR.out
              | (repeat apply Exists.intro
                 refine ⟨?_, rfl⟩
                 exact HR.out)
          | true =>
            cases ed with
            | false =>
              have HPN : RowKit.Hid (putR s L = (l ++ [(kk, ff, tt)]) ++ putR s (L.drop (k + 1))) := Lib.hid (by rw [HPK.out]; simp)
              clear HPK
              go_wp2_with fail
              go_region_held3 (fun W' => W'.cell? { block := b1, off := k * 3 } = some (Value.int IntKind.u8 kk) ∧ W'.cell? { block := b1, off := k * 3 + 1 } = some (Value.int IntKind.i64 (ff : Int)) ∧ W'.cell? { block := b1, off := k * 3 + 2 } = some (Value.int IntKind.i64 (tt : Int)) ∧ RowKit.Hid (Below w3.heap.size w3 W'))
                (first
                  | exact HS.out _ HBd.out
                  | exact HS.out _ (bthen HBd.out hbE))
                (first
                  | (go_at_call 28; refine (CE.out _).mono ?_; rintro e wE ⟨rfl, hbE⟩; (try dsimp only))
                  | (go_at_call 29; refine (CD3.out _ (bthen HBd.out hbE)).mono ?_; rintro e wD ⟨rfl, rfl⟩; (try dsimp only)))
              rename_i hH
              clear d0 d1 d2
              obtain ⟨d0, d1, d2, HBN⟩ := hH
              have HB4 := Lib.hid (bthen HB3.out HBN.out)
              have HO4 := Lib.hid (owns_below HO3.out HBN.out)
              clear HO3 HB3 HBN HS CE CD3 HBd hbE d0 d1 d2
              have HR : RowKit.Hid (puRel s W0 L (.slice vb vn vd) (.int .i64 (k + 1 : Nat)) _) := Lib.hid ⟨k + 1, l ++ [(kk, ff, tt)], rfl, HK1.out, HPN.out, HB4.out, HO4.out⟩
              go_wp2_with fail
              refine ⟨?_, (by have := HML.out; simp [intOf]; try omega)⟩
              first
                | exact HR.out
                | (repeat apply Exists.intro
                   refine ⟨?_, rfl⟩
                   exact HR.out)
            | true =>
              have HPN : RowKit.Hid (putR s L = (l ++ [(kk, ff, tt)] ++ [(9, tt, tt)]) ++ putR s (L.drop (k + 1))) := Lib.hid (by rw [HPK.out]; simp)
              clear HPK
              go_wp2_with fail
              go_region_held3 (fun W' => W'.cell? { block := b1, off := k * 3 } = some (Value.int IntKind.u8 kk) ∧ W'.cell? { block := b1, off := k * 3 + 1 } = some (Value.int IntKind.i64 (ff : Int)) ∧ W'.cell? { block := b1, off := k * 3 + 2 } = some (Value.int IntKind.i64 (tt : Int)) ∧ RowKit.Hid (Below w3.heap.size w3 W'))
                (first
                  | exact HS.out _ HBd.out
                  | exact HS.out _ (bthen HBd.out hbE))
                (first
                  | (go_at_call 28; refine (CE.out _).mono ?_; rintro e wE ⟨rfl, hbE⟩; (try dsimp only))
                  | (go_at_call 29; refine (CD3.out _ (bthen HBd.out hbE)).mono ?_; rintro e wD ⟨rfl, rfl⟩; (try dsimp only)))
              rename_i hH
              clear d0 d1 d2
              obtain ⟨d0, d1, d2, HBN⟩ := hH
              have HB4 := Lib.hid (bthen HB3.out HBN.out)
              have HO4 := Lib.hid (owns_below HO3.out HBN.out)
              have hbs4 := HB4.out.size
              clear HO3 HB3 HBN HS CE CD3 HBd
              go_wp2_with fail
              refine wp_region_still_tailF 11 (.slice vb vn vd) (by kernel_rfl) (by kernel_rfl) (fun _ _ _ h => h) (Or.inl ⟨by rfl, by intro w; go_simp⟩) ?_
              simp only [List.take_succ_cons, List.take_zero, List.drop_succ_cons, List.drop_zero]
              repeat still_step
              try refine wpStill_nil ?_
              change wpList _ _ _ _ _ (World.drew _)
              have HO5 := Lib.hid (owns_below HO4.out ((Below.refl _ _).drew))
              have HB5 := Lib.hid HB4.out.drew
              clear HO4 HB4 d0 d1 d2 hbE
              generalize World.drew _ = W5 at *
              have hbs5 := HB5.out.size
              go_wp2_with (at_builtin; refine wpList_append_lit W5 #[.int .u8 9, .int .i64 (tt : Int), .int .i64 (tt : Int)] _ rfl _ _ 29 24 rfl Tryz.underlying29 W0.heap.size info_tok rfl (by decide) _ _ _ rfl HO5.out 1 1 rfl rfl (by decide) (by intro u hu; simp at hu; rcases hu with rfl | rfl | rfl <;> rfl) (by omega) (by omega) hbs5 ?_)
              intro v2 w6 hown hgr _
              have hb6 := grown_below HB5.out hbs5 HO5.out hgr
              have HO6 : RowKit.Hid (w6.ownsRow W0.heap.size 24 3 v2 (l ++ [(kk, ff, tt)] ++ [(9, tt, tt)]).length (toksV (l ++ [(kk, ff, tt)] ++ [(9, tt, tt)]))) := Lib.hid (by rw [show (l ++ [(kk, ff, tt)] ++ [((9 : Int), tt, tt)]).length = l.length + 1 + 1 by simp, toksV_snoc]; exact hown)
              have HB6 := Lib.hid hb6
              clear hown hgr hb6
              have HR : RowKit.Hid (puRel s W0 L v2 (.int .i64 (k + 1 : Nat)) _) := Lib.hid ⟨k + 1, l ++ [(kk, ff, tt)] ++ [(9, tt, tt)], rfl, HK1.out, HPN.out, HB6.out, HO6.out⟩
              go_wp2_with fail
              refine ⟨?_, (by have := HML.out; simp [intOf]; try omega)⟩
              first
                | exact HR.out
                | (repeat apply Exists.intro
                   refine ⟨?_, rfl⟩
                   exact HR.out)
      · have hlt' : ¬ (k : Int) < L.length := by omega
        have hpl : putR s L = l := by
          have := HP.out
          rw [List.drop_of_length_le (by omega), putR, List.append_nil] at this
          exact this
        have HVL := Lib.hid (show semiAll s = (l, 0, 0) by rw [HV.out, hpl])
        have HFK := Lib.hid (H41.out.keep HB.out)
        clear HV hpl HP
        have z40 := HFK.out.fz 0; have z41 := HFK.out.fz 1; have c40 := HFK.out.c0; have c41 := HFK.out.c1
        have hnf : (Value.slice va vm vc).ownBlock ≠ some w.heap.size := fun e => by
          have := HO.out.lt _ e
          have := HLT.out
          omega
        have HNF := Lib.hid hnf
        clear hnf
        go_wp2_with fail
        refine HF.out _ _ _ l 0 0 HVL.out (below_fill2 (bthen HB2.out HB.out) (Nat.le_refl _) _ _) (owns_mono (ownsRow_setCell_other (ownsRow_setCell_other HO.out (a := ⟨w.heap.size, 0, none⟩) HNF.out _) (a := ⟨w.heap.size, 1, none⟩) HNF.out _) (Nat.le_of_lt HLT.out)) (HFK.out.fill _ _) rfl rfl
  · have hv0 := HBAD.out (fun h => her h.1)
    have HV := Lib.hid hv0
    have hern : (er != 0) = true := by simpa using her
    have HB2 := Lib.hid (bthen HB1.out HA1.out)
    clear hv0 HREC HBAD HER HR1 HB1 HA1 HPUT
    have z40 := H41.out.fz 0; have z41 := H41.out.fz 1; have c40 := H41.out.c0; have c41 := H41.out.c1
    go_wp2_with fail
    generalize w1.alloc (.cells #[.int .i64 er, .int .i64 ea] 31) = W0 at *
    go_region
    all_goals
      go_wp2_with fail
      exact HF.out _ _ _ [] er ea HV.out ((below_fill2 HB2.out (Nat.le_refl _) _ _).drew) (World.ownsRow_nil _ _ _ _) (H41.out.fill _ _) rfl rfl
end Go.Proofs.YtcnkcnalabjhgaaGreatDoor
namespace Go.Proofs.YtcnkcnalabjhgaaGreatDoor
set_option linter.all false
attribute [local irreducible] wpStill
open Go.RowKit

set_option maxRecDepth 100000 in
set_option maxHeartbeats 8000000 in
theorem SemiPuts_walk (s : ByteArray) (hs : s.size ≤ 1048576) (w : World) (hT : Tabs w) (hM : MaxC w) :
    Calls Tryz.prog 6 #[.string s] w fun e w' => e = .returned (.bool true) ∧ Below w.heap.size w w' := by
  have HQ : RowKit.Hid (∀ w', Below w.heap.size w w' → (fun (e : Ending) w' => e = .returned (.bool true) ∧ Below w.heap.size w w') (.returned (.bool true)) w') := Lib.hid fun w' h => ⟨rfl, h⟩
  generalize (fun (e : Ending) w' => e = .returned (.bool true) ∧ Below w.heap.size w w') = Q at *
  have C1 := Lib.hid (semi_Of s (by omega) w hT hM)
  have C2 := Lib.hid (fun w' => ref_Of08 s (by omega) w')
  have CF := Lib.hid (fun w' (hb : Below w.heap.size w w') => law08_fixed w' (hT.below hb) (hM.below hb))
  have HLN := semiAll_len s
  by_cases hmid : 2000 < s.size
  · have h1' : (2000 : Int) < s.size := by omega
    go_enter Tryz.func6, Tryz.ntmps6
    go_wp2_with fail
    refine (CF.out _ (Below.refl _ _)).mono ?_
    rintro e w1 ⟨rfl, hb1⟩
    go_wp2_with fail
    show Q (.returned (.bool true)) _
    exact HQ.out _ hb1
  · have h1' : ¬ (2000 : Int) < s.size := by omega
    clear hmid
    all_goals
      go_enter Tryz.func6, Tryz.ntmps6
      go_wp2_with fail
      refine C1.out.mono ?_
      intro e w1 g1
      unfold allPost at g1
      generalize semiAll s = q at *
      obtain ⟨L, er, ea⟩ := q
      simp only [] at *
      obtain ⟨v1, rfl, hb1, ho1⟩ := g1
      have HB1 := Lib.hid hb1
      have HR1 := Lib.hid (TR.of_owns ho1)
      have HF1 : RowKit.Hid (FK (w1.alloc (.cells #[.int .i64 er, .int .i64 ea] 31)) w1.heap.size er ea) := Lib.hid (by unfold FK; exact heap_alloc_new _ _)
      have HA1 : RowKit.Hid (Below w1.heap.size w1 (w1.alloc (.cells #[.int .i64 er, .int .i64 ea] 31))) := Lib.hid ((Below.refl _ _).alloc (Nat.le_refl _) _)
      clear hb1 ho1 C1
      go_wp2_with fail
      refine (C2.out _).mono ?_
      intro e w2 g2
      unfold allPost at g2
      obtain ⟨v2, rfl, hb2, ho2⟩ := g2
      simp only [] at ho2
      have HR2 := Lib.hid (TR.of_owns ho2)
      have HA2 := Lib.hid (bthen HA1.out hb2)
      have HF2 := Lib.hid ((HF1.out.keep hb2).alloc (.cells #[.int .i64 er, .int .i64 ea] 31))
      have HG2 : RowKit.Hid (FK (w2.alloc (.cells #[.int .i64 er, .int .i64 ea] 31)) w2.heap.size er ea) := Lib.hid (by unfold FK; exact heap_alloc_new _ _)
      have HW2 : RowKit.Hid (Below w2.heap.size w2 (w2.alloc (.cells #[.int .i64 er, .int .i64 ea] 31))) := Lib.hid ((Below.refl _ _).alloc (Nat.le_refl _) _)
      clear hb2 ho2 HA1 HF1 C2
      go_wp2_with fail
      refine (CF.out _ (bthen HB1.out (bthen HA2.out HW2.out))).mono ?_
      rintro e w3 ⟨rfl, hb3⟩
      have HW3 := Lib.hid (bthen HW2.out hb3)
      have HF3 := Lib.hid (HF2.out.keep hb3)
      have HG3 := Lib.hid (HG2.out.keep hb3)
      have HB3 := Lib.hid (bthen HB1.out (bthen HA2.out HW3.out))
      have CS := Lib.hid (ref_Same07 v1 v2 L (by omega) w3 (HR1.out.below (bthen HA2.out HW3.out)) (HR2.out.below HW3.out))
      clear hb3 HW2 HF2 HG2
      have f0 := HF3.out.c0; have f1 := HF3.out.c1
      have g0 := HG3.out.c0; have g1 := HG3.out.c1
      go_wp2_with fail
      refine CS.out.mono ?_
      rintro e w4 ⟨rfl, hb4⟩
      have HB4 := Lib.hid (bthen HB3.out hb4)
      clear hb4 f0 f1 g0 g1 HF3 HG3
      go_wp2_with fail
      show Q (.returned (.bool true)) _
      exact HQ.out _ HB4.out
end Go.Proofs.YtcnkcnalabjhgaaGreatDoor
