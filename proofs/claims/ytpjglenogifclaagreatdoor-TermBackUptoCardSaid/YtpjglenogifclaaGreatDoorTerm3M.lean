/- Layer 11: Kids, the program's and the document's, and the document's Up, walked. -/
import Derived.Test.YtpjglenogifclaaGreatDoorTermSameM
namespace Go.Proofs.YtpjglenogifclaaGreatDoor
set_option linter.all false
open Go.RowKit

/-- The kids of a part. -/
def kidsB (l : List Prt) (i : Nat) : List Nat := match rowsB (l.drop (i + 1)), l[i]? with
  | some ts, some p => (starts (i + 1) ts).take p.2.1.toNat
  | _, _ => []
def kidsOf (l : List Prt) (i : Int) : List Int := if wellB l = true ∧ 0 ≤ i ∧ i < l.length then (kidsB l i.toNat).map fun (x : Nat) => (x : Int) else []
theorem kids_facts {l : List Prt} {us : List Nat} (h : rowsB l = some us) {i : Nat} (hi : i < l.length) :
    ∃ ts q, rowsB (l.drop (i + 1)) = some ts ∧ (l[i]).2.1 = ((q : Nat) : Int) ∧ q ≤ ts.length ∧ endB l i = i + 1 + (ts.take q).sum ∧ kidsB l i = (starts (i + 1) ts).take q := by
  obtain ⟨vs, hv⟩ := rowsB_drop h i
  rw [List.drop_eq_getElem_cons hi] at hv
  obtain ⟨ts, h1, h2, h3, h4⟩ := rowsB_inv hv
  refine ⟨ts, (l[i]).2.1.toNat, h1, by omega, by omega, ?_, ?_⟩
  · unfold endB
    rw [List.drop_eq_getElem_cons hi]
    subst h4
    rw [headSize_of hv]; omega
  · unfold kidsB
    rw [h1, List.getElem?_eq_getElem hi]
/-- One kid more. -/
theorem kid_step {l : List Prt} {us : List Nat} (h : rowsB l = some us) {i : Nat} {ts : List Nat} {q n : Nat} (hts : rowsB (l.drop (i + 1)) = some ts) (hq : q ≤ ts.length) (hn : n < q) :
    i + 1 + (ts.take n).sum < l.length ∧ endB l (i + 1 + (ts.take n).sum) = i + 1 + (ts.take (n + 1)).sum ∧ (starts (i + 1) ts).take (n + 1) = (starts (i + 1) ts).take n ++ [i + 1 + (ts.take n).sum] ∧ (ts.take n).sum < (ts.take q).sum ∧ (ts.take n).sum < (ts.take (n + 1)).sum ∧ (ts.take (n + 1)).sum ≤ (ts.take q).sum := by
  have hk := rowsB_skip n hts (by omega)
  rw [List.drop_drop] at hk
  have hd : ts.drop n = ts[n] :: ts.drop (n + 1) := List.drop_eq_getElem_cons (by omega)
  have hsum : (ts.take (n + 1)).sum = (ts.take n).sum + ts[n] := by rw [List.take_succ_eq_append_getElem (by omega), List.sum_append]; simp
  have hpos := (rowsB_sum hts).2.2 ts[n] (List.getElem_mem (by omega))
  have hh := headSize_of (hk.trans (congrArg some hd))
  have h1 := (rowsB_sum hk).1
  rw [hd, List.sum_cons, List.length_drop] at h1
  refine ⟨by omega, by unfold endB; rw [hh, hsum]; omega, ?_, ?_⟩
  · have hz := starts_length ts (i + 1)
    rw [List.take_succ_eq_append_getElem (by omega)]
    have := starts_get ts (i + 1) n (by omega)
    rw [List.getD_eq_getElem?_getD, List.getElem?_eq_getElem (by omega)] at this
    simp only [Option.getD_some] at this
    rw [this]
  refine ⟨?_, by omega, ?_⟩
  · have := sum_take_add ts (n + 1) (q - (n + 1))
    rw [show n + 1 + (q - (n + 1)) = q by omega] at this
    omega
  · have := sum_take_add ts (n + 1) (q - (n + 1))
    rw [show n + 1 + (q - (n + 1)) = q by omega] at this
    omega
/-- What holds at the loops' heads. -/
def kidsRel (l : List Prt) (ts : List Nat) (i q : Nat) (w : World) (v k : Value) (wr : World) : Prop :=
  ∃ n : Nat, k = .int .i64 ((i + 1 + (ts.take n).sum : Nat) : Int) ∧ n ≤ q ∧ wr.ownsRow w.heap.size 3 1 v n (((starts (i + 1) ts).take n).map fun (x : Nat) => Value.int .i64 (x : Int)) ∧ Below w.heap.size w wr
/-- What Kids answers. -/
@[irreducible] def kidsPost (p : List Int) (w0 : World) (e : Ending) (w' : World) : Prop :=
  ∃ v, e = .returned v ∧ Below w0.heap.size w0 w' ∧ RowInts w' v .i64 p
theorem Tints_none (w : World) (k : IntKind) : RowInts w (.slice none 0 0) k [] := ⟨rfl, none, 0, rfl, Nat.le_refl _, fun _ => rfl, fun h => absurd h (by simp)⟩
set_option maxRecDepth 100000 in
set_option maxHeartbeats 8000000 in
theorem term_Kids (l : List Prt) (hl : l.length ≤ 1000000000) (v : Value) (i : Int) (w : World) (hr : PartRow w v l) :
    Calls Tryz.prog 25 #[v, .int .i64 i] w (kidsPost (kidsOf l i) w) := by
  have HQ : RowKit.Hid (∀ v' p w', kidsOf l i = p → Below w.heap.size w w' → RowInts w' v' .i64 p → kidsPost (kidsOf l i) w (.returned v') w') := Lib.hid fun v' p w' h h2 h3 => by
    unfold kidsPost; rw [h]; exact ⟨v', rfl, h2, h3⟩
  generalize kidsPost (kidsOf l i) w = Q at *
  have C1 := Lib.hid (term_well l hl v w hr)
  obtain ⟨va, vcap, rfl, hvc⟩ := hr.slice
  clear hr
  go_enter Tryz.func25, Tryz.ntmps25
  go_wp2_with fail
  refine C1.out.mono ?_
  intro e w1 h1
  unfold wellPost at h1
  obtain ⟨v1, rfl, hb1, hr1, a1, n1, c1, rfl⟩ := h1
  have HB1 := Lib.hid hb1
  clear hb1 C1
  cases hw : wellB l with
  | false =>
    have HF : RowKit.Hid (kidsOf l i = []) := Lib.hid (by unfold kidsOf; rw [if_neg (by simp [hw])])
    clear hr1 hw
    go_wp2_with fail
    exact HQ.out _ _ _ HF.out HB1.out (Tints_none _ _)
  | true =>
    have HR := Lib.hid (hr1 hw)
    clear hr1
    by_cases h0 : i < 0
    · have HF : RowKit.Hid (kidsOf l i = []) := Lib.hid (by unfold kidsOf; rw [if_neg (by omega)])
      clear hw
      go_wp2_with fail
      exact HQ.out _ _ _ HF.out HB1.out (Tints_none _ _)
    · by_cases h2 : (l.length : Int) ≤ i
      · have HF : RowKit.Hid (kidsOf l i = []) := Lib.hid (by unfold kidsOf; rw [if_neg (by omega)])
        clear hw
        go_wp2_with fail
        exact HQ.out _ _ _ HF.out HB1.out (Tints_none _ _)
      · obtain ⟨j, rfl⟩ : ∃ j : Nat, i = j := ⟨i.toNat, by omega⟩
        have HF : RowKit.Hid (kidsOf l (j : Int) = (kidsB l j).map fun (x : Nat) => (x : Int)) := Lib.hid (by unfold kidsOf; rw [if_pos ⟨hw, by omega, by omega⟩, Int.toNat_natCast])
        have hjl : j < l.length := by omega
        obtain ⟨ts, q, f1, _, f3, f4, f5⟩ := kids_facts (well_rows hw) hjl
        have HST := Lib.hid (fun n (hn : n < q) => kid_step (well_rows hw) f1 f3 hn)
        have HK5 := Lib.hid f5
        have HE4 := Lib.hid f4
        have HQT := Lib.hid f3
        have hqt : ts.length ≤ l.length := by have := (rowsB_sum f1).2.1; rw [List.length_drop] at this; omega
        have hee := (endB_gt (well_rows hw) hjl).2
        obtain ⟨b, off, rfl, hn, hc, _⟩ := ints_at HR.out (Below.refl _ _) (by rw [endsL_length]; omega)
        rw [endsL_length] at hn hc
        subst hn
        have HC := Lib.hid (fun W' (hb : Below w1.heap.size w1 W') k (hk : k < l.length) => show W'.cell? ⟨b, off + k, none⟩ = some (.int .i64 (endB l k : Int)) by
          obtain ⟨b', off', hbb, _, _, hcell⟩ := ints_at HR.out hb (by rw [endsL_length]; omega)
          simp only [Option.some.injEq, Addr.mk.injEq, and_true] at hbb
          obtain ⟨rfl, rfl⟩ := hbb
          exact hcell k _ (endsL_get hk))
        have hji : (j : Int) < l.length := by omega
        have hj0 : (0 : Int) ≤ j := by omega
        have hjc : (j : Int) < c1 := by omega
        have hwj : IntKind.i64.wrap ((j : Int) + 1) = (j : Int) + 1 := by rw [IntKind.wrap_i64]; omega
        have hd1 : decide (l.length ≤ j) = false := decide_eq_false (by omega)
        have hd2 : decide ((j : Int) < 0) = false := decide_eq_false (by omega)
        have hd3 : decide ((l.length : Int) ≤ (j : Int)) = false := decide_eq_false (by omega)
        clear hw f1 f3 f4 f5
        go_wp2_with fail
        go_loopw [7, 8] (fun v k wr => kidsRel l ts j q w1 v k wr) (fun _ k _ => l.length - (intOf k).toNat)
        case atStart => exact ⟨0, by simp, Nat.zero_le _, World.ownsRow_nil _ _ _ _, Below.refl _ _⟩
        case round =>
          obtain ⟨n, rfl, hn, ho, hb⟩ := hrel
          have HO := Lib.hid ho
          have HB := Lib.hid hb
          have HNN := Lib.hid hn
          obtain ⟨_, oa, oc, rfl, _, _, _⟩ := Row.of_owns ho
          have d0 := HC.out _ HB.out j hjl
          rw [HE4.out] at d0
          have hbs := hb.size
          clear ho hb hn
          by_cases hlt : n < q
          · obtain ⟨g1, g2, g3, g4, g5, g6⟩ := HST.out n hlt
            have HG3 := Lib.hid g3
            have HG2 := Lib.hid g2
            have e1 := fun W' hb => HC.out W' hb (j + 1 + (ts.take n).sum) g1
            rw [g2] at e1
            have HE1 := Lib.hid e1
            have hkl : ((j + 1 + (ts.take n).sum : Nat) : Int) < ((j + 1 + (ts.take q).sum : Nat) : Int) := by omega
            have hk0 : (0 : Int) ≤ ((j + 1 + (ts.take n).sum : Nat) : Int) := by omega
            have hkll : ((j + 1 + (ts.take n).sum : Nat) : Int) < l.length := by omega
            have hkc : ((j + 1 + (ts.take n).sum : Nat) : Int) < c1 := by omega
            have hnb : n ≤ 1000000000 := by have := HQT.out; omega
            have HMS : RowKit.Hid (l.length - (j + 1 + (ts.take (n + 1)).sum) < l.length - (j + 1 + (ts.take n).sum)) := Lib.hid (by omega)
            have HN1 : RowKit.Hid (n + 1 ≤ q) := Lib.hid hlt
            clear g1 g2 g3 g4 g5 g6 e1
            generalize hK1 : j + 1 + (ts.take n).sum = K1 at *
            generalize hK2 : j + 1 + (ts.take (n + 1)).sum = K2 at *
            generalize hK3 : j + 1 + (ts.take q).sum = K3 at *
            have HK2 := Lib.hid hK2
            clear hK1 hK2 hK3
            go_wp2_with (at_builtin; refine wpList_append_lit wr #[.int .i64 (K1 : Int)] _ rfl _ _ 41 3 rfl Tryz.underlying41 w1.heap.size Tinfo_int rfl (by decide) _ _ _ rfl HO.out 1 1 rfl rfl (by decide) (by intro u hu; simp at hu; subst hu; rfl) (by omega) (by omega) hbs ?_)
            intro v' w' hown hgr _
            have hb' := grown_below HB.out hbs HO.out hgr
            have d1 := HE1.out w' hb'
            have HRL : RowKit.Hid (kidsRel l ts j q w1 v' (.int .i64 (K2 : Int)) w') := Lib.hid ⟨n + 1, by rw [HK2.out], HN1.out, by have h := hown; rw [HG3.out]; simpa using h, hb'⟩
            obtain ⟨_, va', vc', rfl, _, _, _⟩ := Row.of_owns hown
            clear hown hgr hb' d0
            go_wp2_with fail
            refine ⟨?_, (by have := HMS.out; simp [intOf]; try omega)⟩
            first
              | exact HRL.out
              | (repeat apply Exists.intro
                 refine ⟨?_, rfl⟩
                 exact HRL.out)
          · have hnq : n = q := by have := HNN.out; omega
            subst hnq
            have hle : ¬ ((j + 1 + (ts.take n).sum : Nat) : Int) < ((j + 1 + (ts.take n).sum : Nat) : Int) := by omega
            have HRW := Lib.hid (RowInts.of_owns (l := (kidsB l j).map fun (x : Nat) => (x : Int)) (k := .i64) (by rw [HK5.out, List.map_map]; exact HO.out))
            have hnl : ((kidsB l j).map fun (x : Nat) => (x : Int)).length = n := by rw [List.length_map, HK5.out, List.length_take, starts_length]; have := HQT.out; omega
            generalize j + 1 + (ts.take n).sum = K1 at *
            have HB2 := Lib.hid (HB1.out.trans (HB.out.mono HB1.out.size))
            clear hnl
            go_wp2_with fail
            exact HQ.out _ _ _ HF.out HB2.out HRW.out
set_option maxRecDepth 100000 in
set_option maxHeartbeats 8000000 in
theorem ref_Kids11 (l : List Prt) (hl : l.length ≤ 1000000000) (us : List Nat) (hus : rowsB l = some us) (v : Value) (i : Nat) (hi : i < l.length) (w : World) (hr : PartRow w v l) :
    Calls Tryz.prog 31 #[v, .int .i64 (i : Int)] w (kidsPost ((kidsB l i).map fun (x : Nat) => (x : Int)) w) := by
  have HQ : RowKit.Hid (∀ v' w', Below w.heap.size w w' → RowInts w' v' .i64 ((kidsB l i).map fun (x : Nat) => (x : Int)) → kidsPost ((kidsB l i).map fun (x : Nat) => (x : Int)) w (.returned v') w') := Lib.hid fun v' w' h2 h3 => by
    unfold kidsPost; exact ⟨v', rfl, h2, h3⟩
  have HR := Lib.hid hr
  obtain ⟨va, vcap, rfl, hvc⟩ := hr.slice
  clear hr
  obtain ⟨ts, q, f1, f2, f3, f4, f5⟩ := kids_facts hus hi
  have HST := Lib.hid (fun n (hn : n < q) => kid_step hus f1 f3 hn)
  have HCE := Lib.hid (fun (W' : World) (hb : Below w.heap.size w W') k (hk : k < l.length) => show Calls Tryz.prog 28 #[.slice va l.length vcap, .int .i64 (k : Int)] W' fun e w' => e = .returned (.int .i64 (endB l k : Int)) ∧ W' = w' by
    have := ref_End11 l hl _ k (by omega) W' (HR.out.below hb)
    rw [endR_end hus hk] at this
    exact this)
  have HK5 := Lib.hid f5
  have HE4 := Lib.hid f4
  have HQT := Lib.hid f3
  have hqt : ts.length ≤ l.length := by have := (rowsB_sum f1).2.1; rw [List.length_drop] at this; omega
  have hqb : q ≤ 1000000000 := by omega
  have hee := (endB_gt hus hi).2
  rw [f4] at hee
  obtain ⟨b, off, rfl, _, _, _, hcell⟩ := HR.out.at (Below.refl _ _) (show 0 < l.length by omega)
  have hc1 := (hcell i hi).2.1
  rw [f2] at hc1
  have HC : RowKit.Hid (∀ W', Below w.heap.size w W' → W'.cell? ⟨b, off + i * 3 + 1, none⟩ = some (.int .i64 (q : Int))) := Lib.hid fun W' hb => by
    obtain ⟨b', off', hbb, _, _, _, hcc⟩ := HR.out.at hb (show 0 < l.length by omega)
    simp only [Option.some.injEq, Addr.mk.injEq, and_true] at hbb
    obtain ⟨rfl, rfl⟩ := hbb
    rw [(hcc i hi).2.1, f2]
  generalize kidsPost ((kidsB l i).map fun (x : Nat) => (x : Int)) w = Q at *
  have hji : (i : Int) < l.length := by omega
  have hj0 : (0 : Int) ≤ i := by omega
  have hjc : (i : Int) < vcap := by omega
  have hwj : IntKind.i64.wrap ((i : Int) + 1) = (i : Int) + 1 := by rw [IntKind.wrap_i64]; omega
  clear f1 f2 f3 f4 f5 hcell hc1
  go_enter Tryz.func31, Tryz.ntmps31
  go_wp2_with fail
  go_loopw [5, 6, 7] (fun v k c wr => ∃ n : Nat, c = .int .i64 (n : Int) ∧ n ≤ q ∧ k = .int .i64 ((i + 1 + (ts.take n).sum : Nat) : Int) ∧ wr.ownsRow w.heap.size 3 1 v n (((starts (i + 1) ts).take n).map fun (x : Nat) => Value.int .i64 (x : Int)) ∧ Below w.heap.size w wr) (fun _ _ c _ => q - (intOf c).toNat)
  case atStart => exact ⟨0, rfl, Nat.zero_le _, by simp, World.ownsRow_nil _ _ _ _, Below.refl _ _⟩
  case round =>
    obtain ⟨n, rfl, hn, rfl, ho, hb⟩ := hrel
    have HO := Lib.hid ho
    have HB := Lib.hid hb
    have HNN := Lib.hid hn
    obtain ⟨_, oa, oc, rfl, _, _, _⟩ := Row.of_owns ho
    have d0 := HC.out _ HB.out
    have hbs := hb.size
    clear ho hb hn
    by_cases hlt : n < q
    · obtain ⟨g1, g2, g3, g4, g5, g6⟩ := HST.out n hlt
      have HG3 := Lib.hid g3
      have hlt' : (n : Int) < q := by omega
      have hC := fun W' hb => HCE.out W' hb _ g1
      rw [g2] at hC
      have HCK := Lib.hid hC
      have hnb : n ≤ 1000000000 := by omega
      have HN1 : RowKit.Hid (n + 1 ≤ q) := Lib.hid hlt
      have HMS : RowKit.Hid (q - (n + 1) < q - n) := Lib.hid (by omega)
      have hwn : IntKind.i64.wrap ((n : Int) + 1) = (n : Int) + 1 := by rw [IntKind.wrap_i64]; omega
      clear g1 g2 g3 g4 g5 g6 hC
      generalize hK1 : i + 1 + (ts.take n).sum = K1 at *
      generalize hK2 : i + 1 + (ts.take (n + 1)).sum = K2 at *
      have HK2 := Lib.hid hK2
      clear hK1 hK2
      go_wp2_with (at_builtin; refine wpList_append_lit wr #[.int .i64 (K1 : Int)] _ rfl _ _ 41 3 rfl Tryz.underlying41 w.heap.size Tinfo_int rfl (by decide) _ _ _ rfl HO.out 1 1 rfl rfl (by decide) (by intro u hu; simp at hu; subst hu; rfl) (by omega) (by omega) hbs ?_)
      intro v' w' hown hgr _
      have hb' := grown_below HB.out hbs HO.out hgr
      have CK := Lib.hid (HCK.out w' hb')
      have HRL : RowKit.Hid (w'.ownsRow w.heap.size 3 1 v' (n + 1) (((starts (i + 1) ts).take (n + 1)).map fun (x : Nat) => Value.int .i64 (x : Int)) ∧ Below w.heap.size w w') := Lib.hid ⟨by have h := hown; rw [HG3.out]; simpa using h, hb'⟩
      obtain ⟨_, va', vc', rfl, _, _, _⟩ := Row.of_owns hown
      clear hown hgr hb' d0
      go_wp2_with fail
      refine CK.out.mono ?_
      rintro e w2 ⟨rfl, rfl⟩
      go_wp2_with fail
      refine ⟨⟨n + 1, congrArg (Value.int .i64) (by omega), HN1.out, by rw [HK2.out], HRL.out.1, HRL.out.2⟩, ?_⟩
      have := HMS.out
      simp only [intOf]
      omega
    · have hnq : n = q := by have := HNN.out; omega
      subst hnq
      have HRW := Lib.hid (RowInts.of_owns (l := (kidsB l i).map fun (x : Nat) => (x : Int)) (k := .i64) (by rw [HK5.out, List.map_map]; exact HO.out))
      go_wp2_with fail
      exact HQ.out _ _ HB.out HRW.out
set_option maxRecDepth 100000 in
set_option maxHeartbeats 4000000 in
theorem ref_Up11 (l : List Prt) (hl : l.length ≤ 1000000000) (us : List Nat) (hus : rowsB l = some us) (v : Value) (i : Nat) (hi : i < l.length) (w : World) (hr : PartRow w v l) :
    Calls Tryz.prog 29 #[v, .int .i64 (i : Int)] w fun e w' => e = .returned (.int .i64 (upI l i i)) ∧ w = w' := by
  have HQ : RowKit.Hid (∀ x, upI l i i = x → (fun (e : Ending) w' => e = .returned (.int .i64 (upI l i i)) ∧ w = w') (.returned (.int .i64 x)) w) := Lib.hid fun x h => ⟨by rw [h], rfl⟩
  generalize (fun (e : Ending) w' => e = .returned (.int .i64 (upI l i i)) ∧ w = w') = Q at *
  have HR := Lib.hid hr
  obtain ⟨va, vcap, rfl, hvc⟩ := hr.slice
  clear hr
  have HCE := Lib.hid (fun k (hk : k < l.length) => show Calls Tryz.prog 28 #[.slice va l.length vcap, .int .i64 (k : Int)] w fun e w' => e = .returned (.int .i64 (endB l k : Int)) ∧ w = w' by
    have := ref_End11 l hl _ k (by omega) w HR.out
    rw [endR_end hus hk] at this
    exact this)
  have HR0 : RowKit.Hid (upI l i i = upI l i i) := Lib.hid rfl
  generalize hRR : upI l i i = R at *
  have HRR := Lib.hid hRR
  clear hRR HR0
  have hwi : IntKind.i64.wrap ((i : Int) - 1) = (i : Int) - 1 := by rw [IntKind.wrap_i64]; omega
  go_enter Tryz.func29, Tryz.ntmps29
  go_wp2_with fail
  go_loopw [5] (fun u wr => aboveRel l i R w u wr) (fun u _ => (intOf u + 1).toNat)
  case atStart => exact ⟨i, rfl, Nat.le_refl _, HRR.out, rfl⟩
  case round =>
    obtain ⟨k, rfl, hk, hU, rfl⟩ := hrel
    by_cases hk0 : 0 < k
    · obtain ⟨j, rfl⟩ : ∃ j, k = j + 1 := ⟨k - 1, by omega⟩
      rw [show (((j + 1 : Nat) : Int) - 1) = (j : Int) by omega]
      have C1 := Lib.hid (HCE.out j (by omega))
      have hj0 : (0 : Int) ≤ j := by omega
      have hwj : IntKind.i64.wrap ((j : Int) - 1) = (j : Int) - 1 := by rw [IntKind.wrap_i64]; omega
      rw [upI] at hU
      generalize endB l j = ee at *
      by_cases hle : i < ee
      · rw [if_pos hle] at hU
        have HF := Lib.hid hU
        have hle' : (i : Int) < ee := by omega
        clear hU
        go_wp2_with fail
        refine C1.out.mono ?_
        rintro e w2 ⟨rfl, rfl⟩
        go_wp2_with fail
        exact HQ.out _ HF.out.symm
      · rw [if_neg hle] at hU
        have HRL : RowKit.Hid (aboveRel l i R wr (.int .i64 ((j : Int) - 1)) wr) := Lib.hid ⟨j, rfl, by omega, hU, rfl⟩
        have hle' : ¬ (i : Int) < ee := by omega
        clear hU
        go_wp2_with fail
        refine C1.out.mono ?_
        rintro e w2 ⟨rfl, rfl⟩
        go_wp2_with fail
        refine ⟨?_, (by simp only [intOf]; omega)⟩
        first
          | exact HRL.out
          | (repeat apply Exists.intro
             refine ⟨?_, rfl⟩
             exact HRL.out)
    · obtain rfl : k = 0 := by omega
      rw [show (((0 : Nat) : Int) - 1) = -1 by rfl]
      rw [upI] at hU
      have HF := Lib.hid hU
      clear hU
      go_wp2_with fail
      exact HQ.out _ HF.out.symm
end Go.Proofs.YtpjglenogifclaaGreatDoor
