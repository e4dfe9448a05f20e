/- The statement FindHolds, walked: the call returns true. -/
import Derived.Test.YtbhicblkgjgenaaDoorFix18M
import Derived.Test.YtbhicblkgjgenaaDoorEachSM
namespace Go.Proofs.YtbhicblkgjgenaaDoor
set_option linter.all false
attribute [local irreducible] Calls
open Go.RowKit

theorem range_split {a b : Nat} (h : a ≤ b) : ∃ t, List.range b = List.range a ++ t := by
  obtain ⟨c, rfl⟩ : ∃ c, b = a + c := ⟨b - a, by omega⟩
  exact ⟨_, List.range_add⟩
theorem acc_all {rules : List RuleM} {l : List Prt} {i : Nat} (hi : i ≤ l.length) : ∃ t, allM rules l = accM rules l i 0 ++ t := by
  obtain ⟨t, ht⟩ := range_split hi
  refine ⟨t.flatMap (atM rules l), ?_⟩
  unfold allM accM
  rw [ht, List.flatMap_append]; simp
theorem acc_row {rules : List RuleM} {l : List Prt} {i n : Nat} (hn : n ≤ rules.length) : ∃ t, accM rules l (i + 1) 0 = accM rules l i n ++ t := by
  obtain ⟨t, ht⟩ := range_split hn
  refine ⟨t.flatMap (oneM rules l i), ?_⟩
  rw [accM_next]
  unfold accM
  rw [ht, List.flatMap_append, List.append_assoc]
theorem acc_at {rules : List RuleM} {l : List Prt} {i n : Nat} (hi : i < l.length) (hn : n < rules.length) {m : Mch} (h : oneM rules l i n = [m]) : (allM rules l)[(accM rules l i n).length]? = some m := by
  obtain ⟨t1, h1⟩ := acc_all (rules := rules) (l := l) (i := i + 1) (by omega)
  obtain ⟨t2, h2⟩ := acc_row (rules := rules) (l := l) (i := i) (n := n + 1) (by omega)
  rw [h1, h2, accM_step, h, List.append_assoc, List.append_assoc, List.getElem?_append_right (Nat.le_refl _), Nat.sub_self]
  rfl
theorem oneM_of {rules : List RuleM} {l : List Prt} {i n : Nat} {r : RuleM} (hr : rules[n]? = some r) : oneM rules l i n = match atZ r l i with
    | some τ => [(n, i, bindsOf r.holes τ)]
    | none => [] := by
  unfold oneM
  rw [hr]
  rfl
/-- What find.All answers, in one form. -/
def FlatF (rules : List RuleM) (l : List Prt) (w0 : World) (e : Ending) (w' : World) : Prop :=
  ∃ va vc xs, e = .returned (.tuple #[.slice va xs.length vc, .int .i64 (findErr rules l)]) ∧ xs.length ≤ vc ∧ xs.map (·.1) = (if findErr rules l = 0 then allM rules l else []) ∧ MchsIn w' (.slice va xs.length vc) xs ∧ Below w0.heap.size w0 w' ∧ w'.ownsRow w0.heap.size 48 3 (.slice va xs.length vc) xs.length (mchsV xs) ∧ ∀ x ∈ xs, MemM w0.heap.size x w'
theorem all_flat (rs : List RuleX) (hs : ∀ x ∈ rs, SmallR x.1) (l : List Prt) (hl : SmallL l) (vr vl : Value) (w : World) (hT : Tabs w) (hM : MaxC w) (hr : RulesIn w vr rs) (hlr : PartRow w vl l) :
    Calls Tryd.prog 17 #[vr, vl] w (FlatF (rs.map (·.1)) l w) := by
  refine (find_All rs hs l hl vr vl w hT hM hr hlr).mono fun e w' h => ?_
  unfold fallPost at h
  obtain ⟨hb, v, xs, he, hxs, hown, hmem⟩ := h
  obtain ⟨va, vc, rfl, hvc⟩ := Row.shape (Row.of_owns hown)
  exact ⟨va, vc, xs, he, hvc, hxs, ⟨Row.of_owns hown, fun x hx => Row.of_owns (hmem x hx)⟩, hb, hown, hmem⟩
/-- A match's binds are few. -/
theorem allM_small {rules : List RuleM} {l : List Prt} (hs : ∀ r ∈ rules, r.holes.length ≤ 1048576) (hl : l.length ≤ 1048576) : ∀ m ∈ allM rules l, m.2.2.length ≤ 1048576 := by
  intro m hm
  obtain ⟨_, r, τ, hr, ha, he⟩ := mem_allM.1 hm
  rw [he, (binds_small ha hl).1]
  exact hs r (List.mem_of_getElem? hr)
def fhOut (rules : List RuleM) (l : List Prt) (w0 : World) (kv iv : Value) (wr : World) : Prop := ∃ i : Nat, iv = .int .i64 (i : Int) ∧ kv = .int .i64 ((accM rules l i 0).length : Int) ∧ i ≤ l.length ∧ Below w0.heap.size w0 wr
def fhIn (rules : List RuleM) (l : List Prt) (i : Nat) (w0 : World) (kv nv : Value) (wr : World) : Prop := ∃ n : Nat, nv = .int .i64 (n : Int) ∧ kv = .int .i64 ((accM rules l i n).length : Int) ∧ n ≤ rules.length ∧ Below w0.heap.size w0 wr
set_option maxRecDepth 100000 in
set_option maxHeartbeats 16000000 in
theorem FindHolds_walk (w : World) (vr : Value) (rs : List RuleX) (hr : RulesIn w vr rs) (hs : ∀ x ∈ rs, SmallR x.1) (hn : rs.length ≤ 1048576) (vl : Value) (l : List Prt) (hlr : PartRow w vl l) (hl : SmallL l) (hH : HeldM w) :
    Calls Tryd.prog 4 #[vr, vl] w (AnswersM w) := by
  have HQ : RowKit.Hid (∀ w', Below w.heap.size w w' → AnswersM w (.returned (.bool true)) w') := Lib.hid fun w' h => AnswersM.mk h
  generalize AnswersM w = Q at *
  have CF := Lib.hid (fun w' (hb : Below w.heap.size w w') => law18_fixed w' (hH.T.below hb) (hH.M.below hb))
  have CG := Lib.hid (law18_great rs hs hn vr l hl.1 vl 20000 w hr hlr)
  have CA := Lib.hid (fun w' (hb : Below w.heap.size w w') => all_flat rs hs l hl vr vl w' (hH.T.below hb) (hH.M.below hb) (hr.below hb) (hlr.below hb))
  obtain ⟨ar, cr, rfl, hcr⟩ := hr.shape
  obtain ⟨al, cl, rfl, hcl⟩ := hlr.slice
  have HR := Lib.hid hr
  have HLR := Lib.hid hlr
  have HS := Lib.hid hs
  have HL := Lib.hid hl
  have HH := Lib.hid hH
  have hll := hl.1
  clear hr hlr hs hl hH
  go_enter Tryd.func4, Tryd.ntmps4
  go_wp2_with fail
  refine CG.out.mono ?_
  intro e w1 h1
  obtain ⟨y, rfl, hb1⟩ := h1.out
  have HB1 := Lib.hid hb1
  clear h1 hb1 CG
  cases y with
  | true =>
    go_wp2_with fail
    refine (CF.out w1 HB1.out).mono ?_
    rintro e wZ ⟨rfl, hbZ⟩
    have HX := Lib.hid (HQ.out wZ (bthen HB1.out hbZ))
    clear hbZ
    go_wp2_with fail
    exact HX.out
  | false =>
  go_wp2_with fail
  refine (CA.out w1 HB1.out).mono ?_
  rintro e w2 ⟨va, vc, xs, rfl, hvc, hxs, hms, hb2, _, _⟩
  have HB2 := Lib.hid (bthen HB1.out hb2)
  have HMS := Lib.hid hms
  clear hb2 hms CA HB1
  by_cases hz : findErr (rs.map (·.1)) l = 0
  case neg =>
    rw [if_neg hz] at hxs
    obtain rfl : xs = [] := by cases xs with
      | nil => rfl
      | cons x t => simp at hxs
    have g1 : (findErr (rs.map (·.1)) l != 0) = true := by rw [bne_iff_ne]; exact hz
    clear hz hxs
    generalize findErr (rs.map (·.1)) l = z at *
    go_wp2_with fail
    refine (CF.out w2 HB2.out).mono ?_
    rintro e wZ ⟨rfl, hbZ⟩
    have HX := Lib.hid (HQ.out wZ (bthen HB2.out hbZ))
    clear hbZ
    go_wp2_with fail
    exact HX.out
  rw [if_pos hz] at hxs
  have HXS := Lib.hid hxs
  have HZ := Lib.hid hz
  rw [hz]
  clear hz hxs
  have h32 : rs.length ≤ 32 := by have := (findErr_zero.1 HZ.out).2.1; rw [List.length_map] at this; exact this
  have HXL : RowKit.Hid (xs.length = (allM (rs.map (·.1)) l).length) := Lib.hid (by rw [← HXS.out, List.length_map])
  have hlen : xs.length ≤ 1048576 * 32 := by
    have h1 := accM_len (rs.map (·.1)) l l.length 0
    rw [accM_all, List.length_map] at h1
    have h2 : l.length * rs.length ≤ 1048576 * 32 := Nat.mul_le_mul hll h32
    have := HXL.out
    omega
  go_wp2_with fail
  go_loopw [7, 8] (fun kv iv wr => fhOut (rs.map (·.1)) l w2 kv iv wr) (fun _ iv _ => l.length - (intOf iv).toNat)
  case atStart => exact ⟨0, rfl, rfl, Nat.zero_le _, Below.refl _ _⟩
  case round =>
    obtain ⟨i, rfl, rfl, hi, hb⟩ := hrel
    have HB := Lib.hid hb
    clear hb
    by_cases hlt : i < l.length
    · have hil : (i : Int) < l.length := by omega
      go_wp2_with fail
      go_loopw [7, 9] (fun kv nv wr => fhIn (rs.map (·.1)) l i w2 kv nv wr) (fun _ nv _ => rs.length - (intOf nv).toNat)
      case atStart => exact ⟨0, rfl, rfl, Nat.zero_le _, HB.out⟩
      case round =>
        obtain ⟨n, rfl, rfl, hnl, hb⟩ := hrel
        have HBN := Lib.hid hb
        clear hb
        rw [List.length_map] at hnl
        by_cases hlt2 : n < rs.length
        · obtain ⟨rb, ro, rfl, _, _, hrl, hcell⟩ := HR.out.at (bthen HB2.out HBN.out) (show 0 < rs.length by omega)
          obtain ⟨d0, d1, d2, d3, d4⟩ := hcell n hlt2
          have hin := HR.out.E _ (List.getElem_mem hlt2)
          have hsm := HS.out _ (List.getElem_mem hlt2)
          have hrn : (rs.map (·.1))[n]? = some (rs[n]).1 := by rw [List.getElem?_map, List.getElem?_eq_getElem hlt2]; rfl
          generalize rs[n] = x at *
          obtain ⟨r, vh, vf, vb⟩ := x
          simp only [] at d0 d1 d2 d3 d4 hin hsm hrn
          have CAt := Lib.hid (at_flat r hsm _ _ _ l HL.out _ (i : Int) wr (HH.out.T.below (bthen HB2.out HBN.out)) (HH.out.M.below (bthen HB2.out HBN.out)) (hin.below (bthen HB2.out HBN.out)) (HLR.out.below (bthen HB2.out HBN.out)))
          obtain ⟨ah, ch, rfl, hch⟩ := Row.shape hin.H
          obtain ⟨af, cf, rfl, hcf⟩ := hin.F.slice
          obtain ⟨ab, cb, rfl, hcb⟩ := hin.B.slice
          unfold ruleAgg FlatP at CAt
          have hst := accM_step (rs.map (·.1)) l i n
          rw [oneM_of hrn] at hst
          have hacc : ∀ τ, atZ r l i = some τ → (allM (rs.map (·.1)) l)[(accM (rs.map (·.1)) l i n).length]? = some (n, i, bindsOf r.holes τ) := fun τ ht => acc_at hlt (by rw [List.length_map]; exact hlt2) (by rw [oneM_of hrn, ht])
          have hbl : ∀ τ, atZ r l i = some τ → (bindsOf r.holes τ).length ≤ 1048576 := fun τ ht => by rw [(binds_small ht hll).1]; exact hsm.h.1
          have hn0 : (0 : Int) ≤ (n : Int) := by omega
          have hnr : (n : Int) < rs.length := by omega
          have hnc : (n : Int) < cr := by omega
          have HST := Lib.hid hst
          have HACC := Lib.hid hacc
          have HBLN := Lib.hid hbl
          clear hcell hin hsm hrn hst hacc hbl
          go_wp2_with fail
          refine CAt.out.mono ?_
          rintro e w4 ⟨qa, qc, rfl, hqc, hbr, hb4⟩
          have HB4 := Lib.hid (bthen HBN.out hb4)
          clear hb4 CAt d0 d1 d2 d3 d4
          cases ho : atZ r l (i : Int) with
          | none =>
            have HX : RowKit.Hid (fhIn (rs.map (·.1)) l i w2 (.int .i64 ((accM (rs.map (·.1)) l i n).length : Int)) (.int .i64 ((n : Int) + 1)) w4) := Lib.hid
              ⟨n + 1, by push_cast; rfl, by rw [HST.out, ho, List.append_nil], by rw [List.length_map]; exact hlt2, HB4.out⟩
            clear ho hbr hqc HST HACC HBLN
            simp only [bndO, Option.isSome_none]
            generalize (accM (rs.map (·.1)) l i n).length = kk at *
            go_wp2_with fail
            exact ⟨HX.out, by simp only [intOf]; omega⟩
          | some τ =>
            rw [ho] at hbr hqc
            simp only [bndO] at hbr hqc
            have hat := HACC.out τ ho
            have hkl : (accM (rs.map (·.1)) l i n).length < xs.length := by
              have := (List.getElem?_eq_some_iff.1 hat).1
              rw [HXL.out]; exact this
            have hxk : (xs[(accM (rs.map (·.1)) l i n).length]).1 = (n, i, bindsOf r.holes τ) := by
              rw [← HXS.out, List.getElem?_map, List.getElem?_eq_getElem hkl] at hat
              exact Option.some.inj hat
            have HX : RowKit.Hid (∀ W, Below w2.heap.size w2 W → fhIn (rs.map (·.1)) l i w2 (.int .i64 (((accM (rs.map (·.1)) l i n).length : Int) + 1)) (.int .i64 ((n : Int) + 1)) W) := Lib.hid fun W hb =>
              ⟨n + 1, by push_cast; rfl, by rw [HST.out, ho, List.length_append]; push_cast; rfl, by rw [List.length_map]; exact hlt2, hb⟩
            have hbl := HBLN.out τ ho
            clear ho hat HST HACC HBLN
            simp only [bndO, Option.isSome_some]
            generalize (accM (rs.map (·.1)) l i n).length = kk at *
            generalize bindsOf r.holes τ = bs at *
            have hmE := HMS.out.E _ (List.getElem_mem hkl)
            obtain ⟨b, off, rfl, _, _, hcm⟩ := HMS.out.at HB4.out (show 0 < xs.length by omega)
            obtain ⟨c0, c1, c2⟩ := hcm kk hkl
            generalize xs[kk] = y at *
            obtain ⟨ym, yv⟩ := y
            simp only [] at hxk hmE c0 c1 c2
            subst hxk
            simp only [] at hmE c0 c1 c2
            obtain ⟨ya, yc, rfl, hyc⟩ := Row.shape hmE
            have CS := Lib.hid (ref_SameMatch ((n : Int), (i : Int), bs) ((n : Int), (i : Int), bs) hbl hbl _ _ w4 (hmE.below HB4.out) hbr)
            simp only [] at CS
            have hk0 : (0 : Int) ≤ (kk : Int) := by omega
            have hkx : (kk : Int) < xs.length := by omega
            have hkc : (kk : Int) < vc := by omega
            have g1 : ((kk : Int) == (xs.length : Int)) = false := by rw [beq_eq_false_iff_ne]; omega
            have g2 : (kk == xs.length) = false := by rw [beq_eq_false_iff_ne]; omega
            clear hcm hmE hbr
            go_wp2_with fail
            refine CS.out.mono ?_
            rintro e w5 ⟨z, rfl, ht, hb5⟩
            obtain rfl := ht.2 rfl
            have HXX := Lib.hid (HX.out _ (bthen HB4.out hb5))
            clear ht hb5 CS HX c0 c1 c2
            go_wp2_with fail
            exact ⟨HXX.out, by simp only [intOf]; omega⟩
        · obtain rfl : n = rs.length := by omega
          have HX : RowKit.Hid (fhOut (rs.map (·.1)) l w2 (.int .i64 ((accM (rs.map (·.1)) l i rs.length).length : Int)) (.int .i64 ((i : Int) + 1)) wr) := Lib.hid
            ⟨i + 1, by push_cast; rfl, by rw [accM_next, List.length_map], hlt, HBN.out⟩
          generalize (accM (rs.map (·.1)) l i rs.length).length = kk at *
          go_wp2_with fail
          exact ⟨HX.out, by simp only [intOf]; omega⟩
    · obtain rfl : i = l.length := by omega
      have hk : (accM (rs.map (·.1)) l l.length 0).length = xs.length := by rw [accM_all, ← HXS.out, List.length_map]
      rw [hk]
      clear hk
      have HBZ := Lib.hid (bthen HB2.out HB.out)
      go_wp2_with fail
      refine (CF.out wr HBZ.out).mono ?_
      rintro e wZ ⟨rfl, hbZ⟩
      have HX := Lib.hid (HQ.out wZ (bthen HBZ.out hbZ))
      clear hbZ
      go_wp2_with fail
      exact HX.out
end Go.Proofs.YtbhicblkgjgenaaDoor
