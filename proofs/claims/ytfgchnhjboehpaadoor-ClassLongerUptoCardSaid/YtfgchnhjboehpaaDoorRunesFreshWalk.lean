/- The statement RunesFresh, walked: the call returns true. -/
import Derived.Test.YtfgchnhjboehpaaDoorRunesJoinsWalk
import Derived.Test.YtfgchnhjboehpaaDoorAlls
namespace Go.Proofs.YtfgchnhjboehpaaDoor
open Go.RowKit

theorem owns_shape {w : World} {base : Nat} {e : TypeId} {size : Nat} {v : Value} {n : Nat} {xs : List Value} (h : w.ownsRow base e size v n xs) (hn : 0 < n) :
    ∃ g cap, v = .slice (some ⟨g, 0, none⟩) n cap ∧ base ≤ g ∧ g < w.heap.size ∧ n ≤ cap ∧ cap ≤ maxLen ∧ (∀ j, j < n * size → w.cell? ⟨g, j, none⟩ = xs[j]?) := by
  rcases h.2 with ⟨_, h0⟩ | ⟨g, cap, cur, rfl, hb, hg, hnc, hcm, _, _⟩
  · omega
  · exact ⟨g, cap, rfl, hb, keeps_lt hg, hnc, hcm, fun j hj => h.cellAt j hj⟩
theorem owns_slice {w : World} {base : Nat} {e : TypeId} {size : Nat} {v : Value} {n : Nat} {xs : List Value} (h : w.ownsRow base e size v n xs) : ∃ a cap, v = .slice a n cap := by
  rcases h.2 with ⟨hv, h0⟩ | ⟨g, cap, cur, rfl, _⟩
  · exact ⟨none, 0, by rw [hv, h0]⟩
  · exact ⟨_, cap, rfl⟩
/-- A first piece of a row that is read. -/
theorem rowInts_first {w : World} {g cap : Nat} {l : List Int} {k : IntKind} (hg : g < w.heap.size) (hc : l.length ≤ cap) (h : ∀ j (hj : j < l.length), w.cell? ⟨g, j, none⟩ = some (.int k l[j])) : RowInts w (.slice (some ⟨g, 0, none⟩) l.length cap) k l := by
  refine ⟨by simp, some ⟨g, 0, none⟩, cap, rfl, hc, by simp, fun _ => ⟨g, 0, rfl, hg, fun i hi => ?_⟩⟩
  rw [Nat.zero_add, h i (by omega)]
  have : i < l.length := by omega
  simp [this]
set_option maxRecDepth 100000 in
set_option maxHeartbeats 4000000 in
theorem RunesFresh_walk (w : World) (s : ByteArray) (hs : s.size ≤ 1048576) (v : Value) (l : List Int) (hv : RowInts w v .i32 l) (hwf : ∀ n ∈ l, (Lit.int .i32 n).wf = true) (hn : l.length ≤ 1048576) (hT : Tabs w) :
    Calls Tryd.prog 9 #[.string s, v] w fun e w' => e = .returned (.bool true) ∧ Below w.heap.size w w' := by
  have H32 := Lib.hid (i32s hwf)
  have HV := Lib.hid hv
  obtain ⟨a, cap, rfl, hc, hcell⟩ := hv.open'
  have HC := Lib.hid hcell
  clear hwf hv hcell
  obtain ⟨i0, hi, hz0, hz1, hz2⟩ := info_parts info_i32
  have HI2 := Lib.hid hz2
  go_enter Tryd.func9, Tryd.ntmps9
  go_wp2_with (at_make; refine wpList_make_own w rfl _ _ 32 rfl w.heap.size 21 i0 (.int .i32 0) 1 Tryd.underlying32 hi hz0 hz1 _ _ _ (l.length + 1) rfl rfl ?_ ?_ ?_ ?_ ?_)
  · simp
  · rw [HI2.out]; omega
  · unfold maxLen; omega
  · exact Nat.le_refl _
  intro w1 hown1 hgr1
  have hb1 : Below w.heap.size w w1 := (Below.refl _ w).grown hgr1 (Nat.le_refl _) (fun k hk => by cases hk)
  clear hgr1 hz0 hz1 hz2 hi
  have hrow : Row w1 (.slice a l.length cap) l.length 1 (l.map (Value.int .i32)) := Row.below HV.out hb1
  go_wp2_with (at_builtin; refine wpList_append_row rfl _ _ 32 21 rfl Tryd.underlying32 w.heap.size info_i32 rfl (by decide) _ _ _ rfl hown1 _ l.length (l.map (Value.int .i32)) rfl hrow (i32_oneCell l) ?_ ?_ ?_ ?_)
  · omega
  · omega
  · exact hb1.size
  intro v2 w2 hown2 hgr2
  have hb2 : Below w.heap.size w w2 := hb1.grown hgr2 hb1.size (fun k hk => (hown1.lt k hk).1)
  clear hgr2 hown1 hrow hb1
  go_wp2_with (at_builtin; refine wpList_append_lit w2 #[.int .i32 77] _ rfl _ _ 32 21 rfl Tryd.underlying32 w.heap.size info_i32 rfl (by decide) _ _ _ rfl hown2 1 1 rfl rfl (by decide) ?_ ?_ ?_ ?_ ?_)
  · rfl
  · omega
  · omega
  · exact hb2.size
  intro v3 w3 hown3 hgr3 _
  have hb3 := grown_below hb2 hb2.size hown2 hgr3
  clear hgr3 hown2 hb2
  obtain ⟨g, cg, rfl, hg1, hg2, hg3, hg4, hg5⟩ := owns_shape hown3 (by omega)
  have HG := Lib.hid hg5
  clear hown3 hg5
  have CA := Lib.hid (fun w hT => runes_Alls s w hT (by omega))
  have CR := Lib.hid (fun w => ref_Alls s w (by omega))
  have hcl := charsOk_length s
  have HC32 := Lib.hid (charsOk_32 s)
  generalize charsOk s = A at *
  generalize decide (bad s < 0) = ok at *
  go_wp2_with fail
  refine (CA.out _ (hT.below hb3)).mono ?_; rintro e w4 ⟨va, rfl, hb4, howna⟩
  obtain ⟨aa, capa, rfl⟩ := owns_slice howna
  have hb14 := bthen hb3 hb4
  go_wp2_with fail
  refine (CA.out _ (hT.below hb14)).mono ?_; rintro e w5 ⟨vb, rfl, hb5, hownb⟩
  obtain ⟨ab, capb, rfl⟩ := owns_slice hownb
  have hb15 := bthen hb14 hb5
  have hlc : (l.length : Int) ≤ cg := by omega
  go_wp2_with fail
  have hgl : ∀ (W : World), Below w3.heap.size w3 W → RowInts W (.slice (some ⟨g, 0, none⟩) l.length cg) .i32 l := by
    intro W hW
    refine rowInts_first (Nat.lt_of_lt_of_le hg2 hW.size) (by omega) (fun j hj => ?_)
    rw [hW.cell (p := ⟨g, j, none⟩) hg2, HG.out j (by omega)]
    show ((l.map (Value.int .i32)) ++ [Value.int .i32 77])[j]? = some (.int .i32 l[j])
    rw [List.getElem?_append_left (by rw [List.length_map]; exact hj), List.getElem?_map, List.getElem?_eq_getElem hj]; rfl
  have HGL := Lib.hid hgl
  clear hgl
  refine (runes_Join _ l _ (HGL.out _ (bthen hb4 hb5)) H32.out (by omega)).mono ?_; rintro e w6 ⟨rfl, hb6⟩
  have hb16 := bthen hb15 hb6
  have hb36 := bthen (bthen hb4 hb5) hb6
  have howna6 := owns_below howna (bthen hb5 hb6)
  have hownb6 := owns_below hownb hb6
  have hown4 : ∀ k, (Value.slice aa A.length capa).ownBlock = some k → w3.heap.size ≤ k ∧ k < w4.heap.size := fun k hk => howna.lt k hk
  have hsz45 := hb5.size
  have hsz56 := hb6.size
  clear howna hownb
  go_wp2_with fail
  go_loopw [10] (fun i wr => ∃ k : Nat, k ≤ A.length ∧ i = .int .i64 k ∧ Below w3.heap.size w3 wr ∧ (∃ xs, wr.ownsRow w3.heap.size 21 1 (.slice aa A.length capa) A.length xs) ∧ wr.ownsRow w4.heap.size 21 1 (.slice ab A.length capb) A.length (A.map (Value.int .i32))) (fun i _ => A.length - (intOf i).toNat)
  case atStart => exact ⟨0, Nat.zero_le _, rfl, hb36, ⟨_, howna6⟩, hownb6⟩
  case round =>
    obtain ⟨k, hk, rfl, hb, ⟨xs, hoa⟩, hob⟩ := hrel
    by_cases hlt : k < A.length
    · obtain ⟨ga, ca, he, ha1, ha2, ha3, ha4, ha5⟩ := owns_shape hoa (by omega)
      simp only [Value.slice.injEq] at he
      obtain ⟨rfl, _, rfl⟩ := he
      have hxl := hoa.1
      have h1 := ha5 k (by omega)
      have h2 := hoa.frozenAt k
      obtain ⟨x, hx⟩ : ∃ x, xs[k]? = some x := ⟨xs[k]'(by omega), List.getElem?_eq_getElem (by omega)⟩
      rw [hx] at h1
      have hga := hown4 ga rfl
      have HS := Lib.hid (hoa.stored k (.int .i32 9)).1
      have HB := Lib.hid (ownsRow_setCell_below (a := ⟨ga, k, none⟩) hob hga.2 (.int .i32 9))
      have HE := Lib.hid (hb.setCell (p := ⟨ga, k, none⟩) ha1 (.int .i32 9))
      have hkl : (k : Int) < A.length := by omega
      clear hoa hob ha5 hx hxl
      go_wp2_with fail
      go_roundw
      case rel => exact ⟨k + 1, by omega, by go_num, HE.out, ⟨_, HS.out⟩, HB.out⟩
      case measure => simp [intOf]; omega
    · have hb17 := bthen hb3 hb
      have hkl : (A.length : Int) ≤ k := by omega
      clear hoa
      go_wp2_with fail
      refine (CR.out _).mono ?_; rintro e w7 ⟨vc, rfl, hb7, hownc⟩
      have hb18 := bthen hb17 hb7
      go_wp2_with fail
      refine (law01_fixed _ (hT.below hb18)).mono ?_; rintro e w8 ⟨rfl, hb8⟩
      have hb19 := bthen hb18 hb8
      have RB := Lib.hid ((RowInts.of_owns hob).below (bthen hb7 hb8))
      have RC := Lib.hid ((RowInts.of_owns hownc).below hb8)
      clear hob hownc
      go_wp2_with fail
      refine (law01_same _ _ _ _ _ RB.out RC.out HC32.out (by omega)).mono ?_; rintro e w9 ⟨rfl, hb9⟩
      have hb20 := bthen hb19 hb9
      have hb39 := bthen (bthen (bthen hb hb7) hb8) hb9
      have he : (A == A) = true := by simp
      rw [he]
      have h77 : w9.cell? ⟨g, l.length, none⟩ = some (.int .i32 77) := by
        rw [hb39.cell (p := ⟨g, l.length, none⟩) hg2, HG.out l.length (by omega)]
        simp
      go_wp2_with fail
      go_loopw [13] (fun i wr => ∃ k : Nat, k ≤ l.length ∧ i = .int .i64 k ∧ Below w9.heap.size w9 wr) (fun i _ => l.length - (intOf i).toNat)
      case atStart => exact ⟨0, Nat.zero_le _, rfl, Below.refl _ _⟩
      case round =>
        obtain ⟨m, hm, rfl, hbm⟩ := hrel
        by_cases hlm : m < l.length
        · obtain ⟨b, off, rfl, hbl, hcl⟩ := HC.out (by omega)
          have q1 := (((bthen hb20 hbm)).cell (p := ⟨b, off + m, none⟩) hbl).trans (hcl m hlm)
          have q2 : wr.cell? ⟨g, m, none⟩ = some (.int .i32 l[m]) := by
            rw [(bthen hb39 hbm).cell (p := ⟨g, m, none⟩) hg2, HG.out m (by omega)]
            show ((l.map (Value.int .i32)) ++ [Value.int .i32 77])[m]? = some (.int .i32 l[m])
            rw [List.getElem?_append_left (by rw [List.length_map]; exact hlm), List.getElem?_map, List.getElem?_eq_getElem hlm]; rfl
          have hml : (m : Int) < l.length := by omega
          have hml2 : (m : Int) < (l.length : Int) + 1 := by omega
          clear hcl
          generalize l[m] = x at *
          go_wp2_with fail
          go_quiet (fail)
          go_wp2_with fail
          go_roundw
          case rel => exact ⟨m + 1, by omega, by go_num, below_drewN hbm _⟩
          case measure => simp [intOf]; omega
        · have hml : (l.length : Int) ≤ m := by omega
          go_wp2_with fail
          go_ret
          exact ⟨rfl, bthen hb20 hbm⟩
end Go.Proofs.YtfgchnhjboehpaaDoor
