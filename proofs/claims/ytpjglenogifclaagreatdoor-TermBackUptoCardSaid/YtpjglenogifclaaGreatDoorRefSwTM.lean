/- Layer 11: the document's Swap, walked: its end and its loop. -/
import Derived.Test.YtpjglenogifclaaGreatDoorSwapPM
import Derived.Test.YtpjglenogifclaaGreatDoorAppEqM
namespace Go.Proofs.YtpjglenogifclaaGreatDoor
set_option linter.all false
open Go.RowKit

/-- 'l[lo:]', read: where it lies. -/
theorem slice_from2 (g off n c lo : Nat) (hlo : lo ≤ n) (hnc : n ≤ c) : ∃ p : Option Addr, (∀ w, (Instr.slice 22 (.slice (some ⟨g, off, none⟩) n c) (some (.int .i64 (lo : Int))) none none).run Tryz.prog w = .ok (.slice p (n - lo) (c - lo)) w) ∧ ∀ (w : World) (l : List Prt), l.length = n → PartRow w (.slice (some ⟨g, off, none⟩) n c) l → Row w (.slice p (n - lo) (c - lo)) (n - lo) 3 (partsV (l.drop lo)) := by
  obtain ⟨p, h1, h2⟩ := slice_fromP g off n c lo hlo
  have hp : ∃ ad, p = some ad := by
    have := h1 default
    rw [run_slice_l default _ _ _ _ elem_part .i64 (lo : Int) (by omega) (by omega), size_part_run] at this
    simp only [Result.andThen, sliced, Int.toNat_natCast, Result.ok.injEq, Value.slice.injEq] at this
    split at this
    · exact ⟨_, this.1.1.symm⟩
    · exact ⟨_, this.1.1.symm⟩
  refine ⟨p, h1, fun w l hl hr => ?_⟩
  obtain ⟨ad, rfl⟩ := hp
  refine ⟨by rw [partsV_length, List.length_drop, hl], some ad, c - lo, rfl, by omega, by simp, fun hpos => ?_⟩
  have := h2 (by omega)
  simp only [Option.some.injEq] at this
  subst this
  obtain ⟨b', o', e', _, _, hbl, _⟩ := hr.at (Below.refl _ _) (by omega)
  simp only [Option.some.injEq, Addr.mk.injEq, and_true] at e'
  obtain ⟨rfl, rfl⟩ := e'
  refine ⟨g, off + lo * 3, rfl, hbl, fun i hi => ?_⟩
  have hlt : i < (partsV ((l.drop lo).take (l.length - lo))).length := by rw [partsV_length, List.length_take, List.length_drop]; omega
  have := hr.piece lo l.length (by omega) (Nat.le_refl _) i _ (List.getElem?_eq_getElem hlt)
  have e0 : (Addr.add ⟨g, off + lo * 3, none⟩ i : Addr) = ⟨g, off + lo * 3 + i, none⟩ := by simp [Addr.add]
  rw [e0] at this
  rw [this, ← List.getElem?_eq_getElem hlt, List.take_of_length_le (by rw [List.length_drop]; exact Nat.le_refl _)]
theorem PartRow.upto {w : World} {g off n c : Nat} {l : List Prt} (h : PartRow w (.slice (some ⟨g, off, Option.none⟩) n c) l) (i : Nat) (hi : i ≤ l.length) : Row w (.slice (some ⟨g, off, Option.none⟩) i c) i 3 (partsV (l.take i)) := by
  have hh := h
  obtain ⟨_, a', cap', hv, hc, _, _⟩ := hh
  simp only [Value.slice.injEq] at hv
  obtain ⟨rfl, rfl, rfl⟩ := hv
  refine ⟨by rw [partsV_length, List.length_take, Nat.min_eq_left hi], _, _, rfl, by omega, by simp, fun hpos => ?_⟩
  obtain ⟨b', o', e', _, _, hbl, _⟩ := h.at (Below.refl _ _) (by omega)
  simp only [Option.some.injEq, Addr.mk.injEq, and_true] at e'
  obtain ⟨rfl, rfl⟩ := e'
  refine ⟨_, _, rfl, hbl, fun j hj => ?_⟩
  have hlt : j < (partsV ((l.drop 0).take (i - 0))).length := by rw [partsV_length, List.length_take, List.length_drop]; omega
  have := h.piece 0 i (Nat.zero_le _) hi j _ (List.getElem?_eq_getElem hlt)
  have e0 : (Addr.add ⟨g, off + 0 * 3, Option.none⟩ j : Addr) = ⟨g, off + j, Option.none⟩ := by simp [Addr.add]
  rw [e0] at this
  rw [this, ← List.getElem?_eq_getElem hlt, List.drop_zero, Nat.sub_zero]
noncomputable def rsTail : Code := fstC (sndN 8 (Tryz.f23.body.getD .skip))
noncomputable def rsRest : Code := sndN 9 (Tryz.f23.body.getD .skip)
set_option maxRecDepth 100000 in
set_option maxHeartbeats 16000000 in
theorem rswap_tail (u4 u5 u6 u7 u8 u9 u13 u14 u15 u16 u17 u18 u19 u20 u21 u22 u23 u24 u25 u26 u27 u28 u29 u30 u31 u32 u33 u34 u35 u36 u37 u38 u39 u40 u41 u42 u43 u44 u45 u46 u47 u48 u49 u50 u51 u52 u53 u54 u55 u56 u57 u58 u59 u60 u61 u62 u63 u64 u65 u66 u67 u68 u69 u70 u71 u72 u73 u74 u75 u76 u77 u78 u79 u80 u81 u82 u83 u84 u85 u86 u87 u88 u89 u90 u91 u92 u93 u94 u95 u96 : Value) (l : List Prt) (hl : l.length ≤ 10000000) (hl0 : 0 < l.length) (b : List Prt) (hbl : b.length ≤ 10000000) (I tq m ks U : Nat) (hIt : I ≤ tq ∧ tq ≤ l.length ∧ m ≤ l.length) (hks : ks ≤ 10000000)
    (hUI : U < I) (hk : ∀ h : U < l.length, 0 ≤ (l[U]).2.1 ∧ (l[U]).2.1 ≤ 10000000) (lb loff vcap : Nat) (hvc : l.length ≤ vcap) (ba : Option Addr) (bcap : Nat) (hbc : b.length ≤ bcap) (w : World)
    (HR : RowKit.Hid (PartRow w (.slice (some ⟨lb, loff, none⟩) l.length vcap) l)) (HRB : RowKit.Hid (PartRow w (.slice ba b.length bcap) b)) (Q : Ending → World → Prop)
    (HQ : RowKit.Hid (∀ v' w', Below w.heap.size w w' → w'.ownsRow w.heap.size 28 3 v' (addK (l.take I) U ((ks : Int) - m) ++ (b ++ l.drop tq)).length (partsV (addK (l.take I) U ((ks : Int) - m) ++ (b ++ l.drop tq))) → Q (.returned (.tuple #[v', .int .i64 0])) w'))
    (K : Act → World → Prop) (hK : ∀ a' w', Code.wp Tryz.prog rsRest (bodyPost Tryz.prog Tryz.f23 Q) a' w' → K a' w') :
    Code.wp Tryz.prog rsTail (Exit.then K (bodyPost Tryz.prog Tryz.f23 Q)) ⟨#[.slice (some ⟨lb, loff, none⟩) l.length vcap, .int .i64 (I : Int), .int .i64 (m : Int), .slice ba b.length bcap, u4, u5, u6, u7, u8, u9, .int .i64 (ks : Int), .int .i64 (U : Int), .int .i64 (tq : Int), u13, u14, u15, u16, u17, u18, u19, u20, u21, u22, u23, u24, u25, u26, u27, u28, u29, u30, u31, u32, u33, u34, u35, u36, u37, u38, u39, u40, u41, u42, u43, u44, u45, u46, u47, u48, u49, u50, u51, u52, u53, u54, u55, u56, u57, u58, u59, u60, u61, u62, u63, u64, u65, u66, u67, u68, u69, u70, u71, u72, u73, u74, u75, u76, u77, u78, u79, u80, u81, u82, u83, u84, u85, u86, u87, u88, u89, u90, u91, u92, u93, u94, u95, u96], []⟩ w := by
  unfold rsTail
  unfold rsRest at hK
  conv => arg 2; whnf
  conv at hK => enter [a', w', 1]; arg 2; whnf
  have hUl : U < l.length := by omega
  obtain ⟨k0, k1⟩ := hk hUl
  have hA : Below w.heap.size w (w.alloc (.cells #[] 28)) := (Below.refl _ _).alloc (Nat.le_refl _) _
  have hlt : (l.take I).length = I := by rw [List.length_take, Nat.min_eq_left (by omega)]
  obtain ⟨v1, w1, hrun1, ho1, hg1, _⟩ := append_eq (P := Tryz.prog) (w.alloc (.cells #[] 28)) 22 22 28 Tryz.underlying22 w.heap.size Tinfo_part rfl (by decide) _ 0 [] (owns_empty w w.heap.size 28 3 (Nat.le_refl _)) _ I (partsV (l.take I)) ((HR.out.below hA).upto I (by omega)) (partsV_one _) (by omega) (by omega) (by simp)
  rw [Nat.zero_add, List.nil_append] at ho1
  have hb1 := grown_keeps hA (by simp) (owns_empty w w.heap.size 28 3 (Nat.le_refl _)) hg1
  obtain ⟨_, a1, c1, rfl, hc1, _, _⟩ := Row.of_owns ho1
  obtain ⟨g, rfl⟩ := ownsRow_some ho1 (by omega)
  have hUt : U < (l.take I).length := by omega
  have hx : (l.take I)[U] = l[U] := List.getElem_take
  have cU : w1.cell? ⟨g, U * 3 + 1, none⟩ = some (.int .i64 (l[U]).2.1) := by
    have := (partsV_at _ U hUt).2.1
    rw [hx] at this
    rw [ho1.cellAt _ (by omega)]; exact this
  have zU : w1.frozen? ⟨g, U * 3 + 1, none⟩ = false := by
    rcases ho1.2 with ⟨hv, _⟩ | ⟨g', cap', cur, hv, _, hh, _⟩
    · cases hv
    · simp only [Value.slice.injEq, Option.some.injEq, Addr.mk.injEq, and_true, true_and] at hv
      obtain ⟨rfl, rfl⟩ := hv
      simp [World.frozen?, hh]
  have ho2 := owns_set ho1 (U * 3 + 1) (by rw [partsV_length]; omega) (.int .i64 ((l[U]).2.1 + ((ks : Int) - m)))
  rw [← hx, addK_cells _ _ _ hUt, hx] at ho2
  have hgB : w.heap.size ≤ g := (ho1.lt g rfl).1
  have hb2 := hb1.setCell (p := ⟨g, U * 3 + 1, none⟩) hgB (.int .i64 ((l[U]).2.1 + ((ks : Int) - m)))
  have HB2 := Lib.hid hb2
  have HO2 := Lib.hid ho2
  clear hb2 ho2 ho1 hb1 hg1 hUt hx hk hA
  obtain ⟨p3, hp3, hrow3⟩ := slice_from2 lb loff l.length vcap tq (by omega) hvc
  have hw1 : IntKind.i64.wrap ((l[U]).2.1 + (ks : Int)) = (l[U]).2.1 + (ks : Int) := by rw [IntKind.wrap_i64]; omega
  have hw2 : IntKind.i64.wrap ((l[U]).2.1 + (ks : Int) - (m : Int)) = (l[U]).2.1 + ((ks : Int) - (m : Int)) := by rw [IntKind.wrap_i64]; omega
  generalize hW2 : w1.setCell ⟨g, U * 3 + 1, none⟩ (.int .i64 ((l[U]).2.1 + ((ks : Int) - m))) = W2 at *
  have HW2 := Lib.hid hW2
  clear hW2
  obtain ⟨v3, w3, hrun3, ho3, hg3, _⟩ := append_eq (P := Tryz.prog) W2 22 22 28 Tryz.underlying22 w.heap.size Tinfo_part rfl (by decide) _ I (partsV (addK (l.take I) U ((ks : Int) - m))) HO2.out _ b.length (partsV b) (HRB.out.below HB2.out) (partsV_one _) (by omega) (by omega) HB2.out.size
  have hb3 := grown_keeps HB2.out HB2.out.size HO2.out hg3
  obtain ⟨_, a3, c3, rfl, hc3, _, _⟩ := Row.of_owns ho3
  obtain ⟨v4, w4, hrun4, ho4, hg4, _⟩ := append_eq (P := Tryz.prog) w3 22 22 28 Tryz.underlying22 w.heap.size Tinfo_part rfl (by decide) _ (I + b.length) _ ho3 _ (l.length - tq) (partsV (l.drop tq)) (hrow3 w3 l rfl (HR.out.below hb3)) (partsV_one _) (by omega) (by omega) hb3.size
  have hb4 := grown_keeps hb3 hb3.size ho3 hg4
  have hq := HQ.out v4 w4 hb4
  rw [partsV_append, partsV_append, List.length_append, List.length_append, addK_length, hlt, List.length_drop, ← Nat.add_assoc, ← List.append_assoc] at hq
  have HF := Lib.hid (hq ho4)
  clear hq ho4 ho3 hg3 hg4 hb3 hb4 hrow3 hlt HQ HO2 HB2 HR HRB
  have hI0 : (0 : Int) ≤ (I : Int) := by omega
  have hIc : (I : Int) ≤ vcap := by omega
  have hU0 : (0 : Int) ≤ (U : Int) := by omega
  have hUI' : (U : Int) < (I : Int) := by omega
  have hto0 : (0 : Int) ≤ (tq : Int) := by omega
  have htol : (tq : Int) ≤ l.length := by omega
  have htoc : (tq : Int) ≤ vcap := by omega
  generalize (l[U]).2.1 = x at *
  go_upto_region 17 with (at_builtin; refine wpList_append_run rfl _ _ _ _ hrun1 rfl rfl rfl rfl ?_)
  clear hrun1
  go_upto_region 18 with (fail)
  rw [HW2.out]
  clear cU zU
  go_upto_region 19 with (at_builtin; refine wpList_append_run rfl _ _ _ _ hrun3 rfl rfl rfl rfl ?_)
  clear hrun3
  go_upto_region 20 with (at_builtin; refine wpList_append_run rfl _ _ _ _ hrun4 rfl rfl rfl rfl ?_)
  clear hrun4
  go_wp2_with fail
  exact HF.out
end Go.Proofs.YtpjglenogifclaaGreatDoor
