/- The statement FillRows, walked: the call returns true. NOT YET WHOLE. -/
import Derived.Test.YtmklemelgdilkaaDoorRowsVMh
import Derived.Test.YtmklemelgdilkaaDoorRightPMh
import Derived.Test.YtmklemelgdilkaaDoorStillMh
import Derived.Test.YtmklemelgdilkaaDoorKpMMh
import Derived.Test.YtmklemelgdilkaaDoorCopEMh
import Derived.Deep.RegionHeld3
namespace Go.Proofs.YtmklemelgdilkaaDoor
set_option linter.all false
attribute [local irreducible] Calls
attribute [local irreducible] wpStill
open Go.RowKit

def rwNm (k : Int) : ByteArray := if k = 0 then ⟨#[97]⟩ else if k = 1 then ⟨#[98]⟩ else ⟨#[122]⟩
def rw1Rel (x : List Int) (w1 : World) (gr : Nat) (fv : Value) (iv : Value) (wr : World) : Prop :=
 ∃ (i : Nat) (cs : List ByteArray) (bv : Value), iv = .int .i64 (i : Int) ∧ i ≤ x.length ∧ i ≤ 50 ∧ cs.length = i ∧ (∀ c ∈ cs, NameP c ∧ c.size ≤ 1) ∧ RuB wr gr fv bv ∧ wr.ownsRow w1.heap.size 38 3 bv (byL cs).length (partsV (byL cs)) ∧ Below w1.heap.size w1 wr
def rw2Rel (w1 : World) (B gr : Nat) (fv bv : Value) (cs : List ByteArray) (z1 z2 : Int) (A1 A2 : List ByteArray) (c : ByteArray) (m : Nat) (lv wv iv : Value) (wr : World) : Prop :=
 ∃ n : Nat, iv = .int .i64 (n : Int) ∧ n ≤ m ∧ Rw3 w1 B gr fv bv lv wv (byL cs) (hdL z1 (A1 ++ List.replicate n c)) (hdL z2 (A2 ++ List.replicate n c)) wr
set_option maxRecDepth 100000 in
set_option maxHeartbeats 32000000 in
theorem FillRows_walk (w : World) (vx : Value) (x : List Int) (hx : RowInts w vx .u8 x) (hx2 : ∀ u ∈ x, 0 ≤ u ∧ u < 256) (hxn : x.length ≤ 1048576) (p : Nat) (hp : p < 256) (q : Nat) (hq : q < 256) (hH : HeldM w) :
  Calls Tryd.prog 4 #[vx, .int .u8 (p : Int), .int .u8 (q : Int)] w (AnswersM w) := by
 have HQ : RowKit.Hid (∀ w', Below w.heap.size w w' → AnswersM w (.returned (.bool true)) w') := Lib.hid fun w' h => AnswersM.mk h
 generalize AnswersM w = Q at *
 have CF := Lib.hid (fun w' (hb : Below w.heap.size w w') => law20_fixed w' (hH.T.below hb) (hH.M.below hb))
 have HXR := Lib.hid hx
 have HX2 := Lib.hid hx2
 have HH := Lib.hid hH
 obtain ⟨ax, cx, rfl, hcx, -⟩ := hx.open'
 clear hx hx2 hH
 go_enter Tryd.func4, Tryd.ntmps4
 go_wp2_with fail
 refine (law20_one _ _).mono ?_
 rintro e w1 ⟨g1, rfl, hz1, hb1⟩
 have HZ1 := Lib.hid hz1
 have HB1 := Lib.hid hb1
 clear hz1 hb1
 go_wp2_with fail
 -- BEGIN PRINTED
 have HRU : RowKit.Hid (RuB ((w1.alloc (.cells #[.int .u8 13, .int .i64 0, .string ⟨#[]⟩] 38)).alloc (.cells #[.string ⟨#[114]⟩, .int .u8 3, .slice none 0 0, .slice (some ⟨g1, 0, none⟩) 2 2, .slice (some ⟨w1.heap.size, 0, none⟩) 1 1] 43)) (w1.heap.size + 1) (.slice (some ⟨g1, 0, none⟩) 2 2) (.slice (some ⟨w1.heap.size, 0, none⟩) 1 1)) := Lib.hid (by
  have := heap_alloc_new (w1.alloc (.cells #[.int .u8 13, .int .i64 0, .string ⟨#[]⟩] 38)) (.cells #[.string ⟨#[114]⟩, .int .u8 3, .slice none 0 0, .slice (some ⟨g1, 0, none⟩) 2 2, .slice (some ⟨w1.heap.size, 0, none⟩) 1 1] 43)
  rw [World.size_alloc] at this
  exact this)
 have HOW : RowKit.Hid (((w1.alloc (.cells #[.int .u8 13, .int .i64 0, .string ⟨#[]⟩] 38)).alloc (.cells #[.string ⟨#[114]⟩, .int .u8 3, .slice none 0 0, .slice (some ⟨g1, 0, none⟩) 2 2, .slice (some ⟨w1.heap.size, 0, none⟩) 1 1] 43)).ownsRow w1.heap.size 38 3 (.slice (some ⟨w1.heap.size, 0, none⟩) 1 1) (byL []).length (partsV (byL []))) := Lib.hid
  ((World.ownsRow_lit w1 #[.int .u8 13, .int .i64 0, .string ⟨#[]⟩] 1 (Nat.le_refl _) (by decide) rfl).alloc _)
 have HBW : RowKit.Hid (Below w1.heap.size w1 ((w1.alloc (.cells #[.int .u8 13, .int .i64 0, .string ⟨#[]⟩] 38)).alloc (.cells #[.string ⟨#[114]⟩, .int .u8 3, .slice none 0 0, .slice (some ⟨g1, 0, none⟩) 2 2, .slice (some ⟨w1.heap.size, 0, none⟩) 1 1] 43))) := Lib.hid (((Below.refl _ _).alloc (Nat.le_refl _) _).alloc (by simp) _)
 generalize (w1.alloc (.cells #[.int .u8 13, .int .i64 0, .string ⟨#[]⟩] 38)).alloc (.cells #[.string ⟨#[114]⟩, .int .u8 3, .slice none 0 0, .slice (some ⟨g1, 0, none⟩) 2 2, .slice (some ⟨w1.heap.size, 0, none⟩) 1 1] 43) = w2 at *
 go_loopw [8] (fun iv wr => rw1Rel x w1 (w1.heap.size + 1) (.slice (some ⟨g1, 0, none⟩) 2 2) iv wr) (fun iv _ => 50 - (intOf iv).toNat)
 case atStart => exact ⟨0, [], _, rfl, Nat.zero_le _, by decide, rfl, by simp, HRU.out, HOW.out, HBW.out⟩
 case round =>
  obtain ⟨i, cs, bv, rfl, hix, hi50, hcl, hcn, hru, how, hbw⟩ := hrel
  have HCN := Lib.hid hcn
  have HRU2 := Lib.hid hru
  have HOW2 := Lib.hid how
  have HBW2 := Lib.hid hbw
  clear hcn hru how hbw
  have HBX := Lib.hid (bthen HB1.out HBW2.out)
  by_cases hlt : i < x.length ∧ i < 50
  case neg =>
   subst hcl
   obtain ⟨pm, hpm⟩ : ∃ pm, p % 20 = pm := ⟨_, rfl⟩
   obtain ⟨qm, hqm⟩ : ∃ qm, q % 20 = qm := ⟨_, rfl⟩
   have hpm2 : (p : Int).tmod 20 = (pm : Int) := by rw [Int.tmod_eq_emod_of_nonneg (by omega)]; omega
   have hqm2 : (q : Int).tmod 20 = (qm : Int) := by rw [Int.tmod_eq_emod_of_nonneg (by omega)]; omega
   have hp20 : pm < 20 := by omega
   have hq20 : qm < 20 := by omega
   have hex : x.length ≤ cs.length ∨ 50 ≤ cs.length := by omega
   obtain ⟨gb, bcap, hbv, hgB, hgl, hbc, _, hbcell⟩ := rv_shape HOW2.out (by rw [byL_len]; omega)
   have HBC1 : RowKit.Hid (∀ W, Below wr.heap.size wr W → W.cell? ⟨gb, 1, none⟩ = some (.int .i64 (cs.length : Int))) := Lib.hid fun W hb => by
    rw [hb.cell (p := ⟨gb, 1, none⟩) hgl, hbcell 1 (by rw [byL_len]; omega)]; rfl
   have HRS := Lib.hid (fun z1 z2 => Rw3.start HRU2.out HOW2.out HBW2.out (Nat.le_refl _) z1 z2)
   have c4 := HRU2.out.cells.2.2.2.2.1
   have HR4 : RowKit.Hid (∀ W, Below wr.heap.size wr W → W.cell? ⟨w1.heap.size + 1, 4, none⟩ = some bv) := Lib.hid fun W hb => (HRU2.out.keep hb).cells.2.2.2.2.1
   subst hbv
   have c4a := HR4.out _ ((Below.refl _ _).alloc (Nat.le_refl _) (.cells #[.int .u8 13, .int .i64 (1 + (pm : Int) + (qm : Int)), .string ⟨#[]⟩] 38))
   have cb1 := HBC1.out _ ((Below.refl _ _).alloc (Nat.le_refl _) (.cells #[.int .u8 13, .int .i64 (1 + (pm : Int) + (qm : Int)), .string ⟨#[]⟩] 38))
   have hw1 : IntKind.i64.wrap (pm : Int) = (pm : Int) := by rw [IntKind.wrap_i64]; omega
   have hw2 : IntKind.i64.wrap (qm : Int) = (qm : Int) := by rw [IntKind.wrap_i64]; omega
   have hw3 : IntKind.i64.wrap (1 + (pm : Int)) = 1 + (pm : Int) := by rw [IntKind.wrap_i64]; omega
   have hw4 : IntKind.i64.wrap (1 + (pm : Int) + (qm : Int)) = 1 + (pm : Int) + (qm : Int) := by rw [IntKind.wrap_i64]; omega
   have hw5 : IntKind.i64.wrap ((cs.length : Int) + (pm : Int)) = (cs.length : Int) + (pm : Int) := by rw [IntKind.wrap_i64]; omega
   have hw6 : IntKind.i64.wrap ((cs.length : Int) + (pm : Int) + (qm : Int)) = (cs.length : Int) + (pm : Int) + (qm : Int) := by rw [IntKind.wrap_i64]; omega
   have hbl0 : 0 < (byL cs).length := by rw [byL_len]; omega
   have HS12 := Lib.hid (HRS.out (1 + (pm : Int) + (qm : Int)) ((cs.length : Int) + (pm : Int) + (qm : Int)))
   clear hpm hqm hbcell hgB hgl HRS
   by_cases hex2 : x.length ≤ cs.length
   ·have hex1 : ¬ (cs.length : Int) < x.length := by omega
    clear hex
    go_wp2_with fail
    clear c4 c4a cb1 hw1 hw2 hw3 hw4 hw5 hw6
    generalize (wr.alloc (.cells #[.int .u8 13, .int .i64 (1 + (pm : Int) + (qm : Int)), .string ⟨#[]⟩] 38)).alloc (.cells #[.int .u8 13, .int .i64 ((cs.length : Int) + (pm : Int) + (qm : Int)), .string ⟨#[]⟩] 38) = w3 at *
    have CO := Lib.hid (fun s W => law20_one s W)
    go_loopw [9, 10, 11] (fun lv wv iv wy => rw2Rel w1 w1.heap.size (w1.heap.size + 1) (.slice (some ⟨g1, 0, none⟩) 2 2) (.slice (some ⟨gb, 0, none⟩) (byL cs).length bcap) cs (1 + (pm : Int) + (qm : Int)) ((cs.length : Int) + (pm : Int) + (qm : Int)) [] [] ⟨#[112]⟩ pm lv wv iv wy) (fun _ _ iv _ => pm - (intOf iv).toNat)
    case atStart => exact ⟨0, rfl, Nat.zero_le _, HS12.out⟩
    case round =>
     obtain ⟨n, rfl, hn, hrw⟩ := hrel
     rename World => wy
     have HRW := Lib.hid hrw
     clear hrw
     have hw2 : IntKind.i64.wrap (pm : Int) = (pm : Int) := by rw [IntKind.wrap_i64]; omega
     by_cases hlt2 : n < pm
     ·have hlt3 : (n : Int) < (pm : Int) := by omega
      have hwn : IntKind.i64.wrap ((n : Int) + 1) = (n : Int) + 1 := by rw [IntKind.wrap_i64]; omega
      go_wp2_with fail
      refine (CO.out _ _).mono ?_
      rintro e w4 ⟨ga, rfl, hza, hba⟩
      obtain ⟨v1, w5, hap1, hr1⟩ := (HRW.out.below hba).pushL hza (by rw [hdL_len]; simp; omega) (by decide)
      have HAP1 := Lib.hid hap1
      have HR1 := Lib.hid hr1
      clear hza hba hap1 hr1
      go_wp2_with (first | (at_builtin; refine wpList_append_run rfl _ _ _ _ HAP1.out rfl rfl rfl rfl ?_))
      refine (CO.out _ _).mono ?_
      rintro e w6 ⟨gc, rfl, hzc, hbc2⟩
      obtain ⟨v2, w7, hap2, hr2⟩ := (HR1.out.below hbc2).pushA hzc (by rw [hdL_len]; simp; omega) (by decide)
      have HAP2 := Lib.hid hap2
      have HR2 : RowKit.Hid (rw2Rel w1 w1.heap.size (w1.heap.size + 1) (.slice (some ⟨g1, 0, none⟩) 2 2) (.slice (some ⟨gb, 0, none⟩) (byL cs).length bcap) cs (1 + (pm : Int) + (qm : Int)) ((cs.length : Int) + (pm : Int) + (qm : Int)) [] [] ⟨#[112]⟩ pm v1 v2 (.int .i64 ((n : Int) + 1)) w7) := Lib.hid ⟨n + 1, by push_cast; rfl, hlt2, by
       rw [List.replicate_succ', ← List.append_assoc, ← hdL_one, ← hdL_one]; exact hr2⟩
      clear hzc hbc2 hap2 hr2
      go_wp2_with (first | (at_builtin; refine wpList_append_run rfl _ _ _ _ HAP2.out rfl rfl rfl rfl ?_))
      exact ⟨HR2.out, by simp only [intOf]; omega⟩
     ·obtain rfl : n = pm := by omega
      have hlt3 : ¬ (n : Int) < (n : Int) := by omega
      obtain ⟨gl, lc, hlv, _, _, hlc, _, _⟩ := rv_shape HRW.out.l (by rw [hdL_len]; omega)
      have hll : (hdL (1 + (n : Int) + (qm : Int)) ([] ++ List.replicate n ⟨#[112]⟩)).length = 1 + 2 * n := by rw [hdL_len]; simp
      rw [hll] at hlv hlc
      subst hlv
      obtain ⟨at', hat⟩ : ∃ at', 1 + 2 * n = at' := ⟨_, rfl⟩
      rw [hat] at hll hlc HRW ⊢
      have hatn : at' ≤ 50 := by omega
      have HAT := Lib.hid hat
      clear hat
      go_wp2_with fail
      refine (CO.out _ _).mono ?_
      rintro e w4 ⟨ga, rfl, hza, hba⟩
      have HR4b := HRW.out.below hba
      obtain ⟨v1, w5, hap1, hr1⟩ := HR4b.pushL hza (by rw [hll]; omega) (by decide)
      have HAP1 := Lib.hid hap1
      have HR1 := Lib.hid hr1
      obtain ⟨vb1, hbB, hbl1⟩ : True ∧ True ∧ gb < w5.heap.size := ⟨trivial, trivial, (hr1.b.lt gb rfl).2⟩
      by_cases hb1 : bcap = 1
      ·have hcs : cs = [] := by rw [byL_len] at hbc; exact List.eq_nil_of_length_eq_zero (by omega)
       obtain ⟨v2, w6, hap2, hr2⟩ := hr1.pushA (by_tail0 hcs hbl1) (by rw [hdL_len]; simp; omega) (by rw [stmtsL_len]; omega)
       have HAP2 := Lib.hid hap2
       have HR2 := Lib.hid hr2
       have c4 := hr1.r.cells.2.2.2.2.1
       clear hza hba hap1 hr1 HR4b hap2 hr2
       have hb1c : (1 : Int) ≤ ((byL cs).length : Int) := by omega
       go_wp2_with (first | (at_builtin; refine wpList_append_run rfl _ _ _ _ HAP1.out rfl rfl rfl rfl ?_) | (at_builtin; refine wpList_append_run rfl _ _ _ _ HAP2.out rfl rfl rfl rfl ?_))
       clear hb1 hcs
       have hw2 : IntKind.i64.wrap (qm : Int) = (qm : Int) := by rw [IntKind.wrap_i64]; omega
       have HR3 : RowKit.Hid (Rw3 w1 w1.heap.size (w1.heap.size + 1) (.slice (some ⟨g1, 0, none⟩) 2 2) (.slice (some ⟨gb, 0, none⟩) (byL cs).length bcap) v1 v2 (byL cs) (hdL (1 + (n : Int) + (qm : Int)) (([] ++ List.replicate n ⟨#[112]⟩) ++ [⟨#[122]⟩])) (hdL ((cs.length : Int) + (n : Int) + (qm : Int)) (([] ++ List.replicate n ⟨#[112]⟩) ++ cs)) w6) := Lib.hid (by
        rw [← hdL_one, ← hdL_app _ ([] ++ List.replicate n (⟨#[112]⟩ : ByteArray)) cs]; exact HR2.out)
       go_loopw [9, 10, 13] (fun lv wv iv wy => rw2Rel w1 w1.heap.size (w1.heap.size + 1) (.slice (some ⟨g1, 0, none⟩) 2 2) (.slice (some ⟨gb, 0, none⟩) (byL cs).length bcap) cs (1 + (n : Int) + (qm : Int)) ((cs.length : Int) + (n : Int) + (qm : Int)) (([] ++ List.replicate n ⟨#[112]⟩) ++ [⟨#[122]⟩]) (([] ++ List.replicate n ⟨#[112]⟩) ++ cs) ⟨#[113]⟩ qm lv wv iv wy) (fun _ _ iv _ => qm - (intOf iv).toNat)
       case atStart => exact ⟨0, rfl, Nat.zero_le _, by rw [List.replicate_zero, List.append_nil, List.append_nil]; exact HR3.out⟩
       case round =>
        obtain ⟨m, rfl, hm, hrw⟩ := hrel
        rename World => wz
        have HRW3 := Lib.hid hrw
        clear hrw
        by_cases hlt4 : m < qm
        ·have hlt5 : (m : Int) < (qm : Int) := by omega
         have hwn : IntKind.i64.wrap ((m : Int) + 1) = (m : Int) + 1 := by rw [IntKind.wrap_i64]; omega
         go_wp2_with fail
         refine (CO.out _ _).mono ?_
         rintro e w7 ⟨ga, rfl, hza, hba⟩
         obtain ⟨v3, w8, hap1, hr1⟩ := (HRW3.out.below hba).pushL hza (by rw [hdL_len]; simp; omega) (by decide)
         have HAP3 := Lib.hid hap1
         have HR5 := Lib.hid hr1
         clear hza hba hap1 hr1
         go_wp2_with (first | (at_builtin; refine wpList_append_run rfl _ _ _ _ HAP3.out rfl rfl rfl rfl ?_))
         refine (CO.out _ _).mono ?_
         rintro e w9 ⟨gc, rfl, hzc, hbc2⟩
         obtain ⟨v4, w10, hap2, hr2⟩ := (HR5.out.below hbc2).pushA hzc (by rw [hdL_len]; simp; omega) (by decide)
         have HAP4 := Lib.hid hap2
         have HR6 : RowKit.Hid (rw2Rel w1 w1.heap.size (w1.heap.size + 1) (.slice (some ⟨g1, 0, none⟩) 2 2) (.slice (some ⟨gb, 0, none⟩) (byL cs).length bcap) cs (1 + (n : Int) + (qm : Int)) ((cs.length : Int) + (n : Int) + (qm : Int)) (([] ++ List.replicate n ⟨#[112]⟩) ++ [⟨#[122]⟩]) (([] ++ List.replicate n ⟨#[112]⟩) ++ cs) ⟨#[113]⟩ qm v3 v4 (.int .i64 ((m : Int) + 1)) w10) := Lib.hid ⟨m + 1, by push_cast; rfl, hlt4, by
          rw [List.replicate_succ', ← List.append_assoc _ (List.replicate m _), ← List.append_assoc _ (List.replicate m _), ← hdL_one, ← hdL_one]; exact hr2⟩
         clear hzc hbc2 hap2 hr2
         go_wp2_with (first | (at_builtin; refine wpList_append_run rfl _ _ _ _ HAP4.out rfl rfl rfl rfl ?_))
         exact ⟨HR6.out, by simp only [intOf]; omega⟩
        ·obtain rfl : m = qm := by omega
         have hlt5 : ¬ (m : Int) < (m : Int) := by omega
         have hz7 := HRW3.out
         rw [hdL_l, hdL_a] at hz7
         have hX : (List.replicate n (⟨#[112]⟩ : ByteArray)).length = n := List.length_replicate
         have hY : (List.replicate m (⟨#[113]⟩ : ByteArray)).length = m := List.length_replicate
         have hns : ∀ c ∈ cs, NameP c := fun c hc => (HCN.out c hc).1
         have hsz : ∀ c ∈ cs, c.size ≤ 1 := fun c hc => (HCN.out c hc).2
         have hSL : SmallL (byL (List.replicate n (⟨#[112]⟩ : ByteArray) ++ (⟨#[122]⟩ : ByteArray) :: List.replicate m (⟨#[113]⟩ : ByteArray))) := by_small (fun c hc => sizes_pq (cs := [(⟨#[122]⟩ : ByteArray)]) (by intro c hc; rw [List.mem_singleton.1 hc]; decide) n m c (by rw [List.append_assoc]; exact hc)) (by rw [List.length_append, List.length_cons, hX, hY]; omega)
         have hSR := rows_small hsz (by omega)
         have hsr := step_rows (X := List.replicate n (⟨#[112]⟩ : ByteArray)) (Y := List.replicate m (⟨#[113]⟩ : ByteArray)) (⟨#[122]⟩ : ByteArray) hns (by rw [hX]; omega) (by rw [hY]; omega) (by omega)
         have hpc := at_one (X := List.replicate n (⟨#[112]⟩ : ByteArray)) (Y := List.replicate m (⟨#[113]⟩ : ByteArray)) (⟨#[122]⟩ : ByteArray)
         have hll := byL_len (List.replicate n (⟨#[112]⟩ : ByteArray) ++ (⟨#[122]⟩ : ByteArray) :: List.replicate m (⟨#[113]⟩ : ByteArray))
         rw [List.length_append, List.length_cons, hX, hY] at hll
         have hla := byL_len (List.replicate n (⟨#[112]⟩ : ByteArray) ++ cs ++ List.replicate m (⟨#[113]⟩ : ByteArray))
         rw [List.length_append, List.length_append, hX, hY] at hla
         rw [hX, HAT.out] at hsr hpc
         obtain ⟨az, hst, haz⟩ := hsr
         have hrt := step_root (cs := cs) (⟨#[122]⟩ : ByteArray) hns (by omega)
         have hatl := HAT.out
         clear hX hY HRW3
         generalize byL (List.replicate n (⟨#[112]⟩ : ByteArray) ++ (⟨#[122]⟩ : ByteArray) :: List.replicate m (⟨#[113]⟩ : ByteArray)) = L at *
         generalize byL (List.replicate n (⟨#[112]⟩ : ByteArray) ++ cs ++ List.replicate m (⟨#[113]⟩ : ByteArray)) = A at *
         obtain ⟨gl2, lc2, hlv2, _, hgl2, hlc2, _, _⟩ := rv_shape hz7.l (by omega)
         subst hlv2
         have HRZ := Lib.hid hz7
         have HBZ := Lib.hid (bthen HB1.out hz7.h)
         have HZF : RowKit.Hid (∀ W, Below wz.heap.size wz W → RulesIn (W.alloc (.cells #[.string ⟨#[114]⟩, .int .u8 3, .slice none 0 0, .slice (some ⟨g1, 0, none⟩) 2 2, .slice (some ⟨gb, 0, none⟩) (byL cs).length bcap] 43)) (.slice (some ⟨W.heap.size, 0, none⟩) 1 1) [(rowsRule cs, .slice none 0 0, .slice (some ⟨g1, 0, none⟩) 2 2, .slice (some ⟨gb, 0, none⟩) (byL cs).length bcap)]) := Lib.hid fun W hb => rows_held (HZ1.out.below (bthen hz7.h hb)) (PartRow.below (Row.of_owns hz7.b) hb)
         have HLF : RowKit.Hid (∀ W, Below wz.heap.size wz W → PartRow W (.slice (some ⟨gl2, 0, none⟩) L.length lc2) L) := Lib.hid fun W hb => PartRow.below (Row.of_owns hz7.l) hb
         have HBA := Lib.hid ((Below.refl wz.heap.size wz).alloc (Nat.le_refl _) (.cells #[.string ⟨#[114]⟩, .int .u8 3, .slice none 0 0, .slice (some ⟨g1, 0, none⟩) 2 2, .slice (some ⟨gb, 0, none⟩) (byL cs).length bcap] 43))
         have HBB := Lib.hid (bthen HBA.out ((Below.refl (wz.alloc (.cells #[.string ⟨#[114]⟩, .int .u8 3, .slice none 0 0, .slice (some ⟨g1, 0, none⟩) 2 2, .slice (some ⟨gb, 0, none⟩) (byL cs).length bcap] 43)).heap.size (wz.alloc (.cells #[.string ⟨#[114]⟩, .int .u8 3, .slice none 0 0, .slice (some ⟨g1, 0, none⟩) 2 2, .slice (some ⟨gb, 0, none⟩) (byL cs).length bcap] 43))).alloc (Nat.le_refl _) (.cells #[.int .i64 0, .int .i64 (at' : Int), .slice none 0 0] 35)))
         have HPI := Lib.hid (pick_held (wz.alloc (.cells #[.string ⟨#[114]⟩, .int .u8 3, .slice none 0 0, .slice (some ⟨g1, 0, none⟩) 2 2, .slice (some ⟨gb, 0, none⟩) (byL cs).length bcap] 43)) (at' : Int))
         rw [World.size_alloc] at HPI
         have hX1 : ∀ x ∈ ([(rowsRule cs, .slice none 0 0, .slice (some ⟨g1, 0, none⟩) 2 2, .slice (some ⟨gb, 0, none⟩) (byL cs).length bcap)] : List RuleX), SmallR x.1 := fun x hx => by rw [List.mem_singleton.1 hx]; exact hSR
         have hP1 : ∀ z : Int, ([((0, z, []), .slice none 0 0)] : List PkX).length ≤ 1048576 ∧ ∀ x ∈ ([((0, z, []), .slice none 0 0)] : List PkX), x.1.2.2.length ≤ 1048576 := fun z => ⟨by show 1 ≤ 1048576; omega, fun x hx => by rw [List.mem_singleton.1 hx]; exact Nat.zero_le _⟩
         have CS1 := Lib.hid (fill_Step [(rowsRule cs, .slice none 0 0, .slice (some ⟨g1, 0, none⟩) 2 2, .slice (some ⟨gb, 0, none⟩) (byL cs).length bcap)] hX1 L hSL [((0, (at' : Int), []), .slice none 0 0)] (hP1 _) (.slice (some ⟨wz.heap.size, 0, none⟩) 1 1) (.slice (some ⟨gl2, 0, none⟩) L.length lc2) (.slice (some ⟨wz.heap.size + 1, 0, none⟩) 1 1) _ (HH.out.T.below (bthen HBZ.out HBB.out)) (HH.out.M.below (bthen HBZ.out HBB.out)) ((HZF.out wz (Below.refl _ _)).below ((Below.refl _ _).alloc (Nat.le_refl _) _)) (HLF.out _ HBB.out) HPI.out)
         obtain ⟨X2, hX2⟩ : ∃ X2 : Int, (if cs.length = 1 then (0 : Int) else 12) = X2 := ⟨_, rfl⟩
         have hpr := piece_row (HLF.out _ (Below.refl _ _)) (show at' < at' + 2 by omega) (by omega)
         rw [hpc] at hpr
         have h22 : at' + 2 - at' = 2 := by omega
         rw [h22] at hpr
         have hs1 : (at' : Int) + 2 ≤ (lc2 : Int) := by omega
         have hs2 : ¬ lc2 = at' := by omega
         have hs3 : (0 : Int) ≤ (at' : Int) + 2 := by omega
         have hs4 : (at' : Int) ≤ (at' : Int) + 2 := by omega
         have hs5 : ((at' : Int) + 2).toNat - at' = 2 := by omega
         have HS12 := Lib.hid (And.intro hs1 (And.intro hs2 (And.intro hs3 (And.intro hs4 hs5))))
         have CS2 : RowKit.Hid (∀ Wc vr vp, Below wz.heap.size wz Wc → RulesIn Wc vr [(rowsRule cs, .slice none 0 0, .slice (some ⟨g1, 0, none⟩) 2 2, .slice (some ⟨gb, 0, none⟩) (byL cs).length bcap)] → PicksIn Wc vp [((0, 0, []), .slice none 0 0)] → Calls Tryd.prog 8 #[vr, .slice (some ⟨gl2, at' * 3, none⟩) 2 (lc2 - at'), vp] Wc fun e w' => ∃ ov nv, e = .returned (.tuple #[ov, nv, .int .i64 X2]) ∧ Below Wc.heap.size Wc w') := Lib.hid fun Wc vr vp hb h1 h2 => (fill_Step [(rowsRule cs, .slice none 0 0, .slice (some ⟨g1, 0, none⟩) 2 2, .slice (some ⟨gb, 0, none⟩) (byL cs).length bcap)] hX1 (oneL (⟨#[122]⟩ : ByteArray)) (one_small (by decide)) [((0, 0, []), .slice none 0 0)] (hP1 _) vr (.slice (some ⟨gl2, at' * 3, none⟩) 2 (lc2 - at')) vp Wc (HH.out.T.below (bthen HBZ.out hb)) (HH.out.M.below (bthen HBZ.out hb)) h1 (hpr.below hb) h2).mono fun e w' h => by
          unfold stepPost at h
          simp only [List.map_cons, List.map_nil] at h
          obtain ⟨k1, o1, o2, k2, -⟩ := h
          rw [hrt, hX2] at k2
          exact ⟨o1, o2, k2, k1⟩
         obtain ⟨c0, c1, c2, c3, c4, -⟩ := hz7.r.cells
         have hHX2 := Lib.hid hX2
         have HTS := Lib.hid hst
         have HAZ := Lib.hid haz
         have hwat : IntKind.i64.wrap ((at' : Int) + 2) = (at' : Int) + 2 := by rw [IntKind.wrap_i64]; omega
         have HLL : RowKit.Hid (L.length ≤ 1000000000 ∧ A.length ≤ 1000000000) := Lib.hid ⟨by omega, by omega⟩
         have hat2 : at' + 2 ≤ L.length := by omega
         clear hX2 hs1 hs2 hs3 hs4 hs5 hst haz hz7 hSL hSR hns hsz hpc hrt hpr hX1 hP1 h22 hll hla hatl
         go_wp2_with fail
         refine CS1.out.mono ?_
         intro e w8 h8
         unfold stepPost at h8
         simp only [List.map_cons, List.map_nil] at h8
         rw [HTS.out] at h8
         obtain ⟨hb8, ov, nv, rfl, ho8, -⟩ := h8
         simp only [] at ho8
         have HB8 := Lib.hid (bthen HBB.out hb8)
         have HBD : RowKit.Hid (Below wz.heap.size wz w8.drew) := Lib.hid HB8.out.drew
         have HO8 : RowKit.Hid (PartRow w8.drew ov A) := Lib.hid (by
          have h := Row.of_owns ho8
          have h2 : PartRow w8 ov A := by unfold PartRow; rw [← HAZ.out, List.length_map]; exact h
          exact h2.below (Below.refl _ _).drew)
         have HRD : RowKit.Hid (RuB w8.drew (w1.heap.size + 1) (.slice (some ⟨g1, 0, none⟩) 2 2) (.slice (some ⟨gb, 0, none⟩) (byL cs).length bcap)) := Lib.hid (HRZ.out.below HBD.out).r
         clear c0 c1 c2 c3 c4 hb8 ho8 CS1 HB8
         go_upto_region 23 with (fail)
         obtain ⟨hs1, hs2, hs3, hs4, hs5⟩ := HS12.out
         refine wp_region_until (S := (fun W' => W'.cell? ⟨w1.heap.size + 1, 0, none⟩ = some (.string ⟨#[114]⟩) ∧ W'.cell? ⟨w1.heap.size + 1, 1, none⟩ = some (.int .u8 3) ∧ W'.cell? ⟨w1.heap.size + 1, 2, none⟩ = some (.slice none 0 0) ∧ W'.cell? ⟨w1.heap.size + 1, 3, none⟩ = some (.slice (some ⟨g1, 0, none⟩) 2 2) ∧ W'.cell? ⟨w1.heap.size + 1, 4, none⟩ = some (.slice (some ⟨gb, 0, none⟩) (byL cs).length bcap) ∧ W'.frozen? ⟨w1.heap.size + 1, 4, none⟩ = false)) [9] (by kernel_rfl) ?_
         generalize w8.drew = wd at *
         have hS0 := HRD.out.cells
         have hSA := (HRD.out.keep ((Below.refl wd.heap.size wd).alloc (Nat.le_refl _) (.cells #[.string ⟨#[114]⟩, .int .u8 3, .slice none 0 0, .slice (some ⟨g1, 0, none⟩) 2 2, .slice (some ⟨gb, 0, none⟩) (byL cs).length bcap] 43))).cells
         have hSB := (HRD.out.keep ((Below.refl wd.heap.size wd).alloc (Nat.le_refl _) (.cells #[.int .i64 0, .int .i64 0, .slice none 0 0] 35))).cells
         have HBDA := Lib.hid ((Below.refl wd.heap.size wd).alloc (Nat.le_refl _) (.cells #[.string ⟨#[114]⟩, .int .u8 3, .slice none 0 0, .slice (some ⟨g1, 0, none⟩) 2 2, .slice (some ⟨gb, 0, none⟩) (byL cs).length bcap] 43))
         have HBDB := Lib.hid ((Below.refl wd.heap.size wd).alloc (Nat.le_refl _) (.cells #[.int .i64 0, .int .i64 0, .slice none 0 0] 35))
         have HBA2 := Lib.hid (bthen HBDA.out ((Below.refl (wd.alloc (.cells #[.string ⟨#[114]⟩, .int .u8 3, .slice none 0 0, .slice (some ⟨g1, 0, none⟩) 2 2, .slice (some ⟨gb, 0, none⟩) (byL cs).length bcap] 43)).heap.size (wd.alloc (.cells #[.string ⟨#[114]⟩, .int .u8 3, .slice none 0 0, .slice (some ⟨g1, 0, none⟩) 2 2, .slice (some ⟨gb, 0, none⟩) (byL cs).length bcap] 43))).alloc (Nat.le_refl _) (.cells #[.int .i64 0, .int .i64 0, .slice none 0 0] 35)))
         have HBB2 := Lib.hid (bthen HBDB.out ((Below.refl (wd.alloc (.cells #[.int .i64 0, .int .i64 0, .slice none 0 0] 35)).heap.size (wd.alloc (.cells #[.int .i64 0, .int .i64 0, .slice none 0 0] 35))).alloc (Nat.le_refl _) (.cells #[.string ⟨#[114]⟩, .int .u8 3, .slice none 0 0, .slice (some ⟨g1, 0, none⟩) 2 2, .slice (some ⟨gb, 0, none⟩) (byL cs).length bcap] 43)))
         have hSA2 := (HRD.out.keep HBA2.out).cells
         have hSB2 := (HRD.out.keep HBB2.out).cells
         have HRA := Lib.hid ((HZF.out wd HBD.out).below ((Below.refl _ _).alloc (Nat.le_refl _) (.cells #[.int .i64 0, .int .i64 0, .slice none 0 0] 35)))
         have HPA := Lib.hid (pick_held (wd.alloc (.cells #[.string ⟨#[114]⟩, .int .u8 3, .slice none 0 0, .slice (some ⟨g1, 0, none⟩) 2 2, .slice (some ⟨gb, 0, none⟩) (byL cs).length bcap] 43)) 0)
         rw [World.size_alloc] at HPA
         have HRB := Lib.hid (HZF.out (wd.alloc (.cells #[.int .i64 0, .int .i64 0, .slice none 0 0] 35)) (bthen HBD.out HBDB.out))
         rw [World.size_alloc] at HRB
         have HPB := Lib.hid ((pick_held wd 0).below ((Below.refl _ _).alloc (Nat.le_refl _) (.cells #[.string ⟨#[114]⟩, .int .u8 3, .slice none 0 0, .slice (some ⟨g1, 0, none⟩) 2 2, .slice (some ⟨gb, 0, none⟩) (byL cs).length bcap] 43)))
         refine wpAnyU_take [9, 1] (i := 0) (oi := ⟨some 128, _, _, _, _, _⟩) (v := ?vq1101) rfl (by kernel_rfl) (by kernel_rfl) (by kernel_rfl) (by kernel_rfl) (fun _ _ _ h => h) (Or.inl ⟨by kernel_rfl, ?hyq1101⟩) hS0 ?restq1101
         case hyq1101 => intro w hSw; (try dsimp only at hSw); go_simp; (try with_reducible rfl)
         (try simp only [Act.put, List.setIfInBounds_toArray, List.set_cons_zero, List.set_cons_succ])
         refine wpAnyU_takeF (i := 2) (oi := ⟨some 130, _, _, _, _, _⟩) (v := ?vq1102) rfl (by kernel_rfl) (by kernel_rfl) (by kernel_rfl) (fun _ _ _ h => h) (Or.inl ⟨by kernel_rfl, ?hyq1102⟩) (fun _ => hS0) ?restq1102
         case hyq1102 => intro w hSw; clear hSw; go_simp; (try with_reducible rfl)
         (try simp only [Act.put, List.setIfInBounds_toArray, List.set_cons_zero, List.set_cons_succ])
         refine wpAnyU_takeF (i := 3) (oi := ⟨some 131, _, _, _, _, _⟩) (v := ?vq1103) rfl (by kernel_rfl) (by kernel_rfl) (by kernel_rfl) (fun _ _ _ h => h) (Or.inl ⟨by kernel_rfl, ?hyq1103⟩) (fun _ => hS0) ?restq1103
         case hyq1103 => intro w hSw; clear hSw; go_simp; (try with_reducible rfl)
         (try simp only [Act.put, List.setIfInBounds_toArray, List.set_cons_zero, List.set_cons_succ])
         refine wpAnyU_takeF (i := 4) (oi := ⟨some 132, _, _, _, _, _⟩) (v := ?vq1104) rfl (by kernel_rfl) (by kernel_rfl) (by kernel_rfl) (fun _ _ _ h => h) (Or.inl ⟨by kernel_rfl, ?hyq1104⟩) (fun _ => hS0) ?restq1104
         case hyq1104 => intro w hSw; clear hSw; go_simp; (try with_reducible rfl)
         (try simp only [Act.put, List.setIfInBounds_toArray, List.set_cons_zero, List.set_cons_succ])
         refine wpAnyU_takeF (i := 5) (oi := ⟨some 133, _, _, _, _, _⟩) (v := ?vq1105) rfl (by kernel_rfl) (by kernel_rfl) (by kernel_rfl) (fun _ _ _ h => h) (Or.inl ⟨by kernel_rfl, ?hyq1105⟩) (fun _ => hS0) ?restq1105
         case hyq1105 => intro w hSw; clear hSw; go_simp; (try with_reducible rfl)
         (try simp only [Act.put, List.setIfInBounds_toArray, List.set_cons_zero, List.set_cons_succ])
         refine wpAnyU_takeF (i := 6) (oi := ⟨some 134, _, _, _, _, _⟩) (v := ?vq1106) rfl (by kernel_rfl) (by kernel_rfl) (by kernel_rfl) (fun _ _ _ h => h) (Or.inl ⟨by kernel_rfl, ?hyq1106⟩) (fun _ => hS0) ?restq1106
         case hyq1106 => intro w hSw; clear hSw; go_simp; (try with_reducible rfl)
         (try simp only [Act.put, List.setIfInBounds_toArray, List.set_cons_zero, List.set_cons_succ])
         refine wpAnyU_takeF (i := 7) (oi := ⟨some 135, _, _, _, _, _⟩) (v := ?vq1107) rfl (by kernel_rfl) (by kernel_rfl) (by kernel_rfl) (fun _ _ _ h => h) (Or.inl ⟨by kernel_rfl, ?hyq1107⟩) (fun _ => hS0) ?restq1107
         case hyq1107 => intro w hSw; clear hSw; go_simp; (try with_reducible rfl)
         (try simp only [Act.put, List.setIfInBounds_toArray, List.set_cons_zero, List.set_cons_succ])
         refine wpAnyU_ready (rs := [1, 8]) (by kernel_rfl) (by simp) ?_
         refine AllReadyU.cons (o := ⟨some 129, _, _, _, _, _⟩) rfl (fun K hK => ?_) (AllReadyU.cons (o := ⟨some 136, _, _, _, _, _⟩) rfl (fun K hK => ?_) AllReadyU.nil)
         ·go_simp
          refine hK.out _ _ (fun _ => hSA) ?_
          clear hK K
          (try simp only [Act.put, List.setIfInBounds_toArray, List.set_cons_zero, List.set_cons_succ])
          refine wpAnyU_ready (rs := [8]) (by kernel_rfl) (by simp) ?_
          refine AllReadyU.cons (o := ⟨some 136, _, _, _, _, _⟩) rfl (fun K hK => ?_) AllReadyU.nil
          go_simp
          refine hK.out _ _ (fun _ => hSA2) ?_
          clear hK K
          (try simp only [Act.put, List.setIfInBounds_toArray, List.set_cons_zero, List.set_cons_succ])
          refine wpAnyU_ready (rs := [9]) (by kernel_rfl) (by simp) ?_
          refine AllReadyU.cons (o := ⟨some 137, _, _, _, _, _⟩) rfl (fun K hK => ?_) AllReadyU.nil
          go_simp
          go_at_call 8
          refine (CS2.out _ _ _ (bthen HBD.out HBA2.out) HRA.out HPA.out).mono ?_
          rintro e w9 ⟨ov2, nv2, rfl, hb9⟩
          have HB9d := Lib.hid (bthen HBA2.out hb9)
          have HB9 := Lib.hid (bthen HBD.out HB9d.out)
          clear hb9
          (try dsimp only)
          refine hK.out _ _ (fun h => Bool.noConfusion (h.symm.trans (by kernel_rfl : _ = false))) ?_
          clear hK K
          (try simp only [Act.put, List.setIfInBounds_toArray, List.set_cons_zero, List.set_cons_succ])
          refine wpAnyU_takeF (i := 10) (oi := ⟨some 127, _, _, _, _, _⟩) (v := ?vq1108) rfl (by kernel_rfl) (by kernel_rfl) (by kernel_rfl) (fun _ _ _ h => h) (Or.inl ⟨by kernel_rfl, ?hyq1108⟩) (fun h => Bool.noConfusion (h.symm.trans (by kernel_rfl : _ = false))) ?restq1108
          case hyq1108 => intro w hSw; clear hSw; go_simp; (try with_reducible rfl)
          (try simp only [Act.put, List.setIfInBounds_toArray, List.set_cons_zero, List.set_cons_succ])
          refine wpAnyU_takeF (i := 11) (oi := ⟨some 138, _, _, _, _, _⟩) (v := ?vq1109) rfl (by kernel_rfl) (by kernel_rfl) (by kernel_rfl) (fun _ _ _ h => h) (Or.inl ⟨by kernel_rfl, ?hyq1109⟩) (fun h => Bool.noConfusion (h.symm.trans (by kernel_rfl : _ = false))) ?restq1109
          case hyq1109 => intro w hSw; clear hSw; go_simp; (try with_reducible rfl)
          (try simp only [Act.put, List.setIfInBounds_toArray, List.set_cons_zero, List.set_cons_succ])
          refine wpAnyU_takeF (i := 12) (oi := ⟨some 139, _, _, _, _, _⟩) (v := ?vq1110) rfl (by kernel_rfl) (by kernel_rfl) (by kernel_rfl) (fun _ _ _ h => h) (Or.inl ⟨by kernel_rfl, ?hyq1110⟩) (fun h => Bool.noConfusion (h.symm.trans (by kernel_rfl : _ = false))) ?restq1110
          case hyq1110 => intro w hSw; clear hSw; go_simp; (try with_reducible rfl)
          (try simp only [Act.put, List.setIfInBounds_toArray, List.set_cons_zero, List.set_cons_succ])
          refine wpAnyU_takeF (i := 13) (oi := ⟨some 140, _, _, _, _, _⟩) (v := ?vq1111) rfl (by kernel_rfl) (by kernel_rfl) (by kernel_rfl) (fun _ _ _ h => h) (Or.inl ⟨by kernel_rfl, ?hyq1111⟩) (fun h => Bool.noConfusion (h.symm.trans (by kernel_rfl : _ = false))) ?restq1111
          case hyq1111 => intro w hSw; clear hSw; go_simp; (try with_reducible rfl)
          (try simp only [Act.put, List.setIfInBounds_toArray, List.set_cons_zero, List.set_cons_succ])
          refine wpAnyU_ready (rs := [14]) (by kernel_rfl) (by simp) ?_
          refine AllReadyU.cons (o := ⟨some 17, _, _, _, _, _⟩) rfl (fun K hK => ?_) AllReadyU.nil
          go_simp
          refine hK.out _ _ (fun h => Bool.noConfusion (h.symm.trans (by kernel_rfl : _ = false))) ?_
          clear hK K
          (try simp only [Act.put, List.setIfInBounds_toArray, List.set_cons_zero, List.set_cons_succ])
          refine wpAnyU_ready (rs := [15]) (by kernel_rfl) (by simp) ?_
          refine AllReadyU.cons (o := ⟨some 18, _, _, _, _, _⟩) rfl (fun K hK => ?_) AllReadyU.nil
          go_simp
          refine hK.out _ _ (fun h => Bool.noConfusion (h.symm.trans (by kernel_rfl : _ = false))) ?_
          clear hK K
          (try simp only [Act.put, List.setIfInBounds_toArray, List.set_cons_zero, List.set_cons_succ])
          refine wpAnyU_ready (rs := [16]) (by kernel_rfl) (by simp) ?_
          refine AllReadyU.cons (o := ⟨some 19, _, _, _, _, _⟩) rfl (fun K hK => ?_) AllReadyU.nil
          go_simp
          refine hK.out _ _ (fun h => Bool.noConfusion (h.symm.trans (by kernel_rfl : _ = false))) ?_
          clear hK K
          (try simp only [Act.put, List.setIfInBounds_toArray, List.set_cons_zero, List.set_cons_succ])
          refine wpAnyU_done (by kernel_rfl) ?_ _
          clear hS0 hSA hSB hSA2 hSB2 hs1 hs2 hs3 hs4 hs5
          go_wp2_with fail
          refine (CF.out w9 (bthen HBZ.out HB9.out)).mono ?_
          rintro e w10 ⟨rfl, hb10⟩
          have HB10d := Lib.hid (bthen HB9d.out hb10)
          have HB10 := Lib.hid (bthen HB9.out hb10)
          have CSM := Lib.hid (ref_Same11 ov _ A A HLL.out.2 HLL.out.2 w10 (HO8.out.below HB10d.out) (Row.of_owns (HRZ.out.below HB10.out).a))
          clear hb10
          go_wp2_with fail
          refine CSM.out.mono ?_
          rintro e w11 ⟨x, rfl, hx, hb11⟩
          obtain rfl : x = true := hx.2 rfl
          have HB11 := Lib.hid (bthen HB10.out hb11)
          have HXE := Lib.hid (HQ.out w11 (bthen HBZ.out HB11.out))
          have c4 := (HRZ.out.below HB11.out).r.cells.2.2.2.2.1
          have cb1 := (HRZ.out.below HB11.out).b.cellAt 1 (by omega)
          rw [show (partsV (byL cs))[1]? = some (.int .i64 (cs.length : Int)) from rfl] at cb1
          clear hb11 hx CSM
          by_cases hone : cs.length = 1
          ·have hX2 := hHX2.out
           rw [if_pos hone] at hX2
           subst hX2
           have d1 : ((cs.length : Int) == 1) = true := by rw [beq_iff_eq]; omega
           go_wp2_with fail
           exact HXE.out
          ·have hX2 := hHX2.out
           rw [if_neg hone] at hX2
           subst hX2
           have d1 : ((cs.length : Int) == 1) = false := by rw [beq_eq_false_iff_ne]; omega
           go_wp2_with fail
           exact HXE.out
         ·go_simp
          refine hK.out _ _ (fun _ => hSB) ?_
          clear hK K
          (try simp only [Act.put, List.setIfInBounds_toArray, List.set_cons_zero, List.set_cons_succ])
          refine wpAnyU_ready (rs := [1]) (by kernel_rfl) (by simp) ?_
          refine AllReadyU.cons (o := ⟨some 129, _, _, _, _, _⟩) rfl (fun K hK => ?_) AllReadyU.nil
          go_simp
          refine hK.out _ _ (fun _ => hSB2) ?_
          clear hK K
          (try simp only [Act.put, List.setIfInBounds_toArray, List.set_cons_zero, List.set_cons_succ])
          refine wpAnyU_ready (rs := [9]) (by kernel_rfl) (by simp) ?_
          refine AllReadyU.cons (o := ⟨some 137, _, _, _, _, _⟩) rfl (fun K hK => ?_) AllReadyU.nil
          go_simp
          go_at_call 8
          refine (CS2.out _ _ _ (bthen HBD.out HBB2.out) HRB.out HPB.out).mono ?_
          rintro e w9 ⟨ov2, nv2, rfl, hb9⟩
          have HB9d := Lib.hid (bthen HBB2.out hb9)
          have HB9 := Lib.hid (bthen HBD.out HB9d.out)
          clear hb9
          (try dsimp only)
          refine hK.out _ _ (fun h => Bool.noConfusion (h.symm.trans (by kernel_rfl : _ = false))) ?_
          clear hK K
          (try simp only [Act.put, List.setIfInBounds_toArray, List.set_cons_zero, List.set_cons_succ])
          refine wpAnyU_takeF (i := 10) (oi := ⟨some 127, _, _, _, _, _⟩) (v := ?vq1112) rfl (by kernel_rfl) (by kernel_rfl) (by kernel_rfl) (fun _ _ _ h => h) (Or.inl ⟨by kernel_rfl, ?hyq1112⟩) (fun h => Bool.noConfusion (h.symm.trans (by kernel_rfl : _ = false))) ?restq1112
          case hyq1112 => intro w hSw; clear hSw; go_simp; (try with_reducible rfl)
          (try simp only [Act.put, List.setIfInBounds_toArray, List.set_cons_zero, List.set_cons_succ])
          refine wpAnyU_takeF (i := 11) (oi := ⟨some 138, _, _, _, _, _⟩) (v := ?vq1113) rfl (by kernel_rfl) (by kernel_rfl) (by kernel_rfl) (fun _ _ _ h => h) (Or.inl ⟨by kernel_rfl, ?hyq1113⟩) (fun h => Bool.noConfusion (h.symm.trans (by kernel_rfl : _ = false))) ?restq1113
          case hyq1113 => intro w hSw; clear hSw; go_simp; (try with_reducible rfl)
          (try simp only [Act.put, List.setIfInBounds_toArray, List.set_cons_zero, List.set_cons_succ])
          refine wpAnyU_takeF (i := 12) (oi := ⟨some 139, _, _, _, _, _⟩) (v := ?vq1114) rfl (by kernel_rfl) (by kernel_rfl) (by kernel_rfl) (fun _ _ _ h => h) (Or.inl ⟨by kernel_rfl, ?hyq1114⟩) (fun h => Bool.noConfusion (h.symm.trans (by kernel_rfl : _ = false))) ?restq1114
          case hyq1114 => intro w hSw; clear hSw; go_simp; (try with_reducible rfl)
          (try simp only [Act.put, List.setIfInBounds_toArray, List.set_cons_zero, List.set_cons_succ])
          refine wpAnyU_takeF (i := 13) (oi := ⟨some 140, _, _, _, _, _⟩) (v := ?vq1115) rfl (by kernel_rfl) (by kernel_rfl) (by kernel_rfl) (fun _ _ _ h => h) (Or.inl ⟨by kernel_rfl, ?hyq1115⟩) (fun h => Bool.noConfusion (h.symm.trans (by kernel_rfl : _ = false))) ?restq1115
          case hyq1115 => intro w hSw; clear hSw; go_simp; (try with_reducible rfl)
          (try simp only [Act.put, List.setIfInBounds_toArray, List.set_cons_zero, List.set_cons_succ])
          refine wpAnyU_ready (rs := [14]) (by kernel_rfl) (by simp) ?_
          refine AllReadyU.cons (o := ⟨some 17, _, _, _, _, _⟩) rfl (fun K hK => ?_) AllReadyU.nil
          go_simp
          refine hK.out _ _ (fun h => Bool.noConfusion (h.symm.trans (by kernel_rfl : _ = false))) ?_
          clear hK K
          (try simp only [Act.put, List.setIfInBounds_toArray, List.set_cons_zero, List.set_cons_succ])
          refine wpAnyU_ready (rs := [15]) (by kernel_rfl) (by simp) ?_
          refine AllReadyU.cons (o := ⟨some 18, _, _, _, _, _⟩) rfl (fun K hK => ?_) AllReadyU.nil
          go_simp
          refine hK.out _ _ (fun h => Bool.noConfusion (h.symm.trans (by kernel_rfl : _ = false))) ?_
          clear hK K
          (try simp only [Act.put, List.setIfInBounds_toArray, List.set_cons_zero, List.set_cons_succ])
          refine wpAnyU_ready (rs := [16]) (by kernel_rfl) (by simp) ?_
          refine AllReadyU.cons (o := ⟨some 19, _, _, _, _, _⟩) rfl (fun K hK => ?_) AllReadyU.nil
          go_simp
          refine hK.out _ _ (fun h => Bool.noConfusion (h.symm.trans (by kernel_rfl : _ = false))) ?_
          clear hK K
          (try simp only [Act.put, List.setIfInBounds_toArray, List.set_cons_zero, List.set_cons_succ])
          refine wpAnyU_done (by kernel_rfl) ?_ _
          clear hS0 hSA hSB hSA2 hSB2 hs1 hs2 hs3 hs4 hs5
          go_wp2_with fail
          refine (CF.out w9 (bthen HBZ.out HB9.out)).mono ?_
          rintro e w10 ⟨rfl, hb10⟩
          have HB10d := Lib.hid (bthen HB9d.out hb10)
          have HB10 := Lib.hid (bthen HB9.out hb10)
          have CSM := Lib.hid (ref_Same11 ov _ A A HLL.out.2 HLL.out.2 w10 (HO8.out.below HB10d.out) (Row.of_owns (HRZ.out.below HB10.out).a))
          clear hb10
          go_wp2_with fail
          refine CSM.out.mono ?_
          rintro e w11 ⟨x, rfl, hx, hb11⟩
          obtain rfl : x = true := hx.2 rfl
          have HB11 := Lib.hid (bthen HB10.out hb11)
          have HXE := Lib.hid (HQ.out w11 (bthen HBZ.out HB11.out))
          have c4 := (HRZ.out.below HB11.out).r.cells.2.2.2.2.1
          have cb1 := (HRZ.out.below HB11.out).b.cellAt 1 (by omega)
          rw [show (partsV (byL cs))[1]? = some (.int .i64 (cs.length : Int)) from rfl] at cb1
          clear hb11 hx CSM
          by_cases hone : cs.length = 1
          ·have hX2 := hHX2.out
           rw [if_pos hone] at hX2
           subst hX2
           have d1 : ((cs.length : Int) == 1) = true := by rw [beq_iff_eq]; omega
           go_wp2_with fail
           exact HXE.out
          ·have hX2 := hHX2.out
           rw [if_neg hone] at hX2
           subst hX2
           have d1 : ((cs.length : Int) == 1) = false := by rw [beq_eq_false_iff_ne]; omega
           go_wp2_with fail
           exact HXE.out
      obtain ⟨v2, w6, hap2, hr2⟩ := hr1.pushA (by_tail hr1.b (by omega) hbl1) (by rw [hdL_len]; simp; omega) (by rw [stmtsL_len]; omega)
      have hE : 2 * cs.length = (byL cs).length - 1 := by rw [byL_len]; omega
      rw [hE] at hap2
      clear hE
      have HAP2 := Lib.hid hap2
      have HR2 := Lib.hid hr2
      have c4 := hr1.r.cells.2.2.2.2.1
      clear hza hba hap1 hr1 HR4b hap2 hr2
      have hb1c : (1 : Int) ≤ ((byL cs).length : Int) := by omega
      go_wp2_with (first | (at_builtin; refine wpList_append_run rfl _ _ _ _ HAP1.out rfl rfl rfl rfl ?_) | (at_builtin; refine wpList_append_run rfl _ _ _ _ HAP2.out rfl rfl rfl rfl ?_))
      have hw2 : IntKind.i64.wrap (qm : Int) = (qm : Int) := by rw [IntKind.wrap_i64]; omega
      have HR3 : RowKit.Hid (Rw3 w1 w1.heap.size (w1.heap.size + 1) (.slice (some ⟨g1, 0, none⟩) 2 2) (.slice (some ⟨gb, 0, none⟩) (byL cs).length bcap) v1 v2 (byL cs) (hdL (1 + (n : Int) + (qm : Int)) (([] ++ List.replicate n ⟨#[112]⟩) ++ [⟨#[122]⟩])) (hdL ((cs.length : Int) + (n : Int) + (qm : Int)) (([] ++ List.replicate n ⟨#[112]⟩) ++ cs)) w6) := Lib.hid (by
       rw [← hdL_one, ← hdL_app _ ([] ++ List.replicate n (⟨#[112]⟩ : ByteArray)) cs]; exact HR2.out)
      go_loopw [9, 10, 13] (fun lv wv iv wy => rw2Rel w1 w1.heap.size (w1.heap.size + 1) (.slice (some ⟨g1, 0, none⟩) 2 2) (.slice (some ⟨gb, 0, none⟩) (byL cs).length bcap) cs (1 + (n : Int) + (qm : Int)) ((cs.length : Int) + (n : Int) + (qm : Int)) (([] ++ List.replicate n ⟨#[112]⟩) ++ [⟨#[122]⟩]) (([] ++ List.replicate n ⟨#[112]⟩) ++ cs) ⟨#[113]⟩ qm lv wv iv wy) (fun _ _ iv _ => qm - (intOf iv).toNat)
      case atStart => exact ⟨0, rfl, Nat.zero_le _, by rw [List.replicate_zero, List.append_nil, List.append_nil]; exact HR3.out⟩
      case round =>
       obtain ⟨m, rfl, hm, hrw⟩ := hrel
       rename World => wz
       have HRW3 := Lib.hid hrw
       clear hrw
       by_cases hlt4 : m < qm
       ·have hlt5 : (m : Int) < (qm : Int) := by omega
        have hwn : IntKind.i64.wrap ((m : Int) + 1) = (m : Int) + 1 := by rw [IntKind.wrap_i64]; omega
        go_wp2_with fail
        refine (CO.out _ _).mono ?_
        rintro e w7 ⟨ga, rfl, hza, hba⟩
        obtain ⟨v3, w8, hap1, hr1⟩ := (HRW3.out.below hba).pushL hza (by rw [hdL_len]; simp; omega) (by decide)
        have HAP3 := Lib.hid hap1
        have HR5 := Lib.hid hr1
        clear hza hba hap1 hr1
        go_wp2_with (first | (at_builtin; refine wpList_append_run rfl _ _ _ _ HAP3.out rfl rfl rfl rfl ?_))
        refine (CO.out _ _).mono ?_
        rintro e w9 ⟨gc, rfl, hzc, hbc2⟩
        obtain ⟨v4, w10, hap2, hr2⟩ := (HR5.out.below hbc2).pushA hzc (by rw [hdL_len]; simp; omega) (by decide)
        have HAP4 := Lib.hid hap2
        have HR6 : RowKit.Hid (rw2Rel w1 w1.heap.size (w1.heap.size + 1) (.slice (some ⟨g1, 0, none⟩) 2 2) (.slice (some ⟨gb, 0, none⟩) (byL cs).length bcap) cs (1 + (n : Int) + (qm : Int)) ((cs.length : Int) + (n : Int) + (qm : Int)) (([] ++ List.replicate n ⟨#[112]⟩) ++ [⟨#[122]⟩]) (([] ++ List.replicate n ⟨#[112]⟩) ++ cs) ⟨#[113]⟩ qm v3 v4 (.int .i64 ((m : Int) + 1)) w10) := Lib.hid ⟨m + 1, by push_cast; rfl, hlt4, by
         rw [List.replicate_succ', ← List.append_assoc _ (List.replicate m _), ← List.append_assoc _ (List.replicate m _), ← hdL_one, ← hdL_one]; exact hr2⟩
        clear hzc hbc2 hap2 hr2
        go_wp2_with (first | (at_builtin; refine wpList_append_run rfl _ _ _ _ HAP4.out rfl rfl rfl rfl ?_))
        exact ⟨HR6.out, by simp only [intOf]; omega⟩
       ·obtain rfl : m = qm := by omega
        have hlt5 : ¬ (m : Int) < (m : Int) := by omega
        have hz7 := HRW3.out
        rw [hdL_l, hdL_a] at hz7
        have hX : (List.replicate n (⟨#[112]⟩ : ByteArray)).length = n := List.length_replicate
        have hY : (List.replicate m (⟨#[113]⟩ : ByteArray)).length = m := List.length_replicate
        have hns : ∀ c ∈ cs, NameP c := fun c hc => (HCN.out c hc).1
        have hsz : ∀ c ∈ cs, c.size ≤ 1 := fun c hc => (HCN.out c hc).2
        have hSL : SmallL (byL (List.replicate n (⟨#[112]⟩ : ByteArray) ++ (⟨#[122]⟩ : ByteArray) :: List.replicate m (⟨#[113]⟩ : ByteArray))) := by_small (fun c hc => sizes_pq (cs := [(⟨#[122]⟩ : ByteArray)]) (by intro c hc; rw [List.mem_singleton.1 hc]; decide) n m c (by rw [List.append_assoc]; exact hc)) (by rw [List.length_append, List.length_cons, hX, hY]; omega)
        have hSR := rows_small hsz (by omega)
        have hsr := step_rows (X := List.replicate n (⟨#[112]⟩ : ByteArray)) (Y := List.replicate m (⟨#[113]⟩ : ByteArray)) (⟨#[122]⟩ : ByteArray) hns (by rw [hX]; omega) (by rw [hY]; omega) (by omega)
        have hpc := at_one (X := List.replicate n (⟨#[112]⟩ : ByteArray)) (Y := List.replicate m (⟨#[113]⟩ : ByteArray)) (⟨#[122]⟩ : ByteArray)
        have hll := byL_len (List.replicate n (⟨#[112]⟩ : ByteArray) ++ (⟨#[122]⟩ : ByteArray) :: List.replicate m (⟨#[113]⟩ : ByteArray))
        rw [List.length_append, List.length_cons, hX, hY] at hll
        have hla := byL_len (List.replicate n (⟨#[112]⟩ : ByteArray) ++ cs ++ List.replicate m (⟨#[113]⟩ : ByteArray))
        rw [List.length_append, List.length_append, hX, hY] at hla
        rw [hX, HAT.out] at hsr hpc
        obtain ⟨az, hst, haz⟩ := hsr
        have hrt := step_root (cs := cs) (⟨#[122]⟩ : ByteArray) hns (by omega)
        have hatl := HAT.out
        clear hX hY HRW3
        generalize byL (List.replicate n (⟨#[112]⟩ : ByteArray) ++ (⟨#[122]⟩ : ByteArray) :: List.replicate m (⟨#[113]⟩ : ByteArray)) = L at *
        generalize byL (List.replicate n (⟨#[112]⟩ : ByteArray) ++ cs ++ List.replicate m (⟨#[113]⟩ : ByteArray)) = A at *
        obtain ⟨gl2, lc2, hlv2, _, hgl2, hlc2, _, _⟩ := rv_shape hz7.l (by omega)
        subst hlv2
        have HRZ := Lib.hid hz7
        have HBZ := Lib.hid (bthen HB1.out hz7.h)
        have HZF : RowKit.Hid (∀ W, Below wz.heap.size wz W → RulesIn (W.alloc (.cells #[.string ⟨#[114]⟩, .int .u8 3, .slice none 0 0, .slice (some ⟨g1, 0, none⟩) 2 2, .slice (some ⟨gb, 0, none⟩) (byL cs).length bcap] 43)) (.slice (some ⟨W.heap.size, 0, none⟩) 1 1) [(rowsRule cs, .slice none 0 0, .slice (some ⟨g1, 0, none⟩) 2 2, .slice (some ⟨gb, 0, none⟩) (byL cs).length bcap)]) := Lib.hid fun W hb => rows_held (HZ1.out.below (bthen hz7.h hb)) (PartRow.below (Row.of_owns hz7.b) hb)
        have HLF : RowKit.Hid (∀ W, Below wz.heap.size wz W → PartRow W (.slice (some ⟨gl2, 0, none⟩) L.length lc2) L) := Lib.hid fun W hb => PartRow.below (Row.of_owns hz7.l) hb
        have HBA := Lib.hid ((Below.refl wz.heap.size wz).alloc (Nat.le_refl _) (.cells #[.string ⟨#[114]⟩, .int .u8 3, .slice none 0 0, .slice (some ⟨g1, 0, none⟩) 2 2, .slice (some ⟨gb, 0, none⟩) (byL cs).length bcap] 43))
        have HBB := Lib.hid (bthen HBA.out ((Below.refl (wz.alloc (.cells #[.string ⟨#[114]⟩, .int .u8 3, .slice none 0 0, .slice (some ⟨g1, 0, none⟩) 2 2, .slice (some ⟨gb, 0, none⟩) (byL cs).length bcap] 43)).heap.size (wz.alloc (.cells #[.string ⟨#[114]⟩, .int .u8 3, .slice none 0 0, .slice (some ⟨g1, 0, none⟩) 2 2, .slice (some ⟨gb, 0, none⟩) (byL cs).length bcap] 43))).alloc (Nat.le_refl _) (.cells #[.int .i64 0, .int .i64 (at' : Int), .slice none 0 0] 35)))
        have HPI := Lib.hid (pick_held (wz.alloc (.cells #[.string ⟨#[114]⟩, .int .u8 3, .slice none 0 0, .slice (some ⟨g1, 0, none⟩) 2 2, .slice (some ⟨gb, 0, none⟩) (byL cs).length bcap] 43)) (at' : Int))
        rw [World.size_alloc] at HPI
        have hX1 : ∀ x ∈ ([(rowsRule cs, .slice none 0 0, .slice (some ⟨g1, 0, none⟩) 2 2, .slice (some ⟨gb, 0, none⟩) (byL cs).length bcap)] : List RuleX), SmallR x.1 := fun x hx => by rw [List.mem_singleton.1 hx]; exact hSR
        have hP1 : ∀ z : Int, ([((0, z, []), .slice none 0 0)] : List PkX).length ≤ 1048576 ∧ ∀ x ∈ ([((0, z, []), .slice none 0 0)] : List PkX), x.1.2.2.length ≤ 1048576 := fun z => ⟨by show 1 ≤ 1048576; omega, fun x hx => by rw [List.mem_singleton.1 hx]; exact Nat.zero_le _⟩
        have CS1 := Lib.hid (fill_Step [(rowsRule cs, .slice none 0 0, .slice (some ⟨g1, 0, none⟩) 2 2, .slice (some ⟨gb, 0, none⟩) (byL cs).length bcap)] hX1 L hSL [((0, (at' : Int), []), .slice none 0 0)] (hP1 _) (.slice (some ⟨wz.heap.size, 0, none⟩) 1 1) (.slice (some ⟨gl2, 0, none⟩) L.length lc2) (.slice (some ⟨wz.heap.size + 1, 0, none⟩) 1 1) _ (HH.out.T.below (bthen HBZ.out HBB.out)) (HH.out.M.below (bthen HBZ.out HBB.out)) ((HZF.out wz (Below.refl _ _)).below ((Below.refl _ _).alloc (Nat.le_refl _) _)) (HLF.out _ HBB.out) HPI.out)
        obtain ⟨X2, hX2⟩ : ∃ X2 : Int, (if cs.length = 1 then (0 : Int) else 12) = X2 := ⟨_, rfl⟩
        have hpr := piece_row (HLF.out _ (Below.refl _ _)) (show at' < at' + 2 by omega) (by omega)
        rw [hpc] at hpr
        have h22 : at' + 2 - at' = 2 := by omega
        rw [h22] at hpr
        have hs1 : (at' : Int) + 2 ≤ (lc2 : Int) := by omega
        have hs2 : ¬ lc2 = at' := by omega
        have hs3 : (0 : Int) ≤ (at' : Int) + 2 := by omega
        have hs4 : (at' : Int) ≤ (at' : Int) + 2 := by omega
        have hs5 : ((at' : Int) + 2).toNat - at' = 2 := by omega
        have HS12 := Lib.hid (And.intro hs1 (And.intro hs2 (And.intro hs3 (And.intro hs4 hs5))))
        have CS2 : RowKit.Hid (∀ Wc vr vp, Below wz.heap.size wz Wc → RulesIn Wc vr [(rowsRule cs, .slice none 0 0, .slice (some ⟨g1, 0, none⟩) 2 2, .slice (some ⟨gb, 0, none⟩) (byL cs).length bcap)] → PicksIn Wc vp [((0, 0, []), .slice none 0 0)] → Calls Tryd.prog 8 #[vr, .slice (some ⟨gl2, at' * 3, none⟩) 2 (lc2 - at'), vp] Wc fun e w' => ∃ ov nv, e = .returned (.tuple #[ov, nv, .int .i64 X2]) ∧ Below Wc.heap.size Wc w') := Lib.hid fun Wc vr vp hb h1 h2 => (fill_Step [(rowsRule cs, .slice none 0 0, .slice (some ⟨g1, 0, none⟩) 2 2, .slice (some ⟨gb, 0, none⟩) (byL cs).length bcap)] hX1 (oneL (⟨#[122]⟩ : ByteArray)) (one_small (by decide)) [((0, 0, []), .slice none 0 0)] (hP1 _) vr (.slice (some ⟨gl2, at' * 3, none⟩) 2 (lc2 - at')) vp Wc (HH.out.T.below (bthen HBZ.out hb)) (HH.out.M.below (bthen HBZ.out hb)) h1 (hpr.below hb) h2).mono fun e w' h => by
         unfold stepPost at h
         simp only [List.map_cons, List.map_nil] at h
         obtain ⟨k1, o1, o2, k2, -⟩ := h
         rw [hrt, hX2] at k2
         exact ⟨o1, o2, k2, k1⟩
        obtain ⟨c0, c1, c2, c3, c4, -⟩ := hz7.r.cells
        have hHX2 := Lib.hid hX2
        have HTS := Lib.hid hst
        have HAZ := Lib.hid haz
        have hwat : IntKind.i64.wrap ((at' : Int) + 2) = (at' : Int) + 2 := by rw [IntKind.wrap_i64]; omega
        have HLL : RowKit.Hid (L.length ≤ 1000000000 ∧ A.length ≤ 1000000000) := Lib.hid ⟨by omega, by omega⟩
        have hat2 : at' + 2 ≤ L.length := by omega
        clear hX2 hs1 hs2 hs3 hs4 hs5 hst haz hz7 hSL hSR hns hsz hpc hrt hpr hX1 hP1 h22 hll hla hatl
        go_wp2_with fail
        refine CS1.out.mono ?_
        intro e w8 h8
        unfold stepPost at h8
        simp only [List.map_cons, List.map_nil] at h8
        rw [HTS.out] at h8
        obtain ⟨hb8, ov, nv, rfl, ho8, -⟩ := h8
        simp only [] at ho8
        have HB8 := Lib.hid (bthen HBB.out hb8)
        have HBD : RowKit.Hid (Below wz.heap.size wz w8.drew) := Lib.hid HB8.out.drew
        have HO8 : RowKit.Hid (PartRow w8.drew ov A) := Lib.hid (by
         have h := Row.of_owns ho8
         have h2 : PartRow w8 ov A := by unfold PartRow; rw [← HAZ.out, List.length_map]; exact h
         exact h2.below (Below.refl _ _).drew)
        have HRD : RowKit.Hid (RuB w8.drew (w1.heap.size + 1) (.slice (some ⟨g1, 0, none⟩) 2 2) (.slice (some ⟨gb, 0, none⟩) (byL cs).length bcap)) := Lib.hid (HRZ.out.below HBD.out).r
        clear c0 c1 c2 c3 c4 hb8 ho8 CS1 HB8
        go_upto_region 23 with (fail)
        obtain ⟨hs1, hs2, hs3, hs4, hs5⟩ := HS12.out
        refine wp_region_until (S := (fun W' => W'.cell? ⟨w1.heap.size + 1, 0, none⟩ = some (.string ⟨#[114]⟩) ∧ W'.cell? ⟨w1.heap.size + 1, 1, none⟩ = some (.int .u8 3) ∧ W'.cell? ⟨w1.heap.size + 1, 2, none⟩ = some (.slice none 0 0) ∧ W'.cell? ⟨w1.heap.size + 1, 3, none⟩ = some (.slice (some ⟨g1, 0, none⟩) 2 2) ∧ W'.cell? ⟨w1.heap.size + 1, 4, none⟩ = some (.slice (some ⟨gb, 0, none⟩) (byL cs).length bcap) ∧ W'.frozen? ⟨w1.heap.size + 1, 4, none⟩ = false)) [9] (by kernel_rfl) ?_
        generalize w8.drew = wd at *
        have hS0 := HRD.out.cells
        have hSA := (HRD.out.keep ((Below.refl wd.heap.size wd).alloc (Nat.le_refl _) (.cells #[.string ⟨#[114]⟩, .int .u8 3, .slice none 0 0, .slice (some ⟨g1, 0, none⟩) 2 2, .slice (some ⟨gb, 0, none⟩) (byL cs).length bcap] 43))).cells
        have hSB := (HRD.out.keep ((Below.refl wd.heap.size wd).alloc (Nat.le_refl _) (.cells #[.int .i64 0, .int .i64 0, .slice none 0 0] 35))).cells
        have HBDA := Lib.hid ((Below.refl wd.heap.size wd).alloc (Nat.le_refl _) (.cells #[.string ⟨#[114]⟩, .int .u8 3, .slice none 0 0, .slice (some ⟨g1, 0, none⟩) 2 2, .slice (some ⟨gb, 0, none⟩) (byL cs).length bcap] 43))
        have HBDB := Lib.hid ((Below.refl wd.heap.size wd).alloc (Nat.le_refl _) (.cells #[.int .i64 0, .int .i64 0, .slice none 0 0] 35))
        have HBA2 := Lib.hid (bthen HBDA.out ((Below.refl (wd.alloc (.cells #[.string ⟨#[114]⟩, .int .u8 3, .slice none 0 0, .slice (some ⟨g1, 0, none⟩) 2 2, .slice (some ⟨gb, 0, none⟩) (byL cs).length bcap] 43)).heap.size (wd.alloc (.cells #[.string ⟨#[114]⟩, .int .u8 3, .slice none 0 0, .slice (some ⟨g1, 0, none⟩) 2 2, .slice (some ⟨gb, 0, none⟩) (byL cs).length bcap] 43))).alloc (Nat.le_refl _) (.cells #[.int .i64 0, .int .i64 0, .slice none 0 0] 35)))
        have HBB2 := Lib.hid (bthen HBDB.out ((Below.refl (wd.alloc (.cells #[.int .i64 0, .int .i64 0, .slice none 0 0] 35)).heap.size (wd.alloc (.cells #[.int .i64 0, .int .i64 0, .slice none 0 0] 35))).alloc (Nat.le_refl _) (.cells #[.string ⟨#[114]⟩, .int .u8 3, .slice none 0 0, .slice (some ⟨g1, 0, none⟩) 2 2, .slice (some ⟨gb, 0, none⟩) (byL cs).length bcap] 43)))
        have hSA2 := (HRD.out.keep HBA2.out).cells
        have hSB2 := (HRD.out.keep HBB2.out).cells
        have HRA := Lib.hid ((HZF.out wd HBD.out).below ((Below.refl _ _).alloc (Nat.le_refl _) (.cells #[.int .i64 0, .int .i64 0, .slice none 0 0] 35)))
        have HPA := Lib.hid (pick_held (wd.alloc (.cells #[.string ⟨#[114]⟩, .int .u8 3, .slice none 0 0, .slice (some ⟨g1, 0, none⟩) 2 2, .slice (some ⟨gb, 0, none⟩) (byL cs).length bcap] 43)) 0)
        rw [World.size_alloc] at HPA
        have HRB := Lib.hid (HZF.out (wd.alloc (.cells #[.int .i64 0, .int .i64 0, .slice none 0 0] 35)) (bthen HBD.out HBDB.out))
        rw [World.size_alloc] at HRB
        have HPB := Lib.hid ((pick_held wd 0).below ((Below.refl _ _).alloc (Nat.le_refl _) (.cells #[.string ⟨#[114]⟩, .int .u8 3, .slice none 0 0, .slice (some ⟨g1, 0, none⟩) 2 2, .slice (some ⟨gb, 0, none⟩) (byL cs).length bcap] 43)))
        refine wpAnyU_take [9, 1] (i := 0) (oi := ⟨some 128, _, _, _, _, _⟩) (v := ?vq2101) rfl (by kernel_rfl) (by kernel_rfl) (by kernel_rfl) (by kernel_rfl) (fun _ _ _ h => h) (Or.inl ⟨by kernel_rfl, ?hyq2101⟩) hS0 ?restq2101
        case hyq2101 => intro w hSw; (try dsimp only at hSw); go_simp; (try with_reducible rfl)
        (try simp only [Act.put, List.setIfInBounds_toArray, List.set_cons_zero, List.set_cons_succ])
        refine wpAnyU_takeF (i := 2) (oi := ⟨some 130, _, _, _, _, _⟩) (v := ?vq2102) rfl (by kernel_rfl) (by kernel_rfl) (by kernel_rfl) (fun _ _ _ h => h) (Or.inl ⟨by kernel_rfl, ?hyq2102⟩) (fun _ => hS0) ?restq2102
        case hyq2102 => intro w hSw; clear hSw; go_simp; (try with_reducible rfl)
        (try simp only [Act.put, List.setIfInBounds_toArray, List.set_cons_zero, List.set_cons_succ])
        refine wpAnyU_takeF (i := 3) (oi := ⟨some 131, _, _, _, _, _⟩) (v := ?vq2103) rfl (by kernel_rfl) (by kernel_rfl) (by kernel_rfl) (fun _ _ _ h => h) (Or.inl ⟨by kernel_rfl, ?hyq2103⟩) (fun _ => hS0) ?restq2103
        case hyq2103 => intro w hSw; clear hSw; go_simp; (try with_reducible rfl)
        (try simp only [Act.put, List.setIfInBounds_toArray, List.set_cons_zero, List.set_cons_succ])
        refine wpAnyU_takeF (i := 4) (oi := ⟨some 132, _, _, _, _, _⟩) (v := ?vq2104) rfl (by kernel_rfl) (by kernel_rfl) (by kernel_rfl) (fun _ _ _ h => h) (Or.inl ⟨by kernel_rfl, ?hyq2104⟩) (fun _ => hS0) ?restq2104
        case hyq2104 => intro w hSw; clear hSw; go_simp; (try with_reducible rfl)
        (try simp only [Act.put, List.setIfInBounds_toArray, List.set_cons_zero, List.set_cons_succ])
        refine wpAnyU_takeF (i := 5) (oi := ⟨some 133, _, _, _, _, _⟩) (v := ?vq2105) rfl (by kernel_rfl) (by kernel_rfl) (by kernel_rfl) (fun _ _ _ h => h) (Or.inl ⟨by kernel_rfl, ?hyq2105⟩) (fun _ => hS0) ?restq2105
        case hyq2105 => intro w hSw; clear hSw; go_simp; (try with_reducible rfl)
        (try simp only [Act.put, List.setIfInBounds_toArray, List.set_cons_zero, List.set_cons_succ])
        refine wpAnyU_takeF (i := 6) (oi := ⟨some 134, _, _, _, _, _⟩) (v := ?vq2106) rfl (by kernel_rfl) (by kernel_rfl) (by kernel_rfl) (fun _ _ _ h => h) (Or.inl ⟨by kernel_rfl, ?hyq2106⟩) (fun _ => hS0) ?restq2106
        case hyq2106 => intro w hSw; clear hSw; go_simp; (try with_reducible rfl)
        (try simp only [Act.put, List.setIfInBounds_toArray, List.set_cons_zero, List.set_cons_succ])
        refine wpAnyU_takeF (i := 7) (oi := ⟨some 135, _, _, _, _, _⟩) (v := ?vq2107) rfl (by kernel_rfl) (by kernel_rfl) (by kernel_rfl) (fun _ _ _ h => h) (Or.inl ⟨by kernel_rfl, ?hyq2107⟩) (fun _ => hS0) ?restq2107
        case hyq2107 => intro w hSw; clear hSw; go_simp; (try with_reducible rfl)
        (try simp only [Act.put, List.setIfInBounds_toArray, List.set_cons_zero, List.set_cons_succ])
        refine wpAnyU_ready (rs := [1, 8]) (by kernel_rfl) (by simp) ?_
        refine AllReadyU.cons (o := ⟨some 129, _, _, _, _, _⟩) rfl (fun K hK => ?_) (AllReadyU.cons (o := ⟨some 136, _, _, _, _, _⟩) rfl (fun K hK => ?_) AllReadyU.nil)
        ·go_simp
         refine hK.out _ _ (fun _ => hSA) ?_
         clear hK K
         (try simp only [Act.put, List.setIfInBounds_toArray, List.set_cons_zero, List.set_cons_succ])
         refine wpAnyU_ready (rs := [8]) (by kernel_rfl) (by simp) ?_
         refine AllReadyU.cons (o := ⟨some 136, _, _, _, _, _⟩) rfl (fun K hK => ?_) AllReadyU.nil
         go_simp
         refine hK.out _ _ (fun _ => hSA2) ?_
         clear hK K
         (try simp only [Act.put, List.setIfInBounds_toArray, List.set_cons_zero, List.set_cons_succ])
         refine wpAnyU_ready (rs := [9]) (by kernel_rfl) (by simp) ?_
         refine AllReadyU.cons (o := ⟨some 137, _, _, _, _, _⟩) rfl (fun K hK => ?_) AllReadyU.nil
         go_simp
         go_at_call 8
         refine (CS2.out _ _ _ (bthen HBD.out HBA2.out) HRA.out HPA.out).mono ?_
         rintro e w9 ⟨ov2, nv2, rfl, hb9⟩
         have HB9d := Lib.hid (bthen HBA2.out hb9)
         have HB9 := Lib.hid (bthen HBD.out HB9d.out)
         clear hb9
         (try dsimp only)
         refine hK.out _ _ (fun h => Bool.noConfusion (h.symm.trans (by kernel_rfl : _ = false))) ?_
         clear hK K
         (try simp only [Act.put, List.setIfInBounds_toArray, List.set_cons_zero, List.set_cons_succ])
         refine wpAnyU_takeF (i := 10) (oi := ⟨some 127, _, _, _, _, _⟩) (v := ?vq2108) rfl (by kernel_rfl) (by kernel_rfl) (by kernel_rfl) (fun _ _ _ h => h) (Or.inl ⟨by kernel_rfl, ?hyq2108⟩) (fun h => Bool.noConfusion (h.symm.trans (by kernel_rfl : _ = false))) ?restq2108
         case hyq2108 => intro w hSw; clear hSw; go_simp; (try with_reducible rfl)
         (try simp only [Act.put, List.setIfInBounds_toArray, List.set_cons_zero, List.set_cons_succ])
         refine wpAnyU_takeF (i := 11) (oi := ⟨some 138, _, _, _, _, _⟩) (v := ?vq2109) rfl (by kernel_rfl) (by kernel_rfl) (by kernel_rfl) (fun _ _ _ h => h) (Or.inl ⟨by kernel_rfl, ?hyq2109⟩) (fun h => Bool.noConfusion (h.symm.trans (by kernel_rfl : _ = false))) ?restq2109
         case hyq2109 => intro w hSw; clear hSw; go_simp; (try with_reducible rfl)
         (try simp only [Act.put, List.setIfInBounds_toArray, List.set_cons_zero, List.set_cons_succ])
         refine wpAnyU_takeF (i := 12) (oi := ⟨some 139, _, _, _, _, _⟩) (v := ?vq2110) rfl (by kernel_rfl) (by kernel_rfl) (by kernel_rfl) (fun _ _ _ h => h) (Or.inl ⟨by kernel_rfl, ?hyq2110⟩) (fun h => Bool.noConfusion (h.symm.trans (by kernel_rfl : _ = false))) ?restq2110
         case hyq2110 => intro w hSw; clear hSw; go_simp; (try with_reducible rfl)
         (try simp only [Act.put, List.setIfInBounds_toArray, List.set_cons_zero, List.set_cons_succ])
         refine wpAnyU_takeF (i := 13) (oi := ⟨some 140, _, _, _, _, _⟩) (v := ?vq2111) rfl (by kernel_rfl) (by kernel_rfl) (by kernel_rfl) (fun _ _ _ h => h) (Or.inl ⟨by kernel_rfl, ?hyq2111⟩) (fun h => Bool.noConfusion (h.symm.trans (by kernel_rfl : _ = false))) ?restq2111
         case hyq2111 => intro w hSw; clear hSw; go_simp; (try with_reducible rfl)
         (try simp only [Act.put, List.setIfInBounds_toArray, List.set_cons_zero, List.set_cons_succ])
         refine wpAnyU_ready (rs := [14]) (by kernel_rfl) (by simp) ?_
         refine AllReadyU.cons (o := ⟨some 17, _, _, _, _, _⟩) rfl (fun K hK => ?_) AllReadyU.nil
         go_simp
         refine hK.out _ _ (fun h => Bool.noConfusion (h.symm.trans (by kernel_rfl : _ = false))) ?_
         clear hK K
         (try simp only [Act.put, List.setIfInBounds_toArray, List.set_cons_zero, List.set_cons_succ])
         refine wpAnyU_ready (rs := [15]) (by kernel_rfl) (by simp) ?_
         refine AllReadyU.cons (o := ⟨some 18, _, _, _, _, _⟩) rfl (fun K hK => ?_) AllReadyU.nil
         go_simp
         refine hK.out _ _ (fun h => Bool.noConfusion (h.symm.trans (by kernel_rfl : _ = false))) ?_
         clear hK K
         (try simp only [Act.put, List.setIfInBounds_toArray, List.set_cons_zero, List.set_cons_succ])
         refine wpAnyU_ready (rs := [16]) (by kernel_rfl) (by simp) ?_
         refine AllReadyU.cons (o := ⟨some 19, _, _, _, _, _⟩) rfl (fun K hK => ?_) AllReadyU.nil
         go_simp
         refine hK.out _ _ (fun h => Bool.noConfusion (h.symm.trans (by kernel_rfl : _ = false))) ?_
         clear hK K
         (try simp only [Act.put, List.setIfInBounds_toArray, List.set_cons_zero, List.set_cons_succ])
         refine wpAnyU_done (by kernel_rfl) ?_ _
         clear hS0 hSA hSB hSA2 hSB2 hs1 hs2 hs3 hs4 hs5
         go_wp2_with fail
         refine (CF.out w9 (bthen HBZ.out HB9.out)).mono ?_
         rintro e w10 ⟨rfl, hb10⟩
         have HB10d := Lib.hid (bthen HB9d.out hb10)
         have HB10 := Lib.hid (bthen HB9.out hb10)
         have CSM := Lib.hid (ref_Same11 ov _ A A HLL.out.2 HLL.out.2 w10 (HO8.out.below HB10d.out) (Row.of_owns (HRZ.out.below HB10.out).a))
         clear hb10
         go_wp2_with fail
         refine CSM.out.mono ?_
         rintro e w11 ⟨x, rfl, hx, hb11⟩
         obtain rfl : x = true := hx.2 rfl
         have HB11 := Lib.hid (bthen HB10.out hb11)
         have HXE := Lib.hid (HQ.out w11 (bthen HBZ.out HB11.out))
         have c4 := (HRZ.out.below HB11.out).r.cells.2.2.2.2.1
         have cb1 := (HRZ.out.below HB11.out).b.cellAt 1 (by omega)
         rw [show (partsV (byL cs))[1]? = some (.int .i64 (cs.length : Int)) from rfl] at cb1
         clear hb11 hx CSM
         by_cases hone : cs.length = 1
         ·have hX2 := hHX2.out
          rw [if_pos hone] at hX2
          subst hX2
          have d1 : ((cs.length : Int) == 1) = true := by rw [beq_iff_eq]; omega
          go_wp2_with fail
          exact HXE.out
         ·have hX2 := hHX2.out
          rw [if_neg hone] at hX2
          subst hX2
          have d1 : ((cs.length : Int) == 1) = false := by rw [beq_eq_false_iff_ne]; omega
          go_wp2_with fail
          exact HXE.out
        ·go_simp
         refine hK.out _ _ (fun _ => hSB) ?_
         clear hK K
         (try simp only [Act.put, List.setIfInBounds_toArray, List.set_cons_zero, List.set_cons_succ])
         refine wpAnyU_ready (rs := [1]) (by kernel_rfl) (by simp) ?_
         refine AllReadyU.cons (o := ⟨some 129, _, _, _, _, _⟩) rfl (fun K hK => ?_) AllReadyU.nil
         go_simp
         refine hK.out _ _ (fun _ => hSB2) ?_
         clear hK K
         (try simp only [Act.put, List.setIfInBounds_toArray, List.set_cons_zero, List.set_cons_succ])
         refine wpAnyU_ready (rs := [9]) (by kernel_rfl) (by simp) ?_
         refine AllReadyU.cons (o := ⟨some 137, _, _, _, _, _⟩) rfl (fun K hK => ?_) AllReadyU.nil
         go_simp
         go_at_call 8
         refine (CS2.out _ _ _ (bthen HBD.out HBB2.out) HRB.out HPB.out).mono ?_
         rintro e w9 ⟨ov2, nv2, rfl, hb9⟩
         have HB9d := Lib.hid (bthen HBB2.out hb9)
         have HB9 := Lib.hid (bthen HBD.out HB9d.out)
         clear hb9
         (try dsimp only)
         refine hK.out _ _ (fun h => Bool.noConfusion (h.symm.trans (by kernel_rfl : _ = false))) ?_
         clear hK K
         (try simp only [Act.put, List.setIfInBounds_toArray, List.set_cons_zero, List.set_cons_succ])
         refine wpAnyU_takeF (i := 10) (oi := ⟨some 127, _, _, _, _, _⟩) (v := ?vq2112) rfl (by kernel_rfl) (by kernel_rfl) (by kernel_rfl) (fun _ _ _ h => h) (Or.inl ⟨by kernel_rfl, ?hyq2112⟩) (fun h => Bool.noConfusion (h.symm.trans (by kernel_rfl : _ = false))) ?restq2112
         case hyq2112 => intro w hSw; clear hSw; go_simp; (try with_reducible rfl)
         (try simp only [Act.put, List.setIfInBounds_toArray, List.set_cons_zero, List.set_cons_succ])
         refine wpAnyU_takeF (i := 11) (oi := ⟨some 138, _, _, _, _, _⟩) (v := ?vq2113) rfl (by kernel_rfl) (by kernel_rfl) (by kernel_rfl) (fun _ _ _ h => h) (Or.inl ⟨by kernel_rfl, ?hyq2113⟩) (fun h => Bool.noConfusion (h.symm.trans (by kernel_rfl : _ = false))) ?restq2113
         case hyq2113 => intro w hSw; clear hSw; go_simp; (try with_reducible rfl)
         (try simp only [Act.put, List.setIfInBounds_toArray, List.set_cons_zero, List.set_cons_succ])
         refine wpAnyU_takeF (i := 12) (oi := ⟨some 139, _, _, _, _, _⟩) (v := ?vq2114) rfl (by kernel_rfl) (by kernel_rfl) (by kernel_rfl) (fun _ _ _ h => h) (Or.inl ⟨by kernel_rfl, ?hyq2114⟩) (fun h => Bool.noConfusion (h.symm.trans (by kernel_rfl : _ = false))) ?restq2114
         case hyq2114 => intro w hSw; clear hSw; go_simp; (try with_reducible rfl)
         (try simp only [Act.put, List.setIfInBounds_toArray, List.set_cons_zero, List.set_cons_succ])
         refine wpAnyU_takeF (i := 13) (oi := ⟨some 140, _, _, _, _, _⟩) (v := ?vq2115) rfl (by kernel_rfl) (by kernel_rfl) (by kernel_rfl) (fun _ _ _ h => h) (Or.inl ⟨by kernel_rfl, ?hyq2115⟩) (fun h => Bool.noConfusion (h.symm.trans (by kernel_rfl : _ = false))) ?restq2115
         case hyq2115 => intro w hSw; clear hSw; go_simp; (try with_reducible rfl)
         (try simp only [Act.put, List.setIfInBounds_toArray, List.set_cons_zero, List.set_cons_succ])
         refine wpAnyU_ready (rs := [14]) (by kernel_rfl) (by simp) ?_
         refine AllReadyU.cons (o := ⟨some 17, _, _, _, _, _⟩) rfl (fun K hK => ?_) AllReadyU.nil
         go_simp
         refine hK.out _ _ (fun h => Bool.noConfusion (h.symm.trans (by kernel_rfl : _ = false))) ?_
         clear hK K
         (try simp only [Act.put, List.setIfInBounds_toArray, List.set_cons_zero, List.set_cons_succ])
         refine wpAnyU_ready (rs := [15]) (by kernel_rfl) (by simp) ?_
         refine AllReadyU.cons (o := ⟨some 18, _, _, _, _, _⟩) rfl (fun K hK => ?_) AllReadyU.nil
         go_simp
         refine hK.out _ _ (fun h => Bool.noConfusion (h.symm.trans (by kernel_rfl : _ = false))) ?_
         clear hK K
         (try simp only [Act.put, List.setIfInBounds_toArray, List.set_cons_zero, List.set_cons_succ])
         refine wpAnyU_ready (rs := [16]) (by kernel_rfl) (by simp) ?_
         refine AllReadyU.cons (o := ⟨some 19, _, _, _, _, _⟩) rfl (fun K hK => ?_) AllReadyU.nil
         go_simp
         refine hK.out _ _ (fun h => Bool.noConfusion (h.symm.trans (by kernel_rfl : _ = false))) ?_
         clear hK K
         (try simp only [Act.put, List.setIfInBounds_toArray, List.set_cons_zero, List.set_cons_succ])
         refine wpAnyU_done (by kernel_rfl) ?_ _
         clear hS0 hSA hSB hSA2 hSB2 hs1 hs2 hs3 hs4 hs5
         go_wp2_with fail
         refine (CF.out w9 (bthen HBZ.out HB9.out)).mono ?_
         rintro e w10 ⟨rfl, hb10⟩
         have HB10d := Lib.hid (bthen HB9d.out hb10)
         have HB10 := Lib.hid (bthen HB9.out hb10)
         have CSM := Lib.hid (ref_Same11 ov _ A A HLL.out.2 HLL.out.2 w10 (HO8.out.below HB10d.out) (Row.of_owns (HRZ.out.below HB10.out).a))
         clear hb10
         go_wp2_with fail
         refine CSM.out.mono ?_
         rintro e w11 ⟨x, rfl, hx, hb11⟩
         obtain rfl : x = true := hx.2 rfl
         have HB11 := Lib.hid (bthen HB10.out hb11)
         have HXE := Lib.hid (HQ.out w11 (bthen HBZ.out HB11.out))
         have c4 := (HRZ.out.below HB11.out).r.cells.2.2.2.2.1
         have cb1 := (HRZ.out.below HB11.out).b.cellAt 1 (by omega)
         rw [show (partsV (byL cs))[1]? = some (.int .i64 (cs.length : Int)) from rfl] at cb1
         clear hb11 hx CSM
         by_cases hone : cs.length = 1
         ·have hX2 := hHX2.out
          rw [if_pos hone] at hX2
          subst hX2
          have d1 : ((cs.length : Int) == 1) = true := by rw [beq_iff_eq]; omega
          go_wp2_with fail
          exact HXE.out
         ·have hX2 := hHX2.out
          rw [if_neg hone] at hX2
          subst hX2
          have d1 : ((cs.length : Int) == 1) = false := by rw [beq_eq_false_iff_ne]; omega
          go_wp2_with fail
          exact HXE.out
   ·have hex1 : (cs.length : Int) < x.length := by omega
    have hex3 : ¬ (cs.length : Int) < 50 := by omega
    have h50 : 50 ≤ cs.length := by omega
    go_wp2_with fail
    clear c4 c4a cb1 hw1 hw2 hw3 hw4 hw5 hw6
    generalize (wr.alloc (.cells #[.int .u8 13, .int .i64 (1 + (pm : Int) + (qm : Int)), .string ⟨#[]⟩] 38)).alloc (.cells #[.int .u8 13, .int .i64 ((cs.length : Int) + (pm : Int) + (qm : Int)), .string ⟨#[]⟩] 38) = w3 at *
    have CO := Lib.hid (fun s W => law20_one s W)
    go_loopw [9, 10, 11] (fun lv wv iv wy => rw2Rel w1 w1.heap.size (w1.heap.size + 1) (.slice (some ⟨g1, 0, none⟩) 2 2) (.slice (some ⟨gb, 0, none⟩) (byL cs).length bcap) cs (1 + (pm : Int) + (qm : Int)) ((cs.length : Int) + (pm : Int) + (qm : Int)) [] [] ⟨#[112]⟩ pm lv wv iv wy) (fun _ _ iv _ => pm - (intOf iv).toNat)
    case atStart => exact ⟨0, rfl, Nat.zero_le _, HS12.out⟩
    case round =>
     obtain ⟨n, rfl, hn, hrw⟩ := hrel
     rename World => wy
     have HRW := Lib.hid hrw
     clear hrw
     have hw2 : IntKind.i64.wrap (pm : Int) = (pm : Int) := by rw [IntKind.wrap_i64]; omega
     by_cases hlt2 : n < pm
     ·have hlt3 : (n : Int) < (pm : Int) := by omega
      have hwn : IntKind.i64.wrap ((n : Int) + 1) = (n : Int) + 1 := by rw [IntKind.wrap_i64]; omega
      go_wp2_with fail
      refine (CO.out _ _).mono ?_
      rintro e w4 ⟨ga, rfl, hza, hba⟩
      obtain ⟨v1, w5, hap1, hr1⟩ := (HRW.out.below hba).pushL hza (by rw [hdL_len]; simp; omega) (by decide)
      have HAP1 := Lib.hid hap1
      have HR1 := Lib.hid hr1
      clear hza hba hap1 hr1
      go_wp2_with (first | (at_builtin; refine wpList_append_run rfl _ _ _ _ HAP1.out rfl rfl rfl rfl ?_))
      refine (CO.out _ _).mono ?_
      rintro e w6 ⟨gc, rfl, hzc, hbc2⟩
      obtain ⟨v2, w7, hap2, hr2⟩ := (HR1.out.below hbc2).pushA hzc (by rw [hdL_len]; simp; omega) (by decide)
      have HAP2 := Lib.hid hap2
      have HR2 : RowKit.Hid (rw2Rel w1 w1.heap.size (w1.heap.size + 1) (.slice (some ⟨g1, 0, none⟩) 2 2) (.slice (some ⟨gb, 0, none⟩) (byL cs).length bcap) cs (1 + (pm : Int) + (qm : Int)) ((cs.length : Int) + (pm : Int) + (qm : Int)) [] [] ⟨#[112]⟩ pm v1 v2 (.int .i64 ((n : Int) + 1)) w7) := Lib.hid ⟨n + 1, by push_cast; rfl, hlt2, by
       rw [List.replicate_succ', ← List.append_assoc, ← hdL_one, ← hdL_one]; exact hr2⟩
      clear hzc hbc2 hap2 hr2
      go_wp2_with (first | (at_builtin; refine wpList_append_run rfl _ _ _ _ HAP2.out rfl rfl rfl rfl ?_))
      exact ⟨HR2.out, by simp only [intOf]; omega⟩
     ·obtain rfl : n = pm := by omega
      have hlt3 : ¬ (n : Int) < (n : Int) := by omega
      obtain ⟨gl, lc, hlv, _, _, hlc, _, _⟩ := rv_shape HRW.out.l (by rw [hdL_len]; omega)
      have hll : (hdL (1 + (n : Int) + (qm : Int)) ([] ++ List.replicate n ⟨#[112]⟩)).length = 1 + 2 * n := by rw [hdL_len]; simp
      rw [hll] at hlv hlc
      subst hlv
      obtain ⟨at', hat⟩ : ∃ at', 1 + 2 * n = at' := ⟨_, rfl⟩
      rw [hat] at hll hlc HRW ⊢
      have hatn : at' ≤ 50 := by omega
      have HAT := Lib.hid hat
      clear hat
      go_wp2_with fail
      refine (CO.out _ _).mono ?_
      rintro e w4 ⟨ga, rfl, hza, hba⟩
      have HR4b := HRW.out.below hba
      obtain ⟨v1, w5, hap1, hr1⟩ := HR4b.pushL hza (by rw [hll]; omega) (by decide)
      have HAP1 := Lib.hid hap1
      have HR1 := Lib.hid hr1
      obtain ⟨vb1, hbB, hbl1⟩ : True ∧ True ∧ gb < w5.heap.size := ⟨trivial, trivial, (hr1.b.lt gb rfl).2⟩
      have hb1 : ¬ bcap = 1 := by rw [byL_len] at hbc; omega
      obtain ⟨v2, w6, hap2, hr2⟩ := hr1.pushA (by_tail hr1.b (by omega) hbl1) (by rw [hdL_len]; simp; omega) (by rw [stmtsL_len]; omega)
      have hE : 2 * cs.length = (byL cs).length - 1 := by rw [byL_len]; omega
      rw [hE] at hap2
      clear hE
      have HAP2 := Lib.hid hap2
      have HR2 := Lib.hid hr2
      have c4 := hr1.r.cells.2.2.2.2.1
      clear hza hba hap1 hr1 HR4b hap2 hr2
      have hb1c : (1 : Int) ≤ ((byL cs).length : Int) := by omega
      go_wp2_with (first | (at_builtin; refine wpList_append_run rfl _ _ _ _ HAP1.out rfl rfl rfl rfl ?_) | (at_builtin; refine wpList_append_run rfl _ _ _ _ HAP2.out rfl rfl rfl rfl ?_))
      have hw2 : IntKind.i64.wrap (qm : Int) = (qm : Int) := by rw [IntKind.wrap_i64]; omega
      have HR3 : RowKit.Hid (Rw3 w1 w1.heap.size (w1.heap.size + 1) (.slice (some ⟨g1, 0, none⟩) 2 2) (.slice (some ⟨gb, 0, none⟩) (byL cs).length bcap) v1 v2 (byL cs) (hdL (1 + (n : Int) + (qm : Int)) (([] ++ List.replicate n ⟨#[112]⟩) ++ [⟨#[122]⟩])) (hdL ((cs.length : Int) + (n : Int) + (qm : Int)) (([] ++ List.replicate n ⟨#[112]⟩) ++ cs)) w6) := Lib.hid (by
       rw [← hdL_one, ← hdL_app _ ([] ++ List.replicate n (⟨#[112]⟩ : ByteArray)) cs]; exact HR2.out)
      go_loopw [9, 10, 13] (fun lv wv iv wy => rw2Rel w1 w1.heap.size (w1.heap.size + 1) (.slice (some ⟨g1, 0, none⟩) 2 2) (.slice (some ⟨gb, 0, none⟩) (byL cs).length bcap) cs (1 + (n : Int) + (qm : Int)) ((cs.length : Int) + (n : Int) + (qm : Int)) (([] ++ List.replicate n ⟨#[112]⟩) ++ [⟨#[122]⟩]) (([] ++ List.replicate n ⟨#[112]⟩) ++ cs) ⟨#[113]⟩ qm lv wv iv wy) (fun _ _ iv _ => qm - (intOf iv).toNat)
      case atStart => exact ⟨0, rfl, Nat.zero_le _, by rw [List.replicate_zero, List.append_nil, List.append_nil]; exact HR3.out⟩
      case round =>
       obtain ⟨m, rfl, hm, hrw⟩ := hrel
       rename World => wz
       have HRW3 := Lib.hid hrw
       clear hrw
       by_cases hlt4 : m < qm
       ·have hlt5 : (m : Int) < (qm : Int) := by omega
        have hwn : IntKind.i64.wrap ((m : Int) + 1) = (m : Int) + 1 := by rw [IntKind.wrap_i64]; omega
        go_wp2_with fail
        refine (CO.out _ _).mono ?_
        rintro e w7 ⟨ga, rfl, hza, hba⟩
        obtain ⟨v3, w8, hap1, hr1⟩ := (HRW3.out.below hba).pushL hza (by rw [hdL_len]; simp; omega) (by decide)
        have HAP3 := Lib.hid hap1
        have HR5 := Lib.hid hr1
        clear hza hba hap1 hr1
        go_wp2_with (first | (at_builtin; refine wpList_append_run rfl _ _ _ _ HAP3.out rfl rfl rfl rfl ?_))
        refine (CO.out _ _).mono ?_
        rintro e w9 ⟨gc, rfl, hzc, hbc2⟩
        obtain ⟨v4, w10, hap2, hr2⟩ := (HR5.out.below hbc2).pushA hzc (by rw [hdL_len]; simp; omega) (by decide)
        have HAP4 := Lib.hid hap2
        have HR6 : RowKit.Hid (rw2Rel w1 w1.heap.size (w1.heap.size + 1) (.slice (some ⟨g1, 0, none⟩) 2 2) (.slice (some ⟨gb, 0, none⟩) (byL cs).length bcap) cs (1 + (n : Int) + (qm : Int)) ((cs.length : Int) + (n : Int) + (qm : Int)) (([] ++ List.replicate n ⟨#[112]⟩) ++ [⟨#[122]⟩]) (([] ++ List.replicate n ⟨#[112]⟩) ++ cs) ⟨#[113]⟩ qm v3 v4 (.int .i64 ((m : Int) + 1)) w10) := Lib.hid ⟨m + 1, by push_cast; rfl, hlt4, by
         rw [List.replicate_succ', ← List.append_assoc _ (List.replicate m _), ← List.append_assoc _ (List.replicate m _), ← hdL_one, ← hdL_one]; exact hr2⟩
        clear hzc hbc2 hap2 hr2
        go_wp2_with (first | (at_builtin; refine wpList_append_run rfl _ _ _ _ HAP4.out rfl rfl rfl rfl ?_))
        exact ⟨HR6.out, by simp only [intOf]; omega⟩
       ·obtain rfl : m = qm := by omega
        have hlt5 : ¬ (m : Int) < (m : Int) := by omega
        have hz7 := HRW3.out
        rw [hdL_l, hdL_a] at hz7
        have hX : (List.replicate n (⟨#[112]⟩ : ByteArray)).length = n := List.length_replicate
        have hY : (List.replicate m (⟨#[113]⟩ : ByteArray)).length = m := List.length_replicate
        have hns : ∀ c ∈ cs, NameP c := fun c hc => (HCN.out c hc).1
        have hsz : ∀ c ∈ cs, c.size ≤ 1 := fun c hc => (HCN.out c hc).2
        have hSL : SmallL (byL (List.replicate n (⟨#[112]⟩ : ByteArray) ++ (⟨#[122]⟩ : ByteArray) :: List.replicate m (⟨#[113]⟩ : ByteArray))) := by_small (fun c hc => sizes_pq (cs := [(⟨#[122]⟩ : ByteArray)]) (by intro c hc; rw [List.mem_singleton.1 hc]; decide) n m c (by rw [List.append_assoc]; exact hc)) (by rw [List.length_append, List.length_cons, hX, hY]; omega)
        have hSR := rows_small hsz (by omega)
        have hsr := step_rows (X := List.replicate n (⟨#[112]⟩ : ByteArray)) (Y := List.replicate m (⟨#[113]⟩ : ByteArray)) (⟨#[122]⟩ : ByteArray) hns (by rw [hX]; omega) (by rw [hY]; omega) (by omega)
        have hpc := at_one (X := List.replicate n (⟨#[112]⟩ : ByteArray)) (Y := List.replicate m (⟨#[113]⟩ : ByteArray)) (⟨#[122]⟩ : ByteArray)
        have hll := byL_len (List.replicate n (⟨#[112]⟩ : ByteArray) ++ (⟨#[122]⟩ : ByteArray) :: List.replicate m (⟨#[113]⟩ : ByteArray))
        rw [List.length_append, List.length_cons, hX, hY] at hll
        have hla := byL_len (List.replicate n (⟨#[112]⟩ : ByteArray) ++ cs ++ List.replicate m (⟨#[113]⟩ : ByteArray))
        rw [List.length_append, List.length_append, hX, hY] at hla
        rw [hX, HAT.out] at hsr hpc
        obtain ⟨az, hst, haz⟩ := hsr
        have hrt := step_root (cs := cs) (⟨#[122]⟩ : ByteArray) hns (by omega)
        have hatl := HAT.out
        clear hX hY HRW3
        generalize byL (List.replicate n (⟨#[112]⟩ : ByteArray) ++ (⟨#[122]⟩ : ByteArray) :: List.replicate m (⟨#[113]⟩ : ByteArray)) = L at *
        generalize byL (List.replicate n (⟨#[112]⟩ : ByteArray) ++ cs ++ List.replicate m (⟨#[113]⟩ : ByteArray)) = A at *
        obtain ⟨gl2, lc2, hlv2, _, hgl2, hlc2, _, _⟩ := rv_shape hz7.l (by omega)
        subst hlv2
        have HRZ := Lib.hid hz7
        have HBZ := Lib.hid (bthen HB1.out hz7.h)
        have HZF : RowKit.Hid (∀ W, Below wz.heap.size wz W → RulesIn (W.alloc (.cells #[.string ⟨#[114]⟩, .int .u8 3, .slice none 0 0, .slice (some ⟨g1, 0, none⟩) 2 2, .slice (some ⟨gb, 0, none⟩) (byL cs).length bcap] 43)) (.slice (some ⟨W.heap.size, 0, none⟩) 1 1) [(rowsRule cs, .slice none 0 0, .slice (some ⟨g1, 0, none⟩) 2 2, .slice (some ⟨gb, 0, none⟩) (byL cs).length bcap)]) := Lib.hid fun W hb => rows_held (HZ1.out.below (bthen hz7.h hb)) (PartRow.below (Row.of_owns hz7.b) hb)
        have HLF : RowKit.Hid (∀ W, Below wz.heap.size wz W → PartRow W (.slice (some ⟨gl2, 0, none⟩) L.length lc2) L) := Lib.hid fun W hb => PartRow.below (Row.of_owns hz7.l) hb
        have HBA := Lib.hid ((Below.refl wz.heap.size wz).alloc (Nat.le_refl _) (.cells #[.string ⟨#[114]⟩, .int .u8 3, .slice none 0 0, .slice (some ⟨g1, 0, none⟩) 2 2, .slice (some ⟨gb, 0, none⟩) (byL cs).length bcap] 43))
        have HBB := Lib.hid (bthen HBA.out ((Below.refl (wz.alloc (.cells #[.string ⟨#[114]⟩, .int .u8 3, .slice none 0 0, .slice (some ⟨g1, 0, none⟩) 2 2, .slice (some ⟨gb, 0, none⟩) (byL cs).length bcap] 43)).heap.size (wz.alloc (.cells #[.string ⟨#[114]⟩, .int .u8 3, .slice none 0 0, .slice (some ⟨g1, 0, none⟩) 2 2, .slice (some ⟨gb, 0, none⟩) (byL cs).length bcap] 43))).alloc (Nat.le_refl _) (.cells #[.int .i64 0, .int .i64 (at' : Int), .slice none 0 0] 35)))
        have HPI := Lib.hid (pick_held (wz.alloc (.cells #[.string ⟨#[114]⟩, .int .u8 3, .slice none 0 0, .slice (some ⟨g1, 0, none⟩) 2 2, .slice (some ⟨gb, 0, none⟩) (byL cs).length bcap] 43)) (at' : Int))
        rw [World.size_alloc] at HPI
        have hX1 : ∀ x ∈ ([(rowsRule cs, .slice none 0 0, .slice (some ⟨g1, 0, none⟩) 2 2, .slice (some ⟨gb, 0, none⟩) (byL cs).length bcap)] : List RuleX), SmallR x.1 := fun x hx => by rw [List.mem_singleton.1 hx]; exact hSR
        have hP1 : ∀ z : Int, ([((0, z, []), .slice none 0 0)] : List PkX).length ≤ 1048576 ∧ ∀ x ∈ ([((0, z, []), .slice none 0 0)] : List PkX), x.1.2.2.length ≤ 1048576 := fun z => ⟨by show 1 ≤ 1048576; omega, fun x hx => by rw [List.mem_singleton.1 hx]; exact Nat.zero_le _⟩
        have CS1 := Lib.hid (fill_Step [(rowsRule cs, .slice none 0 0, .slice (some ⟨g1, 0, none⟩) 2 2, .slice (some ⟨gb, 0, none⟩) (byL cs).length bcap)] hX1 L hSL [((0, (at' : Int), []), .slice none 0 0)] (hP1 _) (.slice (some ⟨wz.heap.size, 0, none⟩) 1 1) (.slice (some ⟨gl2, 0, none⟩) L.length lc2) (.slice (some ⟨wz.heap.size + 1, 0, none⟩) 1 1) _ (HH.out.T.below (bthen HBZ.out HBB.out)) (HH.out.M.below (bthen HBZ.out HBB.out)) ((HZF.out wz (Below.refl _ _)).below ((Below.refl _ _).alloc (Nat.le_refl _) _)) (HLF.out _ HBB.out) HPI.out)
        obtain ⟨X2, hX2⟩ : ∃ X2 : Int, (if cs.length = 1 then (0 : Int) else 12) = X2 := ⟨_, rfl⟩
        have hpr := piece_row (HLF.out _ (Below.refl _ _)) (show at' < at' + 2 by omega) (by omega)
        rw [hpc] at hpr
        have h22 : at' + 2 - at' = 2 := by omega
        rw [h22] at hpr
        have hs1 : (at' : Int) + 2 ≤ (lc2 : Int) := by omega
        have hs2 : ¬ lc2 = at' := by omega
        have hs3 : (0 : Int) ≤ (at' : Int) + 2 := by omega
        have hs4 : (at' : Int) ≤ (at' : Int) + 2 := by omega
        have hs5 : ((at' : Int) + 2).toNat - at' = 2 := by omega
        have HS12 := Lib.hid (And.intro hs1 (And.intro hs2 (And.intro hs3 (And.intro hs4 hs5))))
        have CS2 : RowKit.Hid (∀ Wc vr vp, Below wz.heap.size wz Wc → RulesIn Wc vr [(rowsRule cs, .slice none 0 0, .slice (some ⟨g1, 0, none⟩) 2 2, .slice (some ⟨gb, 0, none⟩) (byL cs).length bcap)] → PicksIn Wc vp [((0, 0, []), .slice none 0 0)] → Calls Tryd.prog 8 #[vr, .slice (some ⟨gl2, at' * 3, none⟩) 2 (lc2 - at'), vp] Wc fun e w' => ∃ ov nv, e = .returned (.tuple #[ov, nv, .int .i64 X2]) ∧ Below Wc.heap.size Wc w') := Lib.hid fun Wc vr vp hb h1 h2 => (fill_Step [(rowsRule cs, .slice none 0 0, .slice (some ⟨g1, 0, none⟩) 2 2, .slice (some ⟨gb, 0, none⟩) (byL cs).length bcap)] hX1 (oneL (⟨#[122]⟩ : ByteArray)) (one_small (by decide)) [((0, 0, []), .slice none 0 0)] (hP1 _) vr (.slice (some ⟨gl2, at' * 3, none⟩) 2 (lc2 - at')) vp Wc (HH.out.T.below (bthen HBZ.out hb)) (HH.out.M.below (bthen HBZ.out hb)) h1 (hpr.below hb) h2).mono fun e w' h => by
         unfold stepPost at h
         simp only [List.map_cons, List.map_nil] at h
         obtain ⟨k1, o1, o2, k2, -⟩ := h
         rw [hrt, hX2] at k2
         exact ⟨o1, o2, k2, k1⟩
        obtain ⟨c0, c1, c2, c3, c4, -⟩ := hz7.r.cells
        have hHX2 := Lib.hid hX2
        have HTS := Lib.hid hst
        have HAZ := Lib.hid haz
        have hwat : IntKind.i64.wrap ((at' : Int) + 2) = (at' : Int) + 2 := by rw [IntKind.wrap_i64]; omega
        have HLL : RowKit.Hid (L.length ≤ 1000000000 ∧ A.length ≤ 1000000000) := Lib.hid ⟨by omega, by omega⟩
        have hat2 : at' + 2 ≤ L.length := by omega
        clear hX2 hs1 hs2 hs3 hs4 hs5 hst haz hz7 hSL hSR hns hsz hpc hrt hpr hX1 hP1 h22 hll hla hatl
        go_wp2_with fail
        refine CS1.out.mono ?_
        intro e w8 h8
        unfold stepPost at h8
        simp only [List.map_cons, List.map_nil] at h8
        rw [HTS.out] at h8
        obtain ⟨hb8, ov, nv, rfl, ho8, -⟩ := h8
        simp only [] at ho8
        have HB8 := Lib.hid (bthen HBB.out hb8)
        have HBD : RowKit.Hid (Below wz.heap.size wz w8.drew) := Lib.hid HB8.out.drew
        have HO8 : RowKit.Hid (PartRow w8.drew ov A) := Lib.hid (by
         have h := Row.of_owns ho8
         have h2 : PartRow w8 ov A := by unfold PartRow; rw [← HAZ.out, List.length_map]; exact h
         exact h2.below (Below.refl _ _).drew)
        have HRD : RowKit.Hid (RuB w8.drew (w1.heap.size + 1) (.slice (some ⟨g1, 0, none⟩) 2 2) (.slice (some ⟨gb, 0, none⟩) (byL cs).length bcap)) := Lib.hid (HRZ.out.below HBD.out).r
        clear c0 c1 c2 c3 c4 hb8 ho8 CS1 HB8
        go_upto_region 23 with (fail)
        obtain ⟨hs1, hs2, hs3, hs4, hs5⟩ := HS12.out
        refine wp_region_until (S := (fun W' => W'.cell? ⟨w1.heap.size + 1, 0, none⟩ = some (.string ⟨#[114]⟩) ∧ W'.cell? ⟨w1.heap.size + 1, 1, none⟩ = some (.int .u8 3) ∧ W'.cell? ⟨w1.heap.size + 1, 2, none⟩ = some (.slice none 0 0) ∧ W'.cell? ⟨w1.heap.size + 1, 3, none⟩ = some (.slice (some ⟨g1, 0, none⟩) 2 2) ∧ W'.cell? ⟨w1.heap.size + 1, 4, none⟩ = some (.slice (some ⟨gb, 0, none⟩) (byL cs).length bcap) ∧ W'.frozen? ⟨w1.heap.size + 1, 4, none⟩ = false)) [9] (by kernel_rfl) ?_
        generalize w8.drew = wd at *
        have hS0 := HRD.out.cells
        have hSA := (HRD.out.keep ((Below.refl wd.heap.size wd).alloc (Nat.le_refl _) (.cells #[.string ⟨#[114]⟩, .int .u8 3, .slice none 0 0, .slice (some ⟨g1, 0, none⟩) 2 2, .slice (some ⟨gb, 0, none⟩) (byL cs).length bcap] 43))).cells
        have hSB := (HRD.out.keep ((Below.refl wd.heap.size wd).alloc (Nat.le_refl _) (.cells #[.int .i64 0, .int .i64 0, .slice none 0 0] 35))).cells
        have HBDA := Lib.hid ((Below.refl wd.heap.size wd).alloc (Nat.le_refl _) (.cells #[.string ⟨#[114]⟩, .int .u8 3, .slice none 0 0, .slice (some ⟨g1, 0, none⟩) 2 2, .slice (some ⟨gb, 0, none⟩) (byL cs).length bcap] 43))
        have HBDB := Lib.hid ((Below.refl wd.heap.size wd).alloc (Nat.le_refl _) (.cells #[.int .i64 0, .int .i64 0, .slice none 0 0] 35))
        have HBA2 := Lib.hid (bthen HBDA.out ((Below.refl (wd.alloc (.cells #[.string ⟨#[114]⟩, .int .u8 3, .slice none 0 0, .slice (some ⟨g1, 0, none⟩) 2 2, .slice (some ⟨gb, 0, none⟩) (byL cs).length bcap] 43)).heap.size (wd.alloc (.cells #[.string ⟨#[114]⟩, .int .u8 3, .slice none 0 0, .slice (some ⟨g1, 0, none⟩) 2 2, .slice (some ⟨gb, 0, none⟩) (byL cs).length bcap] 43))).alloc (Nat.le_refl _) (.cells #[.int .i64 0, .int .i64 0, .slice none 0 0] 35)))
        have HBB2 := Lib.hid (bthen HBDB.out ((Below.refl (wd.alloc (.cells #[.int .i64 0, .int .i64 0, .slice none 0 0] 35)).heap.size (wd.alloc (.cells #[.int .i64 0, .int .i64 0, .slice none 0 0] 35))).alloc (Nat.le_refl _) (.cells #[.string ⟨#[114]⟩, .int .u8 3, .slice none 0 0, .slice (some ⟨g1, 0, none⟩) 2 2, .slice (some ⟨gb, 0, none⟩) (byL cs).length bcap] 43)))
        have hSA2 := (HRD.out.keep HBA2.out).cells
        have hSB2 := (HRD.out.keep HBB2.out).cells
        have HRA := Lib.hid ((HZF.out wd HBD.out).below ((Below.refl _ _).alloc (Nat.le_refl _) (.cells #[.int .i64 0, .int .i64 0, .slice none 0 0] 35)))
        have HPA := Lib.hid (pick_held (wd.alloc (.cells #[.string ⟨#[114]⟩, .int .u8 3, .slice none 0 0, .slice (some ⟨g1, 0, none⟩) 2 2, .slice (some ⟨gb, 0, none⟩) (byL cs).length bcap] 43)) 0)
        rw [World.size_alloc] at HPA
        have HRB := Lib.hid (HZF.out (wd.alloc (.cells #[.int .i64 0, .int .i64 0, .slice none 0 0] 35)) (bthen HBD.out HBDB.out))
        rw [World.size_alloc] at HRB
        have HPB := Lib.hid ((pick_held wd 0).below ((Below.refl _ _).alloc (Nat.le_refl _) (.cells #[.string ⟨#[114]⟩, .int .u8 3, .slice none 0 0, .slice (some ⟨g1, 0, none⟩) 2 2, .slice (some ⟨gb, 0, none⟩) (byL cs).length bcap] 43)))
        refine wpAnyU_take [9, 1] (i := 0) (oi := ⟨some 128, _, _, _, _, _⟩) (v := ?vq3101) rfl (by kernel_rfl) (by kernel_rfl) (by kernel_rfl) (by kernel_rfl) (fun _ _ _ h => h) (Or.inl ⟨by kernel_rfl, ?hyq3101⟩) hS0 ?restq3101
        case hyq3101 => intro w hSw; (try dsimp only at hSw); go_simp; (try with_reducible rfl)
        (try simp only [Act.put, List.setIfInBounds_toArray, List.set_cons_zero, List.set_cons_succ])
        refine wpAnyU_takeF (i := 2) (oi := ⟨some 130, _, _, _, _, _⟩) (v := ?vq3102) rfl (by kernel_rfl) (by kernel_rfl) (by kernel_rfl) (fun _ _ _ h => h) (Or.inl ⟨by kernel_rfl, ?hyq3102⟩) (fun _ => hS0) ?restq3102
        case hyq3102 => intro w hSw; clear hSw; go_simp; (try with_reducible rfl)
        (try simp only [Act.put, List.setIfInBounds_toArray, List.set_cons_zero, List.set_cons_succ])
        refine wpAnyU_takeF (i := 3) (oi := ⟨some 131, _, _, _, _, _⟩) (v := ?vq3103) rfl (by kernel_rfl) (by kernel_rfl) (by kernel_rfl) (fun _ _ _ h => h) (Or.inl ⟨by kernel_rfl, ?hyq3103⟩) (fun _ => hS0) ?restq3103
        case hyq3103 => intro w hSw; clear hSw; go_simp; (try with_reducible rfl)
        (try simp only [Act.put, List.setIfInBounds_toArray, List.set_cons_zero, List.set_cons_succ])
        refine wpAnyU_takeF (i := 4) (oi := ⟨some 132, _, _, _, _, _⟩) (v := ?vq3104) rfl (by kernel_rfl) (by kernel_rfl) (by kernel_rfl) (fun _ _ _ h => h) (Or.inl ⟨by kernel_rfl, ?hyq3104⟩) (fun _ => hS0) ?restq3104
        case hyq3104 => intro w hSw; clear hSw; go_simp; (try with_reducible rfl)
        (try simp only [Act.put, List.setIfInBounds_toArray, List.set_cons_zero, List.set_cons_succ])
        refine wpAnyU_takeF (i := 5) (oi := ⟨some 133, _, _, _, _, _⟩) (v := ?vq3105) rfl (by kernel_rfl) (by kernel_rfl) (by kernel_rfl) (fun _ _ _ h => h) (Or.inl ⟨by kernel_rfl, ?hyq3105⟩) (fun _ => hS0) ?restq3105
        case hyq3105 => intro w hSw; clear hSw; go_simp; (try with_reducible rfl)
        (try simp only [Act.put, List.setIfInBounds_toArray, List.set_cons_zero, List.set_cons_succ])
        refine wpAnyU_takeF (i := 6) (oi := ⟨some 134, _, _, _, _, _⟩) (v := ?vq3106) rfl (by kernel_rfl) (by kernel_rfl) (by kernel_rfl) (fun _ _ _ h => h) (Or.inl ⟨by kernel_rfl, ?hyq3106⟩) (fun _ => hS0) ?restq3106
        case hyq3106 => intro w hSw; clear hSw; go_simp; (try with_reducible rfl)
        (try simp only [Act.put, List.setIfInBounds_toArray, List.set_cons_zero, List.set_cons_succ])
        refine wpAnyU_takeF (i := 7) (oi := ⟨some 135, _, _, _, _, _⟩) (v := ?vq3107) rfl (by kernel_rfl) (by kernel_rfl) (by kernel_rfl) (fun _ _ _ h => h) (Or.inl ⟨by kernel_rfl, ?hyq3107⟩) (fun _ => hS0) ?restq3107
        case hyq3107 => intro w hSw; clear hSw; go_simp; (try with_reducible rfl)
        (try simp only [Act.put, List.setIfInBounds_toArray, List.set_cons_zero, List.set_cons_succ])
        refine wpAnyU_ready (rs := [1, 8]) (by kernel_rfl) (by simp) ?_
        refine AllReadyU.cons (o := ⟨some 129, _, _, _, _, _⟩) rfl (fun K hK => ?_) (AllReadyU.cons (o := ⟨some 136, _, _, _, _, _⟩) rfl (fun K hK => ?_) AllReadyU.nil)
        ·go_simp
         refine hK.out _ _ (fun _ => hSA) ?_
         clear hK K
         (try simp only [Act.put, List.setIfInBounds_toArray, List.set_cons_zero, List.set_cons_succ])
         refine wpAnyU_ready (rs := [8]) (by kernel_rfl) (by simp) ?_
         refine AllReadyU.cons (o := ⟨some 136, _, _, _, _, _⟩) rfl (fun K hK => ?_) AllReadyU.nil
         go_simp
         refine hK.out _ _ (fun _ => hSA2) ?_
         clear hK K
         (try simp only [Act.put, List.setIfInBounds_toArray, List.set_cons_zero, List.set_cons_succ])
         refine wpAnyU_ready (rs := [9]) (by kernel_rfl) (by simp) ?_
         refine AllReadyU.cons (o := ⟨some 137, _, _, _, _, _⟩) rfl (fun K hK => ?_) AllReadyU.nil
         go_simp
         go_at_call 8
         refine (CS2.out _ _ _ (bthen HBD.out HBA2.out) HRA.out HPA.out).mono ?_
         rintro e w9 ⟨ov2, nv2, rfl, hb9⟩
         have HB9d := Lib.hid (bthen HBA2.out hb9)
         have HB9 := Lib.hid (bthen HBD.out HB9d.out)
         clear hb9
         (try dsimp only)
         refine hK.out _ _ (fun h => Bool.noConfusion (h.symm.trans (by kernel_rfl : _ = false))) ?_
         clear hK K
         (try simp only [Act.put, List.setIfInBounds_toArray, List.set_cons_zero, List.set_cons_succ])
         refine wpAnyU_takeF (i := 10) (oi := ⟨some 127, _, _, _, _, _⟩) (v := ?vq3108) rfl (by kernel_rfl) (by kernel_rfl) (by kernel_rfl) (fun _ _ _ h => h) (Or.inl ⟨by kernel_rfl, ?hyq3108⟩) (fun h => Bool.noConfusion (h.symm.trans (by kernel_rfl : _ = false))) ?restq3108
         case hyq3108 => intro w hSw; clear hSw; go_simp; (try with_reducible rfl)
         (try simp only [Act.put, List.setIfInBounds_toArray, List.set_cons_zero, List.set_cons_succ])
         refine wpAnyU_takeF (i := 11) (oi := ⟨some 138, _, _, _, _, _⟩) (v := ?vq3109) rfl (by kernel_rfl) (by kernel_rfl) (by kernel_rfl) (fun _ _ _ h => h) (Or.inl ⟨by kernel_rfl, ?hyq3109⟩) (fun h => Bool.noConfusion (h.symm.trans (by kernel_rfl : _ = false))) ?restq3109
         case hyq3109 => intro w hSw; clear hSw; go_simp; (try with_reducible rfl)
         (try simp only [Act.put, List.setIfInBounds_toArray, List.set_cons_zero, List.set_cons_succ])
         refine wpAnyU_takeF (i := 12) (oi := ⟨some 139, _, _, _, _, _⟩) (v := ?vq3110) rfl (by kernel_rfl) (by kernel_rfl) (by kernel_rfl) (fun _ _ _ h => h) (Or.inl ⟨by kernel_rfl, ?hyq3110⟩) (fun h => Bool.noConfusion (h.symm.trans (by kernel_rfl : _ = false))) ?restq3110
         case hyq3110 => intro w hSw; clear hSw; go_simp; (try with_reducible rfl)
         (try simp only [Act.put, List.setIfInBounds_toArray, List.set_cons_zero, List.set_cons_succ])
         refine wpAnyU_takeF (i := 13) (oi := ⟨some 140, _, _, _, _, _⟩) (v := ?vq3111) rfl (by kernel_rfl) (by kernel_rfl) (by kernel_rfl) (fun _ _ _ h => h) (Or.inl ⟨by kernel_rfl, ?hyq3111⟩) (fun h => Bool.noConfusion (h.symm.trans (by kernel_rfl : _ = false))) ?restq3111
         case hyq3111 => intro w hSw; clear hSw; go_simp; (try with_reducible rfl)
         (try simp only [Act.put, List.setIfInBounds_toArray, List.set_cons_zero, List.set_cons_succ])
         refine wpAnyU_ready (rs := [14]) (by kernel_rfl) (by simp) ?_
         refine AllReadyU.cons (o := ⟨some 17, _, _, _, _, _⟩) rfl (fun K hK => ?_) AllReadyU.nil
         go_simp
         refine hK.out _ _ (fun h => Bool.noConfusion (h.symm.trans (by kernel_rfl : _ = false))) ?_
         clear hK K
         (try simp only [Act.put, List.setIfInBounds_toArray, List.set_cons_zero, List.set_cons_succ])
         refine wpAnyU_ready (rs := [15]) (by kernel_rfl) (by simp) ?_
         refine AllReadyU.cons (o := ⟨some 18, _, _, _, _, _⟩) rfl (fun K hK => ?_) AllReadyU.nil
         go_simp
         refine hK.out _ _ (fun h => Bool.noConfusion (h.symm.trans (by kernel_rfl : _ = false))) ?_
         clear hK K
         (try simp only [Act.put, List.setIfInBounds_toArray, List.set_cons_zero, List.set_cons_succ])
         refine wpAnyU_ready (rs := [16]) (by kernel_rfl) (by simp) ?_
         refine AllReadyU.cons (o := ⟨some 19, _, _, _, _, _⟩) rfl (fun K hK => ?_) AllReadyU.nil
         go_simp
         refine hK.out _ _ (fun h => Bool.noConfusion (h.symm.trans (by kernel_rfl : _ = false))) ?_
         clear hK K
         (try simp only [Act.put, List.setIfInBounds_toArray, List.set_cons_zero, List.set_cons_succ])
         refine wpAnyU_done (by kernel_rfl) ?_ _
         clear hS0 hSA hSB hSA2 hSB2 hs1 hs2 hs3 hs4 hs5
         go_wp2_with fail
         refine (CF.out w9 (bthen HBZ.out HB9.out)).mono ?_
         rintro e w10 ⟨rfl, hb10⟩
         have HB10d := Lib.hid (bthen HB9d.out hb10)
         have HB10 := Lib.hid (bthen HB9.out hb10)
         have CSM := Lib.hid (ref_Same11 ov _ A A HLL.out.2 HLL.out.2 w10 (HO8.out.below HB10d.out) (Row.of_owns (HRZ.out.below HB10.out).a))
         clear hb10
         go_wp2_with fail
         refine CSM.out.mono ?_
         rintro e w11 ⟨x, rfl, hx, hb11⟩
         obtain rfl : x = true := hx.2 rfl
         have HB11 := Lib.hid (bthen HB10.out hb11)
         have HXE := Lib.hid (HQ.out w11 (bthen HBZ.out HB11.out))
         have c4 := (HRZ.out.below HB11.out).r.cells.2.2.2.2.1
         have cb1 := (HRZ.out.below HB11.out).b.cellAt 1 (by omega)
         rw [show (partsV (byL cs))[1]? = some (.int .i64 (cs.length : Int)) from rfl] at cb1
         clear hb11 hx CSM
         by_cases hone : cs.length = 1
         ·exfalso; omega
         ·have hX2 := hHX2.out
          rw [if_neg hone] at hX2
          subst hX2
          have d1 : ((cs.length : Int) == 1) = false := by rw [beq_eq_false_iff_ne]; omega
          go_wp2_with fail
          exact HXE.out
        ·go_simp
         refine hK.out _ _ (fun _ => hSB) ?_
         clear hK K
         (try simp only [Act.put, List.setIfInBounds_toArray, List.set_cons_zero, List.set_cons_succ])
         refine wpAnyU_ready (rs := [1]) (by kernel_rfl) (by simp) ?_
         refine AllReadyU.cons (o := ⟨some 129, _, _, _, _, _⟩) rfl (fun K hK => ?_) AllReadyU.nil
         go_simp
         refine hK.out _ _ (fun _ => hSB2) ?_
         clear hK K
         (try simp only [Act.put, List.setIfInBounds_toArray, List.set_cons_zero, List.set_cons_succ])
         refine wpAnyU_ready (rs := [9]) (by kernel_rfl) (by simp) ?_
         refine AllReadyU.cons (o := ⟨some 137, _, _, _, _, _⟩) rfl (fun K hK => ?_) AllReadyU.nil
         go_simp
         go_at_call 8
         refine (CS2.out _ _ _ (bthen HBD.out HBB2.out) HRB.out HPB.out).mono ?_
         rintro e w9 ⟨ov2, nv2, rfl, hb9⟩
         have HB9d := Lib.hid (bthen HBB2.out hb9)
         have HB9 := Lib.hid (bthen HBD.out HB9d.out)
         clear hb9
         (try dsimp only)
         refine hK.out _ _ (fun h => Bool.noConfusion (h.symm.trans (by kernel_rfl : _ = false))) ?_
         clear hK K
         (try simp only [Act.put, List.setIfInBounds_toArray, List.set_cons_zero, List.set_cons_succ])
         refine wpAnyU_takeF (i := 10) (oi := ⟨some 127, _, _, _, _, _⟩) (v := ?vq3112) rfl (by kernel_rfl) (by kernel_rfl) (by kernel_rfl) (fun _ _ _ h => h) (Or.inl ⟨by kernel_rfl, ?hyq3112⟩) (fun h => Bool.noConfusion (h.symm.trans (by kernel_rfl : _ = false))) ?restq3112
         case hyq3112 => intro w hSw; clear hSw; go_simp; (try with_reducible rfl)
         (try simp only [Act.put, List.setIfInBounds_toArray, List.set_cons_zero, List.set_cons_succ])
         refine wpAnyU_takeF (i := 11) (oi := ⟨some 138, _, _, _, _, _⟩) (v := ?vq3113) rfl (by kernel_rfl) (by kernel_rfl) (by kernel_rfl) (fun _ _ _ h => h) (Or.inl ⟨by kernel_rfl, ?hyq3113⟩) (fun h => Bool.noConfusion (h.symm.trans (by kernel_rfl : _ = false))) ?restq3113
         case hyq3113 => intro w hSw; clear hSw; go_simp; (try with_reducible rfl)
         (try simp only [Act.put, List.setIfInBounds_toArray, List.set_cons_zero, List.set_cons_succ])
         refine wpAnyU_takeF (i := 12) (oi := ⟨some 139, _, _, _, _, _⟩) (v := ?vq3114) rfl (by kernel_rfl) (by kernel_rfl) (by kernel_rfl) (fun _ _ _ h => h) (Or.inl ⟨by kernel_rfl, ?hyq3114⟩) (fun h => Bool.noConfusion (h.symm.trans (by kernel_rfl : _ = false))) ?restq3114
         case hyq3114 => intro w hSw; clear hSw; go_simp; (try with_reducible rfl)
         (try simp only [Act.put, List.setIfInBounds_toArray, List.set_cons_zero, List.set_cons_succ])
         refine wpAnyU_takeF (i := 13) (oi := ⟨some 140, _, _, _, _, _⟩) (v := ?vq3115) rfl (by kernel_rfl) (by kernel_rfl) (by kernel_rfl) (fun _ _ _ h => h) (Or.inl ⟨by kernel_rfl, ?hyq3115⟩) (fun h => Bool.noConfusion (h.symm.trans (by kernel_rfl : _ = false))) ?restq3115
         case hyq3115 => intro w hSw; clear hSw; go_simp; (try with_reducible rfl)
         (try simp only [Act.put, List.setIfInBounds_toArray, List.set_cons_zero, List.set_cons_succ])
         refine wpAnyU_ready (rs := [14]) (by kernel_rfl) (by simp) ?_
         refine AllReadyU.cons (o := ⟨some 17, _, _, _, _, _⟩) rfl (fun K hK => ?_) AllReadyU.nil
         go_simp
         refine hK.out _ _ (fun h => Bool.noConfusion (h.symm.trans (by kernel_rfl : _ = false))) ?_
         clear hK K
         (try simp only [Act.put, List.setIfInBounds_toArray, List.set_cons_zero, List.set_cons_succ])
         refine wpAnyU_ready (rs := [15]) (by kernel_rfl) (by simp) ?_
         refine AllReadyU.cons (o := ⟨some 18, _, _, _, _, _⟩) rfl (fun K hK => ?_) AllReadyU.nil
         go_simp
         refine hK.out _ _ (fun h => Bool.noConfusion (h.symm.trans (by kernel_rfl : _ = false))) ?_
         clear hK K
         (try simp only [Act.put, List.setIfInBounds_toArray, List.set_cons_zero, List.set_cons_succ])
         refine wpAnyU_ready (rs := [16]) (by kernel_rfl) (by simp) ?_
         refine AllReadyU.cons (o := ⟨some 19, _, _, _, _, _⟩) rfl (fun K hK => ?_) AllReadyU.nil
         go_simp
         refine hK.out _ _ (fun h => Bool.noConfusion (h.symm.trans (by kernel_rfl : _ = false))) ?_
         clear hK K
         (try simp only [Act.put, List.setIfInBounds_toArray, List.set_cons_zero, List.set_cons_succ])
         refine wpAnyU_done (by kernel_rfl) ?_ _
         clear hS0 hSA hSB hSA2 hSB2 hs1 hs2 hs3 hs4 hs5
         go_wp2_with fail
         refine (CF.out w9 (bthen HBZ.out HB9.out)).mono ?_
         rintro e w10 ⟨rfl, hb10⟩
         have HB10d := Lib.hid (bthen HB9d.out hb10)
         have HB10 := Lib.hid (bthen HB9.out hb10)
         have CSM := Lib.hid (ref_Same11 ov _ A A HLL.out.2 HLL.out.2 w10 (HO8.out.below HB10d.out) (Row.of_owns (HRZ.out.below HB10.out).a))
         clear hb10
         go_wp2_with fail
         refine CSM.out.mono ?_
         rintro e w11 ⟨x, rfl, hx, hb11⟩
         obtain rfl : x = true := hx.2 rfl
         have HB11 := Lib.hid (bthen HB10.out hb11)
         have HXE := Lib.hid (HQ.out w11 (bthen HBZ.out HB11.out))
         have c4 := (HRZ.out.below HB11.out).r.cells.2.2.2.2.1
         have cb1 := (HRZ.out.below HB11.out).b.cellAt 1 (by omega)
         rw [show (partsV (byL cs))[1]? = some (.int .i64 (cs.length : Int)) from rfl] at cb1
         clear hb11 hx CSM
         by_cases hone : cs.length = 1
         ·exfalso; omega
         ·have hX2 := hHX2.out
          rw [if_neg hone] at hX2
          subst hX2
          have d1 : ((cs.length : Int) == 1) = false := by rw [beq_eq_false_iff_ne]; omega
          go_wp2_with fail
          exact HXE.out
  case pos =>
   obtain ⟨h1, h2⟩ := hlt
   subst hcl
   obtain ⟨_, _, hv, hcx', hxa⟩ := HXR.out.open'
   simp only [Value.slice.injEq] at hv
   obtain ⟨rfl, -, rfl⟩ := hv
   obtain ⟨xb, xo, rfl, hxb, hxc⟩ := hxa (by omega)
   have hxi := hxc cs.length h1
   have HXC : RowKit.Hid (∀ W, Below w.heap.size w W → W.cell? ⟨xb, xo + cs.length, none⟩ = some (.int .u8 x[cs.length])) := Lib.hid fun W hb => (hb.cell (p := ⟨xb, xo + cs.length, none⟩) hxb).trans hxi
   replace hxi := HXC.out wr HBX.out
   replace hxb : xb < wr.heap.size := Nat.lt_of_lt_of_le hxb HBX.out.size
   have hxr := HX2.out x[cs.length] (List.getElem_mem h1)
   clear hxa hxc hcx'
   generalize x[cs.length] = xi at *
   obtain ⟨k, hk⟩ : ∃ k : Nat, (k : Int) = xi.tmod 3 := ⟨(xi % 3).toNat, by rw [Int.tmod_eq_emod_of_nonneg hxr.1]; omega⟩
   have hk3 : k < 3 := by
    have : xi.tmod 3 < 3 := by rw [Int.tmod_eq_emod_of_nonneg hxr.1]; omega
    omega
   have hk' : xi.tmod 3 = (k : Int) := hk.symm
   clear hk
   have hk0 : (0 : Int) ≤ (k : Int) := by omega
   have hk4 : (k : Int) < 3 := by omega
   have hi0 : (0 : Int) ≤ (cs.length : Int) := by omega
   have hi1 : (cs.length : Int) < x.length := by omega
   have hi2 : (cs.length : Int) < 50 := by omega
   have hicx : (cs.length : Int) < cx := by omega
   have c4 := HRU2.out.cells.2.2.2.2.1
   have hnm : NameP (rwNm (k : Int)) ∧ (rwNm (k : Int)).size ≤ 1 := by
    have : k = 0 ∨ k = 1 ∨ k = 2 := by omega
    rcases this with rfl | rfl | rfl <;> exact ⟨by unfold NameP; decide +kernel, by decide⟩
   have HNM := Lib.hid hnm
   clear hnm
   have HRD := Lib.hid (HRU2.out.keep (Below.refl _ _).drew)
   have HOD := Lib.hid (owns_below HOW2.out (Below.refl _ _).drew)
   have HBD := Lib.hid HBW2.out.drew
   have hS0 : wr.drew.cell? ⟨w1.heap.size + 1, 4, none⟩ = some bv ∧ wr.drew.cell? ⟨xb, xo + cs.length, none⟩ = some (.int .u8 xi) := ⟨c4, hxi⟩
   have hxlt : xb < wr.drew.heap.size := hxb
   have hglt : w1.heap.size + 1 < wr.drew.heap.size := keeps_lt HRU2.out
   have hS1 : (wr.drew.alloc (.cells #[.string ⟨#[97]⟩, .string ⟨#[98]⟩, .string ⟨#[122]⟩] 9)).cell? ⟨w1.heap.size + 1, 4, none⟩ = some bv ∧ (wr.drew.alloc (.cells #[.string ⟨#[97]⟩, .string ⟨#[98]⟩, .string ⟨#[122]⟩] 9)).cell? ⟨xb, xo + cs.length, none⟩ = some (.int .u8 xi) := by
    have h := (Below.refl wr.drew.heap.size wr.drew).alloc (Nat.le_refl _) (.cells #[.string ⟨#[97]⟩, .string ⟨#[98]⟩, .string ⟨#[122]⟩] 9)
    exact ⟨(h.cell (p := ⟨w1.heap.size + 1, 4, none⟩) hglt).trans hS0.1, (h.cell (p := ⟨xb, xo + cs.length, none⟩) hxlt).trans hS0.2⟩
   have HS : RowKit.Hid (∀ W, Below (wr.drew.alloc (.cells #[.string ⟨#[97]⟩, .string ⟨#[98]⟩, .string ⟨#[122]⟩] 9)).heap.size (wr.drew.alloc (.cells #[.string ⟨#[97]⟩, .string ⟨#[98]⟩, .string ⟨#[122]⟩] 9)) W → W.cell? ⟨w1.heap.size + 1, 4, none⟩ = some bv ∧ W.cell? ⟨xb, xo + cs.length, none⟩ = some (.int .u8 xi)) := Lib.hid fun W hb =>
    ⟨(hb.cell (p := ⟨w1.heap.size + 1, 4, none⟩) (by simp at hglt ⊢; omega)).trans hS1.1, (hb.cell (p := ⟨xb, xo + cs.length, none⟩) (by simp at hxlt ⊢; omega)).trans hS1.2⟩
   have ck : (wr.drew.alloc (.cells #[.string ⟨#[97]⟩, .string ⟨#[98]⟩, .string ⟨#[122]⟩] 9)).cell? ⟨wr.drew.heap.size, k, none⟩ = some (.string (rwNm (k : Int))) := by
    have e := heap_alloc_new wr.drew (.cells #[.string ⟨#[97]⟩, .string ⟨#[98]⟩, .string ⟨#[122]⟩] 9)
    have : k = 0 ∨ k = 1 ∨ k = 2 := by omega
    rcases this with rfl | rfl | rfl <;> (unfold World.cell?; rw [e]; rfl)
   go_upto_region 5 with (fail)
   clear c4 hxi
   refine wp_region_until (S := (fun W' => W'.cell? ⟨w1.heap.size + 1, 4, none⟩ = some bv ∧ W'.cell? ⟨xb, xo + cs.length, none⟩ = some (.int .u8 xi))) [13] (by kernel_rfl) ?_
   generalize wr.drew = wd at *
   refine wpAnyU_takeF (i := 0) (oi := ⟨some 34, _, _, _, _, _⟩) (v := ?vq1) rfl (by kernel_rfl) (by kernel_rfl) (by kernel_rfl) (fun _ _ _ h => h) (Or.inl ⟨by kernel_rfl, ?hyq1⟩) (fun _ => hS0) ?restq1
   case hyq1 => intro w hSw; clear hSw; go_simp; (try with_reducible rfl)
   (try simp only [Act.put, List.setIfInBounds_toArray, List.set_cons_zero, List.set_cons_succ])
   refine wpAnyU_take [13] (i := 1) (oi := ⟨some 35, _, _, _, _, _⟩) (v := ?vq2) rfl (by kernel_rfl) (by kernel_rfl) (by kernel_rfl) (by kernel_rfl) (fun _ _ _ h => h) (Or.inl ⟨by kernel_rfl, ?hyq2⟩) hS0 ?restq2
   case hyq2 => intro w hSw; (try dsimp only at hSw); go_simp; (try with_reducible rfl)
   (try simp only [Act.put, List.setIfInBounds_toArray, List.set_cons_zero, List.set_cons_succ])
   refine wpAnyU_takeF (i := 3) (oi := ⟨some 37, _, _, _, _, _⟩) (v := ?vq3) rfl (by kernel_rfl) (by kernel_rfl) (by kernel_rfl) (fun _ _ _ h => h) (Or.inl ⟨by kernel_rfl, ?hyq3⟩) (fun _ => hS0) ?restq3
   case hyq3 => intro w hSw; clear hSw; go_simp; (try with_reducible rfl)
   (try simp only [Act.put, List.setIfInBounds_toArray, List.set_cons_zero, List.set_cons_succ])
   refine wpAnyU_takeF (i := 4) (oi := ⟨some 38, _, _, _, _, _⟩) (v := ?vq4) rfl (by kernel_rfl) (by kernel_rfl) (by kernel_rfl) (fun _ _ _ h => h) (Or.inl ⟨by kernel_rfl, ?hyq4⟩) (fun _ => hS0) ?restq4
   case hyq4 => intro w hSw; clear hSw; go_simp; (try with_reducible rfl)
   (try simp only [Act.put, List.setIfInBounds_toArray, List.set_cons_zero, List.set_cons_succ])
   refine wpAnyU_takeF (i := 5) (oi := ⟨some 39, _, _, _, _, _⟩) (v := ?vq5) rfl (by kernel_rfl) (by kernel_rfl) (by kernel_rfl) (fun _ _ _ h => h) (Or.inl ⟨by kernel_rfl, ?hyq5⟩) (fun _ => hS0) ?restq5
   case hyq5 => intro w hSw; clear hSw; go_simp; (try with_reducible rfl)
   (try simp only [Act.put, List.setIfInBounds_toArray, List.set_cons_zero, List.set_cons_succ])
   refine wpAnyU_take [13] (i := 6) (oi := ⟨some 40, _, _, _, _, _⟩) (v := ?vq6) rfl (by kernel_rfl) (by kernel_rfl) (by kernel_rfl) (by kernel_rfl) (fun _ _ _ h => h) (Or.inl ⟨by kernel_rfl, ?hyq6⟩) hS0 ?restq6
   case hyq6 => intro w hSw; (try dsimp only at hSw); go_simp; (try with_reducible rfl)
   (try simp only [Act.put, List.setIfInBounds_toArray, List.set_cons_zero, List.set_cons_succ])
   refine wpAnyU_takeF (i := 7) (oi := ⟨some 41, _, _, _, _, _⟩) (v := ?vq7) rfl (by kernel_rfl) (by kernel_rfl) (by kernel_rfl) (fun _ _ _ h => h) (Or.inl ⟨by kernel_rfl, ?hyq7⟩) (fun _ => hS0) ?restq7
   case hyq7 => intro w hSw; clear hSw; go_simp; (try with_reducible rfl)
   (try simp only [Act.put, List.setIfInBounds_toArray, List.set_cons_zero, List.set_cons_succ])
   refine wpAnyU_ready (rs := [2]) (by kernel_rfl) (by simp) ?_
   refine AllReadyU.cons (o := ⟨some 36, _, _, _, _, _⟩) rfl (fun K hK => ?_) AllReadyU.nil
   go_simp
   refine hK.out _ _ (fun _ => hS1) ?_
   clear hK K
   (try simp only [Act.put, List.setIfInBounds_toArray, List.set_cons_zero, List.set_cons_succ])
   refine wpAnyU_takeF (i := 8) (oi := ⟨some 42, _, _, _, _, _⟩) (v := ?vq8) rfl (by kernel_rfl) (by kernel_rfl) (by kernel_rfl) (fun _ _ _ h => h) (Or.inl ⟨by kernel_rfl, ?hyq8⟩) (fun _ => hS1) ?restq8
   case hyq8 => intro w hSw; clear hSw; go_simp; (try with_reducible rfl)
   (try simp only [Act.put, List.setIfInBounds_toArray, List.set_cons_zero, List.set_cons_succ])
   refine wpAnyU_ready (rs := [9]) (by kernel_rfl) (by simp) ?_
   refine AllReadyU.cons (o := ⟨some 43, _, _, _, _, _⟩) rfl (fun K hK => ?_) AllReadyU.nil
   go_simp
   refine hK.out _ _ (fun _ => hS1) ?_
   clear hK K
   (try simp only [Act.put, List.setIfInBounds_toArray, List.set_cons_zero, List.set_cons_succ])
   refine wpAnyU_ready (rs := [10]) (by kernel_rfl) (by simp) ?_
   refine AllReadyU.cons (o := ⟨some 44, _, _, _, _, _⟩) rfl (fun K hK => ?_) AllReadyU.nil
   go_simp
   go_at_call 12
   refine (law20_one _ _).mono ?_
   rintro e w5 ⟨gx, rfl, hz5, hb5⟩
   have HZ5 := Lib.hid hz5
   have HB5 := Lib.hid hb5
   have hS2 := HS.out w5 HB5.out
   clear hz5 hb5
   (try dsimp only)
   refine hK.out _ _ (fun _ => hS2) ?_
   clear hK K
   (try simp only [Act.put, List.setIfInBounds_toArray, List.set_cons_zero, List.set_cons_succ])
   have HB6 := Lib.hid (bthen ((Below.refl wd.heap.size wd).alloc (Nat.le_refl _) (.cells #[.string ⟨#[97]⟩, .string ⟨#[98]⟩, .string ⟨#[122]⟩] 9)) HB5.out)
   have HBY := Lib.hid (HBD.out.trans (HB6.out.mono HBD.out.size))
   obtain ⟨v', w6, gb, cap, hv', hap, hr6, hb6, hcb, hr7, ho7, hb7⟩ := rv_by (HRD.out.keep HB6.out) (owns_below HOD.out HB6.out) HBY.out HBY.out.size (Nat.le_succ _) (by omega) (rwNm (k : Int)) HZ5.out
   have HAP := Lib.hid hap
   have HR6 := Lib.hid hr6
   have hS6 : w6.cell? ⟨w1.heap.size + 1, 4, none⟩ = some bv ∧ w6.cell? ⟨xb, xo + cs.length, none⟩ = some (.int .u8 xi) := ⟨HR6.out.cells.2.2.2.2.1, HXC.out w6 (bthen HB1.out hb6)⟩
   have HCB := Lib.hid (hcb v')
   have HC7 := Lib.hid ((HR6.out.put v').cells)
   have HX : RowKit.Hid (rw1Rel x w1 (w1.heap.size + 1) (.slice (some ⟨g1, 0, none⟩) 2 2) (.int .i64 ((cs.length : Int) + 1)) ((w6.setCell ⟨w1.heap.size + 1, 4, none⟩ v').setCell ⟨gb, 1, none⟩ (.int .i64 ((cs.length : Int) + 1)))) := Lib.hid ⟨cs.length + 1, cs ++ [rwNm (k : Int)], v', by push_cast; rfl, h1, h2, by simp, fun c h => by
    rcases List.mem_append.1 h with h | h
    ·exact HCN.out c h
    ·obtain rfl := List.mem_singleton.1 h; exact HNM.out, hr7, ho7, hb7⟩
   clear hap hr6 hb6 hcb hr7 ho7 hb7
   refine wpAnyU_ready (rs := [11]) (by kernel_rfl) (by simp) ?_
   refine AllReadyU.cons (o := ⟨some 45, _, _, _, _, _⟩) rfl (fun K hK => ?_) AllReadyU.nil
   refine oper_append_runC _ _ _ _ HAP.out rfl rfl rfl rfl ?_
   refine hK.out _ _ (fun _ => hS6) ?_
   clear hK K
   (try simp only [Act.put, List.setIfInBounds_toArray, List.set_cons_zero, List.set_cons_succ])
   refine wpAnyU_takeF (i := 12) (oi := ⟨some 46, _, _, _, _, _⟩) (v := ?vq9) rfl (by kernel_rfl) (by kernel_rfl) (by kernel_rfl) (fun _ _ _ h => h) (Or.inl ⟨by kernel_rfl, ?hyq9⟩) (fun _ => hS6) ?restq9
   case hyq9 => intro w hSw; clear hSw; go_simp; (try with_reducible rfl)
   (try simp only [Act.put, List.setIfInBounds_toArray, List.set_cons_zero, List.set_cons_succ])
   have c4 := HR6.out.cells.2.2.2.2.1
   have z4 := HR6.out.cells.2.2.2.2.2
   refine wpAnyU_ready (rs := [13]) (by kernel_rfl) (by simp) ?_
   refine AllReadyU.cons (o := ⟨none, _, _, _, _, _⟩) rfl (fun K hK => ?_) AllReadyU.nil
   go_simp
   refine hK.out _ _ (fun h => Bool.noConfusion (h.symm.trans (by kernel_rfl : _ = false))) ?_
   clear hK K
   (try simp only [Act.put, List.setIfInBounds_toArray, List.set_cons_zero, List.set_cons_succ])
   refine wpAnyU_done (by kernel_rfl) ?_ _
   subst hv'
   clear c4 z4 hS6
   have c7 := HC7.out.2.2.2.2.1
   obtain ⟨cb, zb⟩ := HCB.out
   have hwi : IntKind.i64.wrap ((cs.length : Int) + 1) = (cs.length : Int) + 1 := by rw [IntKind.wrap_i64]; omega
   have hcc : (0 : Int) < ((3 + 2 * cs.length : Nat) : Int) := by omega
   go_wp2_with fail
   exact ⟨HX.out, by simp only [intOf]; omega⟩
end Go.Proofs.YtmklemelgdilkaaDoor
