/- Layer 11: the program's Read, walked. -/
import Derived.Test.YtpjglenogifclaaGreatDoorReadWM
import Derived.Test.YtpjglenogifclaaGreatDoorRefReadM
namespace Go.Proofs.YtpjglenogifclaaGreatDoor
set_option linter.all false
open Go.RowKit

set_option maxRecDepth 100000 in
set_option maxHeartbeats 16000000 in
theorem term_Read (s : ByteArray) (hs : s.size ≤ 100000000) (w : World) (hT : Tabs w) (hM : MaxC w) (hE : ErrC w) (hP : Lib.TabIs Tryz.prog w "internal/strconv.uint64pow10" .u64 Lib.pow10Tab) :
    Calls Tryz.prog 19 #[.string s] w (swapPost (readZ s) w) := by
  have HQ : RowKit.Hid (∀ v' m x w', readZ s = (m, x) → Below w.heap.size w w' → w'.ownsRow w.heap.size 28 3 v' m.length (partsV m) → swapPost (readZ s) w (.returned (.tuple #[v', .int .i64 x])) w') := Lib.hid fun v' m x w' h h2 h3 => by
    unfold swapPost; rw [h]; exact ⟨v', rfl, h2, h3⟩
  generalize swapPost (readZ s) w = Q at *
  have HT := Lib.hid hT
  have HM := Lib.hid hM
  have HE := Lib.hid hE
  have HP := Lib.hid (Lib.tabBelow_of_tabIs hP)
  clear hT hM hE hP
  have hA : Below w.heap.size w (w.alloc (.cells #[.string s] 9)) := (Below.refl _ _).alloc (Nat.le_refl _) _
  go_enter Tryz.func19, Tryz.ntmps19
  by_cases h1 : 1048576 < s.size
  · have h1i : (1048576 : Int) < (s.size : Int) := by omega
    have HX := Lib.hid (HQ.out (.slice none 0 0) [] 2 _ (by unfold readZ; rw [if_pos h1]) hA (World.ownsRow_nil _ _ _ _))
    clear hA
    go_wp2_with fail
    exact HX.out
  · have h1i : ¬ (1048576 : Int) < (s.size : Int) := by omega
    have HNO : RowKit.Hid (∀ w', readF s = none → Below w.heap.size w w' → Q (.returned (.tuple #[.slice none 0 0, .int .i64 9])) w') := Lib.hid fun w' h hb => HQ.out _ [] 9 w' (by unfold readZ; rw [if_neg h1, h]) hb (World.ownsRow_nil _ _ _ _)
    have HYES : RowKit.Hid (∀ l v' w', readF s = some l → Below w.heap.size w w' → w'.ownsRow w.heap.size 28 3 v' l.length (partsV l) → Q (.returned (.tuple #[v', .int .i64 0])) w') := Lib.hid fun l v' w' h hb ho => HQ.out _ l 0 w' (by unfold readZ; rw [if_neg h1, h]) hb ho
    clear HQ hA
    go_wp2_with fail
    have hA : Below w.heap.size w (w.alloc (.cells #[.string s] 9)) := (Below.refl _ _).alloc (Nat.le_refl _) _
    go_loopg [4, 5, 8] s.size (fun gk o lf f W => rdRel (readO s (readM s (s.size + 2)) [] [] 0) s (w.heap.size + 1) w.heap.size w gk o lf f W)
    case atStart =>
      exact ⟨true, 0, [], [], rfl, rfl, Nat.zero_le _, ⟨World.ownsRow_nil _ _ _ _, World.ownsRow_nil _ _ _ _, by simpa using heap_alloc_new (w.alloc (.cells #[.string s] 9)) _, by rw [Below.heap_alloc _ _ _ (by simp)]; exact heap_alloc_new _ _, hA.alloc (by simp) _, by simp; omega, by omega, by simp [Value.ownBlock], by simp [Value.ownBlock]⟩, ⟨by simp, by simp, by simp, by simp⟩, fun _ => ⟨rfl, rfl⟩, rfl⟩
    case round =>
      have HGA : RowKit.Hid (w.heap.size ≠ w.heap.size + 1) := Lib.hid (by omega)
      clear hA
      obtain ⟨b, j, out, op, rfl, rfl, hj, hW, hF, hb, hR⟩ := hrel
      generalize hgs : w.heap.size = gs at hW HGA ⊢
      generalize hga : gs + 1 = ga at hW HGA ⊢
      have HGS := Lib.hid hgs
      have HGE := Lib.hid hga
      have HW := Lib.hid hW
      have HF := Lib.hid hF
      generalize hrd : readO s (readM s (s.size + 2)) [] [] 0 = RR at hR
      have HRD := Lib.hid hrd
      have HJ := Lib.hid hj
      clear hW hF hrd hgs hga hj
      obtain ⟨_, oa, oc, rfl, hoc, _, _⟩ := Row.of_owns HW.out.out
      obtain ⟨_, la, lc, rfl, hlc, _, _⟩ := Row.of_owns HW.out.opn
      cases b with
      | true =>
        obtain ⟨rfl, rfl⟩ := hb rfl
        rw [if_pos rfl] at hR
        have HR := Lib.hid hR
        clear hb hR
        obtain ⟨hc1, hc2, hc3⟩ := HW.out.cells
        have HB1 : RowKit.Hid (Below w.heap.size w wr) := Lib.hid (by rw [HGS.out]; exact HW.out.below)
        have CP := Lib.hid (term_part s hs 0 (by have := HJ.out; omega) wr (HT.out.below HB1.out) (HM.out.below HB1.out) (HE.out.below HB1.out) (HP.out wr HB1.out))
        clear HB1
        go_wp2_with fail
        refine CP.out.mono ?_
        intro e w2 h2
        unfold partPost at h2
        obtain ⟨hb2, h2⟩ := h2
        have HW2 := Lib.hid (HW.out.later hb2)
        clear hb2 CP hc1 hc2 hc3
        cases hp : partZ s 0 with
        | none =>
          rw [hp] at h2
          obtain ⟨pa, pb, pc, px, rfl⟩ := h2
          have HX := Lib.hid (HNO.out (w2.alloc (.cells #[.int .u8 pa, .int .i64 pb, .string pc] 28)) (by
            have := HR.out; unfold readO at this; rw [hp] at this
            unfold readF; rw [HRD.out, ← this]) (by have h9 := HW2.out.below.alloc HW2.out.base (.cells #[.int .u8 pa, .int .i64 pb, .string pc] 28); rw [HGS.out]; exact h9))
          clear hp
          go_wp2_with fail
          exact HX.out
        | some q =>
          obtain ⟨n, x, t⟩ := q
          rw [hp] at h2
          simp only [] at h2
          subst h2
          have hlt3 := partZ_lt hp
          have hR2 := HR.out
          unfold readO at hR2
          rw [hp] at hR2
          have HR2 := Lib.hid hR2
          have HLT := Lib.hid hlt3
          clear hp hR2 hlt3
          have HW3 := Lib.hid (HW2.out.later ((Below.refl _ w2).alloc (Nat.le_refl _) (.cells #[.int .u8 (n : Int), .int .i64 0, .string x] 28)))
          have HG3 : RowKit.Hid (PK _ w2.heap.size (n, 0, x)) := Lib.hid (PK.alloc_new w2 (n, 0, x))
          have HGN : RowKit.Hid (w2.heap.size ≠ ga) := Lib.hid (by have := keeps_lt HW2.out.at'; omega)
          obtain ⟨hc1, hc2, hc3⟩ := HW3.out.cells
          go_upto_region 19 with (fail)
          generalize w2.alloc (.cells #[.int .u8 (n : Int), .int .i64 0, .string x] 28) = W3 at *
          generalize w2.heap.size = g at *
          have HW4 := Lib.hid (HW3.out.move HGA.out t)
          have HG4 : RowKit.Hid (PK (W3.setCell ⟨ga, 0, none⟩ (.int .i64 (t : Int))) g (n, 0, x)) := Lib.hid (by
            have := HG3.out
            unfold PK at this ⊢
            rw [heap_setCell_other _ _ _ _ (by exact HGN.out)]; exact this)
          go_upto_region 20 with (fail)
          generalize W3.setCell ⟨ga, 0, none⟩ (.int .i64 (t : Int)) = W4 at *
          clear hc1 hc2 hc3 HW3 HG3 HW2 HW
          obtain ⟨o5, w5, hrun5, hW5, hK5⟩ := HW4.out.push out.length (by have := HF.out.opl; have := HF.out.len; have := HJ.out; omega)
          have HG5 := Lib.hid (show PK w5 g (n, 0, x) from hK5 _ _ _ _ (by decide) HG4.out)
          have p0 := HG5.out.c0
          have p1 := HG5.out.c1
          have p2 := HG5.out.c2
          obtain ⟨o6, w6, hrun6, hW6⟩ := hW5.part n 0 x (by have := HF.out.len; have := HJ.out; omega)
          have HW6 := Lib.hid hW6
          have HNX : RowKit.Hid (rdRel (readO s (readM s (s.size + 2)) [] [] 0) s (w.heap.size + 1) w.heap.size w (s.size - t) o6 o5 (.bool false) w6) := Lib.hid (by
            rw [HGS.out, HGE.out, HRD.out]
            exact ⟨false, t, out ++ [(n, 0, x)], out.length :: [], rfl, rfl, HLT.out.2.2, by rw [HGS.out]; exact HW6.out, HF.out.push HLT.out.2.1, (fun h => by cases h), HR2.out⟩)
          have HMS : RowKit.Hid (s.size - t < s.size - 0) := Lib.hid (by have := HLT.out; have := HJ.out; omega)
          clear hW5 hK5 hW6 HW6 HG5 HG4 HW4
          go_upto_region 21 with (at_builtin; refine wpList_append_run rfl _ _ _ _ hrun5 rfl rfl rfl rfl ?_)
          clear hrun5
          go_wp2_with (at_builtin; refine wpList_append_run rfl _ _ _ _ hrun6 rfl rfl rfl rfl ?_)
          have e1 := HGE.out
          have e2 := HGS.out
          subst e1
          subst e2
          go_roundg (s.size - t)
          case measure => exact HMS.out
          case rel => exact HNX.out
      | false =>
        clear hb
        rw [if_neg (by decide)] at hR
        have HR := Lib.hid hR
        clear hR
        cases op with
        | nil =>
          have hRR := HR.out
          rw [readM_end] at hRR
          obtain ⟨hc1, hc2, hc3⟩ := HW.out.cells
          have HBX : RowKit.Hid (Below w.heap.size w wr) := Lib.hid (by rw [HGS.out]; exact HW.out.below)
          have HOX : RowKit.Hid (wr.ownsRow w.heap.size 28 3 _ out.length (partsV out)) := Lib.hid (by rw [HGS.out]; exact HW.out.out)
          by_cases hjs : j = s.size
          · have HX := Lib.hid (HYES.out out _ wr (by unfold readF; rw [HRD.out, ← hRR]; exact if_pos hjs) HBX.out HOX.out)
            subst hjs
            clear hRR
            simp only [List.length_nil] at *
            go_wp2_with fail
            exact HX.out
          · have hjn : ((j : Int) == (s.size : Int)) = false := by rw [beq_eq_false_iff_ne]; omega
            have hjn2 : ((j : Int) != (s.size : Int)) = true := by rw [bne_iff_ne]; omega
            have HX := Lib.hid (HNO.out wr (by unfold readF; rw [HRD.out, ← hRR]; exact if_neg hjs) HBX.out)
            clear hjs hRR
            simp only [List.length_nil] at *
            go_wp2_with fail
            exact HX.out
        | cons h r =>
          obtain ⟨gl, rfl⟩ := ownsRow_some HW.out.opn (by simp)
          have hh := HF.out.lt h (List.mem_cons_self ..)
          obtain ⟨gq, rfl⟩ := ownsRow_some HW.out.out (by omega)
          have hstep := HR.out
          rw [readM_step _ _ _ _ _ HJ.out] at hstep
          have HF2 := Lib.hid (show out.length ≤ 100000000 by have := HF.out.len; have := HJ.out; omega)
          have hrl2 : r.length + 1 ≤ 100000000 := by have := HF.out.opl; simp only [List.length_cons] at this; have := HF2.out; omega
          obtain ⟨hc1, hc2, hc3⟩ := HW.out.cells
          simp only [List.length_cons] at hlc
          simp only [List.length_cons]
          have hln0 : (0 : Int) < (r.length : Int) + 1 := by omega
          have hwl : IntKind.i64.wrap ((r.length : Int) + 1 - 1) = (r.length : Int) := by rw [IntKind.wrap_i64]; omega
          have hr0 : (0 : Int) ≤ (r.length : Int) := by omega
          have hrl : (r.length : Int) < (r.length : Int) + 1 := by omega
          have hrc : (r.length : Int) < lc := by omega
          have hrc' : (r.length : Int) ≤ lc := by omega
          have hhi : (h : Int) < (out.length : Int) := by omega
          have hhc : (h : Int) < (oc : Int) := by omega
          have hh0 : (0 : Int) ≤ (h : Int) := by omega
          by_cases c1 : j < s.size ∧ bt s j = 41
          · rw [if_pos c1] at hstep
            have CT := take_yes s hs j c1.1 ga gs wr hc1 hc2 hc3
            rw [c1.2] at CT
            have CT := Lib.hid CT
            have HW1 := Lib.hid (HW.out.move HGA.out (j + 1)).pop
            have HNX : RowKit.Hid (rdRel (readO s (readM s (s.size + 2)) [] [] 0) s (w.heap.size + 1) w.heap.size w (s.size - (j + 1)) (.slice (some ⟨gq, 0, none⟩) out.length oc) (.slice (some ⟨gl, 0, none⟩) r.length lc) (.bool false) _) := Lib.hid (by
              rw [HGS.out, HGE.out, HRD.out]
              exact ⟨false, j + 1, out, r, rfl, rfl, c1.1, by rw [HGS.out]; exact HW1.out, HF.out.pop, (fun h => by cases h), hstep⟩)
            have HMS : RowKit.Hid (s.size - (j + 1) < s.size - j) := Lib.hid (by omega)
            clear hstep c1
            go_wp2_with fail
            refine CT.out.mono ?_
            rintro e w1 ⟨rfl, rfl⟩
            clear CT HW1
            generalize wr.setCell ⟨ga, 0, none⟩ (.int .i64 ((j + 1 : Nat) : Int)) = W1 at *
            go_wp2_with fail
            have e1 := HGE.out
            have e2 := HGS.out
            subst e1
            subst e2
            go_roundg (s.size - (j + 1))
            case measure => exact HMS.out
            case rel => exact HNX.out
          · rw [if_neg c1] at hstep
            have CT := Lib.hid (take_no s hs j 41 c1 ga gs wr hc1 hc3)
            by_cases c2 : j < s.size ∧ bt s j = 32
            · rw [if_pos c2] at hstep
              have CT2 := take_yes s hs j c2.1 ga gs wr hc1 hc2 hc3
              rw [c2.2] at CT2
              have CT2 := Lib.hid CT2
              have HJ1 : RowKit.Hid (j + 1 ≤ s.size) := Lib.hid c2.1
              have HMJ : RowKit.Hid (j < j + 1) := Lib.hid (by omega)
              clear c1 c2
              go_wp2_with fail
              refine CT.out.mono ?_
              rintro e w1 ⟨rfl, rfl⟩
              go_wp2_with fail
              refine CT2.out.mono ?_
              rintro e w1 ⟨rfl, rfl⟩
              have hW1 := HW.out.move HGA.out (j + 1)
              clear CT CT2 HW hc1 hc2 hc3 HR
              generalize wr.setCell ⟨ga, 0, none⟩ (.int .i64 ((j + 1 : Nat) : Int)) = W1 at *
              have t0 : W1.cell? ⟨gl, r.length, none⟩ = some (.int .i64 (h : Int)) := by
                rw [hW1.opn.cellAt _ (by simp)]
                simp [natV]
              obtain ⟨k1, k2, hWk⟩ := hW1.kid h hh
              have hkb := HF.out.kids _ (List.getElem_mem hh)
              have hwk : IntKind.i64.wrap ((out[h]).2.1 + 1) = (out[h]).2.1 + 1 := by rw [IntKind.wrap_i64]; have := HJ.out; omega
              have HFk := Lib.hid HF.out.kid
              clear hkb hW1
              generalize (out[h]).2.1 = kd at *
              go_upto_region 16 with (fail)
              generalize W1.setCell ⟨gq, h * 3 + 1, none⟩ (.int .i64 (kd + 1)) = W2 at *
              have hlk : (addK out h 1).length = out.length := addK_length _ _ _
              generalize addK out h 1 = out2 at *
              have HWk := Lib.hid hWk
              have HRk := Lib.hid hstep
              clear hWk hstep k1 k2 t0 hwk hh
              have HF3 : RowKit.Hid (out2.length ≤ 100000000) := Lib.hid (by rw [hlk]; exact HF2.out)
              clear HF2 HF
              generalize hol : out.length = ol at *
              subst hlk
              obtain ⟨hc1, hc2, hc3⟩ := HWk.out.cells
              have HB1 : RowKit.Hid (Below w.heap.size w W2) := Lib.hid (by rw [HGS.out]; exact HWk.out.below)
              have CP := Lib.hid (term_part s hs (j + 1) (by have := HJ1.out; omega) W2 (HT.out.below HB1.out) (HM.out.below HB1.out) (HE.out.below HB1.out) (HP.out W2 HB1.out))
              clear HB1
              go_wp2_with fail
              refine CP.out.mono ?_
              intro e w2 h2
              unfold partPost at h2
              obtain ⟨hb2, h2⟩ := h2
              have HW2 := Lib.hid (HWk.out.later hb2)
              clear hb2 CP hc1 hc2 hc3
              cases hp : partZ s (j + 1) with
              | none =>
                rw [hp] at h2
                obtain ⟨pa, pb, pc, px, rfl⟩ := h2
                have HX := Lib.hid (HNO.out (w2.alloc (.cells #[.int .u8 pa, .int .i64 pb, .string pc] 28)) (by
                  have := HRk.out; unfold readO at this; rw [hp] at this
                  unfold readF; rw [HRD.out, ← this]) (by have h9 := HW2.out.below.alloc HW2.out.base (.cells #[.int .u8 pa, .int .i64 pb, .string pc] 28); rw [HGS.out]; exact h9))
                clear hp
                go_wp2_with fail
                exact HX.out
              | some q =>
                obtain ⟨n, x, t⟩ := q
                rw [hp] at h2
                simp only [] at h2
                subst h2
                have hlt3 := partZ_lt hp
                have hR2 := HRk.out
                unfold readO at hR2
                rw [hp] at hR2
                have HR2 := Lib.hid hR2
                have HLT := Lib.hid hlt3
                clear hp hR2 hlt3
                have HW3 := Lib.hid (HW2.out.later ((Below.refl _ w2).alloc (Nat.le_refl _) (.cells #[.int .u8 (n : Int), .int .i64 0, .string x] 28)))
                have HG3 : RowKit.Hid (PK _ w2.heap.size (n, 0, x)) := Lib.hid (PK.alloc_new w2 (n, 0, x))
                have HGN : RowKit.Hid (w2.heap.size ≠ ga) := Lib.hid (by have := keeps_lt HW2.out.at'; omega)
                obtain ⟨hc1, hc2, hc3⟩ := HW3.out.cells
                go_upto_region 19 with (fail)
                generalize w2.alloc (.cells #[.int .u8 (n : Int), .int .i64 0, .string x] 28) = W3 at *
                generalize w2.heap.size = g at *
                have HW4 := Lib.hid (HW3.out.move HGA.out t)
                have HG4 : RowKit.Hid (PK (W3.setCell ⟨ga, 0, none⟩ (.int .i64 (t : Int))) g (n, 0, x)) := Lib.hid (by
                  have := HG3.out
                  unfold PK at this ⊢
                  rw [heap_setCell_other _ _ _ _ (by exact HGN.out)]; exact this)
                go_upto_region 20 with (fail)
                generalize W3.setCell ⟨ga, 0, none⟩ (.int .i64 (t : Int)) = W4 at *
                clear hc1 hc2 hc3 HW3 HG3 HW2 HWk
                obtain ⟨o5, w5, hrun5, hW5, hK5⟩ := HW4.out.push out2.length (by have := HFk.out.opl; have := HFk.out.len; have := HJ1.out; omega)
                have HG5 := Lib.hid (show PK w5 g (n, 0, x) from hK5 _ _ _ _ (by decide) HG4.out)
                have p0 := HG5.out.c0
                have p1 := HG5.out.c1
                have p2 := HG5.out.c2
                obtain ⟨o6, w6, hrun6, hW6⟩ := hW5.part n 0 x (by have := HFk.out.len; have := HJ1.out; omega)
                have HW6 := Lib.hid hW6
                have HNX : RowKit.Hid (rdRel (readO s (readM s (s.size + 2)) [] [] 0) s (w.heap.size + 1) w.heap.size w (s.size - t) o6 o5 (.bool false) w6) := Lib.hid (by
                  rw [HGS.out, HGE.out, HRD.out]
                  exact ⟨false, t, out2 ++ [(n, 0, x)], out2.length :: (h :: r), rfl, rfl, HLT.out.2.2, by rw [HGS.out]; exact HW6.out, HFk.out.push HLT.out.2.1, (fun h => by cases h), HR2.out⟩)
                have HMS : RowKit.Hid (s.size - t < s.size - j) := Lib.hid (by have := HLT.out; have := HJ1.out; omega)
                clear hW5 hK5 hW6 HW6 HG5 HG4 HW4
                go_upto_region 21 with (at_builtin; refine wpList_append_run rfl _ _ _ _ hrun5 rfl rfl rfl rfl ?_)
                clear hrun5
                go_wp2_with (at_builtin; refine wpList_append_run rfl _ _ _ _ hrun6 rfl rfl rfl rfl ?_)
                have e1 := HGE.out
                have e2 := HGS.out
                subst e1
                subst e2
                go_roundg (s.size - t)
                case measure => exact HMS.out
                case rel => exact HNX.out
            · rw [if_neg c2] at hstep
              have CT2 := Lib.hid (take_no s hs j 32 c2 ga gs wr hc1 hc3)
              have HX := Lib.hid (HNO.out wr (by unfold readF; rw [HRD.out, ← hstep]) (by rw [HGS.out]; exact HW.out.below))
              clear c1 c2 hstep
              go_wp2_with fail
              refine CT.out.mono ?_
              rintro e w1 ⟨rfl, rfl⟩
              go_wp2_with fail
              refine CT2.out.mono ?_
              rintro e w1 ⟨rfl, rfl⟩
              go_wp2_with fail
              exact HX.out
end Go.Proofs.YtpjglenogifclaaGreatDoor
namespace Go.Proofs.YtpjglenogifclaaGreatDoor
set_option linter.all false
open Go.RowKit

/-- The document's term. -/
def sumL : List Prt := [(37, 2, ⟨#[43]⟩), (26, 0, ⟨#[97]⟩), (26, 0, ⟨#[98]⟩)]
theorem lit_owns (w : World) (B : Nat) (hB : B ≤ w.heap.size) (l : List Prt) (hl : l.length ≤ 1000000) :
    (w.alloc (.cells (partsV l).toArray 28)).ownsRow B 28 3 (.slice (some ⟨w.heap.size, 0, none⟩) l.length l.length) l.length (partsV l) := by
  refine ⟨by rw [partsV_length], Or.inr ⟨w.heap.size, l.length, (partsV l).toArray, rfl, hB, heap_alloc_new _ _, Nat.le_refl _, by unfold maxLen; omega, by simp [partsV_length], by simp [List.take_of_length_le, partsV_length]⟩⟩
theorem law_sum (w : World) : Calls Tryz.prog 32 #[] w fun e w' => e = .returned (.slice (some ⟨w.heap.size, 0, none⟩) 3 3) ∧ Below w.heap.size w w' ∧ w'.ownsRow w.heap.size 28 3 (.slice (some ⟨w.heap.size, 0, none⟩) 3 3) 3 (partsV sumL) := by
  have HX : RowKit.Hid ((fun (e : Ending) w' => e = .returned (.slice (some ⟨w.heap.size, 0, none⟩) 3 3) ∧ Below w.heap.size w w' ∧ w'.ownsRow w.heap.size 28 3 (.slice (some ⟨w.heap.size, 0, none⟩) 3 3) 3 (partsV sumL)) (.returned (.slice (some ⟨w.heap.size, 0, none⟩) 3 3)) (w.alloc (.cells (partsV sumL).toArray 28))) := Lib.hid ⟨rfl, (Below.refl _ _).alloc (Nat.le_refl _) _, lit_owns w w.heap.size (Nat.le_refl _) sumL (by decide)⟩
  generalize (fun (e : Ending) w' => e = .returned (.slice (some ⟨w.heap.size, 0, none⟩) 3 3) ∧ Below w.heap.size w w' ∧ w'.ownsRow w.heap.size 28 3 (.slice (some ⟨w.heap.size, 0, none⟩) 3 3) 3 (partsV sumL)) = Q at *
  go_enter Tryz.func32, Tryz.ntmps32
  go_wp2_with fail
  exact HX.out
end Go.Proofs.YtpjglenogifclaaGreatDoor
namespace Go.Proofs.YtpjglenogifclaaGreatDoor
set_option linter.all false
attribute [local irreducible] wpStill
attribute [local irreducible] Calls
open Go.RowKit

set_option maxRecDepth 100000 in
set_option maxHeartbeats 16000000 in
theorem ref_read11 (s : ByteArray) (hs : s.size ≤ 100000000) : ∀ (f i : Nat), s.size < i + f → i ≤ s.size → ∀ w, Calls Tryz.prog 43 #[.string s, .int .i64 (i : Int)] w (rdPost (rdR s f i) w)
  | 0, i, hf, hi => by omega
  | f + 1, i, hf, hi => by
    intro w
    have IH := Lib.hid (ref_read11 s hs f)
    have HQ : RowKit.Hid (∀ e w', rdPost (rdR s (f + 1) i) w e w' → rdPost (rdR s (f + 1) i) w e w') := Lib.hid fun e w' h => h
    have HRD : RowKit.Hid (∀ w', rdR s (f + 1) i = none → rdPost (rdR s (f + 1) i) w (.returned (.tuple #[.slice none 0 0, .int .i64 0])) w' ∨ ¬ Below w.heap.size w w') := Lib.hid fun w' h => by
      by_cases hb : Below w.heap.size w w'
      · exact Or.inl (rdPost.no h hb)
      · exact Or.inr hb
    have HNO : RowKit.Hid (rdR s (f + 1) i = none → rdPost (rdR s (f + 1) i) w (.returned (.tuple #[.slice none 0 0, .int .i64 0])) w) := Lib.hid fun h => rdPost.no h (Below.refl _ _)
    clear HRD
    have HB0 : RowKit.Hid (Below w.heap.size w w) := Lib.hid (Below.refl _ _)
    obtain ⟨Q, hQ⟩ : ∃ Q, rdPost (rdR s (f + 1) i) w = Q := ⟨_, rfl⟩
    rw [hQ] at HNO
    have HQ' : RowKit.Hid (∀ e w', rdPost (rdR s (f + 1) i) w e w' → Q e w') := Lib.hid fun e w' h => by rw [← hQ]; exact h
    rw [hQ]
    clear HQ hQ
    have hi0 : (0 : Int) ≤ (i : Int) := by omega
    by_cases h1 : i < s.size
    · have h1i : (i : Int) < s.size := by omega
      have h1n : ¬ (s.size : Int) ≤ (i : Int) := by omega
      have hxx : ∀ h, ((s[i]'h).toNat : Int) = (bt s i : Int) := fun h => by rw [bt_at s i h]
      by_cases h40 : bt s i = 40
      · have f40 : ((bt s i : Int) == 40) = true := by rw [beq_iff_eq]; omega
        have f40n : ((bt s i : Int) != 40) = false := by rw [bne_eq_false_iff_eq]; omega
        have H40 := Lib.hid h40
        have hwi : IntKind.i64.wrap ((i : Int) + 1) = (i : Int) + 1 := by rw [IntKind.wrap_i64]; omega
        have HDG : RowKit.Hid (dgRel s i (.int .i64 0) (.int .i64 ((i : Int) + 1))) := Lib.hid ⟨0, 0, by simp, by omega, by omega, rfl, by rw [Nat.add_zero, extract_data, Nat.sub_self]; rfl, (by intro c hc; rw [Nat.add_zero, extract_data, Nat.sub_self] at hc; simp at hc), rfl, by omega⟩
        clear h40
        generalize bt s i = c40 at hxx f40 f40n
        go_enter Tryz.func43, Tryz.ntmps43
        go_wp2_with fail
        clear hxx f40 f40n
        go_loop [6, 7] (fun kv tv => dgRel s i kv tv) (fun _ tv => s.size - (intOf tv).toNat)
        case atStart => exact HDG.out
        case round =>
          obtain ⟨m, k, rfl, hm, hz, rfl, hk, hd, he, hk1⟩ := hrel
          obtain ⟨T, hT⟩ : ∃ T, i + 1 + m = T := ⟨_, rfl⟩
          have HD := Lib.hid hd
          have HK := Lib.hid hk
          have hj0 : (0 : Int) ≤ (T : Int) := by omega
          have hi1 : i + 1 ≤ T := by omega
          have hTm : T ≤ i + 4 := by omega
          have HSTOP : RowKit.Hid (¬ (i + 1 + m < s.size ∧ 48 ≤ bt s (i + 1 + m) ∧ bt s (i + 1 + m) ≤ 57) ∨ m = 3 → T = dEnd s 3 (i + 1)) := Lib.hid fun h => by
            rw [← he, ← hT]
            rcases h with h | h
            · rw [dEnd_stop h]
            · subst h; rfl
          have HSTEP := Lib.hid (fun (hm3 : m < 3) (hl : i + 1 + m < s.size) (h48 : 48 ≤ bt s (i + 1 + m)) (h57 : bt s (i + 1 + m) ≤ 57) => dgRel.step hm3 hl h48 h57 hk hd he)
          have HM := Lib.hid hT
          rw [hT] at HD HK HSTOP HSTEP hz
          rw [hT]
          have hms : (T : Int) - (i : Int) = (m : Int) + 1 := by omega
          have hmw : IntKind.i64.wrap ((T : Int) - (i : Int)) = (m : Int) + 1 := by rw [hms, IntKind.wrap_i64]; omega
          clear hd hk he hT hms
          by_cases hlt : T < s.size
          · have hjl : (T : Int) < s.size := by omega
            have hxj : ∀ h, ((s[T]'h).toNat : Int) = (bt s T : Int) := fun h => by rw [bt_at s T h]
            have hb256 := bt_lt s T
            have hwj : IntKind.i64.wrap ((T : Int) + 1) = ((T + 1 : Nat) : Int) := by rw [IntKind.wrap_i64]; omega
            by_cases c1 : 48 ≤ bt s T
            · by_cases c2 : bt s T ≤ 57
              · have c1i : (48 : Int) ≤ (bt s T : Int) := by omega
                have c2i : (bt s T : Int) ≤ 57 := by omega
                by_cases c3 : m < 3
                · have c3i : (m : Int) + 1 ≤ 3 := by omega
                  have HNX := Lib.hid (HSTEP.out c3 hlt c1 c2)
                  have hw8 : IntKind.u8.wrap ((bt s T : Int) - 48) = (bt s T : Int) - 48 := by rw [IntKind.wrap_u8]; omega
                  have hw10 : IntKind.i64.wrap (10 * (k : Int)) = 10 * (k : Int) := by rw [IntKind.wrap_i64]; omega
                  have hwk : IntKind.i64.wrap (10 * (k : Int) + ((bt s T : Int) - 48)) = ((10 * k + (bt s T - 48) : Nat) : Int) := by rw [IntKind.wrap_i64]; omega
                  have HMS : RowKit.Hid (s.size - (T + 1) < s.size - T) := Lib.hid (by omega)
                  clear hb256 c1 c2 HSTEP HSTOP
                  generalize hnk : 10 * k + (bt s T - 48) = nk at *
                  have HNK := Lib.hid hnk
                  clear hnk
                  generalize bt s T = c at *
                  go_wp2_with fail
                  refine ⟨?_, (by have := HMS.out; simp [intOf]; try omega)⟩
                  first
                    | exact HNX.out
                    | (repeat apply Exists.intro
                       refine ⟨?_, rfl⟩
                       exact HNX.out)
                · have c3i : ¬ (m : Int) + 1 ≤ 3 := by omega
                  have HTE := Lib.hid (HSTOP.out (Or.inr (by omega)))
                  clear hb256 c1 c2 HSTEP HSTOP
                  generalize bt s T = c at hxj c1i c2i
                  go_upto_region 7 with (fail)
                  rename_i hKo Kx hKi
                  exact read_num _ _ _ _ _ _ _ _ _ _ _ _ _ _ _ _ _ _ _ _ _ _ _ _ _ _ _ _ _ _ _ _ _ _ _ _ _ _ _ _ _ _ _ _ _ _ _ _ _ _ _ _ _ _ _ _ _ _ _ _ _ _ _ _ _ _ _ _ _ _ _ _ _ _ _ _ _ _ _ _ _ _ _ _ _ _ _ _ _ _ _ _ _ _ _ _ _ _ _ _ _ _ _ _ _ _ _ _ _ _ _ _ _ _ _ _ _ _ _ _ _ _ _ _ _ _ _ _ _ _ _ _ _ _ _ _ _ _ _ _ _ _ _ _ _ _ _ _ _ _ _ _ _ _ _ _ _ _ _ _ _ _ _ _ _ _ _ _ _ _ s hs f i T k h1 hi1 hz w w HB0 HD HK hk1 HTE H40 IH hf Q HQ' _ _ hKo hKi
              · have c1i : (48 : Int) ≤ (bt s T : Int) := by omega
                have c2i : ¬ (bt s T : Int) ≤ 57 := by omega
                have HTE := Lib.hid (HSTOP.out (Or.inl (fun h => c2 h.2.2)))
                clear hb256 c1 c2 HSTEP HSTOP
                generalize bt s T = c at hxj c1i c2i
                go_upto_region 7 with (fail)
                rename_i hKo Kx hKi
                exact read_num _ _ _ _ _ _ _ _ _ _ _ _ _ _ _ _ _ _ _ _ _ _ _ _ _ _ _ _ _ _ _ _ _ _ _ _ _ _ _ _ _ _ _ _ _ _ _ _ _ _ _ _ _ _ _ _ _ _ _ _ _ _ _ _ _ _ _ _ _ _ _ _ _ _ _ _ _ _ _ _ _ _ _ _ _ _ _ _ _ _ _ _ _ _ _ _ _ _ _ _ _ _ _ _ _ _ _ _ _ _ _ _ _ _ _ _ _ _ _ _ _ _ _ _ _ _ _ _ _ _ _ _ _ _ _ _ _ _ _ _ _ _ _ _ _ _ _ _ _ _ _ _ _ _ _ _ _ _ _ _ _ _ _ _ _ _ _ _ _ _ s hs f i T k h1 hi1 hz w w HB0 HD HK hk1 HTE H40 IH hf Q HQ' _ _ hKo hKi
            · have c1i : ¬ (48 : Int) ≤ (bt s T : Int) := by omega
              have HTE := Lib.hid (HSTOP.out (Or.inl (fun h => c1 h.2.1)))
              clear hb256 c1 HSTEP HSTOP
              generalize bt s T = c at hxj c1i
              go_upto_region 7 with (fail)
              rename_i hKo Kx hKi
              exact read_num _ _ _ _ _ _ _ _ _ _ _ _ _ _ _ _ _ _ _ _ _ _ _ _ _ _ _ _ _ _ _ _ _ _ _ _ _ _ _ _ _ _ _ _ _ _ _ _ _ _ _ _ _ _ _ _ _ _ _ _ _ _ _ _ _ _ _ _ _ _ _ _ _ _ _ _ _ _ _ _ _ _ _ _ _ _ _ _ _ _ _ _ _ _ _ _ _ _ _ _ _ _ _ _ _ _ _ _ _ _ _ _ _ _ _ _ _ _ _ _ _ _ _ _ _ _ _ _ _ _ _ _ _ _ _ _ _ _ _ _ _ _ _ _ _ _ _ _ _ _ _ _ _ _ _ _ _ _ _ _ _ _ _ _ _ _ _ _ _ _ s hs f i T k h1 hi1 hz w w HB0 HD HK hk1 HTE H40 IH hf Q HQ' _ _ hKo hKi
          · have hjl : ¬ (T : Int) < s.size := by omega
            have HTE := Lib.hid (HSTOP.out (Or.inl (fun h => hlt h.1)))
            clear HSTEP HSTOP
            go_upto_region 7 with (fail)
            rename_i hKo Kx hKi
            exact read_num _ _ _ _ _ _ _ _ _ _ _ _ _ _ _ _ _ _ _ _ _ _ _ _ _ _ _ _ _ _ _ _ _ _ _ _ _ _ _ _ _ _ _ _ _ _ _ _ _ _ _ _ _ _ _ _ _ _ _ _ _ _ _ _ _ _ _ _ _ _ _ _ _ _ _ _ _ _ _ _ _ _ _ _ _ _ _ _ _ _ _ _ _ _ _ _ _ _ _ _ _ _ _ _ _ _ _ _ _ _ _ _ _ _ _ _ _ _ _ _ _ _ _ _ _ _ _ _ _ _ _ _ _ _ _ _ _ _ _ _ _ _ _ _ _ _ _ _ _ _ _ _ _ _ _ _ _ _ _ _ _ _ _ _ _ _ _ _ _ _ s hs f i T k h1 hi1 hz w w HB0 HD HK hk1 HTE H40 IH hf Q HQ' _ _ hKo hKi
      · have f40 : ((bt s i : Int) == 40) = false := by rw [beq_eq_false_iff_ne]; omega
        have f40n : ((bt s i : Int) != 40) = true := by rw [bne_iff_ne]; omega
        have HX := Lib.hid (HNO.out (by rw [rdR]; unfold partR; rw [if_neg (fun h => h40 h.2)]))
        clear h40
        generalize bt s i = c40 at hxx f40 f40n
        go_enter Tryz.func43, Tryz.ntmps43
        go_wp2_with fail
        exact HX.out
    · have h1n : (s.size : Int) ≤ (i : Int) := by omega
      have HX := Lib.hid (HNO.out (by rw [rdR]; unfold partR; rw [if_neg (fun h => h1 h.1)]))
      go_enter Tryz.func43, Tryz.ntmps43
      go_wp2_with fail
      exact HX.out
end Go.Proofs.YtpjglenogifclaaGreatDoor
namespace Go.Proofs.YtpjglenogifclaaGreatDoor
set_option linter.all false
attribute [local irreducible] Calls
open Go.RowKit

set_option maxRecDepth 100000 in
set_option maxHeartbeats 8000000 in
theorem ref_Read11 (s : ByteArray) (hs : s.size ≤ 100000000) (w : World) : Calls Tryz.prog 20 #[.string s] w (swapPost (readZ s) w) := by
  have HQ : RowKit.Hid (∀ v' m x w', readZ s = (m, x) → Below w.heap.size w w' → w'.ownsRow w.heap.size 28 3 v' m.length (partsV m) → swapPost (readZ s) w (.returned (.tuple #[v', .int .i64 x])) w') := Lib.hid fun v' m x w' h h2 h3 => by
    unfold swapPost; rw [h]; exact ⟨v', rfl, h2, h3⟩
  have HNIL : RowKit.Hid (∀ W : World, W.ownsRow w.heap.size 28 3 (.slice none 0 0) ([] : List Prt).length (partsV [])) := Lib.hid fun W => ⟨rfl, Or.inl ⟨rfl, rfl⟩⟩
  have HZ : RowKit.Hid (readZ s = if 1048576 < s.size then (([] : List Prt), (2 : Int)) else match readF s with
    | some l => (l, 0)
    | none => ([], 9)) := Lib.hid rfl
  have HF := Lib.hid (readF_is s)
  have C1 := Lib.hid (ref_read11 s hs (s.size + 1) 0 (by omega) (Nat.zero_le _) w)
  rw [rdR_eq] at C1
  generalize swapPost (readZ s) w = Q at *
  by_cases hbig : 1048576 < s.size
  · have hbi : (1048576 : Int) < s.size := by omega
    have HX := Lib.hid (HQ.out (.slice none 0 0) [] 2 w (by rw [HZ.out, if_pos hbig]) (Below.refl _ _) (HNIL.out w))
    clear hbig
    go_enter Tryz.func20, Tryz.ntmps20
    go_wp2_with fail
    exact HX.out
  have hbi : ¬ (1048576 : Int) < s.size := by omega
  have HZ2 := HZ.out
  rw [if_neg hbig, HF.out] at HZ2
  have HZ2 := Lib.hid HZ2
  clear hbig HZ HF
  go_enter Tryz.func20, Tryz.ntmps20
  go_wp2_with fail
  refine C1.out.mono ?_
  intro e w1 h
  unfold rdPost at h
  obtain ⟨hb, h⟩ := h
  have HB := Lib.hid hb
  clear hb C1
  cases hr : rdZ s (s.size + 1) 0 with
  | none =>
    rw [hr] at h
    simp only [] at h
    subst h
    have hz := HZ2.out
    rw [hr] at hz
    have HX := Lib.hid (HQ.out (.slice none 0 0) [] 9 w1 hz HB.out (HNIL.out w1))
    clear hr hz
    go_wp2_with fail
    exact HX.out
  | some q =>
    obtain ⟨k, t⟩ := q
    rw [hr] at h
    simp only [] at h
    obtain ⟨v, rfl, ho⟩ := h
    have hz := HZ2.out
    rw [hr] at hz
    simp only [] at hz
    have hk : 0 < k.length := (rdZ_text s _ _ _ _ hr).2.1
    have HO := Lib.hid ho
    obtain ⟨_, va, vc, rfl, hvc, _, _⟩ := Row.of_owns ho
    have hk0 : ((k.length : Int) == 0) = false := by rw [beq_eq_false_iff_ne]; omega
    clear hr ho
    by_cases ht : t = s.size
    · rw [if_pos ht] at hz
      have ht1 : ((t : Int) != (s.size : Int)) = false := by rw [bne_eq_false_iff_eq]; omega
      have ht2 : ((t : Int) == (s.size : Int)) = true := by rw [beq_iff_eq]; omega
      have HX := Lib.hid (HQ.out _ k 0 w1 hz HB.out HO.out)
      clear hz ht
      go_wp2_with fail
      exact HX.out
    · rw [if_neg ht] at hz
      have ht1 : ((t : Int) != (s.size : Int)) = true := by rw [bne_iff_ne]; omega
      have ht2 : ((t : Int) == (s.size : Int)) = false := by rw [beq_eq_false_iff_ne]; omega
      have HX := Lib.hid (HQ.out (.slice none 0 0) [] 9 w1 hz HB.out (HNIL.out w1))
      clear hz ht
      go_wp2_with fail
      exact HX.out
end Go.Proofs.YtpjglenogifclaaGreatDoor
