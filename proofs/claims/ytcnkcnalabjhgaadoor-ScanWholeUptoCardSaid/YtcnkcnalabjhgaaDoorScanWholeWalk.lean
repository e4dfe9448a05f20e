/- The statement ScanWhole, walked: the call returns true. -/
import Derived.Test.YtcnkcnalabjhgaaDoorLaw07
import Derived.Test.YtcnkcnalabjhgaaDoorInside
import Derived.Test.YtcnkcnalabjhgaaDoorWholeP6
import Derived.Deep.RegionHeld3
namespace Go.Proofs.YtcnkcnalabjhgaaDoor
set_option linter.all false
attribute [local irreducible] wpStill
open Go.RowKit

theorem TokRow.at' {w w' : World} {a : Option Addr} {n cap : Nat} {l : List Tok} (h : TokRow w (.slice a n cap) l) (hb : Below w.heap.size w w') {i : Nat} (hi : i < l.length) :
    ∃ b, a = some ⟨b, 0, none⟩ ∧ n = l.length ∧ l.length ≤ cap ∧ w'.cell? ⟨b, i * 3, none⟩ = some (.int .u8 l[i].1) ∧ w'.cell? ⟨b, i * 3 + 1, none⟩ = some (.int .i64 (l[i].2.1 : Nat)) ∧ w'.cell? ⟨b, i * 3 + 2, none⟩ = some (.int .i64 (l[i].2.2 : Nat)) := by
  obtain ⟨a', cap', hv, hc, hcells⟩ := h.below hb
  simp only [Value.slice.injEq] at hv
  obtain ⟨rfl, rfl, rfl⟩ := hv
  obtain ⟨b, hb', _, hcell⟩ := hcells (by omega)
  have := hcell i hi
  exact ⟨b, hb', rfl, hc, this.1, this.2.1, this.2.2⟩
/-- What holds at the loop's head. -/
def wholeRel (s : ByteArray) (w w0 : World) (L : List Tok) (p i : Value) (wr : World) : Prop :=
  ∃ a k : Nat, p = .int .i64 a ∧ i = .int .i64 k ∧ k ≤ L.length ∧ a ≤ s.size ∧ contig s a (L.drop k) ∧ Below w0.heap.size w0 wr ∧ Below w.heap.size w wr
set_option maxRecDepth 100000 in
set_option maxHeartbeats 8000000 in
theorem ScanWhole_walk (s : ByteArray) (hs : s.size ≤ 1048576) (w : World) (hT : Tabs w) (hM : MaxC w) :
    Calls Tryd.prog 4 #[.string s] w fun e w' => e = .returned (.bool true) ∧ Below w.heap.size w w' := by
  have HQ : RowKit.Hid (∀ w', Below w.heap.size w w' → (fun (e : Ending) w' => e = .returned (.bool true) ∧ Below w.heap.size w w') (.returned (.bool true)) w') := Lib.hid fun w' h => ⟨rfl, h⟩
  generalize (fun (e : Ending) w' => e = .returned (.bool true) ∧ Below w.heap.size w w') = Q at *
  have C1 := Lib.hid (scan_All s (by omega) w hT hM)
  have CF := Lib.hid (fun w' (hb : Below w.heap.size w w') => law07_fixed w' (hT.below hb) (hM.below hb))
  have CO := Lib.hid (fun p (hp : p.size ≤ 2147483647) w' (hb : Below w.heap.size w w') => scan_One p 0 hp w' (hT.below hb) (hM.below hb))
  have HC := Lib.hid (scanAll_contig s)
  have HFA := Lib.hid (scanAll_fault s)
  have HER := Lib.hid (scanAll_err s)
  have HLN := scanAll_len s
  have hs2 : s.size ≤ 2147483647 := by omega
  clear hs
  go_enter Tryd.func4, Tryd.ntmps4
  go_wp2_with fail
  refine C1.out.mono ?_
  intro e w1 h1
  unfold allPost at h1
  generalize scanAll s = q1 at *
  obtain ⟨L, er, ea⟩ := q1
  simp only [] at *
  obtain ⟨v1, rfl, hb1, ho1⟩ := h1
  have HB1 := Lib.hid hb1
  have HR1 := Lib.hid (TokRow.of_owns ho1)
  obtain ⟨a1, cap1, rfl, hcap1, _⟩ := HR1.out
  have HF1 : RowKit.Hid (FK (w1.alloc (.cells #[.int .i64 er, .int .i64 ea] 28)) w1.heap.size er ea) := Lib.hid (by unfold FK; exact heap_alloc_new _ _)
  have HA1 : RowKit.Hid (Below w1.heap.size w1 (w1.alloc (.cells #[.int .i64 er, .int .i64 ea] 28))) := Lib.hid ((Below.refl _ _).alloc (Nat.le_refl _) _)
  clear hb1 ho1 C1
  go_wp2_with fail
  refine (CF.out _ (bthen HB1.out HA1.out)).mono ?_
  rintro e w3 ⟨rfl, hb3⟩
  have HA3 := Lib.hid (bthen HA1.out hb3)
  have HF3 := Lib.hid (HF1.out.keep hb3)
  have HB3 := Lib.hid (bthen HB1.out HA3.out)
  clear hb3 HA1 HF1
  have f0 := HF3.out.c0; have f1 := HF3.out.c1
  by_cases her : er = 0
  · obtain rfl := HER.out her
    subst her
    have HC0 := Lib.hid (HC.out rfl)
    have HR3 := Lib.hid (HR1.out.below HA3.out)
    have HL : RowKit.Hid (L.drop 0 = L) := Lib.hid rfl
    clear HC HFA HER HR1
    go_wp2_with fail
    go_loopw [5, 6] (fun p i wr => wholeRel s w w3 L p i wr) (fun _ i _ => L.length - (intOf i).toNat)
    case atStart => exact ⟨0, 0, rfl, rfl, Nat.zero_le _, Nat.zero_le _, HC0.out, Below.refl _ _, HB3.out⟩
    case round =>
      obtain ⟨a, k, rfl, rfl, hk, ha, hcg, hb, hbw⟩ := hrel
      have HB := Lib.hid hb
      have HW := Lib.hid hbw
      have HG := Lib.hid hcg
      clear hb hbw hcg
      by_cases hlt : k < L.length
      · have hlt' : (k : Int) < L.length := by omega
        obtain ⟨b1, rfl, _, _, d0, d1, d2⟩ := HR3.out.at' HB.out hlt
        have HAT := Lib.hid (fun w' (hb : Below w3.heap.size w3 w') => HR3.out.at' hb hlt)
        have hg := HG.out
        rw [List.drop_eq_getElem_cons hlt] at hg
        generalize L[k] = t at *
        obtain ⟨kk, ff, tt⟩ := t
        simp only [contig, alone] at hg d0 d1 d2 HAT
        obtain ⟨rfl, g1, g2, g3, g4⟩ := hg
        have HG4 := Lib.hid g4
        have HG3 := Lib.hid g3
        clear g3 g4 HG
        have q1 : ¬ (tt : Int) ≤ (ff : Int) := by omega
        have q2 : ¬ (s.size : Int) < (tt : Int) := by omega
        have r1 : decide (tt ≤ ff) = false := decide_eq_false (by omega)
        have r2 : decide (s.size < tt) = false := decide_eq_false (by omega)
        have q3 : (ff : Int) ≤ tt := by omega
        have q4 : (tt : Int) ≤ s.size := by omega
        have q5 : (0 : Int) ≤ ff := by omega
        have q6 : ff ≤ tt := by omega
        have q7 : tt ≤ s.size := g2
        have hk0 : (0 : Int) ≤ k := by omega
        have hkc : (k : Int) < cap1 := by omega
        have hwk : IntKind.i64.wrap ((k : Int) + 1) = ((k + 1 : Nat) : Int) := by rw [IntKind.wrap_i64]; omega
        by_cases h4 : k < 400
        · have h4' : (k : Int) < 400 := by omega
          go_wp2_with fail
          have HBd := Lib.hid HB.out.drew
          have HWd := Lib.hid HW.out.drew
          have HI : RowKit.Hid (k + 1 ≤ L.length) := Lib.hid hlt
          have HPZ : RowKit.Hid ((s.extract ff tt).size ≤ 2147483647) := Lib.hid (by rw [piece_size (by omega) g2]; omega)
          have HTA : RowKit.Hid (TK (wr.drew.alloc (.cells #[.int .u8 0, .int .i64 0, .int .i64 0] 32)) wr.drew.heap.size 0 0 0) := Lib.hid (TK.alloc_new _ 0 0 0)
          have HBA := Lib.hid (HBd.out.alloc HBd.out.size (.cells #[.int .u8 0, .int .i64 0, .int .i64 0] 32))
          have HWA := Lib.hid (HWd.out.alloc HWd.out.size (.cells #[.int .u8 0, .int .i64 0, .int .i64 0] 32))
          have HS : RowKit.Hid (∀ W', Below w3.heap.size w3 W' → Below w.heap.size w W' → (W'.cell? { block := b1, off := k * 3 } = some (Value.int IntKind.u8 kk) ∧ W'.cell? { block := b1, off := k * 3 + 1 } = some (Value.int IntKind.i64 (ff : Int)) ∧ W'.cell? { block := b1, off := k * 3 + 2 } = some (Value.int IntKind.i64 (tt : Int)) ∧ RowKit.Hid (Below w3.heap.size w3 W') ∧ RowKit.Hid (Below w.heap.size w W'))) := Lib.hid fun W' g1 g2 => by
            obtain ⟨b1', hbb, _, _, e0, e1, e2⟩ := HAT.out W' g1
            simp only [Option.some.injEq, Addr.mk.injEq, and_true] at hbb
            subst hbb
            exact ⟨e0, e1, e2, Lib.hid g1, Lib.hid g2⟩
          go_region_held3 (fun W' => W'.cell? { block := b1, off := k * 3 } = some (Value.int IntKind.u8 kk) ∧ W'.cell? { block := b1, off := k * 3 + 1 } = some (Value.int IntKind.i64 (ff : Int)) ∧ W'.cell? { block := b1, off := k * 3 + 2 } = some (Value.int IntKind.i64 (tt : Int)) ∧ RowKit.Hid (Below w3.heap.size w3 W') ∧ RowKit.Hid (Below w.heap.size w W'))
            (first
              | exact HS.out _ HBd.out HWd.out
              | exact HS.out _ HBA.out HWA.out
              | exact HS.out _ (bthen HBd.out hb5) (bthen HWd.out hb5)
              | exact HS.out _ (bthen HBA.out hb5) (bthen HWA.out hb5)
              | exact HS.out _ ((bthen HBd.out hb5).alloc (bthen HBd.out hb5).size _) ((bthen HWd.out hb5).alloc (bthen HWd.out hb5).size _)
              | exact HS.out _ (below_fill (bthen HBA.out hb5) HBd.out.size _ _ _) (below_fill (bthen HWA.out hb5) HWd.out.size _ _ _)
              | exact HS.out _ (below_fill ((bthen HBd.out hb5).alloc (bthen HBd.out hb5).size _) (bthen HBd.out hb5).size _ _ _) (below_fill ((bthen HWd.out hb5).alloc (bthen HWd.out hb5).size _) (bthen HWd.out hb5).size _ _ _))
            (first
              | (go_at_call 15; refine (CO.out (s.extract ff tt) HPZ.out _ HWd.out).mono ?_; intro e w5 h5; unfold nextPost at h5; rw [HG3.out] at h5; obtain ⟨rfl, hb5⟩ := h5; (try dsimp only))
              | (go_at_call 15; refine (CO.out (s.extract ff tt) HPZ.out _ HWA.out).mono ?_; intro e w5 h5; unfold nextPost at h5; rw [HG3.out] at h5; obtain ⟨rfl, hb5⟩ := h5; have HT5 := Lib.hid (HTA.out.keep hb5); have z0 : w5.frozen? ⟨wr.heap.size, 0, none⟩ = false := HT5.out.fz 0; have z1 : w5.frozen? ⟨wr.heap.size, 1, none⟩ = false := HT5.out.fz 1; have z2 : w5.frozen? ⟨wr.heap.size, 2, none⟩ = false := HT5.out.fz 2; have y0 : w5.cell? ⟨wr.heap.size, 0, none⟩ = some (.int .u8 0) := HT5.out.c0; have y1 : w5.cell? ⟨wr.heap.size, 1, none⟩ = some (.int .i64 0) := HT5.out.c1; have y2 : w5.cell? ⟨wr.heap.size, 2, none⟩ = some (.int .i64 0) := HT5.out.c2; (try dsimp only)))
          · rename_i hH
            clear d0 d1 d2
            obtain ⟨d0, d1, d2, HB6, HW6⟩ := hH
            have HT6 := Lib.hid (TK.alloc_new w5 kk 0 ((tt - ff : Nat) : Int))
            have t0 := HT6.out.c0
            have t1 := HT6.out.c1
            have t2 := HT6.out.c2
            have hsub : IntKind.i64.wrap ((tt : Int) - (ff : Int)) = ((tt - ff : Nat) : Int) := by rw [IntKind.wrap_i64]; omega
            clear HT6 HBd HWd HBA HWA HTA HS HAT HB HW hb5
            go_wp2_with fail
            go_quiet (fail)
            go_wp2_with fail
            refine ⟨⟨tt, k + 1, rfl, congrArg (Value.int .i64) (by omega), HI.out, g2, HG4.out, bdrewN HB6.out nq, bdrewN HW6.out nq⟩, ?_⟩
            simp only [intOf]
            omega
          · rename_i hH
            clear d0 d1 d2
            obtain ⟨d0, d1, d2, HB6, HW6⟩ := hH
            have HT6 : RowKit.Hid (TK (((w5.setCell { block := wr.heap.size, off := 0 } (Value.int IntKind.u8 kk)).setCell { block := wr.heap.size, off := 1 } (Value.int IntKind.i64 0)).setCell { block := wr.heap.size, off := 2 } (Value.int IntKind.i64 ((tt - ff : Nat) : Int))) wr.heap.size kk 0 ((tt - ff : Nat) : Int)) := Lib.hid (HT5.out.fill kk 0 ((tt - ff : Nat) : Int))
            clear z0 z1 z2 y0 y1 y2 HT5
            have t0 := HT6.out.c0
            have t1 := HT6.out.c1
            have t2 := HT6.out.c2
            have hsub : IntKind.i64.wrap ((tt : Int) - (ff : Int)) = ((tt - ff : Nat) : Int) := by rw [IntKind.wrap_i64]; omega
            generalize (((w5.setCell { block := wr.heap.size, off := 0 } (Value.int IntKind.u8 kk)).setCell { block := wr.heap.size, off := 1 } (Value.int IntKind.i64 0)).setCell { block := wr.heap.size, off := 2 } (Value.int IntKind.i64 ((tt - ff : Nat) : Int))) = wz at *
            clear HT6 HBd HWd HBA HWA HTA HS HAT HB HW hb5
            go_wp2_with fail
            go_quiet (fail)
            go_wp2_with fail
            refine ⟨⟨tt, k + 1, rfl, congrArg (Value.int .i64) (by omega), HI.out, g2, HG4.out, bdrewN HB6.out nq, bdrewN HW6.out nq⟩, ?_⟩
            simp only [intOf]
            omega
        · have h4' : ¬ (k : Int) < 400 := by omega
          go_wp2_with fail
          refine ⟨⟨tt, k + 1, rfl, congrArg (Value.int .i64) (by omega), hlt, g2, HG4.out, HB.out, HW.out⟩, ?_⟩
          simp only [intOf]
          omega
      · have hlt' : ¬ (k : Int) < L.length := by omega
        have hae : a = s.size := by
          have := HG.out
          rw [List.drop_of_length_le (by omega)] at this
          exact this
        have hab : ((a : Int) == (s.size : Int)) = true := by simp; omega
        go_wp2_with fail
        show Q (.returned (.bool true)) _
        exact HQ.out _ HW.out
  · obtain ⟨rfl, e1, e2⟩ := HFA.out her
    have e1' : (0 : Int) ≤ ea := e1
    have herb : (er == 0) = false := by rw [beq_eq_false_iff_ne]; exact her
    have hern : (er != 0) = true := by simpa using her
    have d1 : decide (0 ≤ ea) = true := decide_eq_true e1
    have d2 : decide (ea ≤ (s.size : Int)) = true := decide_eq_true e2
    go_wp2_with fail
    refine (CF.out _ HB3.out).mono ?_
    rintro e w4 ⟨rfl, hb4⟩
    have HB4 := Lib.hid (bthen HB3.out hb4)
    have HF4 := Lib.hid (HF3.out.keep hb4)
    clear hb4 f0 f1 HF3
    have f0 := HF4.out.c0; have f1 := HF4.out.c1
    go_wp2_with fail
    show Q (.returned (.bool true)) _
    exact HQ.out _ HB4.out
end Go.Proofs.YtcnkcnalabjhgaaDoor
