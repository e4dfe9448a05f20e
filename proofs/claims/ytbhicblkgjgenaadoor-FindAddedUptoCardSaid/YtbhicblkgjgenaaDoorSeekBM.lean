/- Layer 17: the program's several and hole, walked. -/
import Derived.Test.YtbhicblkgjgenaaDoorMapSM
namespace Go.Proofs.YtbhicblkgjgenaaDoor
set_option linter.all false
attribute [local irreducible] Calls
open Go.RowKit

/-- The kind of a hole, as memory holds it. -/
theorem SkFix.kind {E : SkE} {w : World} (h : SkFix E w) {k : Nat} (hk : k < E.hs.length) : ∃ b off cap, E.vk = .slice (some ⟨b, off, none⟩) E.hs.length cap ∧ E.hs.length ≤ cap ∧ w.cell? ⟨b, off + k, none⟩ = some (.int .u8 (hkind E.hs k : Int)) := by
  obtain ⟨a, cap, hv, hc, hrow⟩ := h.k.open'
  have hl : (kindsI E.hs).length = E.hs.length := by unfold kindsI; simp
  obtain ⟨b, off, ha, hlt, hcell⟩ := hrow (by omega)
  refine ⟨b, off, cap, by rw [hv, hl, ha], by omega, ?_⟩
  rw [hcell k (by omega)]
  unfold kindsI hkind
  simp [List.getElem?_eq_getElem hk]
set_option maxRecDepth 100000 in
set_option maxHeartbeats 8000000 in
theorem sk_several (E : SkE) (w : World) (hi : SkFix E w) (hl : E.hs.length ≤ 1048576) (k : Nat) (hk : k < E.hs.length) :
    Calls Tryd.prog 37 #[.pointer (some ⟨E.g, 0, none⟩), .int .i64 (k : Int)] w fun e w' => e = .returned (.bool (isSev (hkind E.hs k))) ∧ w = w' := by
  have HQ : RowKit.Hid (∀ x, isSev (hkind E.hs k) = x → (fun (e : Ending) w' => e = .returned (.bool (isSev (hkind E.hs k))) ∧ w = w') (.returned (.bool x)) w) := Lib.hid fun x h => ⟨by rw [h], rfl⟩
  generalize (fun (e : Ending) w' => e = .returned (.bool (isSev (hkind E.hs k))) ∧ w = w') = Q at *
  obtain ⟨b, off, cap, hv, hc, c1⟩ := hi.kind hk
  have c5 := hi.cells.2.2.2.2.2.1
  rw [hv] at c5
  have hk0 : (0 : Int) ≤ (k : Int) := by omega
  have hkl : (k : Int) < E.hs.length := by omega
  have hS : isSev (hkind E.hs k) = (hkind E.hs k == 6 || hkind E.hs k == 7) := rfl
  have HS := Lib.hid hS
  clear hS hv hi
  generalize hkind E.hs k = x at *
  generalize E.hs.length = n at *
  generalize E.g = g at *
  by_cases h6 : x = 6
  · have f1 : ((x : Int) == 6) = true := by rw [beq_iff_eq]; omega
    have HX := Lib.hid (HQ.out true (by rw [HS.out, h6]; rfl))
    clear h6
    go_enter Tryd.func37, Tryd.ntmps37
    go_wp2_with fail
    exact HX.out
  · have f1 : ((x : Int) == 6) = false := by rw [beq_eq_false_iff_ne]; omega
    by_cases h7 : x = 7
    · have f2 : ((x : Int) == 7) = true := by rw [beq_iff_eq]; omega
      have HX := Lib.hid (HQ.out true (by rw [HS.out, h7]; rfl))
      clear h6 h7
      go_enter Tryd.func37, Tryd.ntmps37
      go_wp2_with fail
      exact HX.out
    · have f2 : ((x : Int) == 7) = false := by rw [beq_eq_false_iff_ne]; omega
      have HX := Lib.hid (HQ.out false (by rw [HS.out]; simp [h6, h7]))
      clear h6 h7
      go_enter Tryd.func37, Tryd.ntmps37
      go_wp2_with fail
      exact HX.out
set_option maxRecDepth 100000 in
set_option maxHeartbeats 8000000 in
theorem sk_several_no (a : Option Addr) (w : World) :
    Calls Tryd.prog 37 #[.pointer a, .int .i64 (-1)] w fun e w' => e = .returned (.bool false) ∧ w = w' := by
  have HQ : RowKit.Hid ((fun (e : Ending) w' => e = .returned (.bool false) ∧ w = w') (.returned (.bool false)) w) := Lib.hid ⟨rfl, rfl⟩
  generalize (fun (e : Ending) w' => e = .returned (.bool false) ∧ w = w') = Q at *
  go_enter Tryd.func37, Tryd.ntmps37
  go_wp2_with fail
  exact HQ.out
/-- A hole's number, or -1. -/
def holeZ (o : Option Nat) : Int := match o with
  | some h => (h : Int)
  | none => -1
theorem holeM_some {hs : List Hl} {s : ByteArray} {h : Nat} (e : hs.findIdx? (fun x => decide (s = x.1)) = some h) : holeM hs s = some (h : Int) := by unfold holeM; rw [e]; rfl
theorem holeM_none {hs : List Hl} {s : ByteArray} (e : hs.findIdx? (fun x => decide (s = x.1)) = none) : holeM hs s = none := by unfold holeM; rw [e]; rfl
/-- What hole answers. -/
@[irreducible] def holePost (o : Option Nat) (w : World) (e : Ending) (w' : World) : Prop := e = .returned (.int .i64 (holeZ o)) ∧ ∃ n, w' = w.drewN n
theorem drew_one (w : World) : w = w.drewN 0 := rfl
set_option maxRecDepth 100000 in
set_option maxHeartbeats 8000000 in
theorem sk_hole (E : SkE) (ok : SkOK E) (w : World) (hi : SkFix E w) (p : Nat) (hp : p < E.f.length) :
    Calls Tryd.prog 36 #[.pointer (some ⟨E.g, 0, none⟩), .int .i64 (p : Int)] w (holePost (holeOf E.f E.hs p) w) := by
  have HQ : RowKit.Hid (∀ o n, holeOf E.f E.hs p = o → holePost (holeOf E.f E.hs p) w (.returned (.int .i64 (holeZ o))) (w.drewN n)) := Lib.hid fun o n h => by
    unfold holePost; rw [h]; exact ⟨rfl, n, rfl⟩
  generalize holePost (holeOf E.f E.hs p) w = Q at *
  have hw := well_rows ok.hf.well
  have hka : ∀ i (h : i < E.f.length), kindAt E.f i = (E.f[i]).1 := fun i h => by unfold kindAt; rw [List.getElem?_eq_getElem h]
  have hfl := ok.fl
  obtain ⟨fa, fcap, hfv, hfc⟩ := hi.f.slice
  have hrow := hi.f
  rw [hfv] at hrow
  obtain ⟨b, off, rfl, _, _, hbl, hcell⟩ := hrow.at (Below.refl _ _) (show 0 < E.f.length by omega)
  obtain ⟨d0, _, d2⟩ := hcell p hp
  have c0 := hi.cells.1
  rw [hfv] at c0
  have c4 := hi.cells.2.2.2.2.1
  have c5 := hi.cells.2.2.2.2.2.1
  have hp0 : (0 : Int) ≤ (p : Int) := by omega
  have hpl : (p : Int) < E.f.length := by omega
  have hpc : (p : Int) < fcap := by omega
  have hwp : IntKind.i64.wrap ((p : Int) + 1) = (p : Int) + 1 := by rw [IntKind.wrap_i64]; omega
  have hlook : ∀ s : ByteArray, s.size ≤ 1048576 → ∀ k, (Instr.lookup 61 (.map (some E.bm)) (.string s) true).run Tryd.prog (w.drewN k) = .ok (.tuple #[.int .i64 ((holeM E.hs s).getD 0), .bool (holeM E.hs s).isSome]) (w.drewN k) := fun s hs k =>
    (hi.m.same (w' := w.drewN k) rfl).ok s (by unfold maxLen; omega)
  have HL := Lib.hid hlook
  have HP := Lib.hid ((ok.hf.prog p hp).symm)
  have HC := Lib.hid hcell
  have HI := Lib.hid hi
  have HKA := Lib.hid hka
  have HSZ := Lib.hid (fun i (h : i < E.f.length) => (ok.fk.2 _ (List.getElem_mem h)).2)
  clear hcell hrow hi hka hlook
  by_cases h50 : (E.f[p]).1 = 50
  · obtain ⟨hp1, _⟩ := end_stmt hw hp (ok.hf.stmt p hp h50)
    obtain ⟨g0, _, g2⟩ := HC.out (p + 1) hp1
    have hp1i : (p : Int) + 1 < E.f.length := by omega
    have hp1c : (p : Int) + 1 < fcap := by omega
    have hp10 : (0 : Int) ≤ (p : Int) + 1 := by omega
    have hp1n : ((p : Int) + 1).toNat = p + 1 := by omega
    have hgt : (p : Int) < (p : Int) + 1 := by omega
    have hgd : decide ((p : Int) < (p : Int) + 1) = true := decide_eq_true hgt
    by_cases h26 : (E.f[p + 1]).1 = 26
    · have f1 : (((E.f[p]).1 : Int) == 50) = true := by rw [beq_iff_eq]; omega
      have f3 : (((E.f[p + 1]).1 : Int) == 26) = true := by rw [beq_iff_eq]; omega
      have f2 : (((E.f[p + 1]).1 : Int) != 26) = false := by rw [bne_eq_false_iff_eq]; omega
      have hho : ∀ o, E.hs.findIdx? (fun x => decide ((E.f[p + 1]).2.2 = x.1)) = o → holeOf E.f E.hs p = (match o with
          | some h => if isStmt (hkind E.hs h) then some h else none
          | none => none) := fun o ho => by
        rw [HP.out]; unfold holeP
        rw [HKA.out p hp, HKA.out (p + 1) hp1, if_pos ⟨h50, h26⟩, List.getElem?_eq_getElem hp1]
        simp only []
        rw [ho]
        cases o <;> rfl
      have HHO := Lib.hid hho
      have hsz := HSZ.out (p + 1) hp1
      have HLK := Lib.hid (HL.out (E.f[p + 1]).2.2 hsz)
      clear h50 h26 hho hsz d2
      generalize (E.f[p]).1 = kp at *
      generalize (E.f[p + 1]).1 = kq at *
      generalize (E.f[p + 1]).2.2 = xp at *
      cases hx : E.hs.findIdx? (fun x => decide (xp = x.1)) with
      | none =>
        have hlk := HLK.out
        rw [holeM_none hx] at hlk
        simp only [Option.getD_none, Option.isSome_none] at hlk
        have HX := Lib.hid (fun n => HQ.out none n (by rw [HHO.out none hx]))
        clear hx HLK
        go_enter Tryd.func36, Tryd.ntmps36
        go_wp2_with fail
        go_quiet (fail)
        go_wp2_with fail
        exact HX.out _
      | some h =>
        obtain ⟨hh, hj⟩ := List.findIdx?_eq_some_iff_getElem.1 hx
        clear hj
        have hlk := HLK.out
        rw [holeM_some hx] at hlk
        simp only [Option.getD_some, Option.isSome_some] at hlk
        obtain ⟨kb, koff, kcap, hkv, hkc, k1⟩ := HI.out.kind hh
        rw [hkv] at c5
        have hh0 : (0 : Int) ≤ (h : Int) := by omega
        have hhl : (h : Int) < E.hs.length := by omega
        have HS : RowKit.Hid (isStmt (hkind E.hs h) = (hkind E.hs h == 5 || hkind E.hs h == 7)) := Lib.hid rfl
        have hO := HHO.out (some h) hx
        simp only [] at hO
        have HO := Lib.hid hO
        clear hO
        have hhn := ok.hn
        clear hx HLK hh hkv
        generalize hkind E.hs h = x at *
        by_cases h5 : x = 5
        · have g1 : ((x : Int) == 5) = true := by rw [beq_iff_eq]; omega
          have HX := Lib.hid (fun n => HQ.out (some h) n (by rw [HO.out, HS.out, h5]; rfl))
          clear h5
          go_enter Tryd.func36, Tryd.ntmps36
          go_wp2_with fail
          go_quiet (fail)
          go_wp2_with fail
          exact HX.out _
        · have g1 : ((x : Int) == 5) = false := by rw [beq_eq_false_iff_ne]; omega
          by_cases h7 : x = 7
          · have g2 : ((x : Int) == 7) = true := by rw [beq_iff_eq]; omega
            have HX := Lib.hid (fun n => HQ.out (some h) n (by rw [HO.out, HS.out, h7]; rfl))
            clear h5 h7
            go_enter Tryd.func36, Tryd.ntmps36
            go_wp2_with fail
            go_quiet (fail)
            go_wp2_with fail
            exact HX.out _
          · have g2 : ((x : Int) == 7) = false := by rw [beq_eq_false_iff_ne]; omega
            have HX := Lib.hid (fun n => HQ.out none n (by rw [HO.out, HS.out]; simp [h5, h7]))
            clear h5 h7
            go_enter Tryd.func36, Tryd.ntmps36
            go_wp2_with fail
            go_quiet (fail)
            go_wp2_with fail
            exact HX.out _
    · have f1 : (((E.f[p]).1 : Int) == 50) = true := by rw [beq_iff_eq]; omega
      have f3 : (((E.f[p + 1]).1 : Int) == 26) = false := by rw [beq_eq_false_iff_ne]; omega
      have f2 : (((E.f[p]).1 : Int) != 26) = true := by rw [bne_iff_ne]; omega
      have HX := Lib.hid (HQ.out none 0 (by rw [HP.out]; unfold holeP; rw [HKA.out p hp, HKA.out (p + 1) hp1, if_neg (fun h => h26 h.2), if_neg (by omega)]))
      clear h50 h26 d2 g2
      generalize (E.f[p]).1 = kp at *
      generalize (E.f[p + 1]).1 = kq at *
      go_enter Tryd.func36, Tryd.ntmps36
      go_wp2_with fail
      exact HX.out
  · by_cases h26 : (E.f[p]).1 = 26
    · have f1 : (((E.f[p]).1 : Int) == 50) = false := by rw [beq_eq_false_iff_ne]; omega
      have f2 : (((E.f[p]).1 : Int) != 26) = false := by rw [bne_eq_false_iff_eq]; omega
      have hho : ∀ o, E.hs.findIdx? (fun x => decide ((E.f[p]).2.2 = x.1)) = o → holeOf E.f E.hs p = (match o with
          | some h => if isStmt (hkind E.hs h) then none else some h
          | none => none) := fun o ho => by
        rw [HP.out]; unfold holeP
        rw [HKA.out p hp, if_neg (fun h => h50 h.1), if_pos h26, List.getElem?_eq_getElem hp]
        simp only []
        rw [ho]
        cases o <;> rfl
      have HHO := Lib.hid hho
      have hsz := HSZ.out p hp
      have HLK := Lib.hid (HL.out (E.f[p]).2.2 hsz)
      clear h50 h26 hho hsz
      generalize (E.f[p]).1 = kp at *
      generalize (E.f[p]).2.2 = xp at *
      cases hx : E.hs.findIdx? (fun x => decide (xp = x.1)) with
      | none =>
        have hlk := HLK.out
        rw [holeM_none hx] at hlk
        simp only [Option.getD_none, Option.isSome_none] at hlk
        have HX := Lib.hid (fun n => HQ.out none n (by rw [HHO.out none hx]))
        clear hx HLK
        go_enter Tryd.func36, Tryd.ntmps36
        go_wp2_with fail
        go_quiet (fail)
        go_wp2_with fail
        exact HX.out _
      | some h =>
        obtain ⟨hh, hj⟩ := List.findIdx?_eq_some_iff_getElem.1 hx
        clear hj
        have hlk := HLK.out
        rw [holeM_some hx] at hlk
        simp only [Option.getD_some, Option.isSome_some] at hlk
        obtain ⟨kb, koff, kcap, hkv, hkc, k1⟩ := HI.out.kind hh
        rw [hkv] at c5
        have hh0 : (0 : Int) ≤ (h : Int) := by omega
        have hhl : (h : Int) < E.hs.length := by omega
        have HS : RowKit.Hid (isStmt (hkind E.hs h) = (hkind E.hs h == 5 || hkind E.hs h == 7)) := Lib.hid rfl
        have hO := HHO.out (some h) hx
        simp only [] at hO
        have HO := Lib.hid hO
        clear hO
        have hhn := ok.hn
        clear hx HLK hh hkv
        generalize hkind E.hs h = x at *
        by_cases h5 : x = 5
        · have g1 : ((x : Int) == 5) = true := by rw [beq_iff_eq]; omega
          have HX := Lib.hid (fun n => HQ.out none n (by rw [HO.out, HS.out, h5]; rfl))
          clear h5
          go_enter Tryd.func36, Tryd.ntmps36
          go_wp2_with fail
          go_quiet (fail)
          go_wp2_with fail
          exact HX.out _
        · have g1 : ((x : Int) == 5) = false := by rw [beq_eq_false_iff_ne]; omega
          by_cases h7 : x = 7
          · have g2 : ((x : Int) == 7) = true := by rw [beq_iff_eq]; omega
            have HX := Lib.hid (fun n => HQ.out none n (by rw [HO.out, HS.out, h7]; rfl))
            clear h5 h7
            go_enter Tryd.func36, Tryd.ntmps36
            go_wp2_with fail
            go_quiet (fail)
            go_wp2_with fail
            exact HX.out _
          · have g2 : ((x : Int) == 7) = false := by rw [beq_eq_false_iff_ne]; omega
            have HX := Lib.hid (fun n => HQ.out (some h) n (by rw [HO.out, HS.out]; simp [h5, h7]))
            clear h5 h7
            go_enter Tryd.func36, Tryd.ntmps36
            go_wp2_with fail
            go_quiet (fail)
            go_wp2_with fail
            exact HX.out _
    · have f1 : (((E.f[p]).1 : Int) == 50) = false := by rw [beq_eq_false_iff_ne]; omega
      have f2 : (((E.f[p]).1 : Int) != 26) = true := by rw [bne_iff_ne]; omega
      have HX := Lib.hid (HQ.out none 0 (by rw [HP.out]; unfold holeP; rw [HKA.out p hp, if_neg (fun h => h50 h.1), if_neg h26]))
      clear h50 h26
      generalize (E.f[p]).1 = kp at *
      generalize (E.f[p]).2.2 = xp at *
      go_enter Tryd.func36, Tryd.ntmps36
      go_wp2_with fail
      exact HX.out
end Go.Proofs.YtbhicblkgjgenaaDoor
