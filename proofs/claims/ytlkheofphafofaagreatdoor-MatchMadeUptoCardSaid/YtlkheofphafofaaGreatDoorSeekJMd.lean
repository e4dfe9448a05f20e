/- Layer 17: the program's part where a hole for one stands, walked. -/
import Derived.Test.YtlkheofphafofaaGreatDoorSeekGMd
namespace Go.Proofs.YtlkheofphafofaaGreatDoor
set_option linter.all false
attribute [local irreducible] Calls
open Go.RowKit

structure SkRead (E : SkE) (w : World) (h p i : Nat) (kb ko kc lb lo lc eb eo ec : Nat) : Prop where
 k : ∀ W, KeptX E w W → W.cell? ⟨E.g, 5, none⟩ = some (.slice (some ⟨kb, ko, none⟩) E.hs.length kc) ∧ W.cell? ⟨kb, ko + h, none⟩ = some (.int .u8 (hkind E.hs h : Int))
 l : ∀ W, KeptX E w W → W.cell? ⟨E.g, 1, none⟩ = some (.slice (some ⟨lb, lo, none⟩) E.l.length lc) ∧ W.cell? ⟨lb, lo + i * 3, none⟩ = some (.int .u8 (kindAt E.l i : Int))
 e : ∀ W, KeptX E w W → W.cell? ⟨E.g, 3, none⟩ = some (.slice (some ⟨eb, eo, none⟩) E.l.length ec) ∧ W.cell? ⟨eb, eo + i, none⟩ = some (.int .i64 (endB E.l i : Int))
 kc : E.hs.length ≤ kc
 lc : E.l.length ≤ lc
 ec : E.l.length ≤ ec
theorem SkStat.read {E : SkE} {w : World} (hs : SkStat E w) {h p i : Nat} (hh : h < E.hs.length) (hi : i < E.l.length) : ∃ kb ko kc lb lo lc eb eo ec, SkRead E w h p i kb ko kc lb lo lc eb eo ec := by
 obtain ⟨kb, ko, kc, hk, hkc, _⟩ := hs.now.kind hh
 obtain ⟨lb, lo, lc, hl, hlc, hlp⟩ := hs.parts (L := E.l) (v := E.vl) (fun w' hk => (hs w' hk).l) (by omega)
 obtain ⟨eb, eo, ec, he, hec, hep⟩ := hs.ends (L := E.l) (v := E.ve) (fun w' hk => (hs w' hk).e) (by omega)
 refine ⟨kb, ko, kc, lb, lo, lc, eb, eo, ec, fun W hW => ?_, fun W hW => ?_, fun W hW => ?_, hkc, hlc, hec⟩
 ·have hc := (hs W hW).cells
  obtain ⟨kb', ko', kc', hk', _, hcell⟩ := (hs W hW).kind hh
  rw [hk] at hk'
  simp only [Value.slice.injEq, Option.some.injEq, Addr.mk.injEq, and_true, true_and] at hk'
  obtain ⟨⟨rfl, rfl⟩, rfl⟩ := hk'
  exact ⟨by rw [hc.2.2.2.2.2.1, hk], hcell⟩
 ·have hc := (hs W hW).cells
  refine ⟨by rw [hc.2.1, hl], ?_⟩
  rw [(hlp W hW i hi).1]
  unfold kindAt
  rw [List.getElem?_eq_getElem hi]
 ·have hc := (hs W hW).cells
  exact ⟨by rw [hc.2.2.2.1, he], hep W hW i hi⟩
set_option maxRecDepth 100000 in
set_option maxHeartbeats 16000000 in
theorem sk_part_one (E : SkE) (ok : SkOK E) (h7 : ∀ x ∈ E.hs, 1 ≤ x.2 ∧ x.2 ≤ 7) (n : Nat) (w : World) (σ : MSt) (p i : Nat) (K : MSt → Option MSt) (tv : Value) (hi : SkIn E σ w) (hp : p < E.f.length) (hil : i < E.l.length) (ht : ThenOK E K tv w) (h : Nat) (ho : oneOf E.f E.hs p = some h) :
  Calls Tryz.prog 38 #[.pointer (some ⟨E.g, 0, none⟩), .int .i64 (p : Int), .int .i64 (i : Int), tv] w (seekPost E (sPart E.f E.l E.hs (n + 1) p i K σ) σ w) := by
 have hsp : sPart E.f E.l E.hs (n + 1) p i K σ = if mayB (hkind E.hs h) (kindAt E.l i) then (bindS E.l σ h i (endB E.l i)).bind K else none := by rw [sPart, ho]
 rw [hsp]
 obtain ⟨Q, hQ⟩ : ∃ Q, seekPost E (if mayB (hkind E.hs h) (kindAt E.l i) then (bindS E.l σ h i (endB E.l i)).bind K else none) σ w = Q := ⟨_, rfl⟩
 have HQ : RowKit.Hid (∀ e w', seekPost E (if mayB (hkind E.hs h) (kindAt E.l i) then (bindS E.l σ h i (endB E.l i)).bind K else none) σ w e w' → Q e w') := Lib.hid fun e w' h => by rw [← hQ]; exact h
 rw [hQ]
 clear hQ hsp
 obtain ⟨hsev, hho, _⟩ := oneOf_one E.f E.hs ho
 have hh := hole_lt E.f E.hs hho
 have C1 := sk_hole E ok w hi.st.now p hp
 rw [hho] at C1
 have C1 := Lib.hid C1
 have hk5 : 1 ≤ hkind E.hs h ∧ hkind E.hs h ≤ 5 := by
  have := h7 _ (List.getElem_mem hh)
  have e : hkind E.hs h = (E.hs[h]).2 := by unfold hkind; rw [List.getElem?_eq_getElem hh]
  rw [e] at hsev ⊢
  unfold isSev at hsev
  simp at hsev
  omega
 have hkl : kindAt E.l i < 256 := by
  have := (ok.lk.2 _ (List.getElem_mem hil)).1
  unfold kindAt; rw [List.getElem?_eq_getElem hil]; exact this
 have hg := endB_gt (well_rows ok.hl) hil
 have CM := Lib.hid (fun W => match_may _ _ hk5.1 hk5.2 hkl W)
 have CB := Lib.hid (fun W (hk : KeptX E w W) (hs : SkIn E σ W) => sk_bind E ok W σ hs h hh i (endB E.l i) (by omega) hg.2 K tv (ht.keep hk))
 obtain ⟨kb, ko, kc, lb, lo, lc, eb, eo, ec, R⟩ := hi.st.read (p := p) hh hil
 have HR := Lib.hid R
 have HS : RowKit.Hid (∀ W, KeptX E w W → (fun W => W.cell? ⟨E.g, 5, none⟩ = some (.slice (some ⟨kb, ko, none⟩) E.hs.length kc) ∧ W.cell? ⟨kb, ko + h, none⟩ = some (.int .u8 (hkind E.hs h : Int)) ∧ W.cell? ⟨E.g, 1, none⟩ = some (.slice (some ⟨lb, lo, none⟩) E.l.length lc) ∧ W.cell? ⟨lb, lo + i * 3, none⟩ = some (.int .u8 (kindAt E.l i : Int)) ∧ W.cell? ⟨E.g, 3, none⟩ = some (.slice (some ⟨eb, eo, none⟩) E.l.length ec) ∧ W.cell? ⟨eb, eo + i, none⟩ = some (.int .i64 (endB E.l i : Int)) ∧ RowKit.Hid (KeptX E w W)) W) := Lib.hid fun W hk => ⟨(R.k W hk).1, (R.k W hk).2, (R.l W hk).1, (R.l W hk).2, (R.e W hk).1, (R.e W hk).2, Lib.hid hk⟩
 have HI := Lib.hid hi
 have C2 := Lib.hid (fun W (hk : KeptX E w W) => sk_several E W ((hi.st.keep hk).now) ok.hn h hh)
 have hh0 : (0 : Int) ≤ (h : Int) := by omega
 have hhl : (h : Int) < E.hs.length := by omega
 have hi0 : (0 : Int) ≤ (i : Int) := by omega
 have hill : (i : Int) < E.l.length := by omega
 have hhn := ok.hn
 have hll := ok.ll
 have hkc := R.kc
 have hlc := R.lc
 have hec := R.ec
 rw [hsev] at C2
 clear HR hi ht R hk5 hkl hg ho hho hsev
 generalize hkind E.hs h = x at *
 generalize kindAt E.l i = y at *
 generalize endB E.l i = z at *
 go_enter Tryz.func38, Tryz.ntmps38
 go_wp2_with fail
 refine C1.out.mono ?_
 intro e w1 h1
 unfold holePost at h1
 obtain ⟨rfl, m, rfl⟩ := h1
 unfold holeZ
 go_wp2_with fail
 refine (C2.out _ (KeptX.drewN E w m)).mono ?_
 rintro e w2 ⟨rfl, rfl⟩
 have HKD : RowKit.Hid (KeptX E w (w.drewN (m + 1))) := Lib.hid (KeptX.drewN E w (m + 1))
 have HID : RowKit.Hid (SkIn E σ (w.drewN (m + 1))) := Lib.hid (HI.out.drewN (m + 1))
 have HSA := Lib.hid (HS.out _ HKD.out)
 go_wp2_with fail
 cases hm : mayB x y with
 | true =>
  rw [hm] at HQ CM
  rw [if_pos rfl] at HQ
  clear hm
  go_region_held3 (fun W => W.cell? ⟨E.g, 5, none⟩ = some (.slice (some ⟨kb, ko, none⟩) E.hs.length kc) ∧ W.cell? ⟨kb, ko + h, none⟩ = some (.int .u8 (x : Int)) ∧ W.cell? ⟨E.g, 1, none⟩ = some (.slice (some ⟨lb, lo, none⟩) E.l.length lc) ∧ W.cell? ⟨lb, lo + i * 3, none⟩ = some (.int .u8 (y : Int)) ∧ W.cell? ⟨E.g, 3, none⟩ = some (.slice (some ⟨eb, eo, none⟩) E.l.length ec) ∧ W.cell? ⟨eb, eo + i, none⟩ = some (.int .i64 (z : Int)) ∧ RowKit.Hid (KeptX E w W)) (first | exact HSA.out | exact HS.out _ (HKD.out.trans hk6)) (first | ((go_at_call 61; (with_reducible refine (CM.out _).mono ?_); (rintro e w4 ⟨rfl, rfl⟩); (try dsimp only))) | ((go_at_call 62; (with_reducible refine (CB.out _ HKD.out HID.out).mono ?_); (intro e w6 h6; obtain ⟨v, rfl⟩ := h6.bool; have hk6 := h6.out.1); (try dsimp only))))
  all_goals
   have HX := Lib.hid (HQ.out _ _ (h6.from HKD.out))
   clear h6
   go_wp2_with fail
   exact HX.out
 | false =>
  rw [hm] at HQ CM
  rw [if_neg (by simp)] at HQ
  clear hm
  refine wp_region_noPanic ?_
  refine wp_region_held_drew (S := fun W => W.cell? ⟨E.g, 5, none⟩ = some (.slice (some ⟨kb, ko, none⟩) E.hs.length kc) ∧ W.cell? ⟨kb, ko + h, none⟩ = some (.int .u8 (x : Int)) ∧ W.cell? ⟨E.g, 1, none⟩ = some (.slice (some ⟨lb, lo, none⟩) E.l.length lc) ∧ W.cell? ⟨lb, lo + i * 3, none⟩ = some (.int .u8 (y : Int)) ∧ W.cell? ⟨E.g, 3, none⟩ = some (.slice (some ⟨eb, eo, none⟩) E.l.length ec) ∧ W.cell? ⟨eb, eo + i, none⟩ = some (.int .i64 (z : Int)) ∧ RowKit.Hid (KeptX E w W)) (by kernel_rfl) HSA.out (fun hHeldA => ?_)
  refine wpAnyH_take (i := 0) (oi := _) (v := ?vA0) rfl (by kernel_rfl) (by kernel_rfl) (by kernel_rfl) (fun _ _ _ h => h) (Or.inl ⟨by kernel_rfl, ?hyA0⟩) hHeldA ?restA0
  case hyA0 => intro w hSw; (try dsimp only at hSw); go_simp; (try with_reducible rfl)
  (try simp only [Act.put, List.setIfInBounds_toArray, List.set_cons_zero, List.set_cons_succ])
  refine wpAnyH_take (i := 1) (oi := _) (v := ?vA1) rfl (by kernel_rfl) (by kernel_rfl) (by kernel_rfl) (fun _ _ _ h => h) (Or.inl ⟨by kernel_rfl, ?hyA1⟩) hHeldA ?restA1
  case hyA1 => intro w hSw; (try dsimp only at hSw); go_simp; (try with_reducible rfl)
  (try simp only [Act.put, List.setIfInBounds_toArray, List.set_cons_zero, List.set_cons_succ])
  refine wpAnyH_take (i := 2) (oi := _) (v := ?vA2) rfl (by kernel_rfl) (by kernel_rfl) (by kernel_rfl) (fun _ _ _ h => h) (Or.inl ⟨by kernel_rfl, ?hyA2⟩) hHeldA ?restA2
  case hyA2 => intro w hSw; (try dsimp only at hSw); go_simp; (try with_reducible rfl)
  (try simp only [Act.put, List.setIfInBounds_toArray, List.set_cons_zero, List.set_cons_succ])
  refine wpAnyH_take (i := 3) (oi := _) (v := ?vA3) rfl (by kernel_rfl) (by kernel_rfl) (by kernel_rfl) (fun _ _ _ h => h) (Or.inl ⟨by kernel_rfl, ?hyA3⟩) hHeldA ?restA3
  case hyA3 => intro w hSw; (try dsimp only at hSw); go_simp; (try with_reducible rfl)
  (try simp only [Act.put, List.setIfInBounds_toArray, List.set_cons_zero, List.set_cons_succ])
  refine wpAnyH_take (i := 4) (oi := _) (v := ?vA4) rfl (by kernel_rfl) (by kernel_rfl) (by kernel_rfl) (fun _ _ _ h => h) (Or.inl ⟨by kernel_rfl, ?hyA4⟩) hHeldA ?restA4
  case hyA4 => intro w hSw; (try dsimp only at hSw); go_simp; (try with_reducible rfl)
  (try simp only [Act.put, List.setIfInBounds_toArray, List.set_cons_zero, List.set_cons_succ])
  refine wpAnyH_take (i := 5) (oi := _) (v := ?vA5) rfl (by kernel_rfl) (by kernel_rfl) (by kernel_rfl) (fun _ _ _ h => h) (Or.inl ⟨by kernel_rfl, ?hyA5⟩) hHeldA ?restA5
  case hyA5 => intro w hSw; (try dsimp only at hSw); go_simp; (try with_reducible rfl)
  (try simp only [Act.put, List.setIfInBounds_toArray, List.set_cons_zero, List.set_cons_succ])
  refine wpAnyH_take (i := 6) (oi := _) (v := ?vA6) rfl (by kernel_rfl) (by kernel_rfl) (by kernel_rfl) (fun _ _ _ h => h) (Or.inl ⟨by kernel_rfl, ?hyA6⟩) hHeldA ?restA6
  case hyA6 => intro w hSw; (try dsimp only at hSw); go_simp; (try with_reducible rfl)
  (try simp only [Act.put, List.setIfInBounds_toArray, List.set_cons_zero, List.set_cons_succ])
  refine wpAnyH_take (i := 7) (oi := _) (v := ?vA7) rfl (by kernel_rfl) (by kernel_rfl) (by kernel_rfl) (fun _ _ _ h => h) (Or.inl ⟨by kernel_rfl, ?hyA7⟩) hHeldA ?restA7
  case hyA7 => intro w hSw; (try dsimp only at hSw); go_simp; (try with_reducible rfl)
  (try simp only [Act.put, List.setIfInBounds_toArray, List.set_cons_zero, List.set_cons_succ])
  refine wpAnyH_take (i := 8) (oi := _) (v := ?vA8) rfl (by kernel_rfl) (by kernel_rfl) (by kernel_rfl) (fun _ _ _ h => h) (Or.inl ⟨by kernel_rfl, ?hyA8⟩) hHeldA ?restA8
  case hyA8 => intro w hSw; (try dsimp only at hSw); go_simp; (try with_reducible rfl)
  (try simp only [Act.put, List.setIfInBounds_toArray, List.set_cons_zero, List.set_cons_succ])
  refine wpAnyH_take (i := 9) (oi := _) (v := ?vA9) rfl (by kernel_rfl) (by kernel_rfl) (by kernel_rfl) (fun _ _ _ h => h) (Or.inl ⟨by kernel_rfl, ?hyA9⟩) hHeldA ?restA9
  case hyA9 => intro w hSw; (try dsimp only at hSw); go_simp; (try with_reducible rfl)
  (try simp only [Act.put, List.setIfInBounds_toArray, List.set_cons_zero, List.set_cons_succ])
  refine wpAnyH_take (i := 10) (oi := _) (v := ?vA10) rfl (by kernel_rfl) (by kernel_rfl) (by kernel_rfl) (fun _ _ _ h => h) (Or.inl ⟨by kernel_rfl, ?hyA10⟩) hHeldA ?restA10
  case hyA10 => intro w hSw; (try dsimp only at hSw); go_simp; (try with_reducible rfl)
  (try simp only [Act.put, List.setIfInBounds_toArray, List.set_cons_zero, List.set_cons_succ])
  refine wpAnyH_take (i := 11) (oi := _) (v := ?vA11) rfl (by kernel_rfl) (by kernel_rfl) (by kernel_rfl) (fun _ _ _ h => h) (Or.inl ⟨by kernel_rfl, ?hyA11⟩) hHeldA ?restA11
  case hyA11 => intro w hSw; (try dsimp only at hSw); go_simp; (try with_reducible rfl)
  (try simp only [Act.put, List.setIfInBounds_toArray, List.set_cons_zero, List.set_cons_succ])
  refine wpAnyH_take (i := 12) (oi := _) (v := ?vA12) rfl (by kernel_rfl) (by kernel_rfl) (by kernel_rfl) (fun _ _ _ h => h) (Or.inl ⟨by kernel_rfl, ?hyA12⟩) hHeldA ?restA12
  case hyA12 => intro w hSw; (try dsimp only at hSw); go_simp; (try with_reducible rfl)
  (try simp only [Act.put, List.setIfInBounds_toArray, List.set_cons_zero, List.set_cons_succ])
  refine wpAnyH_take (i := 13) (oi := _) (v := ?vA13) rfl (by kernel_rfl) (by kernel_rfl) (by kernel_rfl) (fun _ _ _ h => h) (Or.inl ⟨by kernel_rfl, ?hyA13⟩) hHeldA ?restA13
  case hyA13 => intro w hSw; (try dsimp only at hSw); go_simp; (try with_reducible rfl)
  (try simp only [Act.put, List.setIfInBounds_toArray, List.set_cons_zero, List.set_cons_succ])
  refine wpAnyH_take (i := 14) (oi := _) (v := ?vA14) rfl (by kernel_rfl) (by kernel_rfl) (by kernel_rfl) (fun _ _ _ h => h) (Or.inl ⟨by kernel_rfl, ?hyA14⟩) hHeldA ?restA14
  case hyA14 => intro w hSw; (try dsimp only at hSw); go_simp; (try with_reducible rfl)
  (try simp only [Act.put, List.setIfInBounds_toArray, List.set_cons_zero, List.set_cons_succ])
  refine wpAnyH_ready (rs := [15]) (by kernel_rfl) (by simp) ?_
  refine AllReadyH.cons (o := _) rfl (fun K hK => ?_) AllReadyH.nil
  go_simp
  go_at_call 61
  refine (CM.out _).mono ?_
  rintro e w4 ⟨rfl, rfl⟩
  (try dsimp only)
  refine hK.out _ _ hHeldA (fun hHeldA_1 => ?_)
  clear hK K hHeldA
  (try simp only [Act.put, List.setIfInBounds_toArray, List.set_cons_zero, List.set_cons_succ])
  refine wpAnyH_take (i := 16) (oi := _) (v := ?vA16) rfl (by kernel_rfl) (by kernel_rfl) (by kernel_rfl) (fun _ _ _ h => h) (Or.inl ⟨by kernel_rfl, ?hyA16⟩) hHeldA_1 ?restA16
  case hyA16 => intro w hSw; (try dsimp only at hSw); go_simp; (try with_reducible rfl)
  (try simp only [Act.put, List.setIfInBounds_toArray, List.set_cons_zero, List.set_cons_succ])
  refine wpAnyH_take (i := 17) (oi := _) (v := undef) rfl (by kernel_rfl) (by kernel_rfl) (by kernel_rfl) (fun _ _ _ h => h) (Or.inr ⟨by kernel_rfl, rfl⟩) hHeldA_1 ?_
  (try simp only [Act.put, List.setIfInBounds_toArray, List.set_cons_zero, List.set_cons_succ])
  refine wpAnyH_take (i := 18) (oi := _) (v := undef) rfl (by kernel_rfl) (by kernel_rfl) (by kernel_rfl) (fun _ _ _ h => h) (Or.inr ⟨by kernel_rfl, rfl⟩) hHeldA_1 ?_
  (try simp only [Act.put, List.setIfInBounds_toArray, List.set_cons_zero, List.set_cons_succ])
  refine wpAnyH_take (i := 19) (oi := _) (v := undef) rfl (by kernel_rfl) (by kernel_rfl) (by kernel_rfl) (fun _ _ _ h => h) (Or.inr ⟨by kernel_rfl, rfl⟩) hHeldA_1 ?_
  (try simp only [Act.put, List.setIfInBounds_toArray, List.set_cons_zero, List.set_cons_succ])
  refine wpAnyH_take (i := 20) (oi := _) (v := undef) rfl (by kernel_rfl) (by kernel_rfl) (by kernel_rfl) (fun _ _ _ h => h) (Or.inr ⟨by kernel_rfl, rfl⟩) hHeldA_1 ?_
  (try simp only [Act.put, List.setIfInBounds_toArray, List.set_cons_zero, List.set_cons_succ])
  refine wpAnyH_take (i := 21) (oi := _) (v := undef) rfl (by kernel_rfl) (by kernel_rfl) (by kernel_rfl) (fun _ _ _ h => h) (Or.inr ⟨by kernel_rfl, rfl⟩) hHeldA_1 ?_
  (try simp only [Act.put, List.setIfInBounds_toArray, List.set_cons_zero, List.set_cons_succ])
  refine wpAnyH_take (i := 22) (oi := _) (v := undef) rfl (by kernel_rfl) (by kernel_rfl) (by kernel_rfl) (fun _ _ _ h => h) (Or.inr ⟨by kernel_rfl, rfl⟩) hHeldA_1 ?_
  (try simp only [Act.put, List.setIfInBounds_toArray, List.set_cons_zero, List.set_cons_succ])
  refine wpAnyH_take (i := 23) (oi := _) (v := undef) rfl (by kernel_rfl) (by kernel_rfl) (by kernel_rfl) (fun _ _ _ h => h) (Or.inr ⟨by kernel_rfl, rfl⟩) hHeldA_1 ?_
  (try simp only [Act.put, List.setIfInBounds_toArray, List.set_cons_zero, List.set_cons_succ])
  refine wpAnyH_take (i := 24) (oi := _) (v := undef) rfl (by kernel_rfl) (by kernel_rfl) (by kernel_rfl) (fun _ _ _ h => h) (Or.inr ⟨by kernel_rfl, rfl⟩) hHeldA_1 ?_
  (try simp only [Act.put, List.setIfInBounds_toArray, List.set_cons_zero, List.set_cons_succ])
  refine wpAnyH_take (i := 25) (oi := _) (v := undef) rfl (by kernel_rfl) (by kernel_rfl) (by kernel_rfl) (fun _ _ _ h => h) (Or.inr ⟨by kernel_rfl, rfl⟩) hHeldA_1 ?_
  (try simp only [Act.put, List.setIfInBounds_toArray, List.set_cons_zero, List.set_cons_succ])
  refine wpAnyH_take (i := 26) (oi := _) (v := undef) rfl (by kernel_rfl) (by kernel_rfl) (by kernel_rfl) (fun _ _ _ h => h) (Or.inr ⟨by kernel_rfl, rfl⟩) hHeldA_1 ?_
  (try simp only [Act.put, List.setIfInBounds_toArray, List.set_cons_zero, List.set_cons_succ])
  refine wpAnyH_take (i := 27) (oi := _) (v := undef) rfl (by kernel_rfl) (by kernel_rfl) (by kernel_rfl) (fun _ _ _ h => h) (Or.inr ⟨by kernel_rfl, rfl⟩) hHeldA_1 ?_
  (try simp only [Act.put, List.setIfInBounds_toArray, List.set_cons_zero, List.set_cons_succ])
  refine wpAnyH_ready (rs := [28]) (by kernel_rfl) (by simp) ?_
  refine AllReadyH.cons (o := _) rfl (fun K hK => ?_) AllReadyH.nil
  rw [if_neg]
  rotate_left
  ·exact fun h => Bool.noConfusion (h.symm.trans (by kernel_rfl : _ = false))
  refine hK.out _ _ hHeldA_1 (fun hHeldA_2 => ?_)
  clear hK K hHeldA_1
  (try simp only [Act.put, List.setIfInBounds_toArray, List.set_cons_zero, List.set_cons_succ])
  refine wpAnyH_take (i := 29) (oi := ⟨some 50, _, _, _, _, _⟩) (v := ?vA29) rfl (by kernel_rfl) (by kernel_rfl) (by kernel_rfl) (fun _ _ _ h => h) (Or.inl ⟨by kernel_rfl, ?hyA29⟩) hHeldA_2 ?restA29
  case hyA29 => intro w hSw; (try dsimp only at hSw); go_simp; (try with_reducible rfl)
  (try simp only [Act.put, List.setIfInBounds_toArray, List.set_cons_zero, List.set_cons_succ])
  refine wpAnyH_take (i := 30) (oi := ⟨some 8, _, _, _, _, _⟩) (v := ?vA30) rfl (by kernel_rfl) (by kernel_rfl) (by kernel_rfl) (fun _ _ _ h => h) (Or.inl ⟨by kernel_rfl, ?hyA30⟩) hHeldA_2 ?restA30
  case hyA30 => intro w hSw; (try dsimp only at hSw); go_simp; (try with_reducible rfl)
  (try simp only [Act.put, List.setIfInBounds_toArray, List.set_cons_zero, List.set_cons_succ])
  refine wpAnyH_done (by kernel_rfl) ?_ _
  refine NoPanic.normal ?_
  have HX := Lib.hid (HQ.out _ _ (seekPost.no rfl HKD.out HID.out))
  go_wp2_with fail
  exact HX.out
end Go.Proofs.YtlkheofphafofaaGreatDoor
