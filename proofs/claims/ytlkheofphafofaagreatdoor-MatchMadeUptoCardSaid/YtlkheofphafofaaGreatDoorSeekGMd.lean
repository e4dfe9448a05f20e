/- Layer 17: what the seeker's stores make of what stands. -/
import Derived.Test.YtlkheofphafofaaGreatDoorSeekCMd
namespace Go.Proofs.YtlkheofphafofaaGreatDoor
set_option linter.all false
open Go.RowKit

theorem KeptX.set {E : SkE} {w w' : World} (h : KeptX E w w') {g j : Nat} (hg : some g = E.vb.ownBlock ∨ some g = E.vz.ownBlock) (v : Value) : KeptX E w (w'.setCell ⟨g, j, none⟩ v) :=
 ⟨h.os, h.tape, h.output, by simp; exact h.size, fun k hk h1 h2 => by
  rw [heap_setCell_other _ _ _ _ (show k ≠ g by rintro rfl; rcases hg with e | e <;> contradiction)]
  exact h.block k hk h1 h2⟩
theorem SkIn.store {E : SkE} {σ : MSt} {w : World} (h : SkIn E σ w) (ne : E.vb.ownBlock = none ∨ E.vb.ownBlock ≠ E.vz.ownBlock) {k : Nat} (hk : k < E.hs.length) {o : Option (Nat × Nat)} (hr : ∀ q, o = some q → q.1 ≤ q.2 ∧ q.2 ≤ E.l.length) {gb cb gz cz : Nat} (hvb : E.vb = .slice (some ⟨gb, 0, none⟩) E.hs.length cb) (hvz : E.vz = .slice (some ⟨gz, 0, none⟩) E.hs.length cz) {v0 v1 v2 : Value} (hv : bindV (bindOf E.hs[k] o) = [v0, v1, v2]) :
  SkIn E (σ.set k o) ((((w.setCell ⟨gb, k * 3, none⟩ v0).setCell ⟨gb, k * 3 + 1, none⟩ v1).setCell ⟨gb, k * 3 + 2, none⟩ v2).setCell ⟨gz, k, none⟩ (.bool o.isSome)) ∧
  SkIn E (σ.set k o) ((((w.setCell ⟨gz, k, none⟩ (.bool o.isSome)).setCell ⟨gb, k * 3, none⟩ v0).setCell ⟨gb, k * 3 + 1, none⟩ v1).setCell ⟨gb, k * 3 + 2, none⟩ v2) := by
 have hbo : some gb = E.vb.ownBlock := by rw [hvb]; rfl
 have hzo : some gz = E.vz.ownBlock := by rw [hvz]; rfl
 have hbz : gb ≠ gz := by
  rcases ne with e | e
  ·rw [← hbo] at e; cases e
  ·intro e2; apply e; rw [← hbo, ← hzo, e2]
 have hb := h.b
 have hz := h.z
 rw [hvb] at hb
 rw [hvz] at hz
 have hbl : (bindsV (bindsOf E.hs σ)).length = E.hs.length * 3 := by rw [bindsV_length, binds_len h.n]
 have hzl : (boundV σ).length = E.hs.length := by unfold boundV; rw [List.length_map]; exact h.n
 have e1 : (((bindsV (bindsOf E.hs σ)).set (k * 3) v0).set (k * 3 + 1) v1).set (k * 3 + 2) v2 = bindsV (bindsOf E.hs (σ.set k o)) := by
  unfold bindsV
  rw [list_set3 (g := bindV) (fun _ => rfl) _ k (bindOf E.hs[k] o) v0 v1 v2 (by rw [binds_len h.n]; exact hk) hv, bindsOf_set _ _ _ _ hk h.n]
 have e2 : (boundV σ).set k (.bool o.isSome) = boundV (σ.set k o) := (boundV_set σ k o).symm
 have s1 := owns_set (owns_set (owns_set hb (k * 3) (by omega) v0) (k * 3 + 1) (by rw [List.length_set]; omega) v1) (k * 3 + 2) (by rw [List.length_set, List.length_set]; omega) v2
 rw [e1] at s1
 have z1 : (((w.setCell ⟨gb, k * 3, none⟩ v0).setCell ⟨gb, k * 3 + 1, none⟩ v1).setCell ⟨gb, k * 3 + 2, none⟩ v2).ownsRow E.B 4 1 (.slice (some ⟨gz, 0, none⟩) E.hs.length cz) E.hs.length (boundV σ) :=
  ownsRow_setCell_other (ownsRow_setCell_other (ownsRow_setCell_other hz (by simp [Value.ownBlock]; omega) _) (by simp [Value.ownBlock]; omega) _) (by simp [Value.ownBlock]; omega) _
 have z2 := owns_set z1 k (by omega) (.bool o.isSome)
 rw [e2] at z2
 have s2 := ownsRow_setCell_other s1 (a := ⟨gz, k, none⟩) (by simp [Value.ownBlock]; omega) (.bool o.isSome)
 have t1 := owns_set hz k (by omega) (.bool o.isSome)
 rw [e2] at t1
 have t2 : (((((w.setCell ⟨gz, k, none⟩ (.bool o.isSome)).setCell ⟨gb, k * 3, none⟩ v0).setCell ⟨gb, k * 3 + 1, none⟩ v1).setCell ⟨gb, k * 3 + 2, none⟩ v2)).ownsRow E.B 4 1 (.slice (some ⟨gz, 0, none⟩) E.hs.length cz) E.hs.length (boundV (σ.set k o)) :=
  ownsRow_setCell_other (ownsRow_setCell_other (ownsRow_setCell_other t1 (by simp [Value.ownBlock]; omega) _) (by simp [Value.ownBlock]; omega) _) (by simp [Value.ownBlock]; omega) _
 have u1 := ownsRow_setCell_other hb (a := ⟨gz, k, none⟩) (by simp [Value.ownBlock]; omega) (.bool o.isSome)
 have u2 := owns_set (owns_set (owns_set u1 (k * 3) (by omega) v0) (k * 3 + 1) (by rw [List.length_set]; omega) v1) (k * 3 + 2) (by rw [List.length_set, List.length_set]; omega) v2
 rw [e1] at u2
 have K0 := KeptX.refl E w
 refine ⟨h.turn hr ((((K0.set (Or.inl hbo) _).set (Or.inl hbo) _).set (Or.inl hbo) _).set (Or.inr hzo) _) (by rw [hvb]; exact s2) (by rw [hvz]; exact z2),
  h.turn hr ((((K0.set (Or.inr hzo) _).set (Or.inl hbo) _).set (Or.inl hbo) _).set (Or.inl hbo) _) (by rw [hvb]; exact u2) (by rw [hvz]; exact t2)⟩
end Go.Proofs.YtlkheofphafofaaGreatDoor
namespace Go.Proofs.YtlkheofphafofaaGreatDoor
set_option linter.all false
attribute [local irreducible] Calls
open Go.RowKit

theorem set_back {σ : MSt} {h : Nat} {o p : Option (Nat × Nat)} (hq : σ[h]? = some o) : (σ.set h p).set h o = σ := by
 rw [List.set_set]
 apply List.ext_getElem? 
 intro j
 rw [List.getElem?_set]
 by_cases e : h = j
 ·subst e
  have : h < σ.length := by
   by_cases c : h < σ.length
   ·exact c
   ·rw [List.getElem?_eq_none (by omega)] at hq; cases hq
  rw [if_pos rfl, if_pos this, hq]
 ·rw [if_neg e]
set_option maxRecDepth 100000 in
set_option maxHeartbeats 16000000 in
theorem sk_bind_new (E : SkE) (ok : SkOK E) (w : World) (σ : MSt) (hi : SkIn E σ w) (h : Nat) (hh : h < E.hs.length) (a b : Nat) (h1 : a ≤ b) (h2 : b ≤ E.l.length) (K : MSt → Option MSt) (tv : Value) (ht : ThenOK E K tv w) (hq : σ[h]? = some none) :
  Calls Tryz.prog 62 #[.pointer (some ⟨E.g, 0, none⟩), .int .i64 (h : Int), .int .i64 (a : Int), .int .i64 (b : Int), tv] w (seekPost E ((bindS E.l σ h a b).bind K) σ w) := by
 have hbs : (bindS E.l σ h a b).bind K = K (σ.set h (some (a, b))) := by unfold bindS; rw [hq]; rfl
 rw [hbs]
 obtain ⟨Q, hQ⟩ : ∃ Q, seekPost E (K (σ.set h (some (a, b)))) σ w = Q := ⟨_, rfl⟩
 have HQ : RowKit.Hid (∀ e w', seekPost E (K (σ.set h (some (a, b)))) σ w e w' → Q e w') := Lib.hid fun e w' h => by rw [← hQ]; exact h
 rw [hQ]
 clear hQ hbs
 obtain ⟨k, cap, rfl, hcf, HT⟩ := ht
 have hcf := hcf cap
 have HT := Lib.hid HT
 obtain ⟨gb, cb, hvb, hcb, hB, hgb, b0, b1, b2, bz⟩ := hi.bindAt hh hq
 obtain ⟨gz, cz, hvz, hcz, hBz, hgz, z0, zz⟩ := hi.boundAt hh hq
 simp only [bindOf, Option.isSome_none] at b1 b2 z0
 have hgs : E.g < w.heap.size := lt_of_block hi.st.now.s
 have c6 := hi.st.now.cells.2.2.2.2.2.2.1
 have c7 := hi.st.now.cells.2.2.2.2.2.2.2
 have HST1 := Lib.hid (fun W (hi' : SkIn E σ W) => hi'.store ok.ne hh (o := some (a, b)) (fun q e => by cases e; exact ⟨h1, h2⟩) hvb hvz (v0 := .string (E.hs[h]).1) (v1 := .int .i64 (a : Int)) (v2 := .int .i64 (b : Int)) rfl)
 have HST2 := Lib.hid (fun W (hi' : SkIn E (σ.set h (some (a, b))) W) => hi'.store ok.ne hh (o := none) (fun q e => by cases e) hvb hvz (v0 := .string (E.hs[h]).1) (v1 := .int .i64 0) (v2 := .int .i64 0) rfl)
 rw [set_back hq] at HST2
 have HBO : RowKit.Hid (some gb = E.vb.ownBlock) := Lib.hid (by rw [hvb]; rfl)
 have HZO : RowKit.Hid (some gz = E.vz.ownBlock) := Lib.hid (by rw [hvz]; rfl)
 rw [hvb] at c6
 rw [hvz] at c7
 have hh0 : (0 : Int) ≤ (h : Int) := by omega
 have hhl : (h : Int) < E.hs.length := by omega
 have hhn := ok.hn
 have HI := Lib.hid hi
 have HB : RowKit.Hid (Below w.heap.size w (w.alloc (.cells #[.string (E.hs[h]).1, .int .i64 (a : Int), .int .i64 (b : Int)] 41))) := Lib.hid ((Below.refl _ _).alloc (Nat.le_refl _) _)
 clear hi
 simp only [Option.isSome_some, Option.isSome_none] at HST1 HST2
 generalize (E.hs[h]).1 = nm at *
 go_enter Tryz.func62, Tryz.ntmps62
 go_wp2_with fail
 have x0 : (w.alloc (.cells #[.string nm, .int .i64 (a : Int), .int .i64 (b : Int)] 41)).cell? ⟨w.heap.size, 0, none⟩ = some (.string nm) := World.cell?_alloc_at _ _ _ _ rfl
 have x1 : (w.alloc (.cells #[.string nm, .int .i64 (a : Int), .int .i64 (b : Int)] 41)).cell? ⟨w.heap.size, 1, none⟩ = some (.int .i64 (a : Int)) := World.cell?_alloc_at _ _ _ _ rfl
 have x2 : (w.alloc (.cells #[.string nm, .int .i64 (a : Int), .int .i64 (b : Int)] 41)).cell? ⟨w.heap.size, 2, none⟩ = some (.int .i64 (b : Int)) := World.cell?_alloc_at _ _ _ _ rfl
 have e6 : (w.alloc (.cells #[.string nm, .int .i64 (a : Int), .int .i64 (b : Int)] 41)).cell? ⟨E.g, 6, none⟩ = some (.slice (some ⟨gb, 0, none⟩) E.hs.length cb) := by rw [HB.out.cell (p := ⟨E.g, 6, none⟩) hgs]; exact c6
 have e7 : (w.alloc (.cells #[.string nm, .int .i64 (a : Int), .int .i64 (b : Int)] 41)).cell? ⟨E.g, 7, none⟩ = some (.slice (some ⟨gz, 0, none⟩) E.hs.length cz) := by rw [HB.out.cell (p := ⟨E.g, 7, none⟩) hgs]; exact c7
 have y0 : (w.alloc (.cells #[.string nm, .int .i64 (a : Int), .int .i64 (b : Int)] 41)).cell? ⟨gb, h * 3, none⟩ = some (.string nm) := by rw [HB.out.cell (p := ⟨gb, h * 3, none⟩) hgb]; exact b0
 have y1 : (w.alloc (.cells #[.string nm, .int .i64 (a : Int), .int .i64 (b : Int)] 41)).cell? ⟨gb, h * 3 + 1, none⟩ = some (.int .i64 0) := by rw [HB.out.cell (p := ⟨gb, h * 3 + 1, none⟩) hgb]; exact b1
 have y2 : (w.alloc (.cells #[.string nm, .int .i64 (a : Int), .int .i64 (b : Int)] 41)).cell? ⟨gb, h * 3 + 2, none⟩ = some (.int .i64 0) := by rw [HB.out.cell (p := ⟨gb, h * 3 + 2, none⟩) hgb]; exact b2
 have y3 : (w.alloc (.cells #[.string nm, .int .i64 (a : Int), .int .i64 (b : Int)] 41)).cell? ⟨gz, h, none⟩ = some (.bool false) := by rw [HB.out.cell (p := ⟨gz, h, none⟩) hgz]; exact z0
 have r0 : (w.alloc (.cells #[.string nm, .int .i64 (a : Int), .int .i64 (b : Int)] 41)).frozen? ⟨gb, h * 3, none⟩ = false := by rw [HB.out.frozen (p := ⟨gb, h * 3, none⟩) hgb]; exact bz _
 have r1 : (w.alloc (.cells #[.string nm, .int .i64 (a : Int), .int .i64 (b : Int)] 41)).frozen? ⟨gb, h * 3 + 1, none⟩ = false := by rw [HB.out.frozen (p := ⟨gb, h * 3 + 1, none⟩) hgb]; exact bz _
 have r2 : (w.alloc (.cells #[.string nm, .int .i64 (a : Int), .int .i64 (b : Int)] 41)).frozen? ⟨gb, h * 3 + 2, none⟩ = false := by rw [HB.out.frozen (p := ⟨gb, h * 3 + 2, none⟩) hgb]; exact bz _
 have r3 : (w.alloc (.cells #[.string nm, .int .i64 (a : Int), .int .i64 (b : Int)] 41)).frozen? ⟨gz, h, none⟩ = false := by rw [HB.out.frozen (p := ⟨gz, h, none⟩) hgz]; exact zz _
 have HZ : RowKit.Hid (w.heap.size < (w.alloc (.cells #[.string nm, .int .i64 (a : Int), .int .i64 (b : Int)] 41)).heap.size) := Lib.hid (by simp)
 have HBd := Lib.hid HB.out.drew
 have HKd : RowKit.Hid (KeptX E w (w.alloc (.cells #[.string nm, .int .i64 (a : Int), .int .i64 (b : Int)] 41))) := Lib.hid (KeptX.of_below HB.out)
 have HNE : RowKit.Hid (∀ B, w.heap.size ≤ B → some B ≠ E.vb.ownBlock ∧ some B ≠ E.vz.ownBlock) := Lib.hid fun B hB => by
  rw [← HBO.out, ← HZO.out]
  simp only [ne_eq, Option.some.injEq]
  exact ⟨by omega, by omega⟩
 have HNG := Lib.hid ok.nb
 have HVB := Lib.hid hvb
 have HVZ := Lib.hid hvz
 have HI0 := Lib.hid (HI.out.below HB.out)
 have HHH := Lib.hid hh
 have HQN := Lib.hid hq
 have HLN := Lib.hid HI.out.n
 have hgz2 : gb ≠ gz := by
  rcases ok.ne with e | e
  ·rw [← HBO.out] at e; cases e
  ·intro e2; apply e; rw [← HBO.out, ← HZO.out, e2]
 have hgz3 : gz ≠ gb := fun e => hgz2 e.symm
 generalize w.alloc (.cells #[.string nm, .int .i64 (a : Int), .int .i64 (b : Int)] 41) = W0 at *
 generalize hss : w.heap.size = B at *
 have HSS := Lib.hid hss
 have HGS := Lib.hid hgs
 clear hss c6 c7 b0 b1 b2 z0 hvb hvz HB bz zz
 have HS : RowKit.Hid (∀ W, KeptX E W0 W → (fun W => W.cell? ⟨E.g, 6, none⟩ = some (.slice (some ⟨gb, 0, none⟩) E.hs.length cb) ∧ W.cell? ⟨E.g, 7, none⟩ = some (.slice (some ⟨gz, 0, none⟩) E.hs.length cz) ∧ W.cell? ⟨B, 0, none⟩ = some (.string nm) ∧ W.cell? ⟨B, 1, none⟩ = some (.int .i64 (a : Int)) ∧ W.cell? ⟨B, 2, none⟩ = some (.int .i64 (b : Int)) ∧ RowKit.Hid (KeptX E w W)) W) := Lib.hid fun W hk => by
  have hz : B < W0.heap.size := HZ.out
  have hg : E.g < W0.heap.size := by have := HGS.out; omega
  have hne := HNE.out B (Nat.le_refl _)
  have hng := HNG.out
  refine ⟨?_, ?_, ?_, ?_, ?_, Lib.hid (HKd.out.trans hk)⟩
  ·rw [hk.cell hg hng.1 hng.2]; exact e6
  ·rw [hk.cell hg hng.1 hng.2]; exact e7
  ·rw [hk.cell hz hne.1 hne.2]; exact x0
  ·rw [hk.cell hz hne.1 hne.2]; exact x1
  ·rw [hk.cell hz hne.1 hne.2]; exact x2
 have HSB : RowKit.Hid (∀ W j v, KeptX E W0 W → KeptX E W0 (W.setCell ⟨gb, j, none⟩ v)) := Lib.hid fun W j v hk => hk.set (Or.inl HBO.out) v
 have HSZ : RowKit.Hid (∀ W j v, KeptX E W0 W → KeptX E W0 (W.setCell ⟨gz, j, none⟩ v)) := Lib.hid fun W j v hk => hk.set (Or.inr HZO.out) v
 have HSD : RowKit.Hid (∀ W, KeptX E W0 W → KeptX E W0 W.drew) := Lib.hid fun W hk => hk.trans (KeptX.drew E W)
 go_region_held3 (fun W => W.cell? ⟨E.g, 6, none⟩ = some (.slice (some ⟨gb, 0, none⟩) E.hs.length cb) ∧ W.cell? ⟨E.g, 7, none⟩ = some (.slice (some ⟨gz, 0, none⟩) E.hs.length cz) ∧ W.cell? ⟨B, 0, none⟩ = some (.string nm) ∧ W.cell? ⟨B, 1, none⟩ = some (.int .i64 (a : Int)) ∧ W.cell? ⟨B, 2, none⟩ = some (.int .i64 (b : Int)) ∧ RowKit.Hid (KeptX E w W)) ((refine HS.out _ ?_; repeat (first | exact KeptX.refl _ _ | refine HSD.out _ ?_ | refine HSB.out _ _ _ ?_ | refine HSZ.out _ _ _ ?_))) (fail)
 all_goals
  clear y0 y1 y2 y3 r0 r1 r2 r3 e6 e7 x0 x1 x2
  go_wp2_with fail
  refine (HT.out _ (σ.set h (some (a, b))) (by refine HKd.out.trans ?_; repeat (first | exact KeptX.refl _ _ | refine HSD.out _ ?_ | refine HSB.out _ _ _ ?_ | refine HSZ.out _ _ _ ?_)) (by first | exact (HST1.out W0 HI0.out).1.below (Below.refl _ _).drew | exact (HST1.out W0 HI0.out).2.below (Below.refl _ _).drew)).mono ?_
  intro e w6 h6
  obtain ⟨y, rfl⟩ := h6.bool
  have hkw : KeptX E W0 w6 := KeptX.trans (by repeat (first | exact KeptX.refl _ _ | refine HSD.out _ ?_ | refine HSB.out _ _ _ ?_ | refine HSZ.out _ _ _ ?_)) h6.out.1
  have HKW := Lib.hid hkw
  clear hkw
  have HO6 := Lib.hid h6.out.2
  clear h6
  cases y with
  | true =>
   have hx : Q (.returned (.bool true)) w6 := by
    rcases HO6.out with ⟨τ, k1, _, k3⟩ | ⟨_, k2, _⟩
    ·exact HQ.out _ _ (seekPost.yes k1 (HKd.out.trans HKW.out) k3)
    ·cases k2
   have HX := Lib.hid hx
   clear hx HO6
   go_wp2_with fail
   exact HX.out
  | false =>
   have hfin : K (σ.set h (some (a, b))) = none ∧ SkIn E (σ.set h (some (a, b))) w6 := by
    rcases HO6.out with ⟨τ, _, k2, _⟩ | ⟨k1, _, k3⟩
    ·cases k2
    ·exact ⟨k1, k3⟩
   have HF := Lib.hid hfin
   obtain ⟨c6, c7, c0, _⟩ := HS.out w6 HKW.out
   have hset : (σ.set h (some (a, b)))[h]? = some (some (a, b)) := List.getElem?_set_self (by have := HLN.out; have := HHH.out; omega)
   obtain ⟨gb', cb', hvb', _, _, hgb6, b0, b1, b2, bz⟩ := hfin.2.bindAt HHH.out hset
   obtain ⟨gz', cz', hvz', _, _, hgz6, z0, zz⟩ := hfin.2.boundAt HHH.out hset
   rw [HVB.out] at hvb'
   rw [HVZ.out] at hvz'
   simp only [Value.slice.injEq, Option.some.injEq, Addr.mk.injEq, and_true, true_and] at hvb' hvz'
   obtain ⟨rfl, rfl⟩ := hvb'
   obtain ⟨rfl, rfl⟩ := hvz'
   have r0 := bz (h * 3)
   have r1 := bz (h * 3 + 1)
   have r2 := bz (h * 3 + 2)
   have r3 := zz h
   have HSN : RowKit.Hid (∀ W, KeptX E w6 W → (fun W => W.cell? ⟨E.g, 6, none⟩ = some (.slice (some ⟨gb, 0, none⟩) E.hs.length cb) ∧ W.cell? ⟨E.g, 7, none⟩ = some (.slice (some ⟨gz, 0, none⟩) E.hs.length cz) ∧ W.cell? ⟨B, 0, none⟩ = some (.string nm) ∧ RowKit.Hid (KeptX E w W)) W) := Lib.hid fun W hk => by
    obtain ⟨t1, t2, t3, _⟩ := HS.out W (HKW.out.trans hk)
    exact ⟨t1, t2, t3, Lib.hid (HKd.out.trans (HKW.out.trans hk))⟩
   have HTB : RowKit.Hid (∀ W j v, KeptX E w6 W → KeptX E w6 (W.setCell ⟨gb, j, none⟩ v)) := Lib.hid fun W j v hk => hk.set (Or.inl HBO.out) v
   have HTZ : RowKit.Hid (∀ W j v, KeptX E w6 W → KeptX E w6 (W.setCell ⟨gz, j, none⟩ v)) := Lib.hid fun W j v hk => hk.set (Or.inr HZO.out) v
   have HTD : RowKit.Hid (∀ W, KeptX E w6 W → KeptX E w6 W.drew) := Lib.hid fun W hk => hk.trans (KeptX.drew E W)
   clear bz zz hset hfin HO6
   go_wp2_with fail
   go_region_held3 (fun W => W.cell? ⟨E.g, 6, none⟩ = some (.slice (some ⟨gb, 0, none⟩) E.hs.length cb) ∧ W.cell? ⟨E.g, 7, none⟩ = some (.slice (some ⟨gz, 0, none⟩) E.hs.length cz) ∧ W.cell? ⟨B, 0, none⟩ = some (.string nm) ∧ RowKit.Hid (KeptX E w W)) ((refine HSN.out _ ?_; repeat (first | exact KeptX.refl _ _ | refine HTD.out _ ?_ | refine HTB.out _ _ _ ?_ | refine HTZ.out _ _ _ ?_))) (fail)
   all_goals
    have HX : RowKit.Hid (∀ W, KeptX E w6 W → SkIn E σ W → Q (.returned (.bool false)) W) := Lib.hid fun W hk hw => HQ.out _ _ (seekPost.no HF.out.1 (HKd.out.trans (HKW.out.trans hk)) hw)
    go_wp2_with fail
    refine HX.out _ (by repeat (first | exact KeptX.refl _ _ | refine HTD.out _ ?_ | refine HTB.out _ _ _ ?_ | refine HTZ.out _ _ _ ?_)) ?_
    first
     | exact (HST2.out w6 HF.out.2).1.below (Below.refl _ _).drew
     | exact (HST2.out w6 HF.out.2).2.below (Below.refl _ _).drew
end Go.Proofs.YtlkheofphafofaaGreatDoor
namespace Go.Proofs.YtlkheofphafofaaGreatDoor
set_option linter.all false
attribute [local irreducible] Calls
open Go.RowKit

theorem sk_bind (E : SkE) (ok : SkOK E) (w : World) (σ : MSt) (hi : SkIn E σ w) (h : Nat) (hh : h < E.hs.length) (a b : Nat) (h1 : a ≤ b) (h2 : b ≤ E.l.length) (K : MSt → Option MSt) (tv : Value) (ht : ThenOK E K tv w) :
  Calls Tryz.prog 62 #[.pointer (some ⟨E.g, 0, none⟩), .int .i64 (h : Int), .int .i64 (a : Int), .int .i64 (b : Int), tv] w (seekPost E ((bindS E.l σ h a b).bind K) σ w) := by
 have hl : h < σ.length := by rw [hi.n]; exact hh
 cases ho : σ[h] with
 | some q => exact sk_bind_old E ok w σ hi h hh a b h1 h2 K tv ht q (by rw [List.getElem?_eq_getElem hl, ho])
 | none => exact sk_bind_new E ok w σ hi h hh a b h1 h2 K tv ht (by rw [List.getElem?_eq_getElem hl, ho])
theorem row_ints {w : World} {v : Value} {k : IntKind} {xs : List Int} (h : RowInts w v k xs) (hp : 0 < xs.length) : ∃ b off cap, v = .slice (some ⟨b, off, none⟩) xs.length cap ∧ xs.length ≤ cap ∧ ∀ i (hi : i < xs.length), w.cell? ⟨b, off + i, none⟩ = some (.int k xs[i]) := by
 obtain ⟨a, cap, hv, hc, hrow⟩ := h.open'
 obtain ⟨b, off, rfl, _, hcell⟩ := hrow hp
 exact ⟨b, off, cap, hv, hc, hcell⟩
theorem SkStat.ends {E : SkE} {w : World} (h : SkStat E w) {L : List Prt} {v : Value} (hv : ∀ w', KeptX E w w' → RowInts w' v .i64 (endsL L)) (hp : 0 < L.length) : ∃ b off cap, v = .slice (some ⟨b, off, none⟩) L.length cap ∧ L.length ≤ cap ∧ ∀ w', KeptX E w w' → ∀ i, i < L.length → w'.cell? ⟨b, off + i, none⟩ = some (.int .i64 (endB L i : Int)) := by
 have hl := endsL_length L
 obtain ⟨b, off, cap, e, hc, _⟩ := row_ints (hv w (KeptX.refl _ _)) (by omega)
 rw [hl] at e hc
 refine ⟨b, off, cap, e, hc, fun w' hk i hi => ?_⟩
 obtain ⟨b', off', cap', e', _, hcell⟩ := row_ints (hv w' hk) (by omega)
 rw [e, hl] at e'
 simp only [Value.slice.injEq, Option.some.injEq, Addr.mk.injEq, and_true, true_and] at e'
 obtain ⟨⟨rfl, rfl⟩, rfl⟩ := e'
 rw [hcell i (by omega)]
 have := endsL_get hi
 rw [List.getElem?_eq_getElem (by omega)] at this
 rw [Option.some.inj this]
theorem SkStat.parts {E : SkE} {w : World} (h : SkStat E w) {L : List Prt} {v : Value} (hv : ∀ w', KeptX E w w' → PartRow w' v L) (hp : 0 < L.length) : ∃ b off cap, v = .slice (some ⟨b, off, none⟩) L.length cap ∧ L.length ≤ cap ∧ ∀ w', KeptX E w w' → ∀ i (hi : i < L.length), w'.cell? ⟨b, off + i * 3, none⟩ = some (.int .u8 (L[i].1 : Int)) ∧ w'.cell? ⟨b, off + i * 3 + 2, none⟩ = some (.string L[i].2.2) := by
 obtain ⟨a, cap, e, hc⟩ := (hv w (KeptX.refl _ _)).slice
 have h1 := hv w (KeptX.refl _ _)
 rw [e] at h1
 obtain ⟨b, off, rfl, _, _, _, _⟩ := h1.at (Below.refl _ _) hp
 refine ⟨b, off, cap, e, hc, fun w' hk i hi => ?_⟩
 have h2 := hv w' hk
 rw [e] at h2
 obtain ⟨b', off', e', _, _, _, hcell⟩ := h2.at (Below.refl _ _) hp
 simp only [Option.some.injEq, Addr.mk.injEq, and_true] at e'
 obtain ⟨rfl, rfl⟩ := e'
 exact ⟨(hcell i hi).1, (hcell i hi).2.2⟩
def PartC (E : SkE) (n : Nat) : Prop := ∀ (w : World) (σ : MSt) (p i : Nat) (K : MSt → Option MSt) (tv : Value), SkIn E σ w → p < E.f.length → i < E.l.length → 2 * (endB E.f p - p) ≤ n → ThenOK E K tv w →
 Calls Tryz.prog 38 #[.pointer (some ⟨E.g, 0, none⟩), .int .i64 (p : Int), .int .i64 (i : Int), tv] w (seekPost E (sPart E.f E.l E.hs n p i K σ) σ w)
def KidsC (E : SkE) (n : Nat) : Prop := ∀ (w : World) (σ : MSt) (p pend i iend : Nat) (K : MSt → Option MSt) (tv : Value) (J M : Nat), SkIn E σ w → pend ≤ E.f.length → advT E.f J p pend = some pend → iend ≤ E.l.length → advT E.l M i iend = some iend → 2 * (pend - p) + 1 ≤ n → ThenOK E K tv w →
 Calls Tryz.prog 63 #[.pointer (some ⟨E.g, 0, none⟩), .int .i64 (p : Int), .int .i64 (pend : Int), .int .i64 (i : Int), .int .i64 (iend : Int), tv] w (seekPost E (sKids E.f E.l E.hs n p pend i iend K σ) σ w)
end Go.Proofs.YtlkheofphafofaaGreatDoor
