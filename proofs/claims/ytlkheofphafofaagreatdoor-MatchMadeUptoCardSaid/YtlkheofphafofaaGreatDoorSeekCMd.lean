/- Layer 17: the program's same and bind, walked. -/
import Derived.Test.YtlkheofphafofaaGreatDoorRulesVMd
import Derived.Test.YtlkheofphafofaaGreatDoorTermSameMd
import Derived.Test.YtlkheofphafofaaGreatDoorStillMd
import Derived.Deep.RegionHeld3
namespace Go.Proofs.YtlkheofphafofaaGreatDoor
set_option linter.all false
attribute [local irreducible] Calls
open Go.RowKit

set_option maxRecDepth 100000 in
set_option maxHeartbeats 8000000 in
theorem sk_same (E : SkE) (ok : SkOK E) (w : World) (hi : SkFix E w) (n1 n2 : ByteArray) (a1 b1 a2 b2 : Nat) (h1 : a1 ≤ b1) (h1' : b1 ≤ E.l.length) (h2 : a2 ≤ b2) (h2' : b2 ≤ E.l.length) :
  Calls Tryz.prog 87 #[.pointer (some ⟨E.g, 0, none⟩), .agg #[.string n1, .int .i64 (a1 : Int), .int .i64 (b1 : Int)], .agg #[.string n2, .int .i64 (a2 : Int), .int .i64 (b2 : Int)]] w
   fun e w' => ∃ x, e = .returned (.bool x) ∧ TellsEq x (piece E.l a1 b1) (piece E.l a2 b2) ∧ Below w.heap.size w w' := by
 have HQ : RowKit.Hid (∀ x w', TellsEq x (piece E.l a1 b1) (piece E.l a2 b2) → Below w.heap.size w w' → (fun (e : Ending) w' => ∃ x, e = .returned (.bool x) ∧ TellsEq x (piece E.l a1 b1) (piece E.l a2 b2) ∧ Below w.heap.size w w') (.returned (.bool x)) w') := Lib.hid fun x w' h h2 => ⟨x, rfl, h, h2⟩
 generalize (fun (e : Ending) w' => ∃ x, e = .returned (.bool x) ∧ TellsEq x (piece E.l a1 b1) (piece E.l a2 b2) ∧ Below w.heap.size w w') = Q at *
 have hll := ok.ll
 have c1 := hi.cells.2.1
 have hgs : E.g < w.heap.size := lt_of_block hi.s
 obtain ⟨p1, k1, s1, r1⟩ := slice_piece w E.vl E.l hi.l a1 b1 h1 h1'
 obtain ⟨p2, k2, s2, r2⟩ := slice_piece w E.vl E.l hi.l a2 b2 h2 h2'
 have hl1 : (piece E.l a1 b1).length ≤ 1000000000 := by unfold piece; rw [List.length_take, List.length_drop]; omega
 have hl2 : (piece E.l a2 b2).length ≤ 1000000000 := by unfold piece; rw [List.length_take, List.length_drop]; omega
 have CS := Lib.hid (fun W (hb : Below w.heap.size w W) => term_Same _ _ _ _ hl1 hl2 W (r1.below hb) (r2.below hb))
 generalize piece E.l a1 b1 = P1 at *
 generalize piece E.l a2 b2 = P2 at *
 have HB : RowKit.Hid (Below w.heap.size w ((w.alloc (.cells #[.string n1, .int .i64 (a1 : Int), .int .i64 (b1 : Int)] 41)).alloc (.cells #[.string n2, .int .i64 (a2 : Int), .int .i64 (b2 : Int)] 41))) := Lib.hid (((Below.refl _ _).alloc (Nat.le_refl _) _).alloc (by simp) _)
 have HBd := Lib.hid HB.out.drew
 clear hi r1 r2
 go_enter Tryz.func87, Tryz.ntmps87
 go_wp2_with fail
 have e1 : ((w.alloc (.cells #[.string n1, .int .i64 (a1 : Int), .int .i64 (b1 : Int)] 41)).alloc (.cells #[.string n2, .int .i64 (a2 : Int), .int .i64 (b2 : Int)] 41)).cell? ⟨E.g, 1, none⟩ = some E.vl := by rw [HB.out.cell (p := ⟨E.g, 1, none⟩) hgs]; exact c1
 have x1 : ((w.alloc (.cells #[.string n1, .int .i64 (a1 : Int), .int .i64 (b1 : Int)] 41)).alloc (.cells #[.string n2, .int .i64 (a2 : Int), .int .i64 (b2 : Int)] 41)).cell? ⟨w.heap.size, 1, none⟩ = some (.int .i64 (a1 : Int)) := by
  rw [World.cell?_alloc_past _ _ _ (by simp)]; exact World.cell?_alloc_at _ _ _ _ rfl
 have x2 : ((w.alloc (.cells #[.string n1, .int .i64 (a1 : Int), .int .i64 (b1 : Int)] 41)).alloc (.cells #[.string n2, .int .i64 (a2 : Int), .int .i64 (b2 : Int)] 41)).cell? ⟨w.heap.size, 2, none⟩ = some (.int .i64 (b1 : Int)) := by
  rw [World.cell?_alloc_past _ _ _ (by simp)]; exact World.cell?_alloc_at _ _ _ _ rfl
 have x3 : ((w.alloc (.cells #[.string n1, .int .i64 (a1 : Int), .int .i64 (b1 : Int)] 41)).alloc (.cells #[.string n2, .int .i64 (a2 : Int), .int .i64 (b2 : Int)] 41)).cell? ⟨w.heap.size + 1, 1, none⟩ = some (.int .i64 (a2 : Int)) := World.cell?_alloc_at _ _ _ _ (by simp)
 have x4 : ((w.alloc (.cells #[.string n1, .int .i64 (a1 : Int), .int .i64 (b1 : Int)] 41)).alloc (.cells #[.string n2, .int .i64 (a2 : Int), .int .i64 (b2 : Int)] 41)).cell? ⟨w.heap.size + 1, 2, none⟩ = some (.int .i64 (b2 : Int)) := World.cell?_alloc_at _ _ _ _ (by simp)
 have hz0 : w.heap.size + 1 < ((w.alloc (.cells #[.string n1, .int .i64 (a1 : Int), .int .i64 (b1 : Int)] 41)).alloc (.cells #[.string n2, .int .i64 (a2 : Int), .int .i64 (b2 : Int)] 41)).heap.size := by simp
 generalize (w.alloc (.cells #[.string n1, .int .i64 (a1 : Int), .int .i64 (b1 : Int)] 41)).alloc (.cells #[.string n2, .int .i64 (a2 : Int), .int .i64 (b2 : Int)] 41) = W0 at *
 have HZ := Lib.hid hz0
 have HG := Lib.hid hgs
 clear c1 hz0 hgs HB
 generalize hss : w.heap.size = B at *
 have HSS := Lib.hid hss
 clear hss
 have HK : RowKit.Hid (∀ W, Below W0.drew.heap.size W0.drew W → W.cell? ⟨E.g, 1, none⟩ = some E.vl ∧ W.cell? ⟨B, 1, none⟩ = some (.int .i64 (a1 : Int)) ∧ W.cell? ⟨B, 2, none⟩ = some (.int .i64 (b1 : Int)) ∧ W.cell? ⟨B + 1, 1, none⟩ = some (.int .i64 (a2 : Int)) ∧ W.cell? ⟨B + 1, 2, none⟩ = some (.int .i64 (b2 : Int)) ∧ RowKit.Hid (Below B w W)) := Lib.hid fun W hb => by
  have hz : B + 1 < W0.drew.heap.size := HZ.out
  have hg : E.g < W0.drew.heap.size := by have := HG.out; omega
  refine ⟨?_, ?_, ?_, ?_, ?_, Lib.hid (HBd.out.trans (hb.mono (by omega)))⟩
  ·rw [hb.cell (p := ⟨E.g, 1, none⟩) hg]; exact e1
  ·rw [hb.cell (p := ⟨B, 1, none⟩) (show B < _ by omega)]; exact x1
  ·rw [hb.cell (p := ⟨B, 2, none⟩) (show B < _ by omega)]; exact x2
  ·rw [hb.cell (p := ⟨B + 1, 1, none⟩) hz]; exact x3
  ·rw [hb.cell (p := ⟨B + 1, 2, none⟩) hz]; exact x4
 go_region_held3 (fun W => W.cell? ⟨E.g, 1, none⟩ = some E.vl ∧ W.cell? ⟨B, 1, none⟩ = some (.int .i64 (a1 : Int)) ∧ W.cell? ⟨B, 2, none⟩ = some (.int .i64 (b1 : Int)) ∧ W.cell? ⟨B + 1, 1, none⟩ = some (.int .i64 (a2 : Int)) ∧ W.cell? ⟨B + 1, 2, none⟩ = some (.int .i64 (b2 : Int)) ∧ RowKit.Hid (Below B w W)) (first | exact ⟨e1, x1, x2, x3, x4, HBd⟩ | exact HK.out _ hb4) ((go_at_call 106; (with_reducible refine (CS.out _ HBd.out).mono ?_); (rintro e w4 ⟨x, rfl, hx, hb4⟩); (try dsimp only)))
 all_goals
  have HX := Lib.hid (HQ.out x w4 hx (HSS.out ▸ (HK.out _ hb4).2.2.2.2.2.out))
  clear hb4 hx
  go_wp2_with fail
  exact HX.out
end Go.Proofs.YtlkheofphafofaaGreatDoor
namespace Go.Proofs.YtlkheofphafofaaGreatDoor
set_option linter.all false
attribute [local irreducible] Calls
open Go.RowKit

theorem binds_len {hs : List Hl} {σ : MSt} (h : σ.length = hs.length) : (bindsOf hs σ).length = hs.length := by unfold bindsOf; simp [h]
theorem binds_get {hs : List Hl} {σ : MSt} {k : Nat} (hk : k < hs.length) (hn : σ.length = hs.length) {o : Option (Nat × Nat)} (ho : σ[k]? = some o) : ∃ hh : k < (bindsOf hs σ).length, (bindsOf hs σ)[k] = bindOf hs[k] o := by
 refine ⟨by rw [binds_len hn]; exact hk, ?_⟩
 unfold bindsOf
 rw [List.getElem_zipWith]
 rw [List.getElem?_eq_getElem (by omega)] at ho
 rw [Option.some.inj ho]
theorem SkIn.bindAt {E : SkE} {σ : MSt} {w : World} (h : SkIn E σ w) {k : Nat} (hk : k < E.hs.length) {o : Option (Nat × Nat)} (ho : σ[k]? = some o) :
  ∃ gb cb, E.vb = .slice (some ⟨gb, 0, none⟩) E.hs.length cb ∧ E.hs.length ≤ cb ∧ E.B ≤ gb ∧ gb < w.heap.size ∧ w.cell? ⟨gb, k * 3, none⟩ = some (.string (E.hs[k]).1) ∧ w.cell? ⟨gb, k * 3 + 1, none⟩ = some (.int .i64 (bindOf E.hs[k] o).2.1) ∧ w.cell? ⟨gb, k * 3 + 2, none⟩ = some (.int .i64 (bindOf E.hs[k] o).2.2) ∧ ∀ j, w.frozen? ⟨gb, j, none⟩ = false := by
 have hb := h.b
 rcases hb.2 with ⟨_, h0⟩ | ⟨gb, cb, cur, hv, hg, hh, hnc, _, _, _⟩
 ·omega
 ·rw [hv] at hb
  obtain ⟨hh1, he⟩ := binds_get hk h.n ho
  have hc : ∀ j, j < 3 → w.cell? ⟨gb, k * 3 + j, none⟩ = (bindV (bindOf E.hs[k] o))[j]? := fun j hj => by
   rw [hb.cellAt _ (by omega)]
   unfold bindsV
   rw [flat_at (g := bindV) (sz := 3) (fun _ => rfl) _ k j hh1 hj, he]
  have hn : (bindOf E.hs[k] o).1 = (E.hs[k]).1 := by cases o <;> rfl
  refine ⟨gb, cb, hv, hnc, hg, keeps_lt hh, ?_, hc 1 (by omega), hc 2 (by omega), fun j => by simp [World.frozen?, hh]⟩
  have := hc 0 (by omega)
  rw [Nat.add_zero] at this
  rw [this]
  unfold bindV
  rw [hn]; rfl
theorem SkIn.boundAt {E : SkE} {σ : MSt} {w : World} (h : SkIn E σ w) {k : Nat} (hk : k < E.hs.length) {o : Option (Nat × Nat)} (ho : σ[k]? = some o) :
  ∃ gz cz, E.vz = .slice (some ⟨gz, 0, none⟩) E.hs.length cz ∧ E.hs.length ≤ cz ∧ E.B ≤ gz ∧ gz < w.heap.size ∧ w.cell? ⟨gz, k, none⟩ = some (.bool o.isSome) ∧ ∀ j, w.frozen? ⟨gz, j, none⟩ = false := by
 have hb := h.z
 rcases hb.2 with ⟨_, h0⟩ | ⟨gz, cz, cur, hv, hg, hh, hnc, _, _, _⟩
 ·omega
 ·rw [hv] at hb
  refine ⟨gz, cz, hv, hnc, hg, keeps_lt hh, ?_, fun j => by simp [World.frozen?, hh]⟩
  rw [hb.cellAt _ (by omega)]
  unfold boundV
  rw [List.getElem?_map, ho]; rfl
theorem list_set3 {α : Type} {g : α → List Value} (hg : ∀ x, (g x).length = 3) : ∀ (l : List α) (k : Nat) (x : α) (a b c : Value), k < l.length → g x = [a, b, c] → (((l.flatMap g).set (k * 3) a).set (k * 3 + 1) b).set (k * 3 + 2) c = (l.set k x).flatMap g
 | y :: l, 0, x, a, b, c, _, hx => by
  have hy := hg y
  rw [List.flatMap_cons, List.set_cons_zero, List.flatMap_cons, hx]
  match hgy : g y, hy with
  | [p, q, r], _ => rfl
 | y :: l, k + 1, x, a, b, c, hk, hx => by
  have hy := hg y
  rw [List.flatMap_cons, List.set_cons_succ, List.flatMap_cons]
  match hgy : g y, hy with
  | [p, q, r], _ =>
   rw [← list_set3 hg l k x a b c (by simpa using hk) hx]
   rw [show (k + 1) * 3 = k * 3 + 3 by omega, show k * 3 + 3 + 1 = k * 3 + 1 + 3 by omega, show k * 3 + 3 + 2 = k * 3 + 2 + 3 by omega]
   rfl
theorem bindsOf_set (hs : List Hl) : ∀ (σ : MSt) (k : Nat) (o : Option (Nat × Nat)) (hk : k < hs.length), σ.length = hs.length → bindsOf hs (σ.set k o) = (bindsOf hs σ).set k (bindOf hs[k] o) := by
 intro σ k o hk hn
 unfold bindsOf
 apply List.ext_getElem
 ·simp
 ·intro j h1 h2
  rw [List.getElem_zipWith, List.getElem_set, List.getElem_set]
  by_cases e : k = j
  ·subst e; rw [if_pos rfl, if_pos rfl]
  ·rw [if_neg e, if_neg e, List.getElem_zipWith]
theorem SkIn.turn {E : SkE} {σ : MSt} {w w' : World} (h : SkIn E σ w) {k : Nat} {o : Option (Nat × Nat)} (hr : ∀ q, o = some q → q.1 ≤ q.2 ∧ q.2 ≤ E.l.length) (hk : KeptX E w w') (hb : w'.ownsRow E.B 41 3 E.vb E.hs.length (bindsV (bindsOf E.hs (σ.set k o)))) (hz : w'.ownsRow E.B 4 1 E.vz E.hs.length (boundV (σ.set k o))) : SkIn E (σ.set k o) w' :=
 ⟨h.st.keep hk, hb, hz, by rw [List.length_set]; exact h.n, fun j q hq => by
  by_cases e : k = j
  ·subst e
   by_cases hl : k < σ.length
   ·rw [List.getElem?_set_self hl] at hq
    exact hr q (Option.some.inj hq)
   ·rw [List.getElem?_eq_none (by simp; omega)] at hq; cases hq
  ·rw [List.getElem?_set_ne e] at hq; exact h.r j q hq⟩
theorem boundV_set (σ : MSt) (k : Nat) (o : Option (Nat × Nat)) : boundV (σ.set k o) = (boundV σ).set k (.bool o.isSome) := by unfold boundV; rw [List.map_set]
end Go.Proofs.YtlkheofphafofaaGreatDoor
namespace Go.Proofs.YtlkheofphafofaaGreatDoor
set_option linter.all false
attribute [local irreducible] Calls
open Go.RowKit

theorem seekPost.bool {E : SkE} {o : Option MSt} {σ : MSt} {w w' : World} {e : Ending} (h : seekPost E o σ w e w') : ∃ y, e = .returned (.bool y) := by
 obtain ⟨_, ⟨τ, _, he, _⟩ | ⟨_, he, _⟩⟩ := h.out
 ·exact ⟨true, he⟩
 ·exact ⟨false, he⟩
set_option maxRecDepth 100000 in
set_option maxHeartbeats 16000000 in
theorem sk_bind_old (E : SkE) (ok : SkOK E) (w : World) (σ : MSt) (hi : SkIn E σ w) (h : Nat) (hh : h < E.hs.length) (a b : Nat) (h1 : a ≤ b) (h2 : b ≤ E.l.length) (K : MSt → Option MSt) (tv : Value) (ht : ThenOK E K tv w) (q : Nat × Nat) (hq : σ[h]? = some (some q)) :
  Calls Tryz.prog 62 #[.pointer (some ⟨E.g, 0, none⟩), .int .i64 (h : Int), .int .i64 (a : Int), .int .i64 (b : Int), tv] w (seekPost E ((bindS E.l σ h a b).bind K) σ w) := by
 have HQ : RowKit.Hid (∀ e w', seekPost E ((bindS E.l σ h a b).bind K) σ w e w' → seekPost E ((bindS E.l σ h a b).bind K) σ w e w') := Lib.hid fun e w' h => h
 have hbs : bindS E.l σ h a b = if piece E.l q.1 q.2 = piece E.l a b then some σ else none := by unfold bindS; rw [hq]
 rw [hbs] at HQ ⊢
 obtain ⟨Q, hQ⟩ : ∃ Q, seekPost E ((if piece E.l q.1 q.2 = piece E.l a b then some σ else none).bind K) σ w = Q := ⟨_, rfl⟩
 have HQ' : RowKit.Hid (∀ e w', seekPost E ((if piece E.l q.1 q.2 = piece E.l a b then some σ else none).bind K) σ w e w' → Q e w') := Lib.hid fun e w' h => by rw [← hQ]; exact h
 rw [hQ]
 clear HQ hQ hbs
 obtain ⟨k, cap, rfl, hcf, HT⟩ := ht
 have hcf := hcf cap
 have HT := Lib.hid HT
 obtain ⟨gb, cb, hvb, hcb, hB, hgb, b0, b1, b2, _⟩ := hi.bindAt hh hq
 obtain ⟨gz, cz, hvz, hcz, hBz, hgz, z0, _⟩ := hi.boundAt hh hq
 simp only [bindOf, Option.isSome_some] at b1 b2 z0
 obtain ⟨q1, q2⟩ := q
 simp only [] at b1 b2
 have hqr := hi.r h (q1, q2) hq
 simp only [] at hqr
 have hgs : E.g < w.heap.size := lt_of_block hi.st.now.s
 have c6 := hi.st.now.cells.2.2.2.2.2.2.1
 have c7 := hi.st.now.cells.2.2.2.2.2.2.2
 rw [hvb] at c6
 rw [hvz] at c7
 have hh0 : (0 : Int) ≤ (h : Int) := by omega
 have hhl : (h : Int) < E.hs.length := by omega
 have hhn := ok.hn
 have HI := Lib.hid hi
 have HB : RowKit.Hid (Below w.heap.size w (w.alloc (.cells #[.string (E.hs[h]).1, .int .i64 (a : Int), .int .i64 (b : Int)] 41))) := Lib.hid ((Below.refl _ _).alloc (Nat.le_refl _) _)
 have CS := Lib.hid (fun W (hb : Below w.heap.size w W) => sk_same E ok W ((hi.below hb).st.now) (E.hs[h]).1 (E.hs[h]).1 q1 q2 a b hqr.1 hqr.2 h1 h2)
 clear hi
 generalize (E.hs[h]).1 = nm at *
 go_enter Tryz.func62, Tryz.ntmps62
 go_wp2_with fail
 have x0 : (w.alloc (.cells #[.string nm, .int .i64 (a : Int), .int .i64 (b : Int)] 41)).cell? ⟨w.heap.size, 0, none⟩ = some (.string nm) := World.cell?_alloc_at _ _ _ _ rfl
 have x1 : (w.alloc (.cells #[.string nm, .int .i64 (a : Int), .int .i64 (b : Int)] 41)).cell? ⟨w.heap.size, 1, none⟩ = some (.int .i64 (a : Int)) := World.cell?_alloc_at _ _ _ _ rfl
 have x2 : (w.alloc (.cells #[.string nm, .int .i64 (a : Int), .int .i64 (b : Int)] 41)).cell? ⟨w.heap.size, 2, none⟩ = some (.int .i64 (b : Int)) := World.cell?_alloc_at _ _ _ _ rfl
 have e6 : (w.alloc (.cells #[.string nm, .int .i64 (a : Int), .int .i64 (b : Int)] 41)).cell? ⟨E.g, 6, none⟩ = some (.slice (some ⟨gb, 0, none⟩) E.hs.length cb) := by rw [HB.out.cell (p := ⟨E.g, 6, none⟩) hgs]; exact c6
 have y0 : (w.alloc (.cells #[.string nm, .int .i64 (a : Int), .int .i64 (b : Int)] 41)).cell? ⟨gb, h * 3, none⟩ = some (.string nm) := by rw [HB.out.cell (p := ⟨gb, h * 3, none⟩) hgb]; exact b0
 have y1 : (w.alloc (.cells #[.string nm, .int .i64 (a : Int), .int .i64 (b : Int)] 41)).cell? ⟨gb, h * 3 + 1, none⟩ = some (.int .i64 (q1 : Int)) := by rw [HB.out.cell (p := ⟨gb, h * 3 + 1, none⟩) hgb]; exact b1
 have y2 : (w.alloc (.cells #[.string nm, .int .i64 (a : Int), .int .i64 (b : Int)] 41)).cell? ⟨gb, h * 3 + 2, none⟩ = some (.int .i64 (q2 : Int)) := by rw [HB.out.cell (p := ⟨gb, h * 3 + 2, none⟩) hgb]; exact b2
 have HZ : RowKit.Hid (w.heap.size < (w.alloc (.cells #[.string nm, .int .i64 (a : Int), .int .i64 (b : Int)] 41)).heap.size) := Lib.hid (by simp)
 have HBd := Lib.hid HB.out.drew
 have HKd : RowKit.Hid (KeptX E w (w.alloc (.cells #[.string nm, .int .i64 (a : Int), .int .i64 (b : Int)] 41)).drew) := Lib.hid (KeptX.of_below HB.out.drew)
 have HNE : RowKit.Hid (∀ B, w.heap.size ≤ B → some B ≠ E.vb.ownBlock ∧ some B ≠ E.vz.ownBlock) := Lib.hid fun B hB => by
  rw [hvb, hvz]
  simp only [Value.ownBlock, ne_eq, Option.some.injEq]
  exact ⟨by omega, by omega⟩
 have HNG := Lib.hid ok.nb
 generalize w.alloc (.cells #[.string nm, .int .i64 (a : Int), .int .i64 (b : Int)] 41) = W0 at *
 generalize hss : w.heap.size = B at *
 have HSS := Lib.hid hss
 have HZd : RowKit.Hid (B ≤ W0.drew.heap.size) := Lib.hid (Nat.le_of_lt HZ.out)
 have HGS := Lib.hid hgs
 clear hss c6 c7 b0 b1 b2 z0 hvb hvz HB
 have HS : RowKit.Hid (∀ W, KeptX E W0.drew W → (fun W => W.cell? ⟨E.g, 6, none⟩ = some (.slice (some ⟨gb, 0, none⟩) E.hs.length cb) ∧ W.cell? ⟨B, 0, none⟩ = some (.string nm) ∧ W.cell? ⟨B, 1, none⟩ = some (.int .i64 (a : Int)) ∧ W.cell? ⟨B, 2, none⟩ = some (.int .i64 (b : Int)) ∧ RowKit.Hid (KeptX E w W)) W) := Lib.hid fun W hk => by
  have hz : B < W0.drew.heap.size := HZ.out
  have hg : E.g < W0.drew.heap.size := by have := HGS.out; omega
  have hne := HNE.out B (Nat.le_refl _)
  have hng := HNG.out
  refine ⟨?_, ?_, ?_, ?_, Lib.hid (HKd.out.trans hk)⟩
  ·rw [hk.cell hg hng.1 hng.2]; exact e6
  ·rw [hk.cell hz hne.1 hne.2]; exact x0
  ·rw [hk.cell hz hne.1 hne.2]; exact x1
  ·rw [hk.cell hz hne.1 hne.2]; exact x2
 by_cases hpe : piece E.l q1 q2 = piece E.l a b
 ·have HPE := Lib.hid hpe
  rw [if_pos hpe] at HQ'
  clear hpe
  refine wp_region_noPanic ?_
  refine wp_region_held_drew (S := fun W => W.cell? ⟨E.g, 6, none⟩ = some (.slice (some ⟨gb, 0, none⟩) E.hs.length cb) ∧ W.cell? ⟨B, 0, none⟩ = some (.string nm) ∧ W.cell? ⟨B, 1, none⟩ = some (.int .i64 (a : Int)) ∧ W.cell? ⟨B, 2, none⟩ = some (.int .i64 (b : Int)) ∧ RowKit.Hid (KeptX E w W)) (by kernel_rfl) (HS.out _ (KeptX.refl _ _)) (fun hHeldA => ?_)
  refine wpAnyH_take (i := 0) (oi := _) (v := ?vA0) rfl (by kernel_rfl) (by kernel_rfl) (by kernel_rfl) (fun _ _ _ h => h) (Or.inl ⟨by kernel_rfl, ?hyA0⟩) hHeldA ?restA0
  case hyA0 => intro w hSw; (try dsimp only at hSw); go_simp; (try with_reducible rfl)
  (try simp only [Act.put, List.setIfInBounds_toArray, List.set_cons_zero, List.set_cons_succ])
  refine wpAnyH_take (i := 1) (oi := _) (v := ?vA1) rfl (by kernel_rfl) (by kernel_rfl) (by kernel_rfl) (fun _ _ _ h => h) (Or.inl ⟨by kernel_rfl, ?hyA1⟩) hHeldA ?restA1
  case hyA1 => intro w hSw; (try dsimp only at hSw); go_simp; (try with_reducible rfl)
  (try simp only [Act.put, List.setIfInBounds_toArray, List.set_cons_zero, List.set_cons_succ])
  refine wpAnyH_take (i := 2) (oi := _) (v := ?vA2) rfl (by kernel_rfl) (by kernel_rfl) (by kernel_rfl) (fun _ _ _ h => h) (Or.inl ⟨by kernel_rfl, ?hyA2⟩) hHeldA ?restA2
  case hyA2 => intro w hSw; (try dsimp only at hSw); go_simp; (try with_reducible rfl)
  (try simp only [Act.put, List.setIfInBounds_toArray, List.set_cons_zero, List.set_cons_succ])
  refine wpAnyH_take (i := 3) (oi := _) (v := ?vA3) rfl (by kernel_rfl) (by kernel_rfl) (by kernel_rfl) (fun _ _ _ h => h) (Or.inl ⟨by kernel_rfl, ?hyA3⟩) hHeldA ?restA3
  case hyA3 => intro w hSw; (try dsimp only at hSw); go_simp; (try with_reducible rfl)
  (try simp only [Act.put, List.setIfInBounds_toArray, List.set_cons_zero, List.set_cons_succ])
  refine wpAnyH_take (i := 4) (oi := _) (v := ?vA4) rfl (by kernel_rfl) (by kernel_rfl) (by kernel_rfl) (fun _ _ _ h => h) (Or.inl ⟨by kernel_rfl, ?hyA4⟩) hHeldA ?restA4
  case hyA4 => intro w hSw; (try dsimp only at hSw); go_simp; (try with_reducible rfl)
  (try simp only [Act.put, List.setIfInBounds_toArray, List.set_cons_zero, List.set_cons_succ])
  refine wpAnyH_take (i := 5) (oi := _) (v := ?vA5) rfl (by kernel_rfl) (by kernel_rfl) (by kernel_rfl) (fun _ _ _ h => h) (Or.inl ⟨by kernel_rfl, ?hyA5⟩) hHeldA ?restA5
  case hyA5 => intro w hSw; (try dsimp only at hSw); go_simp; (try with_reducible rfl)
  (try simp only [Act.put, List.setIfInBounds_toArray, List.set_cons_zero, List.set_cons_succ])
  refine wpAnyH_take (i := 6) (oi := _) (v := ?vA6) rfl (by kernel_rfl) (by kernel_rfl) (by kernel_rfl) (fun _ _ _ h => h) (Or.inl ⟨by kernel_rfl, ?hyA6⟩) hHeldA ?restA6
  case hyA6 => intro w hSw; (try dsimp only at hSw); go_simp; (try with_reducible rfl)
  (try simp only [Act.put, List.setIfInBounds_toArray, List.set_cons_zero, List.set_cons_succ])
  refine wpAnyH_take (i := 8) (oi := _) (v := ?vA8) rfl (by kernel_rfl) (by kernel_rfl) (by kernel_rfl) (fun _ _ _ h => h) (Or.inl ⟨by kernel_rfl, ?hyA8⟩) hHeldA ?restA8
  case hyA8 => intro w hSw; (try dsimp only at hSw); go_simp; (try with_reducible rfl)
  (try simp only [Act.put, List.setIfInBounds_toArray, List.set_cons_zero, List.set_cons_succ])
  refine wpAnyH_ready (rs := [7]) (by kernel_rfl) (by simp) ?_
  refine AllReadyH.cons (o := _) rfl (fun K hK => ?_) AllReadyH.nil
  go_simp
  refine hK.out _ _ hHeldA (fun hHeldA_1 => ?_)
  clear hK K hHeldA
  (try simp only [Act.put, List.setIfInBounds_toArray, List.set_cons_zero, List.set_cons_succ])
  refine wpAnyH_ready (rs := [9]) (by kernel_rfl) (by simp) ?_
  refine AllReadyH.cons (o := _) rfl (fun K hK => ?_) AllReadyH.nil
  go_simp
  go_at_call 87
  refine (CS.out _ (HSS.out ▸ HBd.out)).mono ?_
  rintro e w5 ⟨x, rfl, hx, hb5⟩
  obtain rfl : x = true := hx.mpr HPE.out
  have HK5 := Lib.hid (KeptX.of_below (E := E) (HSS.out ▸ HBd.out.trans (hb5.mono HZd.out)))
  (try dsimp only)
  refine hK.out _ _ (HS.out _ (KeptX.of_below hb5)) (fun hHeldA_2 => ?_)
  clear hK K hHeldA_1
  (try simp only [Act.put, List.setIfInBounds_toArray, List.set_cons_zero, List.set_cons_succ])
  refine wpAnyH_take (i := 10) (oi := _) (v := ?vA10) rfl (by kernel_rfl) (by kernel_rfl) (by kernel_rfl) (fun _ _ _ h => h) (Or.inl ⟨by kernel_rfl, ?hyA10⟩) hHeldA_2 ?restA10
  case hyA10 => intro w hSw; (try dsimp only at hSw); go_simp; (try with_reducible rfl)
  (try simp only [Act.put, List.setIfInBounds_toArray, List.set_cons_zero, List.set_cons_succ])
  refine wpAnyH_take (i := 11) (oi := _) (v := ?vA11) rfl (by kernel_rfl) (by kernel_rfl) (by kernel_rfl) (fun _ _ _ h => h) (Or.inl ⟨by kernel_rfl, ?hyA11⟩) hHeldA_2 ?restA11
  case hyA11 => intro w hSw; (try dsimp only at hSw); go_simp; (try with_reducible rfl)
  (try simp only [Act.put, List.setIfInBounds_toArray, List.set_cons_zero, List.set_cons_succ])
  refine wpAnyH_ready (rs := [12]) (by kernel_rfl) (by simp) ?_
  refine AllReadyH.cons (o := _) rfl (fun K hK => ?_) AllReadyH.nil
  go_simp
  refine (HT.out w5 σ HK5.out (HI.out.below (HSS.out ▸ HBd.out.trans (hb5.mono HZd.out)))).mono ?_
  intro e w6 h6
  obtain ⟨y, rfl⟩ := h6.bool
  have HR6 := Lib.hid (h6.from HK5.out)
  have HK6 := Lib.hid h6.out.1
  (try dsimp only)
  refine hK.out _ _ (HS.out _ ((KeptX.of_below hb5).trans HK6.out)) (fun hHeldA_3 => ?_)
  clear hK K hHeldA_2
  (try simp only [Act.put, List.setIfInBounds_toArray, List.set_cons_zero, List.set_cons_succ])
  refine wpAnyH_take (i := 13) (oi := _) (v := ?vA13) rfl (by kernel_rfl) (by kernel_rfl) (by kernel_rfl) (fun _ _ _ h => h) (Or.inl ⟨by kernel_rfl, ?hyA13⟩) hHeldA_3 ?restA13
  case hyA13 => intro w hSw; (try dsimp only at hSw); go_simp; (try with_reducible rfl)
  (try simp only [Act.put, List.setIfInBounds_toArray, List.set_cons_zero, List.set_cons_succ])
  refine wpAnyH_take (i := 14) (oi := _) (v := ?vA14) rfl (by kernel_rfl) (by kernel_rfl) (by kernel_rfl) (fun _ _ _ h => h) (Or.inl ⟨by kernel_rfl, ?hyA14⟩) hHeldA_3 ?restA14
  case hyA14 => intro w hSw; (try dsimp only at hSw); go_simp; (try with_reducible rfl)
  (try simp only [Act.put, List.setIfInBounds_toArray, List.set_cons_zero, List.set_cons_succ])
  refine wpAnyH_done (by kernel_rfl) ?_ _
  refine NoPanic.normal ?_
  have HX := Lib.hid (HQ'.out _ _ HR6.out)
  go_wp2_with fail
  exact HX.out
 ·have HPE := Lib.hid hpe
  rw [if_neg hpe] at HQ'
  clear hpe
  refine wp_region_noPanic ?_
  refine wp_region_held_drew (S := fun W => W.cell? ⟨E.g, 6, none⟩ = some (.slice (some ⟨gb, 0, none⟩) E.hs.length cb) ∧ W.cell? ⟨B, 0, none⟩ = some (.string nm) ∧ W.cell? ⟨B, 1, none⟩ = some (.int .i64 (a : Int)) ∧ W.cell? ⟨B, 2, none⟩ = some (.int .i64 (b : Int)) ∧ RowKit.Hid (KeptX E w W)) (by kernel_rfl) (HS.out _ (KeptX.refl _ _)) (fun hHeldB => ?_)
  refine wpAnyH_take (i := 0) (oi := _) (v := ?vB0) rfl (by kernel_rfl) (by kernel_rfl) (by kernel_rfl) (fun _ _ _ h => h) (Or.inl ⟨by kernel_rfl, ?hyB0⟩) hHeldB ?restB0
  case hyB0 => intro w hSw; (try dsimp only at hSw); go_simp; (try with_reducible rfl)
  (try simp only [Act.put, List.setIfInBounds_toArray, List.set_cons_zero, List.set_cons_succ])
  refine wpAnyH_take (i := 1) (oi := _) (v := ?vB1) rfl (by kernel_rfl) (by kernel_rfl) (by kernel_rfl) (fun _ _ _ h => h) (Or.inl ⟨by kernel_rfl, ?hyB1⟩) hHeldB ?restB1
  case hyB1 => intro w hSw; (try dsimp only at hSw); go_simp; (try with_reducible rfl)
  (try simp only [Act.put, List.setIfInBounds_toArray, List.set_cons_zero, List.set_cons_succ])
  refine wpAnyH_take (i := 2) (oi := _) (v := ?vB2) rfl (by kernel_rfl) (by kernel_rfl) (by kernel_rfl) (fun _ _ _ h => h) (Or.inl ⟨by kernel_rfl, ?hyB2⟩) hHeldB ?restB2
  case hyB2 => intro w hSw; (try dsimp only at hSw); go_simp; (try with_reducible rfl)
  (try simp only [Act.put, List.setIfInBounds_toArray, List.set_cons_zero, List.set_cons_succ])
  refine wpAnyH_take (i := 3) (oi := _) (v := ?vB3) rfl (by kernel_rfl) (by kernel_rfl) (by kernel_rfl) (fun _ _ _ h => h) (Or.inl ⟨by kernel_rfl, ?hyB3⟩) hHeldB ?restB3
  case hyB3 => intro w hSw; (try dsimp only at hSw); go_simp; (try with_reducible rfl)
  (try simp only [Act.put, List.setIfInBounds_toArray, List.set_cons_zero, List.set_cons_succ])
  refine wpAnyH_take (i := 4) (oi := _) (v := ?vB4) rfl (by kernel_rfl) (by kernel_rfl) (by kernel_rfl) (fun _ _ _ h => h) (Or.inl ⟨by kernel_rfl, ?hyB4⟩) hHeldB ?restB4
  case hyB4 => intro w hSw; (try dsimp only at hSw); go_simp; (try with_reducible rfl)
  (try simp only [Act.put, List.setIfInBounds_toArray, List.set_cons_zero, List.set_cons_succ])
  refine wpAnyH_take (i := 5) (oi := _) (v := ?vB5) rfl (by kernel_rfl) (by kernel_rfl) (by kernel_rfl) (fun _ _ _ h => h) (Or.inl ⟨by kernel_rfl, ?hyB5⟩) hHeldB ?restB5
  case hyB5 => intro w hSw; (try dsimp only at hSw); go_simp; (try with_reducible rfl)
  (try simp only [Act.put, List.setIfInBounds_toArray, List.set_cons_zero, List.set_cons_succ])
  refine wpAnyH_take (i := 6) (oi := _) (v := ?vB6) rfl (by kernel_rfl) (by kernel_rfl) (by kernel_rfl) (fun _ _ _ h => h) (Or.inl ⟨by kernel_rfl, ?hyB6⟩) hHeldB ?restB6
  case hyB6 => intro w hSw; (try dsimp only at hSw); go_simp; (try with_reducible rfl)
  (try simp only [Act.put, List.setIfInBounds_toArray, List.set_cons_zero, List.set_cons_succ])
  refine wpAnyH_take (i := 8) (oi := _) (v := ?vB8) rfl (by kernel_rfl) (by kernel_rfl) (by kernel_rfl) (fun _ _ _ h => h) (Or.inl ⟨by kernel_rfl, ?hyB8⟩) hHeldB ?restB8
  case hyB8 => intro w hSw; (try dsimp only at hSw); go_simp; (try with_reducible rfl)
  (try simp only [Act.put, List.setIfInBounds_toArray, List.set_cons_zero, List.set_cons_succ])
  refine wpAnyH_ready (rs := [7]) (by kernel_rfl) (by simp) ?_
  refine AllReadyH.cons (o := _) rfl (fun K hK => ?_) AllReadyH.nil
  go_simp
  refine hK.out _ _ hHeldB (fun hHeldB_1 => ?_)
  clear hK K hHeldB
  (try simp only [Act.put, List.setIfInBounds_toArray, List.set_cons_zero, List.set_cons_succ])
  refine wpAnyH_ready (rs := [9]) (by kernel_rfl) (by simp) ?_
  refine AllReadyH.cons (o := _) rfl (fun K hK => ?_) AllReadyH.nil
  go_simp
  go_at_call 87
  refine (CS.out _ (HSS.out ▸ HBd.out)).mono ?_
  rintro e w5 ⟨x, rfl, hx, hb5⟩
  obtain rfl : x = false := by cases x with
   | false => rfl
   | true => exact absurd (hx.mp rfl) HPE.out
  have HB5 := Lib.hid (HBd.out.trans (hb5.mono HZd.out))
  (try dsimp only)
  refine hK.out _ _ (HS.out _ (KeptX.of_below hb5)) (fun hHeldB_2 => ?_)
  clear hK K hHeldB_1
  (try simp only [Act.put, List.setIfInBounds_toArray, List.set_cons_zero, List.set_cons_succ])
  refine wpAnyH_take (i := 10) (oi := _) (v := ?vB10) rfl (by kernel_rfl) (by kernel_rfl) (by kernel_rfl) (fun _ _ _ h => h) (Or.inl ⟨by kernel_rfl, ?hyB10⟩) hHeldB_2 ?restB10
  case hyB10 => intro w hSw; (try dsimp only at hSw); go_simp; (try with_reducible rfl)
  (try simp only [Act.put, List.setIfInBounds_toArray, List.set_cons_zero, List.set_cons_succ])
  refine wpAnyH_take (i := 11) (oi := _) (v := undef) rfl (by kernel_rfl) (by kernel_rfl) (by kernel_rfl) (fun _ _ _ h => h) (Or.inr ⟨by kernel_rfl, rfl⟩) hHeldB_2 ?_
  (try simp only [Act.put, List.setIfInBounds_toArray, List.set_cons_zero, List.set_cons_succ])
  refine wpAnyH_ready (rs := [12]) (by kernel_rfl) (by simp) ?_
  refine AllReadyH.cons (o := _) rfl (fun K hK => ?_) AllReadyH.nil
  rw [if_neg]
  rotate_left
  ·exact fun h => Bool.noConfusion (h.symm.trans (by kernel_rfl : _ = false))
  refine hK.out _ _ hHeldB_2 (fun hHeldB_3 => ?_)
  clear hK K hHeldB_2
  (try simp only [Act.put, List.setIfInBounds_toArray, List.set_cons_zero, List.set_cons_succ])
  refine wpAnyH_take (i := 13) (oi := _) (v := ?vB13) rfl (by kernel_rfl) (by kernel_rfl) (by kernel_rfl) (fun _ _ _ h => h) (Or.inl ⟨by kernel_rfl, ?hyB13⟩) hHeldB_3 ?restB13
  case hyB13 => intro w hSw; (try dsimp only at hSw); go_simp; (try with_reducible rfl)
  (try simp only [Act.put, List.setIfInBounds_toArray, List.set_cons_zero, List.set_cons_succ])
  refine wpAnyH_take (i := 14) (oi := _) (v := ?vB14) rfl (by kernel_rfl) (by kernel_rfl) (by kernel_rfl) (fun _ _ _ h => h) (Or.inl ⟨by kernel_rfl, ?hyB14⟩) hHeldB_3 ?restB14
  case hyB14 => intro w hSw; (try dsimp only at hSw); go_simp; (try with_reducible rfl)
  (try simp only [Act.put, List.setIfInBounds_toArray, List.set_cons_zero, List.set_cons_succ])
  refine wpAnyH_done (by kernel_rfl) ?_ _
  refine NoPanic.normal ?_
  have HX := Lib.hid (HQ'.out _ _ (seekPost.no rfl (KeptX.of_below (HSS.out ▸ HB5.out)) (HI.out.below (HSS.out ▸ HB5.out))))
  go_wp2_with fail
  exact HX.out
end Go.Proofs.YtlkheofphafofaaGreatDoor
