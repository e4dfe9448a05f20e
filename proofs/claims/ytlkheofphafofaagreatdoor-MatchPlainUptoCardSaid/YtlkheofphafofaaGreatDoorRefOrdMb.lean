/- Layer 17, the reference: Order, walked. -/
import Derived.Test.YtlkheofphafofaaGreatDoorRuleCMb
import Derived.Test.YtlkheofphafofaaGreatDoorRefMAMb
import Derived.Test.YtlkheofphafofaaGreatDoorMapUMb
import Derived.Test.YtlkheofphafofaaGreatDoorAppEqMb
import Derived.Test.YtlkheofphafofaaGreatDoorRefChkBMb
import Derived.Test.YtlkheofphafofaaGreatDoorTermSameMb
import Derived.Test.YtlkheofphafofaaGreatDoorRuleVMb
import Derived.Test.YtlkheofphafofaaGreatDoorSwapPMb
import Derived.Test.YtlkheofphafofaaGreatDoorCheckBMb
namespace Go.Proofs.YtlkheofphafofaaGreatDoor
set_option linter.all false
attribute [local irreducible] Calls
attribute [local irreducible] wpStill
open Go.RowKit

def natV (ns : List Nat) : List Value := ns.map fun (n : Nat) => Value.int .i64 (n : Int)
end Go.Proofs.YtlkheofphafofaaGreatDoor
namespace Go.Proofs.YtlkheofphafofaaGreatDoor
set_option linter.all false
open Go.RowKit

@[irreducible] def kidsOwn (ks : List Nat) (w0 : World) (e : Ending) (w' : World) : Prop :=
 ∃ v, e = .returned v ∧ Below w0.heap.size w0 w' ∧ w'.ownsRow w0.heap.size 3 1 v ks.length (natV ks)
set_option maxRecDepth 100000 in
set_option maxHeartbeats 8000000 in
theorem ref_KidsOwn (l : List Prt) (hl : l.length ≤ 1000000000) (us : List Nat) (hus : rowsB l = some us) (v : Value) (i : Nat) (hi : i < l.length) (w : World) (hr : PartRow w v l) :
  Calls Tryz.prog 50 #[v, .int .i64 (i : Int)] w (kidsOwn (kidsB l i) w) := by
 have HQ : RowKit.Hid (∀ v' w', Below w.heap.size w w' → w'.ownsRow w.heap.size 3 1 v' (kidsB l i).length (natV (kidsB l i)) → kidsOwn (kidsB l i) w (.returned v') w') := Lib.hid fun v' w' h2 h3 => by
  unfold kidsOwn; exact ⟨v', rfl, h2, h3⟩
 have HR := Lib.hid hr
 obtain ⟨va, vcap, rfl, hvc⟩ := hr.slice
 clear hr
 obtain ⟨ts, q, f1, f2, f3, f4, f5⟩ := kids_facts hus hi
 have HST := Lib.hid (fun n (hn : n < q) => kid_step hus f1 f3 hn)
 have HCE := Lib.hid (fun (W' : World) (hb : Below w.heap.size w W') k (hk : k < l.length) => show Calls Tryz.prog 20 #[.slice va l.length vcap, .int .i64 (k : Int)] W' fun e w' => e = .returned (.int .i64 (endB l k : Int)) ∧ W' = w' by
  have := ref_End11 l hl _ k (by omega) W' (HR.out.below hb)
  rw [endR_end hus hk] at this
  exact this)
 have HK5 := Lib.hid f5
 have HE4 := Lib.hid f4
 have HQT := Lib.hid f3
 have hqt : ts.length ≤ l.length := by have := (rowsB_sum f1).2.1; rw [List.length_drop] at this; omega
 have hqb : q ≤ 1000000000 := by omega
 have hee := (endB_gt hus hi).2
 rw [f4] at hee
 obtain ⟨b, off, rfl, _, _, _, hcell⟩ := HR.out.at (Below.refl _ _) (show 0 < l.length by omega)
 have hc1 := (hcell i hi).2.1
 rw [f2] at hc1
 have HC : RowKit.Hid (∀ W', Below w.heap.size w W' → W'.cell? ⟨b, off + i * 3 + 1, none⟩ = some (.int .i64 (q : Int))) := Lib.hid fun W' hb => by
  obtain ⟨b', off', hbb, _, _, _, hcc⟩ := HR.out.at hb (show 0 < l.length by omega)
  simp only [Option.some.injEq, Addr.mk.injEq, and_true] at hbb
  obtain ⟨rfl, rfl⟩ := hbb
  rw [(hcc i hi).2.1, f2]
 generalize kidsOwn (kidsB l i) w = Q at *
 have hji : (i : Int) < l.length := by omega
 have hj0 : (0 : Int) ≤ i := by omega
 have hjc : (i : Int) < vcap := by omega
 have hwj : IntKind.i64.wrap ((i : Int) + 1) = (i : Int) + 1 := by rw [IntKind.wrap_i64]; omega
 clear f1 f2 f3 f4 f5 hcell hc1
 go_enter Tryz.func50, Tryz.ntmps50
 go_wp2_with fail
 go_loopw [5, 6, 7] (fun v k c wr => ∃ n : Nat, c = .int .i64 (n : Int) ∧ n ≤ q ∧ k = .int .i64 ((i + 1 + (ts.take n).sum : Nat) : Int) ∧ wr.ownsRow w.heap.size 3 1 v n (((starts (i + 1) ts).take n).map fun (x : Nat) => Value.int .i64 (x : Int)) ∧ Below w.heap.size w wr) (fun _ _ c _ => q - (intOf c).toNat)
 case atStart => exact ⟨0, rfl, Nat.zero_le _, by simp, World.ownsRow_nil _ _ _ _, Below.refl _ _⟩
 case round =>
  obtain ⟨n, rfl, hn, rfl, ho, hb⟩ := hrel
  have HO := Lib.hid ho
  have HB := Lib.hid hb
  have HNN := Lib.hid hn
  obtain ⟨_, oa, oc, rfl, _, _, _⟩ := Row.of_owns ho
  have d0 := HC.out _ HB.out
  have hbs := hb.size
  clear ho hb hn
  by_cases hlt : n < q
  ·obtain ⟨g1, g2, g3, g4, g5, g6⟩ := HST.out n hlt
   have HG3 := Lib.hid g3
   have hlt' : (n : Int) < q := by omega
   have hC := fun W' hb => HCE.out W' hb _ g1
   rw [g2] at hC
   have HCK := Lib.hid hC
   have hnb : n ≤ 1000000000 := by omega
   have HN1 : RowKit.Hid (n + 1 ≤ q) := Lib.hid hlt
   have HMS : RowKit.Hid (q - (n + 1) < q - n) := Lib.hid (by omega)
   have hwn : IntKind.i64.wrap ((n : Int) + 1) = (n : Int) + 1 := by rw [IntKind.wrap_i64]; omega
   clear g1 g2 g3 g4 g5 g6 hC
   generalize hK1 : i + 1 + (ts.take n).sum = K1 at *
   generalize hK2 : i + 1 + (ts.take (n + 1)).sum = K2 at *
   have HK2 := Lib.hid hK2
   clear hK1 hK2
   go_wp2_with (at_builtin; refine wpList_append_lit wr #[.int .i64 (K1 : Int)] _ rfl _ _ 49 3 rfl Tryz.underlying49 w.heap.size Tinfo_int rfl (by decide) _ _ _ rfl HO.out 1 1 rfl rfl (by decide) (by intro u hu; simp at hu; subst hu; rfl) (by omega) (by omega) hbs ?_)
   intro v' w' hown hgr _
   have hb' := grown_below HB.out hbs HO.out hgr
   have CK := Lib.hid (HCK.out w' hb')
   have HRL : RowKit.Hid (w'.ownsRow w.heap.size 3 1 v' (n + 1) (((starts (i + 1) ts).take (n + 1)).map fun (x : Nat) => Value.int .i64 (x : Int)) ∧ Below w.heap.size w w') := Lib.hid ⟨by have h := hown; rw [HG3.out]; simpa using h, hb'⟩
   obtain ⟨_, va', vc', rfl, _, _, _⟩ := Row.of_owns hown
   clear hown hgr hb' d0
   go_wp2_with fail
   refine CK.out.mono ?_
   rintro e w2 ⟨rfl, rfl⟩
   go_wp2_with fail
   refine ⟨⟨n + 1, congrArg (Value.int .i64) (by omega), HN1.out, by rw [HK2.out], HRL.out.1, HRL.out.2⟩, ?_⟩
   have := HMS.out
   simp only [intOf]
   omega
  ·have hnq : n = q := by have := HNN.out; omega
   subst hnq
   have HRW : RowKit.Hid (wr.ownsRow w.heap.size 3 1 (.slice oa n oc) (kidsB l i).length (natV (kidsB l i))) := Lib.hid (by
    have e : (kidsB l i).length = n := by rw [HK5.out, List.length_take, starts_length]; have := HQT.out; omega
    rw [e, HK5.out]; exact HO.out)
   go_wp2_with fail
   exact HQ.out _ _ HB.out HRW.out
end Go.Proofs.YtlkheofphafofaaGreatDoor
namespace Go.Proofs.YtlkheofphafofaaGreatDoor
set_option linter.all false

def bOf (bs : List Bnd) (h : Nat) : Nat × Nat := match bs[h]? with
 | some x => (x.2.1.toNat, x.2.2.toNat)
 | none => (0, 0)
def BindsIn (bs : List Bnd) (l : List Prt) : Prop := ∀ x ∈ bs, 0 ≤ x.2.1 ∧ x.2.1 ≤ x.2.2 ∧ x.2.2 ≤ l.length
theorem bOf_at {bs : List Bnd} {h : Nat} (hh : h < bs.length) : bOf bs h = ((bs[h]).2.1.toNat, (bs[h]).2.2.toNat) := by unfold bOf; rw [List.getElem?_eq_getElem hh]
theorem bOf_in {bs : List Bnd} {l : List Prt} (hb : BindsIn bs l) (h : Nat) : (bOf bs h).1 ≤ (bOf bs h).2 ∧ (bOf bs h).2 ≤ l.length := by
 by_cases hh : h < bs.length
 ·have := hb _ (List.getElem_mem hh)
  rw [bOf_at hh]
  simp only []
  omega
 ·unfold bOf
  rw [List.getElem?_eq_none (by omega)]
  simp
section
variable {t l : List Prt} {hs : List Hl} {b : Nat → Nat × Nat}
theorem mp_hole {n p h : Nat} (ho : holeOf t hs p = some h) : mPart t l hs b (n + 1) p = srcL l (b h).1 (b h).2 := by rw [mPart, ho]
theorem mp_none {n p : Nat} (ho : holeOf t hs p = none) (hp : p < t.length) : mPart t l hs b (n + 1) p = (((t[p]).1, (cntP ((mKids t l hs b n (p + 1) (endB t p)).map (·.1)) : Int), (t[p]).2.2), -1) :: mKids t l hs b n (p + 1) (endB t p) := by
 rw [mPart, ho, List.getElem?_eq_getElem hp]
theorem mk_end {n p : Nat} : mKids t l hs b (n + 1) p p = [] := by rw [mKids, if_pos rfl]
theorem mk_next {n p pend : Nat} (h : p ≠ pend) : mKids t l hs b (n + 1) p pend = mPart t l hs b n p ++ mKids t l hs b n (endB t p) pend := by rw [mKids, if_neg h]
theorem mPart_rows (hb : ∀ h, (b h).1 ≤ (b h).2 ∧ (b h).2 ≤ l.length) (hv : ∀ h, ∃ ts, rowsB (piece l (b h).1 (b h).2) = some ts) (n p : Nat) : ∃ ts, rowsB ((mPart t l hs b n p).map (·.1)) = some ts := by
 rw [(m_inst t l hs b hb n).1 p]
 obtain ⟨ts, h, _⟩ := (i_rows t hs (fun h => piece l (b h).1 (b h).2) hv n).1 p
 exact ⟨ts, h⟩
end
def intsV (xs : List Int) : List Go.Value := xs.map (Go.Value.int .i64)
end Go.Proofs.YtlkheofphafofaaGreatDoor
namespace Go.Proofs.YtlkheofphafofaaGreatDoor
set_option linter.all false
open Go.RowKit

theorem cell_lt2 {w : World} {b o : Nat} {v : Value} (h : w.cell? ⟨b, o, none⟩ = some v) : b < w.heap.size := by
 apply Classical.byContradiction
 intro hn
 unfold World.cell? at h
 rw [Array.getElem?_eq_none (by simpa using hn)] at h
 cases h
theorem cell_of_heap {w w' : World} {b o : Nat} (h : w'.heap[b]? = w.heap[b]?) : w'.cell? ⟨b, o, none⟩ = w.cell? ⟨b, o, none⟩ := by
 unfold World.cell?
 simp only [h]
theorem row_other {w w' : World} {B B2 : Nat} {e e2 : TypeId} {size n size2 n2 : Nat} {v v2 : Value} {xs xs2 : List Value} (h : w.ownsRow B e size v n xs) (hg : w.grownBy w' v.ownBlock) (h2 : w.ownsRow B2 e2 size2 v2 n2 xs2) (ht : e2 ≠ e) : w'.ownsRow B2 e2 size2 v2 n2 xs2 := by
 obtain ⟨g1, g2⟩ := h2
 refine ⟨g1, ?_⟩
 rcases g2 with g2 | ⟨k, cap, cur, hv, hk, hh, r⟩
 ·exact Or.inl g2
 ·refine Or.inr ⟨k, cap, cur, hv, hk, ?_, r⟩
  rw [hg.block k (keeps_lt hh) ?_, hh]
  intro e1
  rcases h.2 with ⟨rfl, _⟩ | ⟨k1, cap1, cur1, rfl, _, hh1, _⟩
  ·simp [Value.ownBlock] at e1
  ·simp [Value.ownBlock] at e1
   subst e1
   rw [hh] at hh1
   cases hh1
   exact ht rfl
structure InW (w0 : World) (q : Nat) (kp : Nat → Nat) (ka : Option Addr) (hk : Nat) (hw : ByteArray) (M : List PN) (ov fv : Value) (w : World) : Prop where
 o : w.ownsRow w0.heap.size 48 3 ov (M.length + 1) (partsV ((hk, (cntP (M.map (·.1)) : Int), hw) :: M.map (·.1)))
 f : w.ownsRow w0.heap.size 3 1 fv (M.length + 1) (intsV (-1 :: M.map (·.2)))
 k : ∀ c, c < q → ∃ g, ka = some ⟨g, 0, none⟩ ∧ ov.ownBlock ≠ some g ∧ fv.ownBlock ≠ some g ∧ w.cell? ⟨g, c, none⟩ = some (.int .i64 (kp c : Int))
 b : Below w0.heap.size w0 w
theorem InW.below {w0 w w' : World} {q : Nat} {kp : Nat → Nat} {ka : Option Addr} {hk : Nat} {hw : ByteArray} {M : List PN} {ov fv : Value} (h : InW w0 q kp ka hk hw M ov fv w) (hb : Below w.heap.size w w') : InW w0 q kp ka hk hw M ov fv w' :=
 ⟨owns_below h.o hb, owns_below h.f hb, fun c hc => by
  obtain ⟨g, h1, h2, h3, h4⟩ := h.k c hc
  exact ⟨g, h1, h2, h3, by rw [hb.cell (p := ⟨g, c, none⟩) (cell_lt2 h4)]; exact h4⟩, bthen h.b hb⟩
theorem owns_ne {w : World} {B B2 : Nat} {e e2 : TypeId} {size n size2 n2 : Nat} {v v2 : Value} {xs xs2 : List Value} (h : w.ownsRow B e size v n xs) (h2 : w.ownsRow B2 e2 size2 v2 n2 xs2) (ht : e2 ≠ e) {g : Nat} (hg : v.ownBlock = some g) : v2.ownBlock ≠ some g := by
 intro hg2
 rcases h.2 with ⟨hv, _⟩ | ⟨k, cap, cur, hv, _, hh, _⟩
 ·rw [hv] at hg; simp [Value.ownBlock] at hg
 ·rw [hv] at hg; simp [Value.ownBlock] at hg; subst hg
  rcases h2.2 with ⟨hv2, _⟩ | ⟨k2, cap2, cur2, hv2, _, hh2, _⟩
  ·rw [hv2] at hg2; simp [Value.ownBlock] at hg2
  ·rw [hv2] at hg2; simp [Value.ownBlock] at hg2; subst hg2
   rw [hh] at hh2
   simp only [Option.some.injEq, Obj.cells.injEq] at hh2
   exact ht hh2.2.1.symm
theorem intsV_one (xs : List Int) : ∀ u ∈ intsV xs, u.oneCell' = true := by
 intro u hu
 unfold intsV at hu
 obtain ⟨x, _, rfl⟩ := List.mem_map.1 hu
 rfl
theorem intsV_app (a b : List Int) : intsV (a ++ b) = intsV a ++ intsV b := by unfold intsV; rw [List.map_append]
theorem InW.step {w0 w : World} {q : Nat} {kp : Nat → Nat} {ka : Option Addr} {hk : Nat} {hw : ByteArray} {M N : List PN} {ov fv va vb : Value} (h : InW w0 q kp ka hk hw M ov fv w) {us ts : List Nat} (hu : rowsB (M.map (·.1)) = some us) (ht : rowsB (N.map (·.1)) = some ts) {B : Nat}
  (ha : w.ownsRow B 48 3 va N.length (partsV (N.map (·.1)))) (hb : w.ownsRow B 3 1 vb N.length (intsV (N.map (·.2)))) (hB : ∀ g, ov.ownBlock = some g → g < B) (hB2 : ∀ g, fv.ownBlock = some g → g < B) (hlen : M.length + N.length ≤ 1000000000) :
  ∃ g cap w8 w9 v8 v9, ov = .slice (some ⟨g, 0, none⟩) (M.length + 1) cap ∧ M.length + 1 ≤ cap ∧ w.cell? ⟨g, 1, none⟩ = some (.int .i64 (us.length : Int)) ∧ w.frozen? ⟨g, 1, none⟩ = false ∧
   (Builtin.append_ #[23, 23] 23 #[ov, va]).run Tryz.prog (w.setCell ⟨g, 1, none⟩ (.int .i64 ((us.length : Int) + ts.length))) = .ok v8 w8 ∧
   (Builtin.append_ #[49, 49] 49 #[fv, vb]).run Tryz.prog w8 = .ok v9 w9 ∧ InW w0 q kp ka hk hw (M ++ N) v8 v9 w9 := by
 have hc1 : cntP (M.map (·.1)) = us.length := cntP_of hu
 have hc2 : cntP ((M ++ N).map (·.1)) = us.length + ts.length := by rw [List.map_append]; exact cntP_app hu ht
 have hoo := h.o
 rcases hoo.2 with ⟨_, h0⟩ | ⟨g, cap, cur, hv, hg, hh, hnc, hcm, hcs, htk⟩
 ·omega
 subst hv
 have hog : (Value.slice (some ⟨g, 0, none⟩) (M.length + 1) cap).ownBlock = some g := rfl
 have hc : w.cell? ⟨g, 1, none⟩ = some (.int .i64 (us.length : Int)) := by
  rw [hoo.cellAt 1 (by omega), hc1]
  rfl
 have hz : w.frozen? ⟨g, 1, none⟩ = false := by simp [World.frozen?, hh]
 have o7 := owns_set hoo 1 (by rw [partsV_length, List.length_cons]; omega) (.int .i64 ((us.length : Int) + ts.length))
 have e7 : (partsV ((hk, (cntP (M.map (·.1)) : Int), hw) :: M.map (·.1))).set 1 (.int .i64 ((us.length : Int) + ts.length)) = partsV ((hk, (us.length : Int) + ts.length, hw) :: M.map (·.1)) := rfl
 rw [e7] at o7
 have n1 : va.ownBlock ≠ some g := fun e => by
  have h1 := (ha.lt g e).1
  have h2 := hB g hog
  omega
 have n2 := owns_ne hoo h.f (by decide) hog
 have n3 := owns_ne hoo hb (by decide) hog
 have a7 := ownsRow_setCell_other ha (a := ⟨g, 1, none⟩) n1 (.int .i64 ((us.length : Int) + ts.length))
 have f7 := ownsRow_setCell_other h.f (a := ⟨g, 1, none⟩) n2 (.int .i64 ((us.length : Int) + ts.length))
 have b7 := ownsRow_setCell_other hb (a := ⟨g, 1, none⟩) n3 (.int .i64 ((us.length : Int) + ts.length))
 have w7b := h.b.setCell (p := ⟨g, 1, none⟩) hg (.int .i64 ((us.length : Int) + ts.length))
 have k7 : ∀ c, c < q → ∃ g', ka = some ⟨g', 0, none⟩ ∧ g' ≠ g ∧ fv.ownBlock ≠ some g' ∧ (w.setCell ⟨g, 1, none⟩ (.int .i64 ((us.length : Int) + ts.length))).cell? ⟨g', c, none⟩ = some (.int .i64 (kp c : Int)) := fun c hc => by
  obtain ⟨g', h1, h2, h3, h4⟩ := h.k c hc
  have hne : g' ≠ g := fun e => h2 (by rw [e]; rfl)
  exact ⟨g', h1, hne, h3, by rw [World.cell?_setCell_other (h := fun e => hne (congrArg Addr.block e).symm)]; exact h4⟩
 generalize hW7 : w.setCell ⟨g, 1, none⟩ (.int .i64 ((us.length : Int) + ts.length)) = w7 at *
 obtain ⟨v8, w8, r8, o8, g8, p8⟩ := append_eq (P := Tryz.prog) w7 23 23 48 Tryz.underlying23 w0.heap.size Tinfo_part rfl (by decide) _ (M.length + 1) _ o7 va N.length (partsV (N.map (·.1))) (Row.of_owns a7) (partsV_one _) (by omega) (by omega) w7b.size
 have f8 := row_other o7 g8 f7 (by decide)
 have b8 := row_other o7 g8 b7 (by decide)
 have w8b := grown_keeps w7b w7b.size o7 g8
 obtain ⟨v9, w9, r9, f9, g9, p9⟩ := append_eq (P := Tryz.prog) w8 49 49 3 Tryz.underlying49 w0.heap.size Tinfo_int rfl (by decide) fv (M.length + 1) _ f8 vb N.length (intsV (N.map (·.2))) (Row.of_owns b8) (intsV_one _) (by omega) (by omega) w8b.size
 have o9 := row_other f8 g9 o8 (by decide)
 have w9b := grown_keeps w8b w8b.size f8 g9
 refine ⟨g, cap, w8, w9, v8, v9, rfl, hnc, hc, hz, by rw [hW7]; exact r8, r9, ⟨?_, ?_, fun c hc => ?_, w9b⟩⟩
 ·rw [hc2]
  rw [List.map_append, List.length_append, show M.length + N.length + 1 = M.length + 1 + N.length by omega, ← List.cons_append, partsV_append]
  push_cast
  exact o9
 ·rw [List.map_append, List.length_append, show M.length + N.length + 1 = M.length + 1 + N.length by omega, ← List.cons_append, intsV_app]
  exact f9
 ·obtain ⟨g', h1, h2, h3, h4⟩ := k7 c hc
  have l7 := cell_lt2 h4
  have e8 : w8.cell? ⟨g', c, none⟩ = some (.int .i64 (kp c : Int)) := by
   have := g8.block g' l7 (fun e => h2 (by rw [hog] at e; exact (Option.some.inj e)))
   rw [cell_of_heap this]; exact h4
  have l8 := cell_lt2 e8
  have e9 : w9.cell? ⟨g', c, none⟩ = some (.int .i64 (kp c : Int)) := by
   have := g9.block g' l8 (fun e => h3 e.symm)
   rw [cell_of_heap this]; exact e8
  refine ⟨g', h1, ?_, ?_, e9⟩
  ·rcases p8 with e | e
   ·rw [e, hog]; exact fun e2 => h2 (Option.some.inj e2).symm
   ·rw [e]; exact fun e2 => by have := Option.some.inj e2; omega
  ·rcases p9 with e | e
   ·rw [e]; exact h3
   ·rw [e]; exact fun e2 => by have := Option.some.inj e2; omega
end Go.Proofs.YtlkheofphafofaaGreatDoor
namespace Go.Proofs.YtlkheofphafofaaGreatDoor
set_option linter.all false

def plainR (f : List Prt) : RuleM := ⟨⟨#[114]⟩, 2, [], f, f⟩
theorem plain_check {l : List Prt} (h : checkB l = true) {i : Nat} (hi : i < l.length) : checkB (piece l i (endB l i)) = true := by
 obtain ⟨hw, hp⟩ := checkB_inv h
 refine check_good (piece_well (well_rows hw) hi).1 fun j hj => ?_
 have hm : (piece l i (endB l i))[j] ∈ l := by
  have := List.getElem_mem hj
  unfold piece at this
  exact List.mem_of_mem_drop (List.mem_of_mem_take this)
 obtain ⟨k, hk, e⟩ := List.mem_iff_getElem.1 hm
 rw [← e]; exact hp k hk
theorem plain_rule {f : List Prt} (h : checkB f = true) : ruleZ (plainR f) = 0 := by
 have h1 : ruleTop (plainR f) = true := by
  unfold ruleTop plainR
  have hn : name ⟨#[114]⟩ = true := by decide +kernel
  simp [h, hn]
 unfold ruleZ
 rw [if_neg (by rw [h1]; decide), if_neg (by unfold plainR; simp [sevN]), if_pos (fun i hi => absurd hi (by simp [plainR]))]
theorem plain_at {l : List Prt} (h : checkB l = true) {i k : Nat} (hi : i < l.length) (hk : k < l.length) : (atZ (plainR (piece l i (endB l i))) l k).isSome = true ↔ piece l i (endB l i) = piece l k (endB l k) := by
 have hp := atZ_plain (r := plainR (piece l i (endB l i))) (plain_rule (plain_check h hi)) rfl (checkB_inv h).1 hk
 constructor
 ·intro hs
  obtain ⟨τ, hτ⟩ := Option.isSome_iff_exists.1 hs
  exact (hp.1 τ hτ).2
 ·intro e
  obtain ⟨τ, hτ⟩ := hp.2 e
  rw [hτ]; rfl
end Go.Proofs.YtlkheofphafofaaGreatDoor
