/- Layer 17: the program's kids, walked. -/
import Derived.Test.YtbhicblkgjgenaaDoorSeekKM
namespace Go.Proofs.YtbhicblkgjgenaaDoor
set_option linter.all false
attribute [local irreducible] Calls
open Go.RowKit

/-- The world in which kids' six variables lie. -/
def boxed (w : World) (g : Nat) (p pend i iend : Nat) (tv : Value) : World :=
  (((((w.alloc (.cells #[.pointer (some ⟨g, 0, none⟩)] 58)).alloc (.cells #[.int .i64 (p : Int)] 3)).alloc (.cells #[.int .i64 (pend : Int)] 3)).alloc (.cells #[.int .i64 (i : Int)] 3)).alloc (.cells #[.int .i64 (iend : Int)] 3)).alloc (.cells #[tv] 30)
theorem boxed_below (w : World) (g : Nat) (p pend i iend : Nat) (tv : Value) : Below w.heap.size w (boxed w g p pend i iend tv) := by
  unfold boxed
  exact ((((((Below.refl _ _).alloc (Nat.le_refl _) _).alloc (by simp) _).alloc (by simp; try omega) _).alloc (by simp; try omega) _).alloc (by simp; try omega) _).alloc (by simp; try omega) _
theorem boxed_size (w : World) (g : Nat) (p pend i iend : Nat) (tv : Value) : (boxed w g p pend i iend tv).heap.size = w.heap.size + 6 := by unfold boxed; simp
theorem boxed_at (w : World) (g : Nat) (p pend i iend : Nat) (tv : Value) : (boxed w g p pend i iend tv).cell? ⟨w.heap.size, 0, none⟩ = some (.pointer (some ⟨g, 0, none⟩)) ∧ (boxed w g p pend i iend tv).cell? ⟨w.heap.size + 1, 0, none⟩ = some (.int .i64 (p : Int)) ∧ (boxed w g p pend i iend tv).cell? ⟨w.heap.size + 2, 0, none⟩ = some (.int .i64 (pend : Int)) ∧ (boxed w g p pend i iend tv).cell? ⟨w.heap.size + 3, 0, none⟩ = some (.int .i64 (i : Int)) ∧ (boxed w g p pend i iend tv).cell? ⟨w.heap.size + 4, 0, none⟩ = some (.int .i64 (iend : Int)) ∧ (boxed w g p pend i iend tv).cell? ⟨w.heap.size + 5, 0, none⟩ = some tv := by
  unfold boxed
  refine ⟨?_, ?_, ?_, ?_, ?_, ?_⟩
  · rw [World.cell?_alloc_past _ _ _ (show _ < _ by simp; try omega), World.cell?_alloc_past _ _ _ (show _ < _ by simp; try omega), World.cell?_alloc_past _ _ _ (show _ < _ by simp; try omega), World.cell?_alloc_past _ _ _ (show _ < _ by simp; try omega), World.cell?_alloc_past _ _ _ (show _ < _ by simp; try omega)]
    exact World.cell?_alloc_at _ _ _ _ (by simp)
  · rw [World.cell?_alloc_past _ _ _ (show _ < _ by simp; try omega), World.cell?_alloc_past _ _ _ (show _ < _ by simp; try omega), World.cell?_alloc_past _ _ _ (show _ < _ by simp; try omega), World.cell?_alloc_past _ _ _ (show _ < _ by simp; try omega)]
    exact World.cell?_alloc_at _ _ _ _ (by simp)
  · rw [World.cell?_alloc_past _ _ _ (show _ < _ by simp; try omega), World.cell?_alloc_past _ _ _ (show _ < _ by simp; try omega), World.cell?_alloc_past _ _ _ (show _ < _ by simp; try omega)]
    exact World.cell?_alloc_at _ _ _ _ (by simp)
  · rw [World.cell?_alloc_past _ _ _ (show _ < _ by simp; try omega), World.cell?_alloc_past _ _ _ (show _ < _ by simp; try omega)]
    exact World.cell?_alloc_at _ _ _ _ (by simp)
  · rw [World.cell?_alloc_past _ _ _ (show _ < _ by simp; try omega)]
    exact World.cell?_alloc_at _ _ _ _ (by simp)
  · exact World.cell?_alloc_at _ _ _ _ (by simp)
set_option maxRecDepth 100000 in
set_option maxHeartbeats 16000000 in
theorem sk_kids_end (E : SkE) (ok : SkOK E) (n : Nat) (w : World) (σ : MSt) (p i iend : Nat) (K : MSt → Option MSt) (tv : Value) (hi : SkIn E σ w) (hpe : p ≤ E.f.length) (hie : iend ≤ E.l.length) (hile : i ≤ iend) (ht : ThenOK E K tv w) :
    Calls Tryd.prog 40 #[.pointer (some ⟨E.g, 0, none⟩), .int .i64 (p : Int), .int .i64 (p : Int), .int .i64 (i : Int), .int .i64 (iend : Int), tv] w (seekPost E (sKids E.f E.l E.hs (n + 1) p p i iend K σ) σ w) := by
  have hsk : sKids E.f E.l E.hs (n + 1) p p i iend K σ = if i = iend then K σ else none := by rw [sKids, if_pos rfl]
  rw [hsk]
  obtain ⟨Q, hQ⟩ : ∃ Q, seekPost E (if i = iend then K σ else none) σ w = Q := ⟨_, rfl⟩
  have HQ : RowKit.Hid (∀ e w', seekPost E (if i = iend then K σ else none) σ w e w' → Q e w') := Lib.hid fun e w' h => by rw [← hQ]; exact h
  rw [hQ]
  clear hQ hsk
  obtain ⟨k, cap, rfl, hcf, HT⟩ := ht
  have hcf := hcf cap
  have HT := Lib.hid HT
  have HI := Lib.hid hi
  have HBX : RowKit.Hid (Below w.heap.size w (boxed w E.g p p i iend (.func (.func k) #[] cap))) := Lib.hid (boxed_below _ _ _ _ _ _ _)
  have hpp : ((p : Int) == (p : Int)) = true := by rw [beq_iff_eq]
  clear hi
  by_cases hii : i = iend
  · subst hii
    rw [if_pos rfl] at HQ
    go_enter Tryd.func40, Tryd.ntmps40
    go_wp2_with fail
    refine (HT.out _ σ (KeptX.of_below HBX.out) (HI.out.below HBX.out)).mono ?_
    intro e w6 h6
    obtain ⟨y, rfl⟩ := h6.bool
    have HX := Lib.hid (HQ.out _ _ (h6.from (KeptX.of_below HBX.out)))
    clear h6
    go_wp2_with fail
    exact HX.out
  · have g1 : ((i : Int) == (iend : Int)) = false := by rw [beq_eq_false_iff_ne]; omega
    have g2 : (i == iend) = false := by rw [beq_eq_false_iff_ne]; exact hii
    rw [if_neg hii] at HQ
    have HX := Lib.hid (HQ.out _ _ (seekPost.no rfl (KeptX.of_below HBX.out) (HI.out.below HBX.out)))
    clear hii
    go_enter Tryd.func40, Tryd.ntmps40
    go_wp2_with fail
    exact HX.out
end Go.Proofs.YtbhicblkgjgenaaDoor
namespace Go.Proofs.YtbhicblkgjgenaaDoor
set_option linter.all false
attribute [local irreducible] Calls
open Go.RowKit

theorem boxed_box {E : SkE} {w : World} {σ : MSt} (hi : SkIn E σ w) (p pend i iend : Nat) (tv : Value) (hne : ∀ b, w.heap.size ≤ b → some b ≠ E.vb.ownBlock ∧ some b ≠ E.vz.ownBlock) :
    BoxAt E (boxed w E.g p pend i iend tv) w.heap.size (.pointer (some ⟨E.g, 0, none⟩)) ∧ BoxAt E (boxed w E.g p pend i iend tv) (w.heap.size + 1) (.int .i64 (p : Int)) ∧ BoxAt E (boxed w E.g p pend i iend tv) (w.heap.size + 2) (.int .i64 (pend : Int)) ∧ BoxAt E (boxed w E.g p pend i iend tv) (w.heap.size + 3) (.int .i64 (i : Int)) ∧ BoxAt E (boxed w E.g p pend i iend tv) (w.heap.size + 4) (.int .i64 (iend : Int)) ∧ BoxAt E (boxed w E.g p pend i iend tv) (w.heap.size + 5) tv := by
  have hs := boxed_size w E.g p pend i iend tv
  obtain ⟨c0, c1, c2, c3, c4, c5⟩ := boxed_at w E.g p pend i iend tv
  exact ⟨⟨c0, by omega, (hne _ (by omega)).1, (hne _ (by omega)).2⟩, ⟨c1, by omega, (hne _ (by omega)).1, (hne _ (by omega)).2⟩, ⟨c2, by omega, (hne _ (by omega)).1, (hne _ (by omega)).2⟩, ⟨c3, by omega, (hne _ (by omega)).1, (hne _ (by omega)).2⟩, ⟨c4, by omega, (hne _ (by omega)).1, (hne _ (by omega)).2⟩, ⟨c5, by omega, (hne _ (by omega)).1, (hne _ (by omega)).2⟩⟩
/-- New blocks are none of the two. -/
theorem owns_old {w : World} {B : Nat} {v : Value} {e : TypeId} {size n : Nat} {xs : List Value} (h : w.ownsRow B e size v n xs) : ∀ b, w.heap.size ≤ b → some b ≠ v.ownBlock := by
  intro b hb e
  rcases h.2 with ⟨hv, _⟩ | ⟨g, cap, cur, hv, _, hh, _⟩
  · rw [hv] at e; cases e
  · rw [hv] at e
    simp only [Value.ownBlock, Option.some.injEq] at e
    have := keeps_lt hh
    omega
theorem SkIn.fresh {E : SkE} {σ : MSt} {w : World} (h : SkIn E σ w) : ∀ b, w.heap.size ≤ b → some b ≠ E.vb.ownBlock ∧ some b ≠ E.vz.ownBlock := fun b hb => ⟨owns_old h.b b hb, owns_old h.z b hb⟩
set_option maxRecDepth 100000 in
set_option maxHeartbeats 16000000 in
theorem sk_kids_one (E : SkE) (ok : SkOK E) (n : Nat) (IHP : PartC E n) (IHK : KidsC E n) (w : World) (σ : MSt) (p pend i iend : Nat) (K : MSt → Option MSt) (tv : Value) (J M : Nat) (hi : SkIn E σ w) (hpe : pend ≤ E.f.length) (hJ : advT E.f J p pend = some pend) (hie : iend ≤ E.l.length) (hM : advT E.l M i iend = some iend) (hn : 2 * (pend - p) + 1 ≤ n + 1) (ht : ThenOK E K tv w) (hpp : p ≠ pend) (hsv : sevOf E.f E.hs p = none) :
    Calls Tryd.prog 40 #[.pointer (some ⟨E.g, 0, none⟩), .int .i64 (p : Int), .int .i64 (pend : Int), .int .i64 (i : Int), .int .i64 (iend : Int), tv] w (seekPost E (sKids E.f E.l E.hs (n + 1) p pend i iend K σ) σ w) := by
  have hsk : sKids E.f E.l E.hs (n + 1) p pend i iend K σ = if i < iend then sPart E.f E.l E.hs n p i (sKids E.f E.l E.hs n (endB E.f p) pend (endB E.l i) iend K) σ else none := by rw [sKids, if_neg hpp, hsv]
  rw [hsk]
  obtain ⟨Q, hQ⟩ : ∃ Q, seekPost E (if i < iend then sPart E.f E.l E.hs n p i (sKids E.f E.l E.hs n (endB E.f p) pend (endB E.l i) iend K) σ else none) σ w = Q := ⟨_, rfl⟩
  have HQ : RowKit.Hid (∀ e w', seekPost E (if i < iend then sPart E.f E.l E.hs n p i (sKids E.f E.l E.hs n (endB E.f p) pend (endB E.l i) iend K) σ else none) σ w e w' → Q e w') := Lib.hid fun e w' h => by rw [← hQ]; exact h
  rw [hQ]
  clear hQ hsk
  have ht' := ht
  obtain ⟨kf, kcap, rfl, _, _⟩ := ht'
  have hfw := well_rows ok.hf.well
  have hlw := well_rows ok.hl
  obtain ⟨hplt, J', _, hJ'⟩ := adv_next hJ hpp
  have hle := adv_le hfw _ _ _ _ hpe hJ'
  have hgf := endB_gt hfw (show p < E.f.length by omega)
  have HB : RowKit.Hid (Below w.heap.size w (boxed w E.g p pend i iend (.func (.func kf) #[] kcap))) := Lib.hid (boxed_below _ _ _ _ _ _ _)
  have hbx := boxed_box hi p pend i iend (.func (.func kf) #[] kcap) hi.fresh
  have HI := Lib.hid (hi.below (boxed_below w E.g p pend i iend (.func (.func kf) #[] kcap)))
  have C1 := Lib.hid (sk_hole E ok _ HI.out.st.now p (by omega))
  have C2 := Lib.hid (fun W (hk : KeptX E (boxed w E.g p pend i iend (.func (.func kf) #[] kcap)) W) h (hh : h < E.hs.length) => sk_several E W ((HI.out.st.keep hk).now) ok.hn h hh)
  have C3 := Lib.hid (fun W => sk_several_no (some ⟨E.g, 0, none⟩) W)
  have CP := Lib.hid (fun W (hk : KeptX E (boxed w E.g p pend i iend (.func (.func kf) #[] kcap)) W) (hs : SkIn E σ W) (hii : i < iend) =>
    IHP W σ p i _ _ hs (by omega) (by omega) (by omega) ((sk_then1 E ok n IHK W hs.st p pend i iend K (.func (.func kf) #[] kcap) (ht.keep ((KeptX.of_below HB.out).trans hk)) _ _ _ _ _ _ (hbx.1.keep hk) (hbx.2.1.keep hk) (hbx.2.2.1.keep hk) (hbx.2.2.2.1.keep hk) (hbx.2.2.2.2.1.keep hk) (hbx.2.2.2.2.2.keep hk) (by omega) (by omega) J' (M - 1) hpe hJ' hie (by
      obtain ⟨_, M', e, hM'⟩ := adv_next hM (show i ≠ iend by omega)
      rw [show M - 1 = M' by omega]; exact hM') (by omega))))
  have hmf : ∀ (fn : Fn) (first cap : Array Value) (w : World), (Instr.makeFunc fn first cap).run Tryd.prog w = .ok (.func fn first cap) w := fun _ _ _ _ => rfl
  have g1 : ((p : Int) == (pend : Int)) = false := by rw [beq_eq_false_iff_ne]; omega
  have g2 : (p == pend) = false := by rw [beq_eq_false_iff_ne]; exact hpp
  obtain ⟨o, ho1, ho2⟩ : ∃ o, holeOf E.f E.hs p = o ∧ ∀ h, o = some h → h < E.hs.length ∧ isSev (hkind E.hs h) = false := by
    refine ⟨_, rfl, fun h e => ⟨hole_lt E.f E.hs e, ?_⟩⟩
    unfold sevOf at hsv
    rw [e] at hsv
    simp only [] at hsv
    split at hsv
    · cases hsv
    · rename_i hx; simpa using hx
  rw [ho1] at C1
  have HO2 := Lib.hid ho2
  have hsz := boxed_size w E.g p pend i iend (.func (.func kf) #[] kcap)
  have HSZ := Lib.hid hsz
  obtain ⟨b0, b1, b2, b3, b4, b5⟩ := hbx
  have k0 := b0.c
  have k1 := b1.c
  have k2 := b2.c
  have k3 := b3.c
  have k4 := b4.c
  have k5 := b5.c
  have HBX : RowKit.Hid (∀ m, KeptX E w ((boxed w E.g p pend i iend (.func (.func kf) #[] kcap)).drewN m)) := Lib.hid fun m => (KeptX.of_below HB.out).trans (KeptX.drewN E _ m)
  clear hi ht hJ hM hn hpp hsv hfw hlw hJ' hle hgf ho1 ho2 hsz b0 b1 b2 b3 b4 b5
  cases o with
  | none =>
    by_cases hii : i < iend
    · have hil : (i : Int) < iend := by omega
      have CP := Lib.hid (fun m => CP.out _ (KeptX.drewN E (boxed w E.g p pend i iend (.func (.func kf) #[] kcap)) m) (HI.out.drewN m) hii)
      rw [if_pos hii] at HQ
      clear hii
      go_enter Tryd.func40, Tryd.ntmps40
      go_wp2_with fail
      refine C1.out.mono ?_
      intro e w1 h1
      unfold holePost at h1
      obtain ⟨rfl, m, rfl⟩ := h1
      unfold holeZ
      go_wp2_with fail
      refine (C3.out _).mono ?_
      rintro e w2 ⟨rfl, rfl⟩
      go_wp2_with fail
      refine (CP.out m).mono ?_
      intro e w6 h6
      obtain ⟨v, rfl⟩ := h6.bool
      have HX := Lib.hid (HQ.out _ _ (h6.from (HBX.out m)))
      clear h6
      go_wp2_with fail
      exact HX.out
    · have hil : ¬ (i : Int) < iend := by omega
      have HX := Lib.hid (fun m => HQ.out _ _ (by rw [if_neg hii]; exact seekPost.no rfl (HBX.out m) (HI.out.drewN m)))
      clear hii
      go_enter Tryd.func40, Tryd.ntmps40
      go_wp2_with fail
      refine C1.out.mono ?_
      intro e w1 h1
      unfold holePost at h1
      obtain ⟨rfl, m, rfl⟩ := h1
      unfold holeZ
      go_wp2_with fail
      refine (C3.out _).mono ?_
      rintro e w2 ⟨rfl, rfl⟩
      go_wp2_with fail
      exact HX.out m
  | some h =>
    obtain ⟨hh, hsv⟩ := HO2.out h rfl
    have hh0 : (0 : Int) ≤ (h : Int) := by omega
    by_cases hii : i < iend
    · have hil : (i : Int) < iend := by omega
      have CP := Lib.hid (fun m => CP.out _ (KeptX.drewN E (boxed w E.g p pend i iend (.func (.func kf) #[] kcap)) m) (HI.out.drewN m) hii)
      rw [if_pos hii] at HQ
      clear hii
      go_enter Tryd.func40, Tryd.ntmps40
      go_wp2_with fail
      refine C1.out.mono ?_
      intro e w1 h1
      unfold holePost at h1
      obtain ⟨rfl, m, rfl⟩ := h1
      unfold holeZ
      go_wp2_with fail
      refine (C2.out _ (KeptX.drewN E _ m) h hh).mono ?_
      rw [hsv]
      rintro e w2 ⟨rfl, rfl⟩
      go_wp2_with fail
      refine (CP.out m).mono ?_
      intro e w6 h6
      obtain ⟨v, rfl⟩ := h6.bool
      have HX := Lib.hid (HQ.out _ _ (h6.from (HBX.out m)))
      clear h6
      go_wp2_with fail
      exact HX.out
    · have hil : ¬ (i : Int) < iend := by omega
      have HX := Lib.hid (fun m => HQ.out _ _ (by rw [if_neg hii]; exact seekPost.no rfl (HBX.out m) (HI.out.drewN m)))
      clear hii
      go_enter Tryd.func40, Tryd.ntmps40
      go_wp2_with fail
      refine C1.out.mono ?_
      intro e w1 h1
      unfold holePost at h1
      obtain ⟨rfl, m, rfl⟩ := h1
      unfold holeZ
      go_wp2_with fail
      refine (C2.out _ (KeptX.drewN E _ m) h hh).mono ?_
      rw [hsv]
      rintro e w2 ⟨rfl, rfl⟩
      go_wp2_with fail
      exact HX.out m
end Go.Proofs.YtbhicblkgjgenaaDoor
