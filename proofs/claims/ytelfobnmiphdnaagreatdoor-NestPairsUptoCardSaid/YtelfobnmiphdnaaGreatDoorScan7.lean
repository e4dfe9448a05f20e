/- Layer 7: the program's functions, walked: All. -/
import Derived.Test.YtelfobnmiphdnaaGreatDoorScan6
namespace Go.Proofs.YtelfobnmiphdnaaGreatDoor
set_option linter.all false
open Go.RowKit

/-- A fault's block, in a world. -/
def FK (W : World) (g : Nat) (e a : Int) : Prop := W.heap[g]? = some (.cells #[.int .i64 e, .int .i64 a] 27 (0, 0))
theorem FK.c0 {W : World} {g : Nat} {e a : Int} (h : FK W g e a) : W.cell? ⟨g, 0, none⟩ = some (.int .i64 e) := by unfold FK at h; simp [World.cell?, h]
theorem FK.c1 {W : World} {g : Nat} {e a : Int} (h : FK W g e a) : W.cell? ⟨g, 1, none⟩ = some (.int .i64 a) := by unfold FK at h; simp [World.cell?, h]
theorem FK.fz {W : World} {g : Nat} {e a : Int} (h : FK W g e a) (i : Nat) : W.frozen? ⟨g, i, none⟩ = false := by unfold FK at h; simp [World.frozen?, h]
theorem FK.keep {W W' : World} {g : Nat} {e a : Int} (h : FK W g e a) (hb : Below W.heap.size W W') : FK W' g e a := keeps hb h
theorem FK.fill {W : World} {g : Nat} {e a : Int} (h : FK W g e a) (e' a' : Int) : FK ((W.setCell ⟨g, 0, none⟩ (.int .i64 e')).setCell ⟨g, 1, none⟩ (.int .i64 a')) g e' a' := by
  unfold FK at h ⊢
  have h4 : (W.setCell ⟨g, 0, none⟩ (.int .i64 e')).heap[g]? = some (.cells #[.int .i64 e', .int .i64 a] 27 (0, 0)) := by rw [heap_setCell_same W g 0 _ _ _ h]; rfl
  rw [heap_setCell_same _ g 1 _ _ _ h4]; rfl
theorem FK.alloc {W : World} {g : Nat} {e a : Int} (h : FK W g e a) (o : Obj) : FK (W.alloc o) g e a := by
  unfold FK at h ⊢; rw [Below.heap_alloc _ _ _ (lt_of_block h)]; exact h
theorem TK.alloc_new (W : World) (k f t : Int) : TK (W.alloc (.cells #[.int .u8 k, .int .i64 f, .int .i64 t] 41)) W.heap.size k f t := by
  unfold TK; exact heap_alloc_new _ _
theorem FK.grown {W W' : World} {g : Nat} {e a : Int} {b : Option Nat} (h : FK W g e a) (hg : W.grownBy W' b) (hb : b ≠ some g) : FK W' g e a := by
  unfold FK at h ⊢; rw [hg.block g (lt_of_block h) (fun e => hb e.symm)]; exact h
theorem TK.grown {W W' : World} {g : Nat} {k f t : Int} {b : Option Nat} (h : TK W g k f t) (hg : W.grownBy W' b) (hb : b ≠ some g) : TK W' g k f t := by
  unfold TK at h ⊢; rw [hg.block g (lt_of_block h) (fun e => hb e.symm)]; exact h
theorem owns_not {w : World} {B : Nat} {v : Value} {e : TypeId} {size n g : Nat} {xs : List Value} (h : w.ownsRow B e size v n xs) (hg : g < B ∨ w.heap.size ≤ g) : v.ownBlock ≠ some g := by
  intro e
  have := h.lt g e
  omega
theorem below_fill2 {w W : World} {g : Nat} (h : Below w.heap.size w W) (hg : w.heap.size ≤ g) (x y : Value) : Below w.heap.size w ((W.setCell ⟨g, 0, none⟩ x).setCell ⟨g, 1, none⟩ y) :=
  (h.setCell (p := ⟨g, 0, none⟩) hg x).setCell (p := ⟨g, 1, none⟩) hg y
theorem info_tok : (Tryz.prog.info? 41).map (fun i => (i.zero, i.size, i.bytes)) = some (some (.agg #[.int .u8 0, .int .i64 0, .int .i64 0]), 3, 24) := by kernel_rfl
/-- What All answers: a slice of tokens, an error and a place. -/
@[irreducible] def allPost (q : List (Int × Nat × Nat) × Int × Int) (w0 : World) (e : Ending) (w' : World) : Prop :=
  ∃ v, e = .returned (.tuple #[v, .agg #[.int .i64 q.2.1, .int .i64 q.2.2]]) ∧ Below w0.heap.size w0 w' ∧ w'.ownsRow w0.heap.size 41 3 v q.1.length (toksV q.1)
/-- What holds at the loop's head. -/
def allRel (s : ByteArray) (w : World) (v i : Value) (wr : World) : Prop :=
  ∃ (pos : Nat) (l : List (Int × Nat × Nat)), i = .int .i64 pos ∧ pos ≤ s.size ∧ (alls s 0).1 = l ++ (alls s pos).1 ∧ (alls s 0).2 = (alls s pos).2 ∧ Below w.heap.size w wr ∧
    wr.ownsRow (w.heap.size + 1) 41 3 v l.length (toksV l) ∧ FK wr w.heap.size 0 0
set_option maxRecDepth 100000 in
set_option maxHeartbeats 8000000 in
theorem scan_All (s : ByteArray) (hs : s.size ≤ 2147483647) (w : World) (hT : Tabs w) (hM : MaxC w) :
    Calls Tryz.prog 19 #[.string s] w (allPost (scanAll s) w) := by
  have HQ : RowKit.Hid (∀ w' v l e a, scanAll s = (l, e, a) → Below w.heap.size w w' → w'.ownsRow w.heap.size 41 3 v l.length (toksV l) → allPost (scanAll s) w (.returned (.tuple #[v, .agg #[.int .i64 e, .int .i64 a]])) w') := Lib.hid fun w' v l e a h h2 h3 => by
    unfold allPost; rw [h]; exact ⟨v, rfl, h2, h3⟩
  have HV : RowKit.Hid (scanAll s = _) := Lib.hid (by unfold scanAll; rfl)
  generalize allPost (scanAll s) w = Q at *
  have CC := Lib.hid (fun w' (hb : Below w.heap.size w w') => scan_Clean s w' (hT.below hb))
  have CN := Lib.hid (fun a ha w' (hb : Below w.heap.size w w') => scan_next' s a ha hs w' (hT.below hb) (hM.below hb))
  have HF : RowKit.Hid (∀ (tm : Array Value) W' v l e a, scanAll s = (l, e, a) → Below w.heap.size w W' → W'.ownsRow w.heap.size 41 3 v l.length (toksV l) → FK W' w.heap.size e a → tm.getD 3 undef = .pointer (some ⟨w.heap.size, 0, none⟩) → tm.getD 2 undef = v → bodyPost Tryz.prog Tryz.f19 Q .ret ⟨tm, []⟩ W') :=
    Lib.hid fun tm W' v l e a h1 h2 h3 h4 h5 h6 => by
      refine bodyPost_ret (results_tmp_cell rfl tm W' w.heap.size 27 #[.int .i64 e, .int .i64 a] (0, 0) _ h5 h4 Tryz.underlying27 rfl (by kernel_rfl)) rfl ?_
      rw [h6]
      exact HQ.out W' v l e a h1 h2 h3
  have hT4 : FK (w.alloc (.cells #[.int .i64 0, .int .i64 0] 27)) w.heap.size 0 0 := by
    unfold FK; exact heap_alloc_new _ _
  have hbW : Below w.heap.size w (w.alloc (.cells #[.int .i64 0, .int .i64 0] 27)) := (Below.refl _ _).alloc (Nat.le_refl _) _
  have H4 := Lib.hid hT4
  have HBW := Lib.hid hbW
  clear hT4 hbW
  by_cases hbig : 65536 < s.size
  · rw [if_pos hbig] at HV
    have hbig' : (65536 : Int) < s.size := by omega
    go_enter Tryz.func19, Tryz.ntmps19
    go_wp2_with fail
    refine HF.out _ _ _ [] 2 0 HV.out ?_ ?_ ?_ rfl rfl
    · exact (Below.refl _ _).alloc (Nat.le_refl _) _
    · exact World.ownsRow_nil _ _ _ _
    · unfold FK; exact heap_alloc_new _ _
  · rw [if_neg hbig] at HV
    have hbig' : ¬ (65536 : Int) < s.size := by omega
    have hsz : s.size ≤ 65536 := by omega
    generalize clean s = cl at *
    by_cases hcl : 0 ≤ cl
    · rw [if_pos hcl] at HV
      go_enter Tryz.func19, Tryz.ntmps19
      go_wp2_with fail
      refine (CC.out _ HBW.out).mono ?_
      rintro e w2 ⟨rfl, hb2⟩
      have HB2 := Lib.hid (bthen HBW.out hb2)
      have H42 := Lib.hid (H4.out.keep hb2)
      clear hb2
      have z40 := H42.out.fz 0; have z41 := H42.out.fz 1; have c40 := H42.out.c0; have c41 := H42.out.c1
      go_wp2_with fail
      exact HF.out _ _ _ [] 3 cl HV.out (below_fill2 HB2.out (Nat.le_refl _) _ _) (World.ownsRow_nil _ _ _ _) (H42.out.fill _ _) rfl rfl
    · rw [if_neg hcl] at HV
      have hcl' : ¬ (0 : Int) ≤ cl := hcl
      go_enter Tryz.func19, Tryz.ntmps19
      go_wp2_with fail
      refine (CC.out _ HBW.out).mono ?_
      rintro e w2 ⟨rfl, hb2⟩
      have HB2 := Lib.hid (bthen HBW.out hb2)
      have H42 := Lib.hid (H4.out.keep hb2)
      clear hb2
      go_wp2_with fail
      go_loopw [5, 6] (fun v i wr => allRel s w v i wr) (fun _ i _ => s.size - (intOf i).toNat)
      case atStart => exact ⟨0, [], rfl, Nat.zero_le _, rfl, rfl, HB2.out, World.ownsRow_nil _ _ _ _, H42.out⟩
      case round =>
        obtain ⟨pos, l, rfl, hpos, h1, h2, hb, ho, hf⟩ := hrel
        have HB := Lib.hid hb
        have HO := Lib.hid ho
        have HFK := Lib.hid hf
        have HL := Lib.hid h1
        have HE := Lib.hid h2
        have hbase := hb.size
        have hlt0 := lt_of_block (show wr.heap[w.heap.size]? = some _ from hf)
        have hlen : l.length ≤ 65536 := by
          have := alls_len s 0
          rw [h1, List.length_append] at this; omega
        clear hb ho hf h1 h2
        by_cases hlt : pos < s.size
        · have hlt' : (pos : Int) < s.size := by omega
          have HN : RowKit.Hid (nextZ s pos = if (lex s pos).1 = 0 then (0, 0, 0, 4) else ((lex s pos).1, (pos : Int), (lex s pos).2, 0)) := Lib.hid (by unfold nextZ; rfl)
          have CNp := Lib.hid (CN.out pos hlt)
          have HGT := Lib.hid (lex_gt s pos hlt)
          have HAB := Lib.hid (@alls_bad s pos hlt)
          have HAS := Lib.hid (fun e k => @alls_step s pos e k hlt)
          go_wp2_with fail
          refine (CNp.out _ HB.out).mono ?_
          intro e w3 h3
          unfold nextPost at h3
          rw [HN.out] at h3
          generalize lex s pos = q at *
          obtain ⟨k, t⟩ := q
          simp only [] at *
          by_cases hk : k = 0
          · rw [if_pos hk] at h3
            obtain ⟨rfl, hb3⟩ := h3
            have HB3 := Lib.hid (bthen HB.out hb3)
            have HF3 := Lib.hid (HFK.out.keep hb3)
            have hz3 : w.heap.size < w3.heap.size := Nat.lt_of_lt_of_le hlt0 hb3.size
            have HV2 : RowKit.Hid (scanAll s = ([], 4, (pos : Int))) := Lib.hid (by rw [HV.out, HE.out, HAB.out hk])
            clear hb3 HV
            have z40 := HF3.out.fz 0; have z41 := HF3.out.fz 1; have c40 := HF3.out.c0; have c41 := HF3.out.c1
            go_wp2_with fail
            refine HF.out _ _ _ [] 4 pos HV2.out ((below_fill2 HB3.out (Nat.le_refl _) _ _).alloc ?_ _) (World.ownsRow_nil _ _ _ _) ((HF3.out.fill _ _).alloc _) rfl rfl
            exact (below_fill2 HB3.out (Nat.le_refl _) _ _).size
          · rw [if_neg hk] at h3
            obtain ⟨rfl, hb3⟩ := h3
            obtain ⟨e, rfl, he1, he2⟩ := HGT.out hk
            have hst := HAS.out e k rfl hk
            obtain ⟨va, vm, vc, rfl⟩ := owns_slice HO.out
            have HB3 := Lib.hid (bthen HB.out hb3)
            have HF3 := Lib.hid ((HFK.out.keep hb3).alloc (.cells #[.int .u8 k, .int .i64 (pos : Int), .int .i64 (e : Int)] 41))
            have HO3 := Lib.hid ((owns_below HO.out hb3).alloc (.cells #[.int .u8 k, .int .i64 (pos : Int), .int .i64 (e : Int)] 41))
            have HOx := Lib.hid (owns_below HO.out hb3)
            have HT3 := Lib.hid (TK.alloc_new w3 k pos e)
            have hs3 : w.heap.size + 1 ≤ (w3.alloc (.cells #[.int .u8 k, .int .i64 (pos : Int), .int .i64 (e : Int)] 41)).heap.size := by
              have := HB3.out.size; simp; omega
            have HBA := Lib.hid (HB3.out.alloc HB3.out.size (.cells #[.int .u8 k, .int .i64 (pos : Int), .int .i64 (e : Int)] 41))
            have hm1 : RowKit.Hid ((alls s 0).1 = (l ++ [(k, pos, e)]) ++ (alls s e).1) := Lib.hid (by rw [HL.out, hst]; simp)
            have hm2 : RowKit.Hid ((alls s 0).2 = (alls s e).2) := Lib.hid (by rw [HE.out, hst])
            clear hb3 HAB HAS HGT HN hst CNp
            have hkb : (k == 0) = false := by rw [beq_eq_false_iff_ne]; exact hk
            have hT30 := HT3.out.c0
            have hT31 := HT3.out.c1
            have hT32 := HT3.out.c2
            have hgt3 : w3.heap.size < (w3.alloc (.cells #[.int .u8 k, .int .i64 (pos : Int), .int .i64 (e : Int)] 41)).heap.size := by simp
            go_upto_region 12 with (fail)
            generalize w3.alloc (.cells #[.int .u8 k, .int .i64 (pos : Int), .int .i64 (e : Int)] 41) = WA at *
            have HOA := Lib.hid HO3.out
            go_wp2_with (at_builtin; refine wpList_append_lit WA #[.int .u8 k, .int .i64 (pos : Int), .int .i64 (e : Int)] _ rfl _ _ 23 41 rfl Tryz.underlying23 (w.heap.size + 1) info_tok rfl (by decide) _ _ _ rfl HO3.out 1 1 rfl rfl (by decide) (by intro u hu; simp at hu; rcases hu with rfl | rfl | rfl <;> rfl) (by omega) (by omega) hs3 ?_)
            intro v' w' hown hgr _
            have hb4 := grown_below HBA.out (by omega) (owns_mono HO3.out (Nat.le_succ _)) hgr
            have hnf : (Value.slice va vm vc).ownBlock ≠ some w.heap.size := owns_not HOx.out (Or.inl (Nat.lt_succ_self _))
            have hnt : (Value.slice va vm vc).ownBlock ≠ some w3.heap.size := owns_not HOx.out (Or.inr (Nat.le_refl _))
            have HF4 := Lib.hid ((HF3.out.alloc _).grown hgr hnf)
            have HT4 := Lib.hid (TK.grown (W := _) (by unfold TK; rw [Below.heap_alloc _ _ _ hgt3]; exact HT3.out) hgr hnt)
            have HR : RowKit.Hid (allRel s w v' (.int .i64 (e : Int)) w') := Lib.hid ⟨e, l ++ [(k, pos, e)], rfl, he2, hm1.out, hm2.out, hb4, by rw [List.length_append, toksV_snoc]; exact hown, HF4.out⟩
            have t2 := HT4.out.c2
            clear hown hgr hb4 hnf hnt
            go_wp2_with fail
            refine ⟨?_, (by simp [intOf]; try omega)⟩
            first
              | exact HR.out
              | (repeat apply Exists.intro
                 refine ⟨?_, rfl⟩
                 exact HR.out)
        · have hlt' : ¬ (pos : Int) < s.size := by omega
          have HV2 : RowKit.Hid (scanAll s = (l, 0, 0)) := Lib.hid (by
            have e := alls_end (s := s) (i := pos) hlt
            rw [HV.out, HE.out, e]
            have := HL.out
            rw [e, List.append_nil] at this
            rw [this])
          clear HV
          have z40 := HFK.out.fz 0; have z41 := HFK.out.fz 1; have c40 := HFK.out.c0; have c41 := HFK.out.c1
          go_wp2_with fail
          have hnf : u5.ownBlock ≠ some w.heap.size := owns_not HO.out (Or.inl (Nat.lt_succ_self _))
          refine HF.out _ _ _ l 0 0 HV2.out (below_fill2 HB.out (Nat.le_refl _) _ _) (owns_mono (ownsRow_setCell_other (ownsRow_setCell_other HO.out (a := ⟨w.heap.size, 0, none⟩) hnf _) (a := ⟨w.heap.size, 1, none⟩) hnf _) (Nat.le_succ _)) (HFK.out.fill _ _) rfl rfl
end Go.Proofs.YtelfobnmiphdnaaGreatDoor
