/- Layer 17: the search may begin, and what its answer says. -/
import Derived.Test.YtbhicblkgjgenaaDoorAtPM
import Derived.Test.YtbhicblkgjgenaaDoorTermSameM
import Derived.Test.YtbhicblkgjgenaaDoorMapSM
import Derived.Test.YtbhicblkgjgenaaDoorUpsPM
import Derived.Test.YtbhicblkgjgenaaDoorRuleCheckM
namespace Go.Proofs.YtbhicblkgjgenaaDoor
set_option linter.all false
open Go.RowKit

theorem Tinfo_bool : (Tryd.prog.info? 4).map (fun i => (i.zero, i.size, i.bytes)) = some (some (.bool false), 1, 1) := by kernel_rfl
theorem Tmake_bools (n : Nat) (hn : n ≤ 1000000000) (w : World) :
    (Instr.makeSlice 63 (.int .i64 (n : Int)) (.int .i64 (n : Int))).run Tryd.prog w = .ok (.slice (some ⟨w.heap.size, 0, none⟩) n n) (w.alloc (.cells (List.replicate n (Value.bool false)).toArray 4)) := by
  obtain ⟨i, hi, hz, hsz, hb⟩ := info_parts Tinfo_bool
  have hr := run_make (P := Tryd.prog) w 63 4 i (.bool false) Tryd.underlying63 hi hz .i64 .i64 (n : Int) (n : Int) (by omega) (Int.le_refl _) (by rw [hb]; omega) (by omega)
  rw [hsz] at hr
  have e : madeCells (Value.bool false).cells ((n : Int).toNat * 1) = (List.replicate n (Value.bool false)).toArray := by
    apply Array.ext'
    rw [Int.toNat_natCast, Nat.mul_one]
    show (madeCells #[.bool false] n).toList = _
    rw [toList_madeCells_one]
  rw [e] at hr
  rw [hr]
  simp only [Int.toNat_natCast]
def atE (r : RuleM) (l : List Prt) (g bm : Nat) (vf vl vfe ve vk vb vz : Value) : SkE := ⟨r.fnd, l, r.holes, g, vf, vl, vfe, ve, vk, bm, r.holes.length, vb, vz, g + 1⟩
/-- A row of the call's own, of so many elements. -/
theorem Row.owned {w : World} {B : Nat} {v : Value} {e : TypeId} {size n : Nat} {xs : List Value} (h : w.ownsRow B e size v n xs) : Row w v n size xs := Row.of_owns h
theorem AtW.search {r : RuleM} {l : List Prt} {g bm : Nat} {vf vl vfe ve vk vb : Value} {X : List (Nat × Hl)} {B0 : Nat} {w0 W8 W : World} (h : AtW g bm r.holes r.holes r.holes vf vl vfe ve vk vb X B0 w0 W8 W) (hg : g = W8.heap.size)
    (F : PartRow W8 vf r.fnd) (L : PartRow W8 vl l) (FE : RowInts W8 vfe .i64 (endsL r.fnd)) (LE : RowInts W8 ve .i64 (endsL l)) (M8 : MapIs W8 bm 0 (holeM [])) (hf0 : 0 < r.fnd.length) (hl0 : 0 < l.length) (hn : r.holes.length ≤ 1000000) :
    SkIn (atE r l g bm vf vl vfe ve vk vb (.slice (some ⟨W.heap.size, 0, none⟩) r.holes.length r.holes.length)) (startS r.holes) ((W.alloc (.cells (List.replicate r.holes.length (Value.bool false)).toArray 4)).setCell ⟨g, 7, none⟩ (.slice (some ⟨W.heap.size, 0, none⟩) r.holes.length r.holes.length)) := by
  have hl := h.lt
  have hbs := h.base
  have h1 := h.alloc (.cells (List.replicate r.holes.length (Value.bool false)).toArray 4)
  generalize hvz : (Value.slice (some ⟨W.heap.size, 0, none⟩) r.holes.length r.holes.length) = vz at *
  have hzo : vz.ownBlock = some W.heap.size := by rw [← hvz]; rfl
  have hzr : (W.alloc (.cells (List.replicate r.holes.length (Value.bool false)).toArray 4)).ownsRow (g + 1) 4 1 vz r.holes.length (boundV (startS r.holes)) := by
    rw [← hvz, bound_start]
    exact ⟨by simp, Or.inr ⟨W.heap.size, r.holes.length, _, rfl, hbs, heap_alloc_new _ _, Nat.le_refl _, by unfold maxLen; omega, by simp, by simp⟩⟩
  have hnk : ∀ j, j ≤ g → some j ≠ vk.ownBlock := fun j hj e => by have := (h.k.lt j e.symm).1; omega
  have hnb : ∀ j, j ≤ g → some j ≠ vb.ownBlock := fun j hj e => by have := (h.b.lt j e.symm).1; omega
  have hnz : ∀ j, j < W.heap.size → some j ≠ vz.ownBlock := fun j hj e => by rw [hzo] at e; have := Option.some.inj e; omega
  have hkz : vk.ownBlock = none ∨ vk.ownBlock ≠ vz.ownBlock := by
    cases e : vk.ownBlock with
    | none => exact Or.inl rfl
    | some q => exact Or.inr (hnz q (h.k.lt q e).2)
  have hkb : ∀ q, vk.ownBlock = some q → some q ≠ vb.ownBlock := fun q e e2 => by
    rcases h.k.2 with ⟨hv, _⟩ | ⟨g1, c1, cur1, hv1, _, hh1, _⟩
    · rw [hv] at e; simp [Value.ownBlock] at e
    · rcases h.b.2 with ⟨hv, _⟩ | ⟨g2, c2, cur2, hv2, _, hh2, _⟩
      · rw [hv] at e2; simp [Value.ownBlock] at e2
      · rw [hv1] at e; rw [hv2] at e2
        simp [Value.ownBlock] at e e2
        subst e; subst e2
        rw [hh1] at hh2
        simp at hh2
  have es : (W.alloc (.cells (List.replicate r.holes.length (Value.bool false)).toArray 4)).heap.size = W.heap.size + 1 := by simp
  generalize hWA : W.alloc (.cells (List.replicate r.holes.length (Value.bool false)).toArray 4) = WA at *
  have hWA' : ∀ j, j < W.heap.size → WA.heap[j]? = W.heap[j]? := fun j hj => by rw [← hWA]; exact Below.heap_alloc _ _ _ hj
  have hset : ∀ j, j ≠ g → (WA.setCell ⟨g, 7, none⟩ vz).heap[j]? = WA.heap[j]? := fun j hj => heap_setCell_other _ _ _ _ hj
  have hss : (WA.setCell ⟨g, 7, none⟩ vz).heap.size = WA.heap.size := by simp
  have hcell := heap_setCell_same WA g 7 _ _ vz h1.s
  generalize WA.setCell ⟨g, 7, none⟩ vz = WF at *
  have own2 : ∀ {e : TypeId} {sz n : Nat} {v : Value} {xs : List Value}, WA.ownsRow (g + 1) e sz v n xs → WF.ownsRow (g + 1) e sz v n xs := fun {e sz n v xs} ho => by
    refine ⟨ho.1, ?_⟩
    rcases ho.2 with h2 | ⟨q, cap, cur, hv, hq, hh, rest⟩
    · exact Or.inl h2
    · exact Or.inr ⟨q, cap, cur, hv, hq, by rw [hset q (by omega)]; exact hh, rest⟩
  have hold : ∀ j, j < g → j ≠ bm → WF.heap[j]? = W8.heap[j]? := fun j h1 h2 => by rw [hset j (by omega), hWA' j (by omega)]; exact h.old j h1 h2
  have hrow : ∀ {v : Value} {n sz : Nat} {cs : List Value} {w' : World}, Row W8 v n sz cs → 0 < n → 0 < sz → KeptX (atE r l g bm vf vl vfe ve vk vb vz) WF w' → Row w' v n sz cs := fun {v n sz cs w'} hr hn hs hk => by
    refine Row.same hr fun q hq hlt => ?_
    have hne := Row.no_map hr hn hs M8 q hq
    have hqs : q < WF.heap.size := by omega
    exact ⟨Nat.lt_of_lt_of_le hqs hk.size, by rw [hk.block q hqs (hnb q (by omega)) (hnz q (by omega)), hold q (by omega) hne]⟩
  refine ⟨fun w' hk => ⟨?_, hrow F hf0 (by decide) hk, hrow L hl0 (by decide) hk, hrow FE (by rw [endsL_length]; exact hf0) (by decide) hk, hrow LE (by rw [endsL_length]; exact hl0) (by decide) hk, ?_, ?_⟩, ?_, own2 hzr, by unfold startS; simp [atE], fun k q hq => absurd hq (startS_no _ _ _)⟩
  · have := hk.block g (by omega) (hnb g (Nat.le_refl _)) (hnz g (by omega))
    show w'.heap[g]? = _
    rw [this, hcell]
    rfl
  · refine h.m.same ?_
    rw [hk.block bm (by omega) (hnb bm (by omega)) (hnz bm (by omega)), hset bm (by omega), hWA' bm (by omega)]
  · have hr0 : Row WF vk r.holes.length 1 (kindsV r.holes) := Row.owned (own2 h1.k)
    have hr1 : RowInts WF vk .u8 (kindsI r.holes) := by
      have e : (kindsI r.holes).length = r.holes.length := by unfold kindsI; simp
      unfold RowInts
      rw [e]; exact hr0
    refine Row.same hr1 fun q hq hlt => ⟨Nat.lt_of_lt_of_le hlt hk.size, hk.block q hlt (hkb q hq) ?_⟩
    have hq' : vk.ownBlock = some q := hq
    show some q ≠ vz.ownBlock
    rcases hkz with e | e
    · rw [hq'] at e; cases e
    · rw [← hq']; exact e
  · have := own2 h1.b
    show WF.ownsRow (g + 1) 39 3 vb r.holes.length (bindsV (bindsOf r.holes (startS r.holes)))
    rw [binds_start]
    exact this
theorem AtW.ok {r : RuleM} {l : List Prt} {g bm : Nat} {vf vl vfe ve vk vb : Value} {X : List (Nat × Hl)} {B0 : Nat} {w0 W8 W : World} (h : AtW g bm r.holes r.holes r.holes vf vl vfe ve vk vb X B0 w0 W8 W) (hr : ruleZ r = 0) (hs : SmallR r) (hl : wellB l = true) (sl : SmallL l) (c : Nat) :
    SkOK (atE r l g bm vf vl vfe ve vk vb (.slice (some ⟨W.heap.size, 0, none⟩) r.holes.length c)) := by
  have hbs := h.base
  refine ⟨(rule_holes hr).1, hl, hs.f.1, sl.1, hs.h.1, fun x hx => ⟨(hs.h.2 x hx).2, (hs.h.2 x hx).1⟩, hs.f, sl, ?_, fun e => ?_, fun e => ?_⟩
  · cases e : vb.ownBlock with
    | none => exact Or.inl e
    | some q => exact Or.inr fun e2 => by
                  have h1 := (h.b.lt q e).2
                  have e3 : some q = some W.heap.size := by rw [← e]; exact e2
                  have := Option.some.inj e3
                  omega
  · have := (h.b.lt g e.symm).1; omega
  · have e3 : some g = some W.heap.size := e
    have := Option.some.inj e3; omega
/-- What match.At answers. -/
@[irreducible] def atPost (r : RuleM) (o : Option MSt) (w0 : World) (e : Ending) (w' : World) : Prop :=
  Below w0.heap.size w0 w' ∧ match o with
    | some τ => ∃ vb, e = .returned (.tuple #[vb, .bool true]) ∧ w'.ownsRow w0.heap.size 39 3 vb r.holes.length (bindsV (bindsOf r.holes τ))
    | none => e = .returned (.tuple #[.slice none 0 0, .bool false])
theorem KeptX.toBelow {E : SkE} {w w' : World} {B : Nat} (h : KeptX E w w') (hB : B ≤ w.heap.size) (h1 : ∀ q, E.vb.ownBlock = some q → B ≤ q) (h2 : ∀ q, E.vz.ownBlock = some q → B ≤ q) : Below B w w' :=
  ⟨h.os, h.tape, h.output, h.size, fun k hk => h.block k (by omega) (fun e => by have := h1 k e.symm; omega) (fun e => by have := h2 k e.symm; omega)⟩
end Go.Proofs.YtbhicblkgjgenaaDoor
namespace Go.Proofs.YtbhicblkgjgenaaDoor
set_option linter.all false
attribute [local irreducible] Calls
open Go.RowKit

theorem bytes_eq_list {x y : ByteArray} : (x.toList == y.toList) = decide (x = y) := by
  by_cases h : x = y
  · subst h; simp
  · rw [decide_eq_false h, beq_eq_false_iff_ne]; exact pl_bytes_ne h
set_option maxRecDepth 100000 in
set_option maxHeartbeats 8000000 in
theorem find_alike (r : RuleM) (vh vf vb : Value) (p : Prt) (w : World) (hr : RuleIn w r vh vf vb) (h0 : 0 < r.fnd.length) :
    Calls Tryd.prog 43 #[ruleAgg r vh vf vb, .agg #[.int .u8 (p.1 : Int), .int .i64 p.2.1, .string p.2.2]] w fun e w' => e = .returned (.bool (alikeZ r p)) ∧ Below w.heap.size w w' := by
  have HQ : RowKit.Hid (∀ x w', alikeZ r p = x → Below w.heap.size w w' → (fun (e : Ending) w' => e = .returned (.bool (alikeZ r p)) ∧ Below w.heap.size w w') (.returned (.bool x)) w') := Lib.hid fun x w' h hb => ⟨by rw [h], hb⟩
  generalize (fun (e : Ending) w' => e = .returned (.bool (alikeZ r p)) ∧ Below w.heap.size w w') = Q at *
  obtain ⟨ah, ch, rfl, hch⟩ := Row.shape hr.H
  obtain ⟨af, cf, rfl, hcf⟩ := hr.F.slice
  obtain ⟨ab, cb, rfl, hcb⟩ := hr.B.slice
  have HB : RowKit.Hid (Below w.heap.size w ((w.alloc (.cells #[.string r.nm, .int .u8 (r.goal : Int), .slice ah r.holes.length ch, .slice af r.fnd.length cf, .slice ab r.by'.length cb] 25)).alloc (.cells #[.int .u8 (p.1 : Int), .int .i64 p.2.1, .string p.2.2] 36))) := Lib.hid (((Below.refl _ _).alloc (Nat.le_refl _) _).alloc (by simp) _)
  have e3 : ((w.alloc (.cells #[.string r.nm, .int .u8 (r.goal : Int), .slice ah r.holes.length ch, .slice af r.fnd.length cf, .slice ab r.by'.length cb] 25)).alloc (.cells #[.int .u8 (p.1 : Int), .int .i64 p.2.1, .string p.2.2] 36)).cell? ⟨w.heap.size, 3, none⟩ = some (.slice af r.fnd.length cf) := by
    simp only [World.cell?]
    rw [Below.heap_alloc _ _ _ (by simp), heap_alloc_new]; rfl
  have HP : RowKit.Hid (PK ((w.alloc (.cells #[.string r.nm, .int .u8 (r.goal : Int), .slice ah r.holes.length ch, .slice af r.fnd.length cf, .slice ab r.by'.length cb] 25)).alloc (.cells #[.int .u8 (p.1 : Int), .int .i64 p.2.1, .string p.2.2] 36)) (w.heap.size + 1) p) := Lib.hid (by
    have := PK.alloc_new (w.alloc (.cells #[.string r.nm, .int .u8 (r.goal : Int), .slice ah r.holes.length ch, .slice af r.fnd.length cf, .slice ab r.by'.length cb] 25)) p
    simpa using this)
  obtain ⟨b, off, rfl, _, _, hbl, hcell⟩ := hr.F.at HB.out h0
  obtain ⟨d0, d1, d2⟩ := hcell 0 h0
  have HZ : RowKit.Hid (alikeZ r p = (r.fnd[0].1 == 26 || (r.fnd[0].1 == 50 || (r.fnd[0].1 == p.1 && decide (r.fnd[0].2.2 = p.2.2))))) := Lib.hid (by
    unfold alikeZ; rw [List.getElem?_eq_getElem h0])
  generalize r.fnd[0] = q at *
  obtain ⟨qk, qn, qw⟩ := q
  simp only [Nat.zero_mul, Nat.add_zero] at d0 d1 d2 HZ
  have h00 : (0 : Int) < r.fnd.length := by omega
  clear hcell hr
  unfold ruleAgg
  go_enter Tryd.func43, Tryd.ntmps43
  go_upto_region 1 with (fail)
  generalize (w.alloc (.cells #[.string r.nm, .int .u8 (r.goal : Int), .slice ah r.holes.length ch, .slice (some ⟨b, off, none⟩) r.fnd.length cf, .slice ab r.by'.length cb] 25)).alloc (.cells #[.int .u8 (p.1 : Int), .int .i64 p.2.1, .string p.2.2] 36) = W at *
  go_upto_region 2 with (fail)
  have HPK := Lib.hid (HP.out.keep ((Below.refl _ _).alloc (Nat.le_refl _) (.cells #[.int .u8 (qk : Int), .int .i64 qn, .string qw] 36)))
  have HQK := Lib.hid (PK.alloc_new W (qk, qn, qw))
  have HB2 := Lib.hid (HB.out.alloc HB.out.size (.cells #[.int .u8 (qk : Int), .int .i64 qn, .string qw] 36))
  simp only [] at HQK
  clear d0 d1 d2 e3 HP HB
  generalize W.alloc (.cells #[.int .u8 (qk : Int), .int .i64 qn, .string qw] 36) = W2 at *
  have q0 := HQK.out.c0
  have q2 := HQK.out.c2
  have p0 := HPK.out.c0
  have p2 := HPK.out.c2
  simp only [] at q0 q2 p0 p2
  clear HQK HPK
  by_cases h1 : qk = 26
  · subst h1
    have HX := Lib.hid (HQ.out true W2 (by rw [HZ.out]; rfl) HB2.out)
    go_wp2_with fail
    exact HX.out
  have g1 : ((qk : Int) == 26) = false := by rw [beq_eq_false_iff_ne]; omega
  by_cases h2 : qk = 50
  · subst h2
    have HX := Lib.hid (HQ.out true W2 (by rw [HZ.out]; rfl) HB2.out)
    go_wp2_with fail
    exact HX.out
  have g2 : ((qk : Int) == 50) = false := by rw [beq_eq_false_iff_ne]; omega
  have n1 : (qk == 26) = false := by rw [beq_eq_false_iff_ne]; exact h1
  have n2 : (qk == 50) = false := by rw [beq_eq_false_iff_ne]; exact h2
  obtain ⟨pk, pn, pw⟩ := p
  simp only [] at p0 p2 HZ HQ
  by_cases h3 : qk = pk
  · subst h3
    have HX := Lib.hid (HQ.out (decide (qw = pw)) W2 (by rw [HZ.out]; simp [n1, n2]) HB2.out)
    have g5 : (qw.toList == pw.toList) = decide (qw = pw) := bytes_eq_list
    clear h1 h2 n1 n2
    go_wp2_with fail
    exact HX.out
  · have HX := Lib.hid (HQ.out false W2 (by rw [HZ.out]; simp [n1, n2, h3]) HB2.out)
    have g3 : ((qk : Int) == (pk : Int)) = false := by rw [beq_eq_false_iff_ne]; omega
    have g4 : (qk == pk) = false := by rw [beq_eq_false_iff_ne]; exact h3
    clear h1 h2 h3 n1 n2
    go_wp2_with fail
    exact HX.out
/-- What holds at the loop's head of check. -/
def fcRel (rs : List RuleX) (w0 : World) (iv : Value) (wr : World) : Prop := ∃ k : Nat, iv = .int .i64 (k : Int) ∧ k ≤ rs.length ∧ firstErr (rs.map (·.1)) = firstErr ((rs.drop k).map (·.1)) ∧ Below w0.heap.size w0 wr
set_option maxRecDepth 100000 in
set_option maxHeartbeats 8000000 in
theorem find_check (rs : List RuleX) (hs : ∀ x ∈ rs, SmallR x.1) (l : List Prt) (hl : l.length ≤ 1048576) (vr vl : Value) (w : World) (hT : Tabs w) (hM : MaxC w) (hr : RulesIn w vr rs) (hlr : PartRow w vl l) :
    Calls Tryd.prog 30 #[vr, vl] w fun e w' => e = .returned (.int .i64 (findErr (rs.map (·.1)) l)) ∧ Below w.heap.size w w' := by
  have HQ : RowKit.Hid (∀ x w', findErr (rs.map (·.1)) l = x → Below w.heap.size w w' → (fun (e : Ending) w' => e = .returned (.int .i64 (findErr (rs.map (·.1)) l)) ∧ Below w.heap.size w w') (.returned (.int .i64 x)) w') := Lib.hid fun x w' h hb => ⟨by rw [h], hb⟩
  generalize (fun (e : Ending) w' => e = .returned (.int .i64 (findErr (rs.map (·.1)) l)) ∧ Below w.heap.size w w') = Q at *
  have HF : RowKit.Hid (findErr (rs.map (·.1)) l = if wellB l = false then 8 else if 32 < rs.length then 14 else firstErr (rs.map (·.1))) := Lib.hid (by unfold findErr; rw [List.length_map])
  obtain ⟨ar, cr, rfl, hcr⟩ := hr.shape
  obtain ⟨al, cl, rfl, hcl⟩ := hlr.slice
  have CW := Lib.hid (term_Well l (by omega) _ w hlr)
  have HS := Lib.hid hs
  have HR := Lib.hid hr
  have HT := Lib.hid hT
  have HMX := Lib.hid hM
  clear hr hlr hs hT hM
  go_enter Tryd.func30, Tryd.ntmps30
  go_wp2_with fail
  refine CW.out.mono ?_
  rintro e W1 ⟨rfl, hb1⟩
  have HB1 := Lib.hid hb1
  clear hb1 CW
  cases hw : wellB l with
  | false =>
    have HX := Lib.hid (HQ.out 8 W1 (by rw [HF.out, hw]; rfl) HB1.out)
    clear hw
    go_wp2_with fail
    exact HX.out
  | true =>
  have HW := Lib.hid hw
  clear hw
  by_cases h32 : 32 < rs.length
  · have HX := Lib.hid (HQ.out 14 W1 (by rw [HF.out, HW.out, if_neg (by simp), if_pos h32]) HB1.out)
    have g1 : (32 : Int) < rs.length := by omega
    go_wp2_with fail
    exact HX.out
  have HFE : RowKit.Hid (findErr (rs.map (·.1)) l = firstErr (rs.map (·.1))) := Lib.hid (by rw [HF.out, HW.out, if_neg (by simp), if_neg h32])
  have h32' : (rs.length : Int) ≤ 32 := by omega
  clear h32
  go_wp2_with fail
  go_loopw [18] (fun iv wr => fcRel rs W1 iv wr) (fun iv _ => rs.length - (intOf iv).toNat)
  case atStart => exact ⟨0, rfl, Nat.zero_le _, rfl, Below.refl _ _⟩
  case round =>
    obtain ⟨k, rfl, hk, hfe, hb⟩ := hrel
    have HB := Lib.hid hb
    have HE := Lib.hid hfe
    clear hb hfe
    by_cases hlt : k < rs.length
    · obtain ⟨b, off, rfl, _, _, hbl, hcell⟩ := HR.out.at (bthen HB1.out HB.out) (show 0 < rs.length by omega)
      obtain ⟨d0, d1, d2, d3, d4⟩ := hcell k hlt
      have hin := HR.out.E _ (List.getElem_mem hlt)
      have hsm := HS.out _ (List.getElem_mem hlt)
      have HE2 : RowKit.Hid (firstErr (rs.map (·.1)) = if ruleZ (rs[k]).1 = 0 then firstErr ((rs.drop (k + 1)).map (·.1)) else ruleZ (rs[k]).1) := Lib.hid (by
        rw [HE.out, List.drop_eq_getElem_cons hlt, List.map_cons, firstErr])
      generalize rs[k] = x at *
      obtain ⟨r, vh, vf, vb⟩ := x
      simp only [] at d0 d1 d2 d3 d4 hin hsm HE2
      obtain ⟨ah, ch, rfl, hch⟩ := Row.shape hin.H
      obtain ⟨af, cf, rfl, hcf⟩ := hin.F.slice
      obtain ⟨ab, cb, rfl, hcb⟩ := hin.B.slice
      have HBA : RowKit.Hid (Below W1.heap.size W1 (wr.alloc (.cells #[.string r.nm, .int .u8 (r.goal : Int), .slice ah r.holes.length ch, .slice af r.fnd.length cf, .slice ab r.by'.length cb] 25))) := Lib.hid (HB.out.alloc HB.out.size _)
      have CR := Lib.hid (rule_Check r hsm _ _ _ _ (HT.out.below (bthen HB1.out HBA.out)) (HMX.out.below (bthen HB1.out HBA.out)) (hin.below (bthen HB1.out HBA.out)))
      unfold ruleAgg at CR
      clear hcell hin hsm
      go_wp2_with fail
      refine CR.out.mono ?_
      rintro e W3 ⟨rfl, hb3⟩
      have HB3 := Lib.hid (bthen HBA.out hb3)
      clear hb3 CR HBA d0 d1 d2 d3 d4
      by_cases hz : ruleZ r = 0
      · have HX : RowKit.Hid (fcRel rs W1 (.int .i64 ((k : Int) + 1)) W3) := Lib.hid ⟨k + 1, by push_cast; rfl, hlt, by rw [HE2.out, if_pos hz], HB3.out⟩
        rw [hz]
        clear hz
        go_wp2_with fail
        case roundEnd => exact ⟨HX.out, by simp only [intOf]; omega⟩
      · have HX := Lib.hid (HQ.out (ruleZ r) W3 (by rw [HFE.out, HE2.out, if_neg hz]) (bthen HB1.out HB3.out))
        have g1 : (ruleZ r != 0) = true := by rw [bne_iff_ne]; exact hz
        have g2 : (ruleZ r == 0) = false := by rw [beq_eq_false_iff_ne]; exact hz
        clear hz
        generalize ruleZ r = z at *
        go_wp2_with fail
        exact HX.out
    · obtain rfl : k = rs.length := by omega
      have HX := Lib.hid (HQ.out 0 wr (by rw [HFE.out, HE.out, List.drop_length]; rfl) (bthen HB1.out HB.out))
      go_wp2_with fail
      exact HX.out
end Go.Proofs.YtbhicblkgjgenaaDoor
