/- Layer 9: the program's functions, walked: partner, walk, Of, Depth. -/
import Derived.Test.YtelfobnmiphdnaaGreatDoorTokRow
import Derived.Test.YtelfobnmiphdnaaGreatDoorSemi
import Derived.Test.YtelfobnmiphdnaaGreatDoorNestP
import Derived.Test.YtelfobnmiphdnaaGreatDoorStill
namespace Go.Proofs.YtelfobnmiphdnaaGreatDoor
set_option linter.all false
attribute [local irreducible] wpStill
open Go.RowKit

theorem results_tmp3_cell {P : Program} {fn : Func} {p t1 t2 t3 : Tmp} {ty : TypeId} (h : fn.results = #[.tmp t1, .tmp t2, .tmp t3, .cell p ty]) (tmps : Array Value) (w : World) (g : Nat) (t : TypeId) (cs : Array Value) (fr : Nat × Nat) (d : TypeDesc)
    (hp : tmps.getD p undef = .pointer (some ⟨g, 0, none⟩)) (hg : w.heap[g]? = some (.cells cs t fr))
    (hu : P.underlying ty = some d) (hd : (match d with | .struct _ | .array _ _ => true | _ => false) = true) (hi : (P.info? ty).map (·.size) = some cs.size) :
    (results fn tmps).run P w = .ok (.tuple #[tmps.getD t1 undef, tmps.getD t2 undef, tmps.getD t3 undef, .agg cs]) w := by
  have hp' : tmps[p]?.getD undef = .pointer (some ⟨g, 0, none⟩) := by simpa using hp
  simp [results, h, hp', asAddr, run_loadVar_row w g t ty cs fr d hg hu hd hi]
theorem results_tmp2_cell {P : Program} {fn : Func} {p t1 t2 : Tmp} {ty : TypeId} (h : fn.results = #[.tmp t1, .tmp t2, .cell p ty]) (tmps : Array Value) (w : World) (g : Nat) (t : TypeId) (cs : Array Value) (fr : Nat × Nat) (d : TypeDesc)
    (hp : tmps.getD p undef = .pointer (some ⟨g, 0, none⟩)) (hg : w.heap[g]? = some (.cells cs t fr))
    (hu : P.underlying ty = some d) (hd : (match d with | .struct _ | .array _ _ => true | _ => false) = true) (hi : (P.info? ty).map (·.size) = some cs.size) :
    (results fn tmps).run P w = .ok (.tuple #[tmps.getD t1 undef, tmps.getD t2 undef, .agg cs]) w := by
  have hp' : tmps[p]?.getD undef = .pointer (some ⟨g, 0, none⟩) := by simpa using hp
  simp [results, h, hp', asAddr, run_loadVar_row w g t ty cs fr d hg hu hd hi]
theorem info_int : (Tryz.prog.info? 3).map (fun i => (i.zero, i.size, i.bytes)) = some (some (.int .i64 0), 1, 8) := by kernel_rfl
/-- A row of n noughts, made. -/
theorem make_ints (n : Nat) (hn : n ≤ 1000000000) (w : World) :
    (Instr.makeSlice 24 (.int .i64 (n : Int)) (.int .i64 (n : Int))).run Tryz.prog w = .ok (.slice (some ⟨w.heap.size, 0, none⟩) n n) (w.alloc (.cells ((List.replicate n (0 : Int)).map (Value.int .i64)).toArray 3)) := by
  obtain ⟨i, hi, hz, hsz, hb⟩ := info_parts info_int
  have hr := run_make (P := Tryz.prog) w 24 3 i (.int .i64 0) Tryz.underlying24 hi hz .i64 .i64 (n : Int) (n : Int) (by omega) (Int.le_refl _) (by rw [hb]; omega) (by omega)
  rw [hsz] at hr
  have e : madeCells (Value.int .i64 0).cells ((n : Int).toNat * 1) = ((List.replicate n (0 : Int)).map (Value.int .i64)).toArray := by
    apply Array.ext'
    rw [Int.toNat_natCast, Nat.mul_one]
    show (madeCells #[.int .i64 0] n).toList = _
    rw [toList_madeCells_one, List.map_replicate]
  rw [e] at hr
  simpa using hr
theorem semiAll_err {s : ByteArray} (h : (semiAll s).2.1 = 0) : (semiAll s).2.2 = 0 := by
  by_cases hc : (scanAll s).2.1 = 0 ∧ (scanAll s).2.2 = 0
  · unfold semiAll; rw [if_pos hc]
  · exfalso
    have e : semiAll s = ([], (scanAll s).2.1, (scanAll s).2.2) := by unfold semiAll; rw [if_neg hc]
    rw [e] at h
    exact hc ⟨h, scanAll_err s h⟩
set_option maxRecDepth 100000 in
theorem nest_partner (c : Nat) (hc : c < 256) (w : World) :
    Calls Tryz.prog 14 #[.int .u8 (c : Int)] w fun e w' => e = .returned (.int .u8 (closer c : Nat)) ∧ w = w' := by
  have HQ : RowKit.Hid (∀ x : Nat, closer c = x → (fun (e : Ending) w' => e = .returned (.int .u8 (closer c : Nat)) ∧ w = w') (.returned (.int .u8 (x : Int))) w) := Lib.hid fun x h => ⟨by rw [h], rfl⟩
  generalize (fun (e : Ending) w' => e = .returned (.int .u8 (closer c : Nat)) ∧ w = w') = Q at *
  have h4 : c = 40 ∨ c = 91 ∨ c = 123 ∨ (c ≠ 40 ∧ c ≠ 91 ∧ c ≠ 123) := by omega
  rcases h4 with rfl | rfl | rfl | ⟨n1, n2, n3⟩
  · go_enter Tryz.func14, Tryz.ntmps14
    go_wp2_with fail
    exact HQ.out 41 rfl
  · go_enter Tryz.func14, Tryz.ntmps14
    go_wp2_with fail
    exact HQ.out 93 rfl
  · go_enter Tryz.func14, Tryz.ntmps14
    go_wp2_with fail
    exact HQ.out 125 rfl
  · have m1 : ((c : Int) == 40) = false := by rw [beq_eq_false_iff_ne]; omega
    have m2 : ((c : Int) == 91) = false := by rw [beq_eq_false_iff_ne]; omega
    have m3 : ((c : Int) == 123) = false := by rw [beq_eq_false_iff_ne]; omega
    have HV : RowKit.Hid (closer c = 0) := Lib.hid (by unfold closer; rw [if_neg n1, if_neg n2, if_neg n3])
    clear n1 n2 n3
    go_enter Tryz.func14, Tryz.ntmps14
    go_wp2_with fail
    exact HQ.out 0 HV.out
/-- The stack of open brackets, in an array's cells: the last one is on top. -/
def OpenAt (O : Array Value) : List Nat → Prop
  | [] => True
  | o :: r => O[r.length]? = some (.int .i64 (o : Int)) ∧ OpenAt O r
theorem OpenAt.set {O : Array Value} : ∀ {op : List Nat} (h : OpenAt O op) (j : Nat) (v : Value) (hj : op.length ≤ j), OpenAt (O.setIfInBounds j v) op
  | [], _, _, _, _ => trivial
  | o :: r, h, j, v, hj => by
    simp only [List.length_cons] at hj
    refine ⟨?_, OpenAt.set h.2 j v (by omega)⟩
    rw [Array.getElem?_setIfInBounds_ne (by omega)]
    exact h.1
/-- What a world holds of walk's own rows: the partners so far (block b), the array of open brackets (block g). -/
structure NW (W : World) (b g : Nat) (p : List Int) (op : List Nat) : Prop where
  pair : W.heap[b]? = some (.cells (p.map (Value.int .i64)).toArray 3 (0, 0))
  stack : ∃ O T, W.heap[g]? = some (.cells O T (0, 0)) ∧ O.size = 100 ∧ OpenAt O op
theorem NW.keep {W W' : World} {b g : Nat} {p : List Int} {op : List Nat} (h : NW W b g p op) (hb : Below W.heap.size W W') : NW W' b g p op := by
  obtain ⟨h1, O, T, h2, h3⟩ := h
  exact ⟨keeps hb h1, O, T, keeps hb h2, h3⟩
theorem NW.set {W : World} {b g : Nat} {p : List Int} {op : List Nat} (h : NW W b g p op) (hne : g ≠ b) (i : Nat) (v : Int) : NW (W.setCell ⟨b, i, none⟩ (.int .i64 v)) b g (p.set i v) op := by
  obtain ⟨h1, O, T, h2, h3⟩ := h
  refine ⟨?_, O, T, by rw [heap_setCell_other _ _ _ _ hne]; exact h2, h3⟩
  rw [heap_setCell_same _ _ _ _ _ _ h1, List.setIfInBounds_toArray, ← List.map_set]
theorem NW.push {W : World} {b g : Nat} {p : List Int} {op : List Nat} (h : NW W b g p op) (hne : b ≠ g) (hl : op.length < 100) (i : Nat) : NW (W.setCell ⟨g, op.length, none⟩ (.int .i64 (i : Int))) b g p (i :: op) := by
  obtain ⟨h1, O, T, h2, h3, h4⟩ := h
  refine ⟨by rw [heap_setCell_other _ _ _ _ hne]; exact h1, O.setIfInBounds op.length (.int .i64 (i : Int)), T, heap_setCell_same _ _ _ _ _ _ h2, by rw [Array.size_setIfInBounds]; exact h3, ?_, h4.set _ _ (Nat.le_refl _)⟩
  rw [Array.getElem?_setIfInBounds_self_of_lt (by omega)]
theorem NW.tail {W : World} {b g o : Nat} {p : List Int} {op : List Nat} (h : NW W b g p (o :: op)) : NW W b g p op := by
  obtain ⟨h1, O, T, h2, h3, h4⟩ := h
  exact ⟨h1, O, T, h2, h3, h4.2⟩
theorem NW.top {W : World} {b g o : Nat} {p : List Int} {op : List Nat} (h : NW W b g p (o :: op)) : W.cell? ⟨g, op.length, none⟩ = some (.int .i64 (o : Int)) := by
  obtain ⟨h1, O, T, h2, h3, h4⟩ := h
  simp [World.cell?, h2, h4.1]
theorem NW.lt {W : World} {b g : Nat} {p : List Int} {op : List Nat} (h : NW W b g p op) : g < W.heap.size := by
  obtain ⟨h1, O, T, h2, h3⟩ := h
  exact lt_of_block h2
theorem NW.fzg {W : World} {b g : Nat} {p : List Int} {op : List Nat} (h : NW W b g p op) (i : Nat) : W.frozen? ⟨g, i, none⟩ = false := by
  obtain ⟨h1, O, T, h2, h3⟩ := h
  simp [World.frozen?, h2]
theorem NW.some_g {W : World} {b g : Nat} {p : List Int} {op : List Nat} (h : NW W b g p op) {i : Nat} (hi : i < 100) : ∃ u, W.cell? ⟨g, i, none⟩ = some u := by
  obtain ⟨h1, O, T, h2, h3⟩ := h
  exact ⟨O[i], by simp [World.cell?, h2]⟩
theorem NW.fzb {W : World} {b g : Nat} {p : List Int} {op : List Nat} (h : NW W b g p op) (i : Nat) : W.frozen? ⟨b, i, none⟩ = false := by
  simp [World.frozen?, h.pair]
theorem NW.cell {W : World} {b g : Nat} {p : List Int} {op : List Nat} (h : NW W b g p op) {i : Nat} (hi : i < p.length) : W.cell? ⟨b, i, none⟩ = some (.int .i64 p[i]) := by
  simp [World.cell?, h.pair, hi]
theorem NW.row {W : World} {b g : Nat} {p : List Int} {op : List Nat} (h : NW W b g p op) : RowInts W (.slice (some ⟨b, 0, none⟩) p.length p.length) .i64 p := by
  refine ⟨by simp, _, _, rfl, Nat.le_refl _, by simp, fun hn => ⟨b, 0, rfl, lt_of_block h.pair, fun i hi => ?_⟩⟩
  have hi' : i < p.length := by omega
  rw [Nat.zero_add, h.cell hi']
  simp [hi']
/-- What holds at the loop's head. -/
def nwRel (s : ByteArray) (L : List Tok) (R : Except (Int × Int) (List Int × Nat)) (W0 : World) (b g : Nat) (n most i : Value) (wr : World) : Prop :=
  ∃ (k : Nat) (op : List Nat) (p : List Int) (m : Nat), i = .int .i64 (k : Int) ∧ n = .int .i64 (op.length : Int) ∧ most = .int .i64 (m : Int) ∧ k ≤ L.length ∧ op.length ≤ 100 ∧ m ≤ 100 ∧ p.length = L.length ∧
    (∀ o ∈ op, o < k ∧ closer (bch s (L.getD o (0, 0, 0))) ≠ 0) ∧ nestGo s L (L.drop k) k op p m = R ∧ NW wr b g p op ∧ Below W0.heap.size W0 wr
/-- What walk answers: tokens, partners, how many were open, an error and a place. -/
@[irreducible] def walkPost (q : List Tok × List Int × Int × Int × Int) (w0 : World) (e : Ending) (w' : World) : Prop :=
  ∃ v1 v2, e = .returned (.tuple #[v1, v2, .int .i64 q.2.2.1, .agg #[.int .i64 q.2.2.2.1, .int .i64 q.2.2.2.2]]) ∧ Below w0.heap.size w0 w' ∧ TokRow w' v1 q.1 ∧ RowInts w' v2 .i64 q.2.1 ∧ NewV w0.heap.size v1 ∧ NewV w0.heap.size v2
theorem bch_of {s : ByteArray} {t : Tok} (h : closer (bch s t) ≠ 0) : t.1 = 8 ∧ t.2.2 = t.2.1 + 1 ∧ bch s t = bt s t.2.1 := by
  unfold bch at h ⊢
  by_cases g : t.1 = 8 ∧ t.2.2 = t.2.1 + 1
  · exact ⟨g.1, g.2, if_pos g⟩
  · rw [if_neg g] at h; exact absurd rfl h
set_option maxRecDepth 100000 in
set_option maxHeartbeats 8000000 in
theorem nest_walk (s : ByteArray) (hs : s.size ≤ 2147483647) (w : World) (hT : Tabs w) (hM : MaxC w) :
    Calls Tryz.prog 10 #[.string s] w (walkPost (nestAll s) w) := by
  have HQ : RowKit.Hid (∀ w' v1 v2 l p m e a, nestAll s = (l, p, m, e, a) → Below w.heap.size w w' → TokRow w' v1 l → RowInts w' v2 .i64 p → NewV w.heap.size v1 → NewV w.heap.size v2 → walkPost (nestAll s) w (.returned (.tuple #[v1, v2, .int .i64 m, .agg #[.int .i64 e, .int .i64 a]])) w') := Lib.hid fun w' v1 v2 l p m e a h h2 h3 h4 h5 h6 => by
    unfold walkPost; rw [h]; exact ⟨v1, v2, rfl, h2, h3, h4, h5, h6⟩
  have HV : RowKit.Hid (nestAll s = _) := Lib.hid (by unfold nestAll; rfl)
  have C1 := Lib.hid (fun w' (hb : Below w.heap.size w w') => semi_Of s hs w' (hT.below hb) (hM.below hb))
  have CP := Lib.hid (fun c hc w' => nest_partner c hc w')
  have HER := Lib.hid (@semiAll_err s)
  have HORD := Lib.hid (semiAll_ord s)
  have HLN := semiAll_len s
  generalize walkPost (nestAll s) w = Q at *
  have HF : RowKit.Hid (∀ (tm : Array Value) W' v1 v2 l p m e a, nestAll s = (l, p, m, e, a) → Below w.heap.size w W' → TokRow W' v1 l → RowInts W' v2 .i64 p → NewV w.heap.size v1 → NewV w.heap.size v2 → FK W' w.heap.size e a → tm.getD 5 undef = .pointer (some ⟨w.heap.size, 0, none⟩) → tm.getD 2 undef = v1 → tm.getD 3 undef = v2 → tm.getD 4 undef = .int .i64 m → bodyPost Tryz.prog Tryz.f10 Q .ret ⟨tm, []⟩ W') :=
    Lib.hid fun tm W' v1 v2 l p m e a h1 h2 h3 h4 n1 n2 h5 h6 h7 h8 h9 => by
      refine bodyPost_ret (results_tmp3_cell rfl tm W' w.heap.size 27 #[.int .i64 e, .int .i64 a] (0, 0) _ h6 h5 Tryz.underlying27 rfl (by kernel_rfl)) rfl ?_
      rw [h7, h8, h9]
      exact HQ.out W' v1 v2 l p m e a h1 h2 h3 h4 n1 n2
  have hT4 : FK (w.alloc (.cells #[.int .i64 0, .int .i64 0] 27)) w.heap.size 0 0 := by
    unfold FK; exact heap_alloc_new _ _
  have hbW : Below w.heap.size w (w.alloc (.cells #[.int .i64 0, .int .i64 0] 27)) := (Below.refl _ _).alloc (Nat.le_refl _) _
  have H4 := Lib.hid hT4
  have HBW := Lib.hid hbW
  clear hT4 hbW
  go_enter Tryz.func10, Tryz.ntmps10
  go_wp2_with fail
  refine (C1.out _ HBW.out).mono ?_
  intro e w1 h1
  unfold allPost at h1
  generalize semiAll s = q at *
  obtain ⟨L, er, ea⟩ := q
  simp only [] at *
  obtain ⟨v, rfl, hb1, ho1⟩ := h1
  have HB1 := Lib.hid (bthen HBW.out hb1)
  have HF1 := Lib.hid (H4.out.keep hb1)
  have HR1 := Lib.hid (TokRow.of_owns ho1)
  have HNV := Lib.hid ((NewV.of_owns ho1).mono (show w.heap.size + 1 ≤ (w.alloc (.cells #[.int .i64 0, .int .i64 0] 27)).heap.size by simp))
  have HA1 := Lib.hid (HB1.out.alloc HB1.out.size (.cells #[.int .i64 er, .int .i64 ea] 27))
  have HF2 := Lib.hid (HF1.out.alloc (.cells #[.int .i64 er, .int .i64 ea] 27))
  have HX : RowKit.Hid (FK (w1.alloc (.cells #[.int .i64 er, .int .i64 ea] 27)) w1.heap.size er ea) := Lib.hid (by unfold FK; exact heap_alloc_new _ _)
  have HRW := Lib.hid (HR1.out.below ((Below.refl _ _).alloc (Nat.le_refl _) (.cells #[.int .i64 er, .int .i64 ea] 27)))
  obtain ⟨va, vcap, rfl, hvcap, _⟩ := HR1.out
  clear hb1 ho1 H4 HBW C1
  have x0 := HX.out.c0; have x1 := HX.out.c1
  by_cases her : er = 0
  · obtain rfl := HER.out her
    subst her
    have hv := HV.out
    rw [if_pos ⟨rfl, rfl⟩] at hv
    have hmk := make_ints L.length (by omega)
    have HV2 := Lib.hid hv
    clear hv HV
    generalize hR : nestGo s L L 0 [] (List.replicate L.length 0) 0 = R at *
    have HR0 := Lib.hid hR
    go_wp2_with fail
    have HN0 : RowKit.Hid (NW (((w1.alloc (.cells #[.int .i64 0, .int .i64 0] 27)).alloc (.cells (Array.replicate L.length (Value.int .i64 0)) 3)).alloc (.cells Tryz.zeroCells42 42)) (w1.heap.size + 1) (w1.heap.size + 1 + 1) (List.replicate L.length 0) []) := Lib.hid (by
      refine ⟨?_, Tryz.zeroCells42, 42, ?_, by decide +kernel, trivial⟩
      · rw [Below.heap_alloc _ _ _ (by simp), List.map_replicate, List.toArray_replicate]
        have := heap_alloc_new (w1.alloc (.cells #[.int .i64 0, .int .i64 0] 27)) (.cells (Array.replicate L.length (Value.int .i64 0)) 3)
        simpa using this
      · have := heap_alloc_new ((w1.alloc (.cells #[.int .i64 0, .int .i64 0] 27)).alloc (.cells (Array.replicate L.length (Value.int .i64 0)) 3)) (.cells Tryz.zeroCells42 42)
        simpa using this)
    have hx1 : Below w1.heap.size w1 (((w1.alloc (.cells #[.int .i64 0, .int .i64 0] 27)).alloc (.cells (Array.replicate L.length (Value.int .i64 0)) 3)).alloc (.cells Tryz.zeroCells42 42)) := (((Below.refl _ _).alloc (Nat.le_refl _) _).alloc (by simp) _).alloc (by simp; omega) _
    have HX1 := Lib.hid hx1
    have hlt1 : w.heap.size < w1.heap.size := lt_of_block (show w1.heap[w.heap.size]? = _ from HF1.out)
    clear hx1 HRW HF2 HA1 HX x0 x1
    generalize (((w1.alloc (.cells #[.int .i64 0, .int .i64 0] 27)).alloc (.cells (Array.replicate L.length (Value.int .i64 0)) 3)).alloc (.cells Tryz.zeroCells42 42)) = W0 at *
    have HLT := Lib.hid hlt1
    have HBE : RowKit.Hid (w1.heap.size < w1.heap.size + 1) := Lib.hid (Nat.lt_succ_self _)
    clear hlt1
    generalize w1.heap.size + 1 = b at *
    go_loopw [10, 11, 29] (fun n most i wr => nwRel s L R w1 b (b + 1) n most i wr) (fun _ _ i _ => L.length - (intOf i).toNat)
    case atStart =>
      exact ⟨0, [], List.replicate L.length 0, 0, rfl, rfl, rfl, Nat.zero_le _, by simp, by omega, by simp, (fun o ho => by cases ho), by rw [List.drop_zero]; exact HR0.out, HN0.out, HX1.out⟩
    case round =>
      obtain ⟨k, op, p, m, rfl, rfl, rfl, hk, hol, hm, hp, hop, hgo, hnw, hb⟩ := hrel
      have HB := Lib.hid hb
      have HN := Lib.hid hnw
      have HOP := Lib.hid hop
      have HP := Lib.hid hp
      have HOL := Lib.hid hol
      have HM := Lib.hid hm
      clear hb hnw hop hp HN0 HX1
      by_cases hlt : k < L.length
      · have hlt' : (k : Int) < L.length := by omega
        obtain ⟨b1, rfl, _, hcp, d0, d1, d2⟩ := HR1.out.at HB.out hlt
        have hord := ord_each HORD.out L[k] (List.getElem_mem hlt)
        rw [List.drop_eq_getElem_cons hlt, nestGo_cons] at hgo
        have hgt : L.getD k (0, 0, 0) = L[k] := by rw [List.getD_eq_getElem?_getD, List.getElem?_eq_getElem hlt]; rfl
        generalize L[k] = t at *
        obtain ⟨kk, ff, tt⟩ := t
        simp only [] at hord d0 d1 d2 hgo
        have HGO := Lib.hid hgo
        have HGT := Lib.hid hgt
        clear hgo hgt
        have hk0 : (0 : Int) ≤ k := by omega
        have hkc : (k : Int) < vcap := by omega
        have hkp : (k : Int) < p.length := by have := HP.out; omega
        have hwk : IntKind.i64.wrap ((k : Int) + 1) = ((k + 1 : Nat) : Int) := by rw [IntKind.wrap_i64]; omega
        have HK1 : RowKit.Hid (k + 1 ≤ L.length) := Lib.hid hlt
        have HML : RowKit.Hid (L.length - (k + 1) < L.length - k) := Lib.hid (by omega)
        have hA : Below wr.heap.size wr (wr.alloc (.cells #[.int .u8 kk, .int .i64 (ff : Int), .int .i64 (tt : Int)] 41)) := (Below.refl _ _).alloc (Nat.le_refl _) _
        have HN1 := Lib.hid (HN.out.keep hA)
        have HTK0 := Lib.hid (TK.alloc_new wr kk ff tt)
        have HBA := Lib.hid (bthen HB.out hA)
        have b0 := HN1.out.cell (i := k) (by have := HP.out; omega)
        have zb := HN1.out.fzb k
        clear hA
        go_upto_region 11 with (fail)
        clear b0 zb d0 d1 d2
        have hblt : b + 1 < wr.heap.size := HN.out.lt
        have HN2 := Lib.hid (HN1.out.set (by omega) k (-1))
        have HTK2 : RowKit.Hid (TK ((wr.alloc (.cells #[.int .u8 kk, .int .i64 (ff : Int), .int .i64 (tt : Int)] 41)).setCell ⟨b, k, none⟩ (.int .i64 (-1))) wr.heap.size kk ff tt) := Lib.hid (by
          unfold TK; rw [heap_setCell_other _ _ _ _ (by show wr.heap.size ≠ b; omega)]; exact HTK0.out)
        have HB2 : RowKit.Hid (Below w1.heap.size w1 ((wr.alloc (.cells #[.int .u8 kk, .int .i64 (ff : Int), .int .i64 (tt : Int)] 41)).setCell ⟨b, k, none⟩ (.int .i64 (-1)))) := Lib.hid (HBA.out.setCell (p := ⟨b, k, none⟩) (Nat.le_of_lt HBE.out) _)
        have HPL : RowKit.Hid ((p.set k (-1)).length = L.length) := Lib.hid (by rw [List.length_set]; exact HP.out)
        generalize (wr.alloc (.cells #[.int .u8 kk, .int .i64 (ff : Int), .int .i64 (tt : Int)] 41)).setCell ⟨b, k, none⟩ (.int .i64 (-1)) = W3 at *
        generalize p.set k (-1) = p2 at *
        have t0 := HTK2.out.c0; have t1 := HTK2.out.c1; have t2 := HTK2.out.c2
        -- the round of a token that is no bracket
        have HSK : RowKit.Hid (nestGo s L (L.drop (k + 1)) (k + 1) op p2 m = R → ∀ W', NW W' b (b + 1) p2 op → Below w1.heap.size w1 W' → nwRel s L R w1 b (b + 1) (.int .i64 (op.length : Int)) (.int .i64 (m : Int)) (.int .i64 ((k + 1 : Nat) : Int)) W') :=
          Lib.hid fun h W' h1 h2 => ⟨k + 1, op, p2, m, rfl, rfl, rfl, HK1.out, HOL.out, HM.out, HPL.out, (fun o ho => ⟨by have := (HOP.out o ho).1; omega, (HOP.out o ho).2⟩), h, h1, h2⟩
        by_cases h8 : kk = 8
        · subst h8
          by_cases h1b : tt = ff + 1
          · subst h1b
            have hffi : (ff : Int) < s.size := by omega
            have hff0 : (0 : Int) ≤ ff := by omega
            have yc := bt_at s ff (by omega)
            have hbc : bch s (8, ff, ff + 1) = bt s ff := by unfold bch; exact if_pos ⟨rfl, rfl⟩
            have hgo := HGO.out
            rw [hbc] at hgo
            have h256 := bt_lt s ff
            have hop1 : closer (bt s ff) ≠ 0 → RowKit.Hid (∀ o ∈ k :: op, o < k + 1 ∧ closer (bch s (L.getD o (0, 0, 0))) ≠ 0) := fun h => Lib.hid fun o ho => by
              rcases List.mem_cons.1 ho with rfl | ho
              · rw [HGT.out, hbc]; exact ⟨by omega, h⟩
              · exact ⟨by have := (HOP.out o ho).1; omega, (HOP.out o ho).2⟩
            clear HGO hbc
            generalize bt s ff = c at *
            have hwd : IntKind.i64.wrap ((ff : Int) + 1 - (ff : Int)) = 1 := by rw [IntKind.wrap_i64]; omega
            go_wp2_with fail
            refine (CP.out c h256 _).mono ?_
            rintro e w4 ⟨rfl, rfl⟩
            by_cases hcl : closer c ≠ 0
            · rw [if_pos hcl] at hgo
              have HO1 := hop1 hcl
              have hcl0 : ((closer c : Int) == 0) = false := by rw [beq_eq_false_iff_ne]; omega
              clear hop1
              by_cases hfull : op.length = 100
              · rw [if_pos hfull] at hgo
                have HV3 : RowKit.Hid (nestAll s = ([], [], 0, 6, (ff : Int))) := Lib.hid (by rw [HV2.out, ← hgo])
                have HF3 := Lib.hid (HF1.out.keep HB2.out)
                have z50 := HF3.out.fz 0; have z51 := HF3.out.fz 1; have c50 := HF3.out.c0; have c51 := HF3.out.c1
                have hfi : ((op.length : Int) == 100) = true := by rw [beq_iff_eq]; omega
                have HB3 := Lib.hid (bthen HB1.out HB2.out)
                clear hgo hcl hfull HSK
                go_wp2_with fail
                go_region
                all_goals
                  go_wp2_with fail
                  exact HF.out _ _ _ _ [] [] 0 6 ff HV3.out ((below_fill2 HB3.out (Nat.le_refl _) _ _).drew) (TokRow.none _) (RowInts.none _ _) (NewV.none _) (NewV.none _) (HF3.out.fill _ _) rfl rfl rfl rfl
              · rw [if_neg hfull] at hgo
                have hfi : ((op.length : Int) == 100) = false := by rw [beq_eq_false_iff_ne]; omega
                have hfl : (op.length : Int) < 100 := by have := HOL.out; omega
                have hf0 : (0 : Int) ≤ (op.length : Int) := by omega
                have zg := HN2.out.fzg op.length
                obtain ⟨u, cg⟩ := HN2.out.some_g (i := op.length) (by omega)
                have HN3 := Lib.hid (HN2.out.push (by omega) (by omega) k)
                have HB3 := Lib.hid (HB2.out.setCell (p := ⟨b + 1, op.length, none⟩) (by show w1.heap.size ≤ b + 1; have := HBE.out; omega) (.int .i64 (k : Int)))
                have hwn : IntKind.i64.wrap ((op.length : Int) + 1) = ((op.length : Int) + 1) := by rw [IntKind.wrap_i64]; omega
                have HR : RowKit.Hid (∀ i' m' W', i' = .int .i64 ((op.length : Int) + 1) → m' = .int .i64 ((max m (op.length + 1) : Nat) : Int) → W' = W3.setCell ⟨b + 1, op.length, none⟩ (.int .i64 (k : Int)) → nwRel s L R w1 b (b + 1) i' m' (.int .i64 ((k + 1 : Nat) : Int)) W') := Lib.hid (by
                  rintro _ _ _ rfl rfl rfl
                  exact ⟨k + 1, k :: op, p2, max m (op.length + 1), rfl, rfl, rfl, HK1.out, by simp only [List.length_cons]; omega, by have := HM.out; omega, HPL.out, HO1.out, hgo, HN3.out, HB3.out⟩)
                clear hgo hcl hfull HSK
                go_wp2_with fail
                refine ⟨?_, (by have := HML.out; simp [intOf]; try omega)⟩
                exact HR.out _ _ _ rfl (congrArg (Value.int .i64) (by omega)) rfl
            · rw [if_neg hcl] at hgo
              have hcl1 : closer c = 0 := by omega
              have hcl0 : ((closer c : Int) == 0) = true := by rw [beq_iff_eq]; omega
              rw [hcl1] at hcl0 ⊢
              clear hop1 hcl
              have hcs : (c = 41 ∨ c = 93 ∨ c = 125) ∨ (c ≠ 41 ∧ c ≠ 93 ∧ c ≠ 125) := by omega
              rcases hcs with hcs | ⟨n1, n2, n3⟩
              rotate_left
              · have hic : isClose c = false := by unfold isClose; simp [n1, n2, n3]
                rw [if_neg (by simp [hic])] at hgo
                have HSK2 := Lib.hid (HSK.out hgo W3 HN2.out HB2.out)
                have m1 : ((c : Int) == 41) = false := by rw [beq_eq_false_iff_ne]; omega
                have m2 : ((c : Int) == 93) = false := by rw [beq_eq_false_iff_ne]; omega
                have m3 : ((c : Int) == 125) = false := by rw [beq_eq_false_iff_ne]; omega
                clear hgo HSK n1 n2 n3 hic
                go_wp2_with fail
                refine ⟨?_, (by have := HML.out; simp [intOf]; try omega)⟩
                first
                  | exact HSK2.out
                  | (repeat apply Exists.intro
                     refine ⟨?_, rfl⟩
                     exact HSK2.out)
              · have hic : isClose c = true := by rcases hcs with rfl | rfl | rfl <;> decide
                rw [if_pos hic] at hgo
                clear hic HSK hcl1
                have HCC := Lib.hid hcs
                cases op with
                | nil =>
                  simp only [] at hgo
                  have HV3 : RowKit.Hid (nestAll s = ([], [], 0, 5, (ff : Int))) := Lib.hid (by rw [HV2.out, ← hgo])
                  have HF3 := Lib.hid (HF1.out.keep HB2.out)
                  have z50 := HF3.out.fz 0; have z51 := HF3.out.fz 1; have c50 := HF3.out.c0; have c51 := HF3.out.c1
                  have HB3 := Lib.hid (bthen HB1.out HB2.out)
                  clear hgo
                  rcases hcs with rfl | rfl | rfl
                  all_goals
                    go_wp2_with fail
                    go_region
                    all_goals
                      go_wp2_with fail
                      exact HF.out _ _ _ _ [] [] 0 5 ff HV3.out ((below_fill2 HB3.out (Nat.le_refl _) _ _).drew) (TokRow.none _) (RowInts.none _ _) (NewV.none _) (NewV.none _) (HF3.out.fill _ _) rfl rfl rfl rfl
                | cons o op =>
                  simp only [] at hgo
                  have ho := HOP.out o List.mem_cons_self
                  obtain ⟨b1', hb1', _, _, e0, e1, e2⟩ := HR1.out.at HB2.out (show o < L.length by omega)
                  simp only [Option.some.injEq, Addr.mk.injEq, and_true] at hb1'
                  subst hb1'
                  have hgo2 : L.getD o (0, 0, 0) = L[o] := by rw [List.getD_eq_getElem?_getD, List.getElem?_eq_getElem (by omega)]; rfl
                  have hbo := bch_of ho.2
                  have hoo := ord_each HORD.out L[o] (List.getElem_mem (by omega))
                  rw [hgo2] at hbo hgo
                  generalize L[o] = t2 at *
                  obtain ⟨ko, fo, eo⟩ := t2
                  simp only [] at hbo hoo e0 e1 e2 hgo
                  obtain ⟨rfl, rfl, hbo⟩ := hbo
                  rw [hbo] at hgo
                  have yo := bt_at s fo (by omega)
                  have h256o := bt_lt s fo
                  have hfoi : (fo : Int) < s.size := by omega
                  have hfo0 : (0 : Int) ≤ fo := by omega
                  have hol0 : (0 : Int) ≤ (op.length : Int) := by omega
                  have holl : (op.length : Int) < 100 := by have := HOL.out; simp only [List.length_cons] at this; omega
                  have hw1 : IntKind.i64.wrap ((op.length : Int) + 1 - 1) = (op.length : Int) := by rw [IntKind.wrap_i64]; omega
                  have hne0 : ((op.length : Int) + 1 == 0) = false := by rw [beq_eq_false_iff_ne]; omega
                  have hoi0 : (0 : Int) ≤ (o : Int) := by omega
                  have hoic : (o : Int) < vcap := by omega
                  have hoil : (o : Int) < L.length := by omega
                  have tg := HN2.out.top
                  have HOK : RowKit.Hid (o < k) := Lib.hid ho.1
                  have hlop : (((o :: op).length : Nat) : Int) = (op.length : Int) + 1 := by simp
                  clear hbo hgo2 e0 e2 ho
                  generalize bt s fo = c2 at *
                  rcases hcs with rfl | rfl | rfl
                  · go_wp2_with fail
                    refine (CP.out c2 h256o _).mono ?_
                    rintro e w4 ⟨rfl, rfl⟩
                    by_cases hmt : closer c2 = 41
                    · rw [if_pos hmt] at hgo
                      rw [hmt]
                      have k0 := HN2.out.cell (i := k) (by rw [HPL.out]; omega)
                      have k1 := HN2.out.cell (i := o) (by rw [HPL.out]; omega)
                      have z1 := HN2.out.fzb k
                      have z2 := HN2.out.fzb o
                      have hs1 := HN2.out.set (by omega) k (o : Int)
                      have k2 := hs1.cell (i := o) (by rw [List.length_set, HPL.out]; omega)
                      have z3 := hs1.fzb o
                      clear hs1
                      generalize (p2.set k (o : Int))[o]'_ = v2 at k2
                      have HN3 := Lib.hid ((HN2.out.tail.set (by omega) k (o : Int)).set (by omega) o (k : Int))
                      have HB3 := Lib.hid ((HB2.out.setCell (p := ⟨b, k, none⟩) (Nat.le_of_lt HBE.out) (.int .i64 (o : Int))).setCell (p := ⟨b, o, none⟩) (Nat.le_of_lt HBE.out) (.int .i64 (k : Int)))
                      have HR : RowKit.Hid (∀ W', W' = ((W3.setCell ⟨b, k, none⟩ (.int .i64 (o : Int))).setCell ⟨b, o, none⟩ (.int .i64 (k : Int))).drew → nwRel s L R w1 b (b + 1) (.int .i64 (op.length : Int)) (.int .i64 (m : Int)) (.int .i64 ((k + 1 : Nat) : Int)) W') := Lib.hid (by
                        rintro _ rfl
                        exact ⟨k + 1, op, (p2.set k (o : Int)).set o (k : Int), m, rfl, rfl, rfl, HK1.out, by have := HOL.out; simp only [List.length_cons] at this; omega, HM.out, by rw [List.length_set, List.length_set]; exact HPL.out, (fun x hx => ⟨by have := (HOP.out x (List.mem_cons_of_mem _ hx)).1; omega, (HOP.out x (List.mem_cons_of_mem _ hx)).2⟩), hgo, HN3.out.keep (Below.refl _ _).drew, HB3.out.drew⟩)
                      clear hgo hmt
                      go_wp2_with fail
                      go_region
                      all_goals
                        go_wp2_with fail
                        refine ⟨?_, (by have := HML.out; simp [intOf]; try omega)⟩
                        exact HR.out _ rfl
                    · rw [if_neg hmt] at hgo
                      have HV3 : RowKit.Hid (nestAll s = ([], [], 0, 5, (ff : Int))) := Lib.hid (by rw [HV2.out, ← hgo])
                      have HF3 := Lib.hid (HF1.out.keep HB2.out)
                      have z50 := HF3.out.fz 0; have z51 := HF3.out.fz 1; have c50 := HF3.out.c0; have c51 := HF3.out.c1
                      have HB3 := Lib.hid (bthen HB1.out HB2.out)
                      have hmtb : ((closer c2 : Int) == 41) = false := by rw [beq_eq_false_iff_ne]; omega
                      clear hgo hmt
                      go_wp2_with fail
                      go_region
                      all_goals
                        go_wp2_with fail
                        exact HF.out _ _ _ _ [] [] 0 5 ff HV3.out ((below_fill2 HB3.out (Nat.le_refl _) _ _).drew) (TokRow.none _) (RowInts.none _ _) (NewV.none _) (NewV.none _) (HF3.out.fill _ _) rfl rfl rfl rfl
                  · go_wp2_with fail
                    refine (CP.out c2 h256o _).mono ?_
                    rintro e w4 ⟨rfl, rfl⟩
                    by_cases hmt : closer c2 = 93
                    · rw [if_pos hmt] at hgo
                      rw [hmt]
                      have k0 := HN2.out.cell (i := k) (by rw [HPL.out]; omega)
                      have k1 := HN2.out.cell (i := o) (by rw [HPL.out]; omega)
                      have z1 := HN2.out.fzb k
                      have z2 := HN2.out.fzb o
                      have hs1 := HN2.out.set (by omega) k (o : Int)
                      have k2 := hs1.cell (i := o) (by rw [List.length_set, HPL.out]; omega)
                      have z3 := hs1.fzb o
                      clear hs1
                      generalize (p2.set k (o : Int))[o]'_ = v2 at k2
                      have HN3 := Lib.hid ((HN2.out.tail.set (by omega) k (o : Int)).set (by omega) o (k : Int))
                      have HB3 := Lib.hid ((HB2.out.setCell (p := ⟨b, k, none⟩) (Nat.le_of_lt HBE.out) (.int .i64 (o : Int))).setCell (p := ⟨b, o, none⟩) (Nat.le_of_lt HBE.out) (.int .i64 (k : Int)))
                      have HR : RowKit.Hid (∀ W', W' = ((W3.setCell ⟨b, k, none⟩ (.int .i64 (o : Int))).setCell ⟨b, o, none⟩ (.int .i64 (k : Int))).drew → nwRel s L R w1 b (b + 1) (.int .i64 (op.length : Int)) (.int .i64 (m : Int)) (.int .i64 ((k + 1 : Nat) : Int)) W') := Lib.hid (by
                        rintro _ rfl
                        exact ⟨k + 1, op, (p2.set k (o : Int)).set o (k : Int), m, rfl, rfl, rfl, HK1.out, by have := HOL.out; simp only [List.length_cons] at this; omega, HM.out, by rw [List.length_set, List.length_set]; exact HPL.out, (fun x hx => ⟨by have := (HOP.out x (List.mem_cons_of_mem _ hx)).1; omega, (HOP.out x (List.mem_cons_of_mem _ hx)).2⟩), hgo, HN3.out.keep (Below.refl _ _).drew, HB3.out.drew⟩)
                      clear hgo hmt
                      go_wp2_with fail
                      go_region
                      all_goals
                        go_wp2_with fail
                        refine ⟨?_, (by have := HML.out; simp [intOf]; try omega)⟩
                        exact HR.out _ rfl
                    · rw [if_neg hmt] at hgo
                      have HV3 : RowKit.Hid (nestAll s = ([], [], 0, 5, (ff : Int))) := Lib.hid (by rw [HV2.out, ← hgo])
                      have HF3 := Lib.hid (HF1.out.keep HB2.out)
                      have z50 := HF3.out.fz 0; have z51 := HF3.out.fz 1; have c50 := HF3.out.c0; have c51 := HF3.out.c1
                      have HB3 := Lib.hid (bthen HB1.out HB2.out)
                      have hmtb : ((closer c2 : Int) == 93) = false := by rw [beq_eq_false_iff_ne]; omega
                      clear hgo hmt
                      go_wp2_with fail
                      go_region
                      all_goals
                        go_wp2_with fail
                        exact HF.out _ _ _ _ [] [] 0 5 ff HV3.out ((below_fill2 HB3.out (Nat.le_refl _) _ _).drew) (TokRow.none _) (RowInts.none _ _) (NewV.none _) (NewV.none _) (HF3.out.fill _ _) rfl rfl rfl rfl
                  · go_wp2_with fail
                    refine (CP.out c2 h256o _).mono ?_
                    rintro e w4 ⟨rfl, rfl⟩
                    by_cases hmt : closer c2 = 125
                    · rw [if_pos hmt] at hgo
                      rw [hmt]
                      have k0 := HN2.out.cell (i := k) (by rw [HPL.out]; omega)
                      have k1 := HN2.out.cell (i := o) (by rw [HPL.out]; omega)
                      have z1 := HN2.out.fzb k
                      have z2 := HN2.out.fzb o
                      have hs1 := HN2.out.set (by omega) k (o : Int)
                      have k2 := hs1.cell (i := o) (by rw [List.length_set, HPL.out]; omega)
                      have z3 := hs1.fzb o
                      clear hs1
                      generalize (p2.set k (o : Int))[o]'_ = v2 at k2
                      have HN3 := Lib.hid ((HN2.out.tail.set (by omega) k (o : Int)).set (by omega) o (k : Int))
                      have HB3 := Lib.hid ((HB2.out.setCell (p := ⟨b, k, none⟩) (Nat.le_of_lt HBE.out) (.int .i64 (o : Int))).setCell (p := ⟨b, o, none⟩) (Nat.le_of_lt HBE.out) (.int .i64 (k : Int)))
                      have HR : RowKit.Hid (∀ W', W' = ((W3.setCell ⟨b, k, none⟩ (.int .i64 (o : Int))).setCell ⟨b, o, none⟩ (.int .i64 (k : Int))).drew → nwRel s L R w1 b (b + 1) (.int .i64 (op.length : Int)) (.int .i64 (m : Int)) (.int .i64 ((k + 1 : Nat) : Int)) W') := Lib.hid (by
                        rintro _ rfl
                        exact ⟨k + 1, op, (p2.set k (o : Int)).set o (k : Int), m, rfl, rfl, rfl, HK1.out, by have := HOL.out; simp only [List.length_cons] at this; omega, HM.out, by rw [List.length_set, List.length_set]; exact HPL.out, (fun x hx => ⟨by have := (HOP.out x (List.mem_cons_of_mem _ hx)).1; omega, (HOP.out x (List.mem_cons_of_mem _ hx)).2⟩), hgo, HN3.out.keep (Below.refl _ _).drew, HB3.out.drew⟩)
                      clear hgo hmt
                      go_wp2_with fail
                      go_region
                      all_goals
                        go_wp2_with fail
                        refine ⟨?_, (by have := HML.out; simp [intOf]; try omega)⟩
                        exact HR.out _ rfl
                    · rw [if_neg hmt] at hgo
                      have HV3 : RowKit.Hid (nestAll s = ([], [], 0, 5, (ff : Int))) := Lib.hid (by rw [HV2.out, ← hgo])
                      have HF3 := Lib.hid (HF1.out.keep HB2.out)
                      have z50 := HF3.out.fz 0; have z51 := HF3.out.fz 1; have c50 := HF3.out.c0; have c51 := HF3.out.c1
                      have HB3 := Lib.hid (bthen HB1.out HB2.out)
                      have hmtb : ((closer c2 : Int) == 125) = false := by rw [beq_eq_false_iff_ne]; omega
                      clear hgo hmt
                      go_wp2_with fail
                      go_region
                      all_goals
                        go_wp2_with fail
                        exact HF.out _ _ _ _ [] [] 0 5 ff HV3.out ((below_fill2 HB3.out (Nat.le_refl _) _ _).drew) (TokRow.none _) (RowInts.none _ _) (NewV.none _) (NewV.none _) (HF3.out.fill _ _) rfl rfl rfl rfl
          · have h0 : bch s (8, ff, tt) = 0 := by unfold bch; rw [if_neg (fun g => h1b g.2)]
            have hgo := HGO.out
            rw [h0, if_neg (by decide), if_neg (by decide)] at hgo
            have HSK2 := Lib.hid (HSK.out hgo W3 HN2.out HB2.out)
            have hwd : IntKind.i64.wrap ((tt : Int) - (ff : Int)) = (tt : Int) - (ff : Int) := by rw [IntKind.wrap_i64]; omega
            have hne1 : ((tt : Int) - (ff : Int) == 1) = false := by rw [beq_eq_false_iff_ne]; omega
            clear hgo h0 h1b HGO HSK HN1 HTK0
            go_wp2_with fail
            refine ⟨?_, (by have := HML.out; simp [intOf]; try omega)⟩
            first
              | exact HSK2.out
              | (repeat apply Exists.intro
                 refine ⟨?_, rfl⟩
                 exact HSK2.out)
        · have h0 : bch s (kk, ff, tt) = 0 := by unfold bch; rw [if_neg (fun g => h8 g.1)]
          have hgo := HGO.out
          rw [h0, if_neg (by decide), if_neg (by decide)] at hgo
          have HSK2 := Lib.hid (HSK.out hgo W3 HN2.out HB2.out)
          have hne8 : (kk == 8) = false := by rw [beq_eq_false_iff_ne]; exact h8
          clear hgo h0 h8 HGO HSK HN1 HTK0
          go_wp2_with fail
          refine ⟨?_, (by have := HML.out; simp [intOf]; try omega)⟩
          first
            | exact HSK2.out
            | (repeat apply Exists.intro
               refine ⟨?_, rfl⟩
               exact HSK2.out)
      · have hlt' : ¬ (k : Int) < L.length := by omega
        rw [List.drop_of_length_le (by omega)] at hgo
        cases op with
        | nil =>
          rw [nestGo] at hgo
          have HV3 : RowKit.Hid (nestAll s = (L, p, (m : Int), 0, 0)) := Lib.hid (by rw [HV2.out, ← hgo])
          have HF3 := Lib.hid (HF1.out.keep HB.out)
          have z50 := HF3.out.fz 0; have z51 := HF3.out.fz 1; have c50 := HF3.out.c0; have c51 := HF3.out.c1
          have HB3 := Lib.hid (bthen HB1.out HB.out)
          have HNA := Lib.hid (HR1.out.below HB.out)
          have HRP := HN.out.row
          rw [HP.out] at HRP
          have HRP := Lib.hid HRP
          have HN1' : RowKit.Hid (NewV (w.heap.size + 1) (.slice va L.length vcap)) := HNV
          have HN2' : RowKit.Hid (NewV (w.heap.size + 1) (.slice (some ⟨b, 0, none⟩) L.length L.length)) := Lib.hid (fun x e => by
            simp [Value.ownBlock] at e; have := HLT.out; have := HBE.out; omega)
          clear hgo
          go_wp2_with fail
          exact HF.out _ _ _ _ L p m 0 0 HV3.out (below_fill2 HB3.out (Nat.le_refl _) _ _) ((HNA.out.setCell (HN1'.out.ne (by simp)) _).setCell (HN1'.out.ne (by simp)) _) ((HRP.out.setCell (HN2'.out.ne (by simp)) _).setCell (HN2'.out.ne (by simp)) _) (HN1'.out.mono (by omega)) (HN2'.out.mono (by omega)) (HF3.out.fill _ _) rfl rfl rfl rfl
        | cons o op =>
          rw [nestGo] at hgo
          have ho := HOP.out o List.mem_cons_self
          obtain ⟨b1, rfl, _, hcp, e0, e1, e2⟩ := HR1.out.at HB.out (show o < L.length by omega)
          have hgo2 : L.getD o (0, 0, 0) = L[o] := by rw [List.getD_eq_getElem?_getD, List.getElem?_eq_getElem (by omega)]; rfl
          rw [hgo2] at hgo
          generalize L[o] = t2 at *
          obtain ⟨ko, fo, eo⟩ := t2
          simp only [] at e0 e1 e2 hgo
          have HV3 : RowKit.Hid (nestAll s = ([], [], 0, 5, (fo : Int))) := Lib.hid (by rw [HV2.out, ← hgo])
          have HF3 := Lib.hid (HF1.out.keep HB.out)
          have z50 := HF3.out.fz 0; have z51 := HF3.out.fz 1; have c50 := HF3.out.c0; have c51 := HF3.out.c1
          have HB3 := Lib.hid (bthen HB1.out HB.out)
          have hol0 : (0 : Int) ≤ (op.length : Int) := by omega
          have holl : (op.length : Int) < 100 := by have := HOL.out; simp only [List.length_cons] at this; omega
          have hw1 : IntKind.i64.wrap ((op.length : Int) + 1 - 1) = (op.length : Int) := by rw [IntKind.wrap_i64]; omega
          have hgt0 : (0 : Int) < (op.length : Int) + 1 := by omega
          have hoi0 : (0 : Int) ≤ (o : Int) := by omega
          have hoic : (o : Int) < vcap := by omega
          have hoil : (o : Int) < L.length := by omega
          have tg := HN.out.top
          clear hgo hgo2 ho
          go_wp2_with fail
          go_region
          all_goals
            go_wp2_with fail
            exact HF.out _ _ _ _ [] [] 0 5 fo HV3.out ((below_fill2 HB3.out (Nat.le_refl _) _ _).drew) (TokRow.none _) (RowInts.none _ _) (NewV.none _) (NewV.none _) (HF3.out.fill _ _) rfl rfl rfl rfl
  · have hv := HV.out
    rw [if_neg (fun h => her h.1)] at hv
    have HV2 := Lib.hid hv
    have hern : (er != 0) = true := by simpa using her
    have herb : (er == 0) = false := by rw [beq_eq_false_iff_ne]; exact her
    clear hv HV
    have z50 := HF2.out.fz 0; have z51 := HF2.out.fz 1; have c50 := HF2.out.c0; have c51 := HF2.out.c1
    go_wp2_with fail
    generalize w1.alloc (.cells #[.int .i64 er, .int .i64 ea] 27) = W0 at *
    go_region
    all_goals
      go_wp2_with fail
      exact HF.out _ _ _ _ [] [] 0 er ea HV2.out ((below_fill2 HA1.out (Nat.le_refl _) _ _).drew) (TokRow.none _) (RowInts.none _ _) (NewV.none _) (NewV.none _) (HF2.out.fill _ _) rfl rfl rfl rfl
end Go.Proofs.YtelfobnmiphdnaaGreatDoor
