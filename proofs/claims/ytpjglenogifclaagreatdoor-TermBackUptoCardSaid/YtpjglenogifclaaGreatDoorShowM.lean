/- Layer 11: the program's Show, walked. -/
import Derived.Test.YtpjglenogifclaaGreatDoorShowPM
import Derived.Test.YtpjglenogifclaaGreatDoorTermSameM
import Derived.Deep.CutRange
import Derived.Deep.CutBlock
namespace Go.Proofs.YtpjglenogifclaaGreatDoor
set_option linter.all false
open Go.RowKit

theorem info_byte : (Tryz.prog.info? 5).map (fun i => (i.zero, i.size, i.bytes)) = some (some (.int .u8 0), 1, 1) := by kernel_rfl
def natV (l : List Nat) : List Value := l.map fun (x : Nat) => Value.int .i64 (x : Int)
theorem natV_len (l : List Nat) : (natV l).length = l.length := by simp [natV]
/-- What Show holds in a round: the text so far, the ends of the parts that are open. -/
structure ShW (B : Nat) (w0 : World) (L : List UInt8) (st : List Nat) (o lf : Value) (W : World) : Prop where
  out : W.ownsRow B 5 1 o L.length (Lib.byteCells L)
  left : W.ownsRow B 3 1 lf st.length (natV st.reverse)
  below : Below B w0 W
  base : B ≤ W.heap.size
theorem ShW.alloc {B : Nat} {w0 W : World} {L : List UInt8} {st : List Nat} {o lf : Value} (h : ShW B w0 L st o lf W) (c : Obj) : ShW B w0 L st o lf (W.alloc c) :=
  ⟨h.out.alloc c, h.left.alloc c, h.below.alloc h.base c, by simp; have := h.base; omega⟩
/-- A byte more. -/
theorem ShW.byte {B : Nat} {w0 W : World} {L : List UInt8} {st : List Nat} {o lf : Value} (h : ShW B w0 L st o lf W) (c : UInt8) (hL : L.length ≤ 1000000000000) :
    ∃ o' w', (Builtin.append_ #[56, 56] 56 #[o, .slice (some ⟨W.heap.size, 0, none⟩) 1 1]).run Tryz.prog (W.alloc (.cells #[.int .u8 (c.toNat : Int)] 5)) = .ok o' w' ∧ ShW B w0 (L ++ [c]) st o' lf w' ∧ ∀ (g : Nat) (cs : Array Value) (t : TypeId) (fr : Nat × Nat), t ≠ 5 → W.heap[g]? = some (Obj.cells cs t fr) → w'.heap[g]? = some (Obj.cells cs t fr) := by
  obtain ⟨o', w', h1, h2, h3, _⟩ := append_lit_eq (P := Tryz.prog) W #[.int .u8 (c.toNat : Int)] 5 56 56 5 Tryz.underlying56 B info_byte rfl (by decide) o L.length _ h.out 1 1 rfl (Nat.le_refl _) (by intro u hu; simp at hu; subst hu; rfl) (by omega) (by omega) h.base
  refine ⟨o', w', h1, ⟨?_, grown_row (h.out.alloc _) h3 (h.left.alloc _) (by decide), ?_, ?_⟩, fun g cs t fr ht hg => ?_⟩
  · rw [byteCells_app, List.length_append]; exact h2
  · exact grown_keeps (h.below.alloc h.base _) (by simp; have := h.base; omega) (h.out.alloc _) h3
  · have := h3.size; simp at this; have := h.base; omega
  · exact grown_block (h.out.alloc _) h3 (by rw [Below.heap_alloc _ _ _ (keeps_lt hg)]; exact hg) ht
/-- A part more is open. -/
theorem ShW.push {B : Nat} {w0 W : World} {L : List UInt8} {st : List Nat} {o lf : Value} (h : ShW B w0 L st o lf W) (e : Nat) (hL : st.length ≤ 1000000000000) :
    ∃ o' w', (Builtin.append_ #[41, 41] 41 #[lf, .slice (some ⟨W.heap.size, 0, none⟩) 1 1]).run Tryz.prog (W.alloc (.cells #[.int .i64 (e : Int)] 3)) = .ok o' w' ∧ ShW B w0 L (e :: st) o o' w' ∧ ∀ (g : Nat) (cs : Array Value) (t : TypeId) (fr : Nat × Nat), t ≠ 3 → W.heap[g]? = some (Obj.cells cs t fr) → w'.heap[g]? = some (Obj.cells cs t fr) := by
  obtain ⟨o', w', h1, h2, h3, _⟩ := append_lit_eq (P := Tryz.prog) W #[.int .i64 (e : Int)] 3 41 41 3 Tryz.underlying41 B Tinfo_int rfl (by decide) lf st.length _ h.left 1 1 rfl (Nat.le_refl _) (by intro u hu; simp at hu; subst hu; rfl) (by omega) (by omega) h.base
  refine ⟨o', w', h1, ⟨grown_row (h.left.alloc _) h3 (h.out.alloc _) (by decide), ?_, ?_, ?_⟩, fun g cs t fr ht hg => ?_⟩
  · have : natV (e :: st).reverse = natV st.reverse ++ [.int .i64 (e : Int)] := by simp [natV]
    rw [this, List.length_cons]; exact h2
  · exact grown_keeps (h.below.alloc h.base _) (by simp; have := h.base; omega) (h.left.alloc _) h3
  · have := h3.size; simp at this; have := h.base; omega
  · exact grown_block (h.left.alloc _) h3 (by rw [Below.heap_alloc _ _ _ (keeps_lt hg)]; exact hg) ht
/-- A part less is open. -/
theorem ShW.pop {B : Nat} {w0 W : World} {L : List UInt8} {e : Nat} {r : List Nat} {o : Value} {g c : Nat} (h : ShW B w0 L (e :: r) o (.slice (some ⟨g, 0, none⟩) (r.length + 1) c) W) : ShW B w0 L r o (.slice (some ⟨g, 0, none⟩) r.length c) W := by
  refine ⟨h.out, ?_, h.below, h.base⟩
  have := ownsRow_take h.left (k := r.length) (by simp)
  rw [Nat.mul_one] at this
  have e1 : (natV (e :: r).reverse).take r.length = natV r.reverse := by
    unfold natV
    rw [List.reverse_cons, List.map_append, List.take_append_of_le_length (by simp), List.take_of_length_le (by simp)]
  rw [e1] at this
  exact this
/-- A string more. -/
theorem ShW.str {B : Nat} {w0 W : World} {L : List UInt8} {st : List Nat} {o lf : Value} (h : ShW B w0 L st o lf W) (s : ByteArray) (hL : L.length + s.size ≤ 1000000000000) :
    ∃ o' w', (Builtin.append_ #[56, 9] 56 #[o, .string s]).run Tryz.prog W = .ok o' w' ∧ ShW B w0 (L ++ s.data.toList) st o' lf w' ∧ ∀ (g : Nat) (cs : Array Value) (t : TypeId) (fr : Nat × Nat), t ≠ 5 → W.heap[g]? = some (Obj.cells cs t fr) → w'.heap[g]? = some (Obj.cells cs t fr) := by
  obtain ⟨o', w', h1, h2, h3⟩ := append_str_eq (P := Tryz.prog) W 56 9 56 5 Tryz.underlying56 Tryz.underlying9 B info_byte o L.length _ h.out s (by omega) h.base
  refine ⟨o', w', h1, ⟨?_, grown_row h.out h3 h.left (by decide), grown_keeps h.below h.base h.out h3, ?_⟩, fun g cs t fr ht hg => grown_block h.out h3 hg ht⟩
  · rw [byteCells_app, List.length_append]
    have e : s.data.toList.length = s.size := (size_data s).symm
    rw [e]; exact h2
  · have := h3.size; have := h.base; omega
/-- A number more. -/
theorem ShW.num {B : Nat} {w0 W : World} {L : List UInt8} {st : List Nat} {o lf : Value} (h : ShW B w0 L st o lf W) (n : Nat) (hn : n < 256) (hL : L.length ≤ 1000000000000) (hP : Lib.TabIs Tryz.prog W "internal/strconv.uint64pow10" .u64 Lib.pow10Tab) :
    Calls Tryz.prog 38 #[o, .int .u64 (n : Int), .int .i64 10] W fun e w' => ∃ o', e = .returned o' ∧ ShW B w0 (L ++ Lib.decDigits n) st o' lf w' ∧ ∀ (g : Nat) (cs : Array Value) (t : TypeId) (fr : Nat × Nat), t ≠ 5 → W.heap[g]? = some (Obj.cells cs t fr) → w'.heap[g]? = some (Obj.cells cs t fr) := by
  have key : ∀ (o' : Value) (w' : World), w'.ownsRow B 5 1 o' (L.length + (Lib.decDigits n).length) (Lib.byteCells L ++ Lib.byteCells (Lib.decDigits n)) → Below B W w' → Lib.OthersKept 5 none W w' → ShW B w0 (L ++ Lib.decDigits n) st o' lf w' ∧ ∀ (g : Nat) (cs : Array Value) (t : TypeId) (fr : Nat × Nat), t ≠ 5 → W.heap[g]? = some (Obj.cells cs t fr) → w'.heap[g]? = some (Obj.cells cs t fr) := fun o' w' h1 h2 h3 => by
    have keep : ∀ (g : Nat) (cs : Array Value) (t : TypeId) (fr : Nat × Nat), t ≠ 5 → W.heap[g]? = some (Obj.cells cs t fr) → w'.heap[g]? = some (Obj.cells cs t fr) := fun g cs t fr ht hg => h3 g _ hg (by simp) (fun c fz e => ht (by cases e; rfl))
    refine ⟨⟨?_, ?_, h.below.trans h2, Nat.le_trans h.base h2.size⟩, keep⟩
    · rw [byteCells_app, List.length_append]; exact h1
    · obtain ⟨q1, q2⟩ := h.left
      refine ⟨q1, ?_⟩
      rcases q2 with q2 | ⟨k, cap, cur, hv, hk, hh, r⟩
      · exact Or.inl q2
      · exact Or.inr ⟨k, cap, cur, hv, hk, keep _ _ _ _ (by decide) hh, r⟩
  have C : Calls Tryz.prog 56 #[o, .int .u64 (n : Int), .int .i64 10] W fun e w' => True ∧ ∃ o', e = .returned o' ∧ ShW B w0 (L ++ Lib.decDigits n) st o' lf w' ∧ ∀ (g : Nat) (cs : Array Value) (t : TypeId) (fr : Nat × Nat), t ≠ 5 → W.heap[g]? = some (Obj.cells cs t fr) → w'.heap[g]? = some (Obj.cells cs t fr) := by
    by_cases hc : n < 100
    · refine (Tryz.internal_strconv_AppendUint_10_small B L.length n hc o _ W h.out h.base (by omega)).mono ?_
      rintro e w' ⟨o', rfl, g1, g2, g3⟩
      exact ⟨trivial, o', rfl, key o' w' g1 g2 g3⟩
    · refine (Tryz.internal_strconv_AppendUint_10_big B L.length n (by omega) (by omega) o _ W h.out h.base (by omega) hP).mono ?_
      rintro e w' ⟨o', rfl, g1, g2, g3⟩
      exact ⟨trivial, o', rfl, key o' w' g1 g2 g3⟩
  have HC := Lib.hid C
  have HQ : RowKit.Hid (∀ o' w', ShW B w0 (L ++ Lib.decDigits n) st o' lf w' → (∀ (g : Nat) (cs : Array Value) (t : TypeId) (fr : Nat × Nat), t ≠ 5 → W.heap[g]? = some (Obj.cells cs t fr) → w'.heap[g]? = some (Obj.cells cs t fr)) → (fun (e : Ending) w' => ∃ o', e = .returned o' ∧ ShW B w0 (L ++ Lib.decDigits n) st o' lf w' ∧ ∀ (g : Nat) (cs : Array Value) (t : TypeId) (fr : Nat × Nat), t ≠ 5 → W.heap[g]? = some (Obj.cells cs t fr) → w'.heap[g]? = some (Obj.cells cs t fr)) (.returned o') w') := Lib.hid fun o' w' h1 h2 => ⟨o', rfl, h1, h2⟩
  generalize (fun (e : Ending) w' => ∃ o', e = .returned o' ∧ ShW B w0 (L ++ Lib.decDigits n) st o' lf w' ∧ ∀ (g : Nat) (cs : Array Value) (t : TypeId) (fr : Nat × Nat), t ≠ 5 → W.heap[g]? = some (Obj.cells cs t fr) → w'.heap[g]? = some (Obj.cells cs t fr)) = Q at *
  clear key C hP h
  go_enter Tryz.func38, Tryz.ntmps38
  go_wp2_with fail
  refine HC.out.mono ?_
  rintro e w1 ⟨_, o', rfl, g1, g2⟩
  have H1 := Lib.hid (HQ.out o' w1 g1 g2)
  clear g1 g2
  go_wp2_with fail
  exact H1.out
theorem quote_le (s : ByteArray) : (quote s).size ≤ 2 + 4 * s.size := by
  have h := quoteTo_len s s.size
  unfold quote
  rw [strOfNums_size, quoteTo_all, List.length_append, List.length_cons, List.length_nil]
  omega
/-- What Show answers. -/
@[irreducible] def showPost (q : List UInt8 × Int) (w0 : World) (e : Ending) (w' : World) : Prop :=
  e = .returned (.tuple #[.string ⟨q.1.toArray⟩, .int .i64 q.2]) ∧ Below w0.heap.size w0 w'
/-- What holds at the loop's head. -/
def shRel (l : List Prt) (T : List UInt8) (B : Nat) (w0 : World) (o lf i : Value) (W : World) : Prop :=
  ∃ (k : Nat) (L : List UInt8) (st : List Nat), i = .int .i64 (k : Int) ∧ k ≤ l.length ∧ L.length ≤ 1048576 ∧ st.length ≤ k ∧ ShW B w0 L st o lf W ∧ L ++ showG l (l.drop k) k st = T
/-- How long a slice is. -/
def lenOf : Value → Nat
  | .slice _ n _ => n
  | _ => 0
/-- What holds at the inner loop's head. -/
def inRel (k : Nat) (Lf : List UInt8) (Sf : List Nat) (B : Nat) (w0 : World) (o lf : Value) (W : World) : Prop :=
  ∃ (L : List UInt8) (st : List Nat), ShW B w0 L st o lf W ∧ L ++ List.replicate (popN k st) 41 = Lf ∧ popS k st = Sf ∧ st.length ≤ k + 1
set_option maxRecDepth 100000 in
set_option maxHeartbeats 16000000 in
theorem term_Show (l : List Prt) (hl : l.length ≤ 1000000000) (hf : ∀ p ∈ l, p.1 < 256 ∧ p.2.2.size ≤ 2147483647) (v : Value) (w : World) (hP : Lib.TabIs Tryz.prog w "internal/strconv.uint64pow10" .u64 Lib.pow10Tab) (hr : PartRow w v l) :
    Calls Tryz.prog 17 #[v] w (showPost (showZ l) w) := by
  have HQ : RowKit.Hid (∀ q w', showZ l = q → Below w.heap.size w w' → showPost (showZ l) w (.returned (.tuple #[.string ⟨q.1.toArray⟩, .int .i64 q.2])) w') := Lib.hid fun q w' h hb => by
    unfold showPost; rw [h]; exact ⟨rfl, hb⟩
  generalize showPost (showZ l) w = Q at *
  have HR := Lib.hid hr
  have HF := Lib.hid hf
  have HP := Lib.hid (Lib.tabBelow_of_tabIs hP)
  have C1 := Lib.hid (term_well l hl v w hr)
  obtain ⟨va, vcap, rfl, hvc⟩ := hr.slice
  clear hr hf hP
  go_enter Tryz.func17, Tryz.ntmps17
  go_wp2_with fail
  refine C1.out.mono ?_
  intro e w1 h1
  unfold wellPost at h1
  obtain ⟨v1, rfl, hb1, hr1, a1, n1, c1, rfl⟩ := h1
  have HB1 := Lib.hid hb1
  have HE1 := Lib.hid hr1
  have HR1 := Lib.hid (HR.out.below hb1)
  clear hb1 hr1 C1 HR
  cases hw : wellB l with
  | false =>
    have HX := Lib.hid (HQ.out ([], 8) w1 (by unfold showZ; rw [hw]; rfl) HB1.out)
    clear hw
    go_wp2_with fail
    exact HX.out
  | true =>
    have HZ := Lib.hid (show showZ l = if 1048576 < (showT l).length then ([], 2) else (showT l, 0) by unfold showZ; rw [hw]; rfl)
    have hl0 := (well_zero hw).1
    obtain ⟨eb, eoff, rfl, hen, hec, _⟩ := ints_at (HE1.out hw) (Below.refl _ _) (by rw [endsL_length]; exact hl0)
    rw [endsL_length] at hen hec
    subst hen
    have HEC : RowKit.Hid (∀ W', Below w1.heap.size w1 W' → ∀ k, k < l.length → W'.cell? ⟨eb, eoff + k, none⟩ = some (.int .i64 (endB l k : Int))) := Lib.hid fun W' hb k hk => by
      obtain ⟨b', off', hbb, _, _, hcell⟩ := ints_at (HE1.out hw) hb (by rw [endsL_length]; exact hl0)
      simp only [Option.some.injEq, Addr.mk.injEq, and_true] at hbb
      obtain ⟨rfl, rfl⟩ := hbb
      exact hcell k _ (endsL_get hk)
    obtain ⟨lb, loff, rfl, _, _, _, _⟩ := HR1.out.at (Below.refl _ _) hl0
    have HW := Lib.hid hw
    clear hw HE1
    generalize hT : showT l = T at *
    have HT := Lib.hid hT
    clear hT
    go_wp2_with fail
    go_loopw [6, 7, 19] (fun o lf i wr => shRel l T w1.heap.size w1 o lf i wr) (fun _ _ i _ => l.length - (intOf i).toNat)
    case atStart => exact ⟨0, [], [], rfl, Nat.zero_le _, by simp, Nat.le_refl _, ⟨World.ownsRow_nil _ _ _ _, World.ownsRow_nil _ _ _ _, Below.refl _ _, Nat.le_refl _⟩, HT.out⟩
    case round =>
      obtain ⟨k, L, st, rfl, hk, hLl, hst, hS, hfin⟩ := hrel
      have HS := Lib.hid hS
      have HFIN := Lib.hid hfin
      clear hS hfin
      by_cases hlt : k < l.length
      · have hkl : (k : Int) < l.length := by omega
        obtain ⟨b1, o1, hbb, _, _, _, hc1⟩ := HR1.out.at HS.out.below hl0
        simp only [Option.some.injEq, Addr.mk.injEq, and_true] at hbb
        obtain ⟨rfl, rfl⟩ := hbb
        obtain ⟨d0, d1, d2⟩ := hc1 k hlt
        have hk0 : (0 : Int) ≤ k := by omega
        have hkc : (k : Int) < vcap := by omega
        have hwk : IntKind.i64.wrap ((k : Int) + 1) = (k : Int) + 1 := by rw [IntKind.wrap_i64]; omega
        obtain ⟨hk256, hsz⟩ := HF.out _ (List.getElem_mem hlt)
        have hstep := HFIN.out
        rw [List.drop_eq_getElem_cons hlt, showG] at hstep
        have HSTEP := Lib.hid hstep
        clear hc1 hstep
        generalize l[k] = x at *
        obtain ⟨xk, xn, xw⟩ := x
        simp only [] at d0 d1 d2 hk256 hsz
        go_upto_if 25 with (fail)
        have HS0 := Lib.hid (HS.out.alloc (.cells #[.int .u8 (xk : Int), .int .i64 xn, .string xw] 28))
        have HG0 : RowKit.Hid (PK _ wr.heap.size (xk, xn, xw)) := Lib.hid (PK.alloc_new wr (xk, xn, xw))
        clear d0 d1 d2 HS
        generalize wr.alloc (.cells #[.int .u8 (xk : Int), .int .i64 xn, .string xw] 28) = W0 at *
        generalize wr.heap.size = g at *
        go_cut [6] from 20 to 80 (fun s6 W => ShW w1.heap.size w1 (L ++ sp k) st s6 u7 W ∧ PK W g (xk, xn, xw))
        case first =>
          by_cases hz : k = 0
          · have hz' : ¬ (0 : Int) < (k : Int) := by omega
            have HX : RowKit.Hid (ShW w1.heap.size w1 (L ++ sp k) st u6 u7 W0 ∧ PK W0 g (xk, xn, xw)) := Lib.hid ⟨by unfold sp; rw [if_pos hz, List.append_nil]; exact HS0.out, HG0.out⟩
            clear hz
            go_wp2_with fail
            go_meet
            case rel => exact HX.out
          · have hz' : (0 : Int) < (k : Int) := by omega
            obtain ⟨o', w', hrun, h2, h3⟩ := HS0.out.byte 32 (by omega)
            have HX : RowKit.Hid (ShW w1.heap.size w1 (L ++ sp k) st o' u7 w' ∧ PK w' g (xk, xn, xw)) := Lib.hid ⟨by unfold sp; rw [if_neg hz]; exact h2, h3 _ _ _ _ (by decide) HG0.out⟩
            clear hz h2 h3
            go_wp2_with (at_builtin; refine wpList_append_run rfl _ _ _ _ hrun rfl rfl rfl rfl ?_)
            go_meet
            case rel => exact HX.out
        case rest =>
          obtain ⟨hS1, hG1⟩ := hcut
          have hsp : (sp k).length ≤ 1 := by unfold sp; split <;> simp
          have hlen1 : (L ++ sp k).length ≤ 1048577 := by rw [List.length_append]; omega
          obtain ⟨o2, w2, hrun2, hS2, hK2⟩ := hS1.byte 40 (by omega)
          have HG2 := Lib.hid (show PK w2 g (xk, xn, xw) from hK2 _ _ _ _ (by decide) hG1)
          have HL2 : RowKit.Hid ((L ++ sp k ++ [40]).length ≤ 1048578) := Lib.hid (by simp only [List.length_append, List.length_cons, List.length_nil] at *; omega)
          have HS2 := Lib.hid hS2
          have CN := Lib.hid (hS2.num xk hk256 (by have := HL2.out; omega) (HP.out _ (bthen HB1.out hS2.below)))
          have p0 := HG2.out.c0
          clear hS1 hG1 hS2 hK2 hlen1
          go_upto_region 12 with (at_builtin; refine wpList_append_run rfl _ _ _ _ hrun2 rfl rfl rfl rfl ?_)
          clear hrun2
          go_wp2_with fail
          refine CN.out.mono ?_
          rintro e w3 ⟨o3, rfl, hS3, hK3⟩
          have hd3 : (Lib.decDigits xk).length ≤ 3 := by
            rw [Lib.decDigits_length]
            by_cases h10 : xk < 10
            · rw [Lib.nDigits_small h10]; omega
            · rw [Lib.nDigits_big (by omega)]
              by_cases h100 : xk / 10 < 10
              · rw [Lib.nDigits_small h100]; omega
              · rw [Lib.nDigits_big (by omega), Lib.nDigits_small (by omega)]; omega
          have HG3 := Lib.hid (show PK w3 g (xk, xn, xw) from hK3 _ _ _ _ (by decide) HG2.out)
          have HL3 : RowKit.Hid ((L ++ sp k ++ [40] ++ Lib.decDigits xk).length ≤ 1048581) := Lib.hid (by have := HL2.out; rw [List.length_append]; omega)
          have HS3 := Lib.hid hS3
          clear hS3 hK3 hd3 HS2 HG2 HL2 CN p0
          have q2 := HG3.out.c2
          go_upto_if 39 with (fail)
          go_cut [6] from 20 to 80 (fun s6 W => ShW w1.heap.size w1 (L ++ sp k ++ opn (xk, xn, xw)) st s6 u7 W ∧ PK W g (xk, xn, xw) ∧ (L ++ sp k ++ opn (xk, xn, xw)).length ≤ 100000000000)
          case first =>
            cases he : xw.toList.isEmpty with
            | true =>
              have e1 : L ++ sp k ++ [40] ++ Lib.decDigits xk = L ++ sp k ++ opn (xk, xn, xw) := by
                unfold opn; rw [he]; simp
              have HX : RowKit.Hid (ShW w1.heap.size w1 (L ++ sp k ++ opn (xk, xn, xw)) st o3 u7 w3 ∧ PK w3 g (xk, xn, xw) ∧ (L ++ sp k ++ opn (xk, xn, xw)).length ≤ 100000000000) := Lib.hid ⟨e1 ▸ HS3.out, HG3.out, by have := HL3.out; rw [e1] at this; omega⟩
              have he2 : xw.toList = [] := by simpa using he
              clear e1
              go_wp2_with fail
              go_meet
              case rel => exact HX.out
            | false =>
              obtain ⟨o4, w4, hrun4, hS4, hK4⟩ := HS3.out.byte 32 (by have := HL3.out; omega)
              have HG4 := Lib.hid (show PK w4 g (xk, xn, xw) from hK4 _ _ _ _ (by decide) HG3.out)
              have HS4 := Lib.hid hS4
              have CQ := Lib.hid (quoted_Quote xw w4 hsz)
              have r2 := HG4.out.c2
              have hqs := quote_le xw
              clear hS4 hK4
              go_upto_region 15 with (at_builtin; refine wpList_append_run rfl _ _ _ _ hrun4 rfl rfl rfl rfl ?_)
              clear hrun4
              go_wp2_with fail
              refine CQ.out.mono ?_
              rintro e w5 ⟨rfl, hb5⟩
              have hS5 : ShW w1.heap.size w1 (L ++ sp k ++ [40] ++ Lib.decDigits xk ++ [32]) st o4 u7 w5 := ⟨owns_below HS4.out.out hb5, owns_below HS4.out.left hb5, HS4.out.below.trans (hb5.mono HS4.out.base), Nat.le_trans HS4.out.base hb5.size⟩
              have hG5 := HG4.out.keep hb5
              obtain ⟨o6, w6, hrun6, hS6, hK6⟩ := hS5.str (quote xw) (by have := HL3.out; simp only [List.length_append, List.length_cons, List.length_nil] at *; omega)
              have e1 : L ++ sp k ++ [40] ++ Lib.decDigits xk ++ [32] ++ (quote xw).data.toList = L ++ sp k ++ opn (xk, xn, xw) := by
                unfold opn; rw [he]; simp
              have e2 : (quote xw).data.toList.length = (quote xw).size := (size_data _).symm
              have HX : RowKit.Hid (ShW w1.heap.size w1 (L ++ sp k ++ opn (xk, xn, xw)) st o6 u7 w6 ∧ PK w6 g (xk, xn, xw) ∧ (L ++ sp k ++ opn (xk, xn, xw)).length ≤ 100000000000) := Lib.hid ⟨e1 ▸ hS6, hK6 _ _ _ _ (by decide) hG5, by rw [← e1]; have := HL3.out; simp only [List.length_append, List.length_cons, List.length_nil] at *; omega⟩
              clear e1 e2 hS5 hG5 hS6 hK6
              go_wp2_with (at_builtin; refine wpList_append_run rfl _ _ _ _ hrun6 rfl rfl rfl rfl ?_)
              go_meet
              case rel => exact HX.out
          case rest =>
            obtain ⟨hS7, hG7, hL7⟩ := hcut
            have q7 := HEC.out _ hS7.below k hlt
            have hkc1 : (k : Int) < c1 := by omega
            obtain ⟨o8, w8, hrun8, hS8, hK8⟩ := hS7.push (endB l k) (by omega)
            have HS8 := Lib.hid hS8
            have HL7 := Lib.hid hL7
            clear hS7 hG7 hS8 hK8 HS3 HG3 HL3 q2
            generalize endB l k = ek at *
            go_upto_block 2 with (at_builtin; refine wpList_append_run rfl _ _ _ _ hrun8 rfl rfl rfl rfl ?_)
            have HFE : RowKit.Hid (((L ++ sp k ++ opn (xk, xn, xw)) ++ List.replicate (popN k (ek :: st)) 41) ++ showG l (l.drop (k + 1)) (k + 1) (popS k (ek :: st)) = T) := Lib.hid (by rw [← HSTEP.out]; simp only [List.append_assoc])
            have hpl := popN_le k (ek :: st)
            have HLF : RowKit.Hid (((L ++ sp k ++ opn (xk, xn, xw)) ++ List.replicate (popN k (ek :: st)) 41).length ≤ 102000000000) := Lib.hid (by have := HL7.out; rw [List.length_append, List.length_replicate]; simp only [List.length_cons] at hpl; omega)
            have HSF : RowKit.Hid ((popS k (ek :: st)).length ≤ k + 1) := Lib.hid (by simp only [List.length_cons] at hpl; omega)
            have HI0 : RowKit.Hid (inRel k ((L ++ sp k ++ opn (xk, xn, xw)) ++ List.replicate (popN k (ek :: st)) 41) (popS k (ek :: st)) w1.heap.size w1 u6 o8 w8) := Lib.hid ⟨_, _, HS8.out, rfl, rfl, by simp; omega⟩
            clear hpl HS8 HL7 HSTEP
            generalize (L ++ sp k ++ opn (xk, xn, xw)) ++ List.replicate (popN k (ek :: st)) 41 = Lf at *
            generalize popS k (ek :: st) = Sf at *
            clear hrun8 q7
            go_wp2_with fail
            go_loopw [6, 7] (fun o lf W => inRel k Lf Sf w1.heap.size w1 o lf W) (fun _ lf _ => lenOf lf)
            case atStart => exact HI0.out
            case round =>
              obtain ⟨L2, st2, hS2, hLf, hSf, hsl⟩ := hrel
              have HS2 := Lib.hid hS2
              have HLfe := Lib.hid hLf
              have HSfe := Lib.hid hSf
              obtain ⟨_, oa, oc, rfl, hoc, _, _⟩ := Row.of_owns hS2.out
              obtain ⟨_, la, lc, rfl, hlc, _, _⟩ := Row.of_owns hS2.left
              have hL2 : L2.length ≤ 102000000000 := by have := HLF.out; rw [← hLf, List.length_append] at this; omega
              have HL2 := Lib.hid hL2
              clear hS2 hLf hSf hL2
              have HEX : RowKit.Hid (popN k st2 = 0 → popS k st2 = st2 → ShW w1.heap.size w1 Lf Sf (.slice oa L2.length oc) (.slice la st2.length lc) wr ∧ L2 = Lf) := Lib.hid fun h1 h2 => by
                have a := HLfe.out; have b := HSfe.out
                rw [h1, List.replicate_zero, List.append_nil] at a
                rw [h2] at b
                subst a; subst b
                exact ⟨HS2.out, rfl⟩
              cases st2 with
              | nil =>
                obtain ⟨hS3, rfl⟩ := HEX.out rfl rfl
                have HS3 := Lib.hid hS3
                clear hS3 HEX
                simp only [List.length_nil] at *
                go_upto_region 20 with (fail)
                by_cases hbig : 1048576 < L2.length
                · have hbi : (1048576 : Int) < (L2.length : Int) := by omega
                  have HX := Lib.hid (HQ.out ([], 2) wr (by rw [HZ.out, if_pos (by rw [← HFE.out, List.length_append]; omega)]) (bthen HB1.out HS3.out.below))
                  clear hbig
                  go_wp2_with fail
                  exact HX.out
                · have hbi : ¬ (1048576 : Int) < (L2.length : Int) := by omega
                  have HNX : RowKit.Hid (shRel l T w1.heap.size w1 _ _ (.int .i64 ((k + 1 : Nat) : Int)) wr) := Lib.hid ⟨k + 1, L2, _, rfl, hlt, by omega, HSF.out, HS3.out, HFE.out⟩
                  have HML : RowKit.Hid (l.length - (k + 1) < l.length - k) := Lib.hid (by omega)
                  clear hbig
                  go_wp2_with fail
                  refine ⟨?_, (by have := HML.out; simp [intOf]; try omega)⟩
                  first
                    | exact HNX.out
                    | (repeat apply Exists.intro
                       refine ⟨?_, rfl⟩
                       exact HNX.out)
              | cons e r =>
                obtain ⟨gl, rfl⟩ := ownsRow_some HS2.out.left (by simp)
                have hst2 : r.length + 1 ≤ 2000000000 := by simp only [List.length_cons] at hsl; omega
                have t0 : wr.cell? ⟨gl, r.length, none⟩ = some (.int .i64 (e : Int)) := by
                  rw [HS2.out.left.cellAt _ (by simp)]
                  simp [natV]
                simp only [List.length_cons] at hlc hsl
                simp only [List.length_cons]
                have hln0 : (0 : Int) < (r.length : Int) + 1 := by omega
                have hwl : IntKind.i64.wrap ((r.length : Int) + 1 - 1) = (r.length : Int) := by rw [IntKind.wrap_i64]; omega
                have hr0 : (0 : Int) ≤ (r.length : Int) := by omega
                have hrl : (r.length : Int) < (r.length : Int) + 1 := by omega
                have hrc : (r.length : Int) < lc := by omega
                have hrc' : (r.length : Int) ≤ lc := by omega
                by_cases he : e = k + 1
                · have heb : ((e : Int) == (k : Int) + 1) = true := by rw [beq_iff_eq]; omega
                  subst he
                  obtain ⟨o9, w9, hrun9, hS9, hK9⟩ := HS2.out.byte 41 (by have := HL2.out; omega)
                  have HNX : RowKit.Hid (inRel k Lf Sf w1.heap.size w1 o9 (.slice (some ⟨gl, 0, none⟩) r.length lc) w9) := Lib.hid ⟨L2 ++ [41], r, hS9.pop, by
                    rw [← HLfe.out, popN, if_pos rfl, List.replicate_succ, List.append_assoc]; rfl, by rw [← HSfe.out, popS, if_pos rfl], by omega⟩
                  clear hS9 hK9 HEX
                  go_upto_region 18 with (fail)
                  go_wp2_with (at_builtin; refine wpList_append_run rfl _ _ _ _ hrun9 rfl rfl rfl rfl ?_)
                  refine ⟨?_, (by simp [lenOf]; try omega)⟩
                  first
                    | exact HNX.out
                    | (repeat apply Exists.intro
                       refine ⟨?_, rfl⟩
                       exact HNX.out)
                · have heb : ((e : Int) == (k : Int) + 1) = false := by rw [beq_eq_false_iff_ne]; omega
                  obtain ⟨hS3, rfl⟩ := HEX.out (by unfold popN; rw [if_neg he]) (by unfold popS; rw [if_neg he])
                  have HS3 := Lib.hid hS3
                  clear hS3 HEX he
                  go_upto_region 20 with (fail)
                  by_cases hbig : 1048576 < L2.length
                  · have hbi : (1048576 : Int) < (L2.length : Int) := by omega
                    have HX := Lib.hid (HQ.out ([], 2) wr (by rw [HZ.out, if_pos (by rw [← HFE.out, List.length_append]; omega)]) (bthen HB1.out HS3.out.below))
                    clear hbig
                    go_wp2_with fail
                    exact HX.out
                  · have hbi : ¬ (1048576 : Int) < (L2.length : Int) := by omega
                    have HNX : RowKit.Hid (shRel l T w1.heap.size w1 _ _ (.int .i64 ((k + 1 : Nat) : Int)) wr) := Lib.hid ⟨k + 1, L2, _, rfl, hlt, by omega, HSF.out, HS3.out, HFE.out⟩
                    have HML : RowKit.Hid (l.length - (k + 1) < l.length - k) := Lib.hid (by omega)
                    clear hbig
                    go_wp2_with fail
                    refine ⟨?_, (by have := HML.out; simp [intOf]; try omega)⟩
                    first
                      | exact HNX.out
                      | (repeat apply Exists.intro
                         refine ⟨?_, rfl⟩
                         exact HNX.out)
      · have hkl : ¬ (k : Int) < l.length := by omega
        obtain rfl : k = l.length := by omega
        have hend := HFIN.out
        rw [List.drop_length, showG, List.append_nil] at hend
        subst hend
        have HX := Lib.hid (HQ.out (L, 0) wr (by rw [HZ.out, if_neg (by omega)]) (bthen HB1.out HS.out.below))
        have hcv := conv_owned (show wr.ownsRow w1.heap.size 5 1 u6 L.length ((numsL L).map (Value.int .u8)) by
          have e : (numsL L).map (Value.int .u8) = Lib.byteCells L := by simp [numsL, Lib.byteCells]
          rw [e]; exact HS.out.out)
        rw [strOfNums_numsL] at hcv
        clear hlt
        go_wp2_with fail
        exact HX.out
end Go.Proofs.YtpjglenogifclaaGreatDoor
