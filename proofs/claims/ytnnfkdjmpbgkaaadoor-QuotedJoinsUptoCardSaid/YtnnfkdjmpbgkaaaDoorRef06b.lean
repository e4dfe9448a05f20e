/- Layer 6: the reference's escape and item, walked. -/
import Derived.Test.YtnnfkdjmpbgkaaaDoorRef06
namespace Go.Proofs.YtnnfkdjmpbgkaaaDoor
set_option linter.all false
open Go.RowKit
attribute [local irreducible] wpStill

/-- An item, as the reference gives it. -/
def itemVal (o : Option (Nat × List Int)) : Value := match o with
  | none => .agg #[.int .i64 0, .string ⟨#[]⟩]
  | some (n, l) => .agg #[.int .i64 n, .string (strOfNums l)]
@[irreducible] def rescPost (s : ByteArray) (i mark : Nat) (w0 : World) (e : Ending) (w' : World) : Prop := e = .returned (itemVal (esc s i mark)) ∧ Below w0.heap.size w0 w'
theorem result_item (tmps : Array Value) (w : World) (g : Nat) (x y : Value) (hp : tmps.getD 6 undef = .pointer (some ⟨g, 0, none⟩)) (h0 : w.heap[g]? = some (.cells #[x, y] 47 (0, 0))) :
    (results Tryd.f30 tmps).run Tryd.prog w = .ok (.agg #[x, y]) w :=
  results_cell_row rfl tmps w g 47 #[x, y] (0, 0) _ hp h0 Tryd.underlying47 rfl (by kernel_rfl)
/-- The block of a result of two cells, in a world. -/
structure IB (w W : World) (g : Nat) : Prop where
  le : w.heap.size ≤ g
  below : Below w.heap.size w W
  row : ∃ x y, W.heap[g]? = some (.cells #[x, y] 47 (0, 0))
theorem IB.lt {w W : World} {g : Nat} (h : IB w W g) : g < W.heap.size := by obtain ⟨_, _, _, _, h3⟩ := h; exact keeps_lt h3
theorem IB.keep {w W W' : World} {g : Nat} (h : IB w W g) (hb : Below W.heap.size W W') : IB w W' g := by
  obtain ⟨h1, h2, x, y, h3⟩ := h
  exact ⟨h1, bthen h2 hb, x, y, keeps hb h3⟩
theorem IB.alloc {w W : World} {g : Nat} (h : IB w W g) (o : Obj) : IB w (W.alloc o) g := h.keep ((Below.refl _ _).alloc (Nat.le_refl _) _)
theorem IB.c {w W : World} {g : Nat} (h : IB w W g) : ∃ x y, W.cell? ⟨g, 0, none⟩ = some x ∧ W.cell? ⟨g, 1, none⟩ = some y := by
  obtain ⟨_, _, x, y, h3⟩ := h
  exact ⟨x, y, by simp [World.cell?, h3], by simp [World.cell?, h3]⟩
theorem IB.fz {w W : World} {g : Nat} (h : IB w W g) (k : Nat) : W.frozen? ⟨g, k, none⟩ = false := by
  obtain ⟨_, _, x, y, h3⟩ := h; simp [World.frozen?, h3]
theorem IB.fin {w W : World} {g : Nat} (h : IB w W g) (x y : Value) : ((W.setCell ⟨g, 0, none⟩ x).setCell ⟨g, 1, none⟩ y).heap[g]? = some (.cells #[x, y] 47 (0, 0)) ∧ Below w.heap.size w ((W.setCell ⟨g, 0, none⟩ x).setCell ⟨g, 1, none⟩ y) := by
  obtain ⟨h1, h2, x0, y0, h3⟩ := h
  have h4 : (W.setCell ⟨g, 0, none⟩ x).heap[g]? = some (.cells #[x, y0] 47 (0, 0)) := by rw [heap_setCell_same W g 0 _ _ _ h3]; rfl
  refine ⟨?_, (h2.setCell (by exact h1) _).setCell (by exact h1) _⟩
  rw [heap_setCell_same _ g 1 _ _ _ h4]
  rfl
theorem names_at (k : Nat) (h : k < 8) (h' : k < (⟨#[97, 98, 102, 110, 114, 116, 118, 92]⟩ : ByteArray).size) : (((⟨#[97, 98, 102, 110, 114, 116, 118, 92]⟩ : ByteArray)[k]'h').toNat : Int) = (escNames.getD k 0 : Nat) := by
  revert h'
  have : ∀ k, k < 8 → ∀ (h' : k < (⟨#[97, 98, 102, 110, 114, 116, 118, 92]⟩ : ByteArray).size), (((⟨#[97, 98, 102, 110, 114, 116, 118, 92]⟩ : ByteArray)[k]'h').toNat : Int) = (escNames.getD k 0 : Nat) := by decide +kernel
  exact this k h
theorem idx_first (c k : Nat) (hk : k < 8) (hc : escNames.getD k 0 = c) (hno : ∀ j, j < k → escNames.getD j 0 ≠ c) : escNames.idxOf c = k := by
  subst hc
  have : ∀ k, k < 8 → escNames.idxOf (escNames.getD k 0) = k := by decide +kernel
  exact this k hk
theorem idx_none (c : Nat) (hno : ∀ j, j < 8 → escNames.getD j 0 ≠ c) : ¬ escNames.idxOf c < 8 := fun h => by
  have h8 : escNames.idxOf c < escNames.length := h
  refine hno _ h ?_
  rw [List.getD_eq_getElem?_getD, List.getElem?_eq_getElem h8]
  simp
set_option maxRecDepth 100000 in
set_option maxHeartbeats 4000000 in
theorem ref_escape (s : ByteArray) (i mark : Nat) (hm : mark = 34 ∨ mark = 39) (hi : i < s.size) (hs : s.size ≤ 140737488351232) (w : World) :
    Calls Tryd.prog 30 #[.string s, .int .i64 i, .int .u8 mark] w (rescPost s i mark w) := by
  have HQ : RowKit.Hid (∀ o w', esc s i mark = o → Below w.heap.size w w' → rescPost s i mark w (.returned (itemVal o)) w') := Lib.hid fun o w' h1 h2 => by unfold rescPost; rw [h1]; exact ⟨rfl, h2⟩
  generalize rescPost s i mark w = Q at *
  have hw1 : IntKind.i64.wrap ((i : Int) + 1) = (i : Int) + 1 := by rw [IntKind.wrap_i64]; omega
  have hw2 : IntKind.i64.wrap ((i : Int) + 2) = ((i + 2 : Nat) : Int) := by rw [IntKind.wrap_i64]; omega
  by_cases hsh : s.size ≤ i + 1
  · have hsh' : (s.size : Int) ≤ (i : Int) + 1 := by omega
    have hz : esc s i mark = none := by unfold esc; rw [if_pos hsh]
    have HZ := Lib.hid hz
    clear hz
    go_enter Tryd.func30, Tryd.ntmps30
    go_wp2_with fail
    refine bodyPost_ret (result_item _ _ w.heap.size _ _ rfl (heap_alloc_new _ _)) rfl ?_
    exact HQ.out none _ HZ.out ((Below.refl _ _).alloc (Nat.le_refl _) _)
  · have hsh' : ¬ (s.size : Int) ≤ (i : Int) + 1 := by omega
    have hp : i + 1 < s.size := by omega
    have hp1 : (i : Int) + 1 < s.size := by omega
    have hp0 : (0 : Int) ≤ (i : Int) + 1 := by omega
    have hbl := bt_lt s (i + 1)
    have hxx : ∀ h, ((s[i + 1]'h).toNat : Int) = (bt s (i + 1) : Int) := fun h => by rw [bt_at s (i + 1) h]
    have hesc : esc s i mark = if escNames.idxOf (bt s (i + 1)) < 8 then some (2, [escSays.getD (escNames.idxOf (bt s (i + 1))) 0])
      else if bt s (i + 1) = mark then some (2, [(bt s (i + 1) : Int)])
      else if bt s (i + 1) = 120 then (num s 16 (i + 2) 2 0).map fun n => (4, small n mark)
      else if bt s (i + 1) = 117 ∨ bt s (i + 1) = 85 then
        (num s 16 (i + 2) (if bt s (i + 1) = 85 then 8 else 4) 0).bind fun n => if may n then some (2 + (if bt s (i + 1) = 85 then 8 else 4), formZ n) else none
      else (num s 8 (i + 1) 3 0).bind fun n => if 255 < n then none else some (4, small n mark) := by
      unfold esc; rw [if_neg hsh]
    have HE := Lib.hid hesc
    clear hesc
    have HF : RowKit.Hid (∀ (tm : Array Value) W x y o, IB w W w.heap.size → esc s i mark = o → itemVal o = .agg #[x, y] → tm.getD 6 undef = .pointer (some ⟨w.heap.size, 0, none⟩) → bodyPost Tryd.prog Tryd.f30 Q .ret ⟨tm, []⟩ ((W.setCell ⟨w.heap.size, 0, none⟩ x).setCell ⟨w.heap.size, 1, none⟩ y)) :=
      Lib.hid fun tm W x y o hib ho hv ht => bodyPost_ret (result_item tm _ _ x y ht (hib.fin x y).1) rfl (by rw [← hv]; exact HQ.out o _ ho (hib.fin x y).2)
    generalize bt s (i + 1) = c at *
    go_enter Tryd.func30, Tryd.ntmps30
    go_wp2_with fail
    go_loopw [10] (fun k wr => ∃ (kk : Nat), kk ≤ 8 ∧ k = .int .i64 kk ∧ (∀ j, j < kk → escNames.getD j 0 ≠ c) ∧ wr = (w.alloc (.cells #[.int .i64 0, .string ⟨#[]⟩] 47)).alloc (.cells #[.int .u8 7, .int .u8 8, .int .u8 12, .int .u8 10, .int .u8 13, .int .u8 9, .int .u8 11, .int .u8 92] 5)) (fun k _ => 8 - (intOf k).toNat)
    case atStart => exact ⟨0, Nat.zero_le _, rfl, fun j hj => absurd hj (by omega), rfl⟩
    case round =>
      obtain ⟨k, hk, rfl, hno, hwr⟩ := hrel
      have HNO := Lib.hid hno
      have hib : IB w wr w.heap.size := by
        rw [hwr]
        refine IB.alloc ⟨Nat.le_refl _, (Below.refl _ _).alloc (Nat.le_refl _) _, _, _, heap_alloc_new _ _⟩ _
      have HIB := Lib.hid hib
      obtain ⟨cx, cy, cg0, cg1⟩ := hib.c
      have zg0 := hib.fz 0
      have zg1 := hib.fz 1
      have cga0 : ∀ o : Obj, (wr.alloc o).cell? ⟨w.heap.size, 0, none⟩ = some cx := fun o => by rw [← cg0]; exact World.cell?_of_block (Below.heap_alloc _ _ _ hib.lt)
      have cga1 : ∀ o : Obj, (wr.alloc o).cell? ⟨w.heap.size, 1, none⟩ = some cy := fun o => by rw [← cg1]; exact World.cell?_of_block (Below.heap_alloc _ _ _ hib.lt)
      have zga0 : ∀ o : Obj, (wr.alloc o).frozen? ⟨w.heap.size, 0, none⟩ = false := fun o => (hib.alloc o).fz 0
      have zga1 : ∀ o : Obj, (wr.alloc o).frozen? ⟨w.heap.size, 1, none⟩ = false := fun o => (hib.alloc o).fz 1
      clear hno hib
      by_cases hlt : k < 8
      · have hk8 : (k : Int) < 8 := by omega
        have hk0 : (0 : Int) ≤ k := by omega
        have hnm := names_at k hlt
        have cs : wr.cell? ⟨w.heap.size + 1, k, none⟩ = some (.int .u8 (escSays.getD k 0)) := by
          rw [hwr, World.cell?_alloc_at _ _ _ _ (by simp)]
          have : ∀ k, k < 8 → (#[Value.int .u8 7, .int .u8 8, .int .u8 12, .int .u8 10, .int .u8 13, .int .u8 9, .int .u8 11, .int .u8 92])[k]? = some (.int .u8 (escSays.getD k 0)) := by
            intro k hk
            match k, hk with
            | 0, _ => rfl | 1, _ => rfl | 2, _ => rfl | 3, _ => rfl | 4, _ => rfl | 5, _ => rfl | 6, _ => rfl | 7, _ => rfl
            | n + 8, h => omega
          exact this k hlt
        have HWR := Lib.hid hwr
        clear hwr
        by_cases hc : escNames.getD k 0 = c
        · have hidx := idx_first c k hlt hc HNO.out
          have hz : esc s i mark = some (2, [escSays.getD k 0]) := by rw [HE.out, hidx, if_pos hlt]
          have HZ := Lib.hid hz
          rw [hc] at hnm
          have c1 := conv_lit wr _ [escSays.getD k 0] 1 1 rfl rfl
          simp only [List.map_cons, List.map_nil] at c1
          have HI2 := Lib.hid (HIB.out.alloc (.cells #[.int .u8 (escSays.getD k 0)] 5))
          clear hidx hz
          generalize escSays.getD k 0 = y at *
          go_wp2_with fail
          exact HF.out _ _ _ _ _ HI2.out HZ.out rfl rfl
        · have hc' : ((escNames.getD k 0 : Nat) : Int) ≠ c := by omega
          have hno2 : ∀ j, j < k + 1 → escNames.getD j 0 ≠ c := fun j hj => by
            rcases Nat.lt_or_ge j k with h | h
            · exact HNO.out j h
            · obtain rfl : j = k := by omega
              exact hc
          have HN2 := Lib.hid hno2
          clear hno2
          generalize escNames.getD k 0 = cc at *
          go_wp2_with fail
          refine ⟨?_, (by simp [intOf]; try omega)⟩
          exact ⟨k + 1, by omega, by go_num, HN2.out, HWR.out⟩
      · obtain rfl : k = 8 := by omega
        have hidx := idx_none c HNO.out
        rw [if_neg hidx] at HE
        clear hidx hwr
        have hfin : ∀ W', Below wr.heap.size wr W' → IB w W' w.heap.size := fun W' hb => HIB.out.keep hb
        have HFI := Lib.hid hfin
        clear hfin
        by_cases hcm : c = mark
        · rw [if_pos hcm] at HE
          have hcm' : (c : Int) = mark := by omega
          have c1 := conv_lit wr _ [(c : Int)] 1 1 rfl rfl
          simp only [List.map_cons, List.map_nil] at c1
          rw [hcm'] at c1 HE
          have HI2 := Lib.hid (HIB.out.alloc (.cells #[.int .u8 (mark : Int)] 5))
          go_wp2_with fail
          exact HF.out _ _ _ _ _ HI2.out HE.out rfl rfl
        · rw [if_neg hcm] at HE
          have hcm' : ¬ (c : Int) = mark := by omega
          by_cases h120 : c = 120
          · rw [if_pos h120] at HE
            have h120' : (c : Int) = 120 := by omega
            have CN := Lib.hid (ref_number s (i + 2) 2 16 (Or.inr rfl) (by omega) (by omega) hs wr)
            cases hn : num s 16 (i + 2) 2 0 with
            | none =>
              rw [hn] at CN HE
              have CN2 : RowKit.Hid (Calls Tryd.prog 42 #[.string s, .int .i64 (i + 2 : Nat), .int .i64 2, .int .i64 16] wr fun e w' => e = .returned (.int .i64 (-1)) ∧ wr = w') := CN
              clear CN
              go_wp2_with fail
              refine CN2.out.mono ?_; rintro e w' ⟨rfl, rfl⟩
              go_wp2_with fail
              exact HF.out _ _ _ _ _ HIB.out HE.out rfl rfl
            | some n =>
              rw [hn] at CN HE
              have hrg := num_range s 16 (by omega) 2 (i + 2) 0 n (by omega) hn
              have hn0 := hrg.1
              have hn256 : n < 256 := by have := hrg.2.1; omega
              have CN2 : RowKit.Hid (Calls Tryd.prog 42 #[.string s, .int .i64 (i + 2 : Nat), .int .i64 2, .int .i64 16] wr fun e w' => e = .returned (.int .i64 n) ∧ wr = w') := CN
              have CS := Lib.hid (ref_small n ⟨hn0, hn256⟩ mark hm wr)
              have hn0' : ¬ n < 0 := by omega
              clear CN hn hrg
              go_wp2_with fail
              refine CN2.out.mono ?_; rintro e w' ⟨rfl, rfl⟩
              go_wp2_with fail
              refine CS.out.mono ?_; rintro e w2 ⟨rfl, hb2⟩
              have hib2 := HFI.out _ hb2
              obtain ⟨dx, dy, dg0, dg1⟩ := hib2.c
              have dz0 := hib2.fz 0
              have dz1 := hib2.fz 1
              have HIB2 := Lib.hid hib2
              clear hib2 hb2
              go_wp2_with fail
              exact HF.out _ _ _ _ _ HIB2.out HE.out rfl rfl
          · rw [if_neg h120] at HE
            have h120' : ¬ (c : Int) = 120 := by omega
            by_cases h85 : c = 85
            · rw [if_pos (Or.inr h85), if_pos h85] at HE
              have h85' : (c : Int) = 85 := by omega
              have CN := Lib.hid (ref_number s (i + 2) 8 16 (Or.inr rfl) (by omega) (by omega) hs wr)
              cases hn : num s 16 (i + 2) 8 0 with
              | none =>
                rw [hn] at CN HE
                have CN2 : RowKit.Hid (Calls Tryd.prog 42 #[.string s, .int .i64 (i + 2 : Nat), .int .i64 8, .int .i64 16] wr fun e w' => e = .returned (.int .i64 (-1)) ∧ wr = w') := CN
                clear CN
                go_wp2_with fail
                refine CN2.out.mono ?_; rintro e w' ⟨rfl, rfl⟩
                go_wp2_with fail
                exact HF.out _ _ _ _ _ HIB.out HE.out rfl rfl
              | some n =>
                rw [hn, Option.bind_some] at HE
                rw [hn] at CN
                have hrg := num_range s 16 (by omega) 8 (i + 2) 0 n (by omega) hn
                have hn0 := hrg.1
                have CN2 : RowKit.Hid (Calls Tryd.prog 42 #[.string s, .int .i64 (i + 2 : Nat), .int .i64 8, .int .i64 16] wr fun e w' => e = .returned (.int .i64 n) ∧ wr = w') := CN
                have CM := Lib.hid (ref_May n wr)
                have CS := Lib.hid (ref_Form n wr)
                have hn0' : ¬ n < 0 := by omega
                clear CN hn hrg
                cases hmay : may n with
                | false =>
                  rw [hmay] at CM HE
                  rw [if_neg (by simp)] at HE
                  clear hmay
                  go_wp2_with fail
                  refine CN2.out.mono ?_; rintro e w' ⟨rfl, rfl⟩
                  go_wp2_with fail
                  refine CM.out.mono ?_; rintro e w' ⟨rfl, rfl⟩
                  go_wp2_with fail
                  exact HF.out _ _ _ _ _ HIB.out HE.out rfl rfl
                | true =>
                  rw [hmay] at CM HE
                  rw [if_pos rfl] at HE
                  clear hmay
                  go_wp2_with fail
                  refine CN2.out.mono ?_; rintro e w' ⟨rfl, rfl⟩
                  go_wp2_with fail
                  refine CM.out.mono ?_; rintro e w' ⟨rfl, rfl⟩
                  go_wp2_with fail
                  refine CS.out.mono ?_; rintro e w2 ⟨rfl, hb2⟩
                  have hib2 := HFI.out _ hb2
                  obtain ⟨dx, dy, dg0, dg1⟩ := hib2.c
                  have dz0 := hib2.fz 0
                  have dz1 := hib2.fz 1
                  have HIB2 := Lib.hid hib2
                  clear hib2 hb2
                  go_wp2_with fail
                  exact HF.out _ _ _ _ _ HIB2.out HE.out (by unfold form; rfl) rfl
            · by_cases h117 : c = 117
              · rw [if_pos (Or.inl h117), if_neg h85] at HE
                have h117' : (c : Int) = 117 := by omega
                have CN := Lib.hid (ref_number s (i + 2) 4 16 (Or.inr rfl) (by omega) (by omega) hs wr)
                cases hn : num s 16 (i + 2) 4 0 with
                | none =>
                  rw [hn] at CN HE
                  have CN2 : RowKit.Hid (Calls Tryd.prog 42 #[.string s, .int .i64 (i + 2 : Nat), .int .i64 4, .int .i64 16] wr fun e w' => e = .returned (.int .i64 (-1)) ∧ wr = w') := CN
                  clear CN
                  go_wp2_with fail
                  refine CN2.out.mono ?_; rintro e w' ⟨rfl, rfl⟩
                  go_wp2_with fail
                  exact HF.out _ _ _ _ _ HIB.out HE.out rfl rfl
                | some n =>
                  rw [hn, Option.bind_some] at HE
                  rw [hn] at CN
                  have hrg := num_range s 16 (by omega) 4 (i + 2) 0 n (by omega) hn
                  have hn0 := hrg.1
                  have CN2 : RowKit.Hid (Calls Tryd.prog 42 #[.string s, .int .i64 (i + 2 : Nat), .int .i64 4, .int .i64 16] wr fun e w' => e = .returned (.int .i64 n) ∧ wr = w') := CN
                  have CM := Lib.hid (ref_May n wr)
                  have CS := Lib.hid (ref_Form n wr)
                  have hn0' : ¬ n < 0 := by omega
                  clear CN hn hrg
                  cases hmay : may n with
                  | false =>
                    rw [hmay] at CM HE
                    rw [if_neg (by simp)] at HE
                    clear hmay
                    go_wp2_with fail
                    refine CN2.out.mono ?_; rintro e w' ⟨rfl, rfl⟩
                    go_wp2_with fail
                    refine CM.out.mono ?_; rintro e w' ⟨rfl, rfl⟩
                    go_wp2_with fail
                    exact HF.out _ _ _ _ _ HIB.out HE.out rfl rfl
                  | true =>
                    rw [hmay] at CM HE
                    rw [if_pos rfl] at HE
                    clear hmay
                    go_wp2_with fail
                    refine CN2.out.mono ?_; rintro e w' ⟨rfl, rfl⟩
                    go_wp2_with fail
                    refine CM.out.mono ?_; rintro e w' ⟨rfl, rfl⟩
                    go_wp2_with fail
                    refine CS.out.mono ?_; rintro e w2 ⟨rfl, hb2⟩
                    have hib2 := HFI.out _ hb2
                    obtain ⟨dx, dy, dg0, dg1⟩ := hib2.c
                    have dz0 := hib2.fz 0
                    have dz1 := hib2.fz 1
                    have HIB2 := Lib.hid hib2
                    clear hib2 hb2
                    go_wp2_with fail
                    exact HF.out _ _ _ _ _ HIB2.out HE.out (by unfold form; rfl) rfl
              · rw [if_neg (by omega)] at HE
                have h85' : ¬ (c : Int) = 85 := by omega
                have h117' : ¬ (c : Int) = 117 := by omega
                have b85 : ((c : Int) == 85) = false := by rw [beq_eq_false_iff_ne]; exact h85'
                have b117 : ((c : Int) == 117) = false := by rw [beq_eq_false_iff_ne]; exact h117'
                have CN := Lib.hid (ref_number s (i + 1) 3 8 (Or.inl rfl) (by omega) (by omega) hs wr)
                cases hn : num s 8 (i + 1) 3 0 with
                | none =>
                  rw [hn] at CN HE
                  have CN2 : RowKit.Hid (Calls Tryd.prog 42 #[.string s, .int .i64 ((i : Int) + 1), .int .i64 3, .int .i64 8] wr fun e w' => e = .returned (.int .i64 (-1)) ∧ wr = w') := CN
                  clear CN
                  go_wp2_with fail
                  refine CN2.out.mono ?_; rintro e w' ⟨rfl, rfl⟩
                  go_wp2_with fail
                  exact HF.out _ _ _ _ _ HIB.out HE.out rfl rfl
                | some n =>
                  rw [hn, Option.bind_some] at HE
                  rw [hn] at CN
                  have hrg := num_range s 8 (by omega) 3 (i + 1) 0 n (by omega) hn
                  have hn0 := hrg.1
                  have CN2 : RowKit.Hid (Calls Tryd.prog 42 #[.string s, .int .i64 ((i : Int) + 1), .int .i64 3, .int .i64 8] wr fun e w' => e = .returned (.int .i64 n) ∧ wr = w') := CN
                  have hn0' : ¬ n < 0 := by omega
                  clear CN hn hrg
                  by_cases h255 : 255 < n
                  · rw [if_pos h255] at HE
                    go_wp2_with fail
                    refine CN2.out.mono ?_; rintro e w' ⟨rfl, rfl⟩
                    go_wp2_with fail
                    exact HF.out _ _ _ _ _ HIB.out HE.out rfl rfl
                  · rw [if_neg h255] at HE
                    have CS := Lib.hid (ref_small n ⟨hn0, by omega⟩ mark hm wr)
                    go_wp2_with fail
                    refine CN2.out.mono ?_; rintro e w' ⟨rfl, rfl⟩
                    go_wp2_with fail
                    refine CS.out.mono ?_; rintro e w2 ⟨rfl, hb2⟩
                    have hib2 := HFI.out _ hb2
                    obtain ⟨dx, dy, dg0, dg1⟩ := hib2.c
                    have dz0 := hib2.fz 0
                    have dz1 := hib2.fz 1
                    have HIB2 := Lib.hid hib2
                    clear hib2 hb2
                    go_wp2_with fail
                    exact HF.out _ _ _ _ _ HIB2.out HE.out rfl rfl
end Go.Proofs.YtnnfkdjmpbgkaaaDoor
