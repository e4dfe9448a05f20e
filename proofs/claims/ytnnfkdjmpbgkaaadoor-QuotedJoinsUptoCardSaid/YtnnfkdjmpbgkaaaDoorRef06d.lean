/- Layer 6: the reference's Begun, walked: strings. -/
import Derived.Test.YtnnfkdjmpbgkaaaDoorRef06c
import Derived.Test.YtnnfkdjmpbgkaaaDoorQuoted5
namespace Go.Proofs.YtnnfkdjmpbgkaaaDoor
set_option linter.all false
open Go.RowKit
attribute [local irreducible] wpStill

theorem formZ_byte (r : Int) : ∀ x ∈ formZ r, 0 ≤ x ∧ x < 256 := by
  have h := nums_byte (form r)
  rwa [nums_form] at h
theorem small_byte (n : Int) (mark : Nat) (h : 0 ≤ n ∧ n < 256) : ∀ x ∈ small n mark, 0 ≤ x ∧ x < 256 := by
  unfold small
  split
  · intro x hx; simp at hx; omega
  · exact formZ_byte n
theorem item_byte {s : ByteArray} {i mark n : Nat} {l : List Int} (h : item s i mark = some (n, l)) : ∀ x ∈ l, 0 ≤ x ∧ x < 256 := by
  have hb := bt_lt s (i + 1)
  have hb0 := bt_lt s i
  unfold item at h
  split at h
  · unfold esc at h
    split at h
    · cases h
    · split at h
      · rename_i hk
        cases h
        have : ∀ k, k < 8 → 0 ≤ escSays.getD k 0 ∧ escSays.getD k 0 < 256 := by decide +kernel
        intro x hx
        simp only [List.mem_singleton] at hx
        subst hx
        exact this _ hk
      · split at h
        · cases h; intro x hx; simp only [List.mem_singleton] at hx; omega
        · split at h
          · cases hn : num s 16 (i + 2) 2 0 with
            | none => rw [hn] at h; cases h
            | some v =>
              rw [hn] at h
              have := num_range s 16 (by omega) 2 (i + 2) 0 v (by omega) hn
              cases h
              exact small_byte _ _ ⟨this.1, by have := this.2.1; omega⟩
          · split at h
            · cases hn : num s 16 (i + 2) (if bt s (i + 1) = 85 then 8 else 4) 0 with
              | none => rw [hn] at h; cases h
              | some v =>
                rw [hn] at h
                simp only [Option.bind_some] at h
                split at h
                · cases h; exact formZ_byte v
                · cases h
            · cases hn : num s 8 (i + 1) 3 0 with
              | none => rw [hn] at h; cases h
              | some v =>
                rw [hn] at h
                have := num_range s 8 (by omega) 3 (i + 1) 0 v (by omega) hn
                simp only [Option.bind_some] at h
                split at h
                · cases h
                · cases h; exact small_byte _ _ ⟨this.1, by omega⟩
  · split at h
    · cases h
    · split at h
      · cases h; intro x hx; simp only [List.mem_singleton] at hx; omega
      · split at h
        · cases h
        · cases h; exact nums_byte _
theorem nums_get (s : ByteArray) (k : Nat) (h : k < s.size) : (nums s)[k]? = some ((s[k]'h).toNat : Int) := by
  have hl : k < s.data.toList.length := by rw [← size_data]; exact h
  unfold nums
  rw [List.getElem?_map, List.getElem?_eq_getElem hl]
  rfl
/-- The row of bytes is not the block of the item. -/
theorem own_apart {w : World} {B g : Nat} {v : Value} {n : Nat} {xs : List Value} {ca : Array Value} {fr : Nat × Nat} (h : w.ownsRow B 5 1 v n xs) (hg : w.heap[g]? = some (.cells ca 47 fr)) : v.ownBlock ≠ some g := by
  rcases h.2 with ⟨rfl, _⟩ | ⟨g', cap, cur, rfl, _, hh, _⟩
  · simp [Value.ownBlock]
  · simp only [Value.ownBlock, ne_eq, Option.some.injEq]
    rintro rfl
    rw [hh] at hg
    simp at hg
theorem begun_body {s : ByteArray} {i : Nat} (hi : i < s.size) (hm : bt s i = 34) : begun s i = match body s (i + 1) with
    | none => (0, 0, ByteArray.empty, 4)
    | some (e, l) => (7, e, strOfNums l, 0) := by
  rw [begun_read hi (Or.inl hm), hm]
  unfold loopZ
  simp only [if_true]
  cases body s (i + 1) <;> rfl
theorem body_end {s : ByteArray} {i : Nat} (h : ¬ i < s.size) : body s i = none := by unfold body; rw [dif_neg h]
theorem body_mark {s : ByteArray} {i : Nat} (h : i < s.size) (hc : bt s i = 34) : body s i = some (i + 1, []) := by unfold body; rw [dif_pos h, if_pos hc]
theorem body_item {s : ByteArray} {i : Nat} (h : i < s.size) (hc : bt s i ≠ 34) : body s i = (item s i 34).bind fun q => (body s (i + q.1)).map fun p => (p.1, q.2 ++ p.2) := by
  have := loopZ_item (mark := 34) (k := 0) (Or.inl rfl) h hc
  unfold loopZ at this
  simpa using this
@[irreducible] def rbegunPost (s : ByteArray) (at' : Int) (w0 : World) (e : Ending) (w' : World) : Prop :=
  e = .returned (begunVals (begun s at')) ∧ Below w0.heap.size w0 w'
set_option maxRecDepth 100000 in
set_option maxHeartbeats 4000000 in
theorem ref_Begun34 (s : ByteArray) (i : Nat) (hi : i < s.size) (hm : bt s i = 34) (hs : s.size ≤ 2147483647) (w : World) :
    Calls Tryd.prog 20 #[.string s, .int .i64 i] w (rbegunPost s i w) := by
  have HQN : RowKit.Hid (∀ w', body s (i + 1) = none → Below w.heap.size w w' → rbegunPost s i w (.returned (.tuple #[.int .u8 0, .int .i64 0, .string ⟨#[]⟩, .int .i64 4])) w') := Lib.hid fun w' h1 h2 => by
    unfold rbegunPost; rw [begun_body hi hm, h1]; exact ⟨rfl, h2⟩
  have HQS : RowKit.Hid (∀ (j : Nat) l w', body s (i + 1) = some (j, l) → Below w.heap.size w w' → rbegunPost s i w (.returned (.tuple #[.int .u8 7, .int .i64 j, .string (strOfNums l), .int .i64 0])) w') := Lib.hid fun j l w' h1 h2 => by
    unfold rbegunPost; rw [begun_body hi hm, h1]; exact ⟨rfl, h2⟩
  generalize rbegunPost s i w = Q at *
  have hi' : (i : Int) < s.size := by omega
  have hi0 : (0 : Int) ≤ i := by omega
  have hxx : ∀ h, ((s[i]'h).toNat : Int) = 34 := fun h => by rw [bt_at s i h, hm]; rfl
  have hw1 : IntKind.i64.wrap ((i : Int) + 1) = ((i + 1 : Nat) : Int) := by rw [IntKind.wrap_i64]; omega
  go_enter Tryd.func20, Tryd.ntmps20
  go_wp2_with fail
  go_loopw [9, 10] (fun v k wr => ∃ (j : Nat) (l : List Int), k = .int .i64 j ∧ j ≤ s.size ∧ i + 1 ≤ j ∧ l.length ≤ j ∧ Below w.heap.size w wr ∧ wr.ownsRow w.heap.size 5 1 v l.length (l.map (Value.int .u8)) ∧ body s (i + 1) = (body s j).map fun p => (p.1, l ++ p.2)) (fun _ k _ => s.size - (intOf k).toNat)
  case atStart => exact ⟨i + 1, [], rfl, by omega, by omega, by simp, Below.refl _ _, World.ownsRow_nil _ _ _ _, by cases body s (i + 1) <;> simp⟩
  case round =>
    obtain ⟨j, l, rfl, hj, hij, hl, hb, hown, hz⟩ := hrel
    have HB := Lib.hid hb
    have HO := Lib.hid hown
    have HZ := Lib.hid hz
    obtain ⟨va, vm, vc, rfl⟩ := owns_slice HO.out
    clear hb hown hz
    by_cases hp : j < s.size
    · have hp' : (j : Int) < s.size := by omega
      have hj0 : (0 : Int) ≤ j := by omega
      have hbl := bt_lt s j
      have hyy : ∀ h, ((s[j]'h).toNat : Int) = (bt s j : Int) := fun h => by rw [bt_at s j h]
      by_cases hc : bt s j = 34
      · have hcc : (bt s j : Int) = 34 := by omega
        have hz2 : body s (i + 1) = some (j + 1, l) := by rw [HZ.out, body_mark hp hc]; simp
        have HZ2 := Lib.hid hz2
        have hwj : IntKind.i64.wrap ((j : Int) + 1) = ((j + 1 : Nat) : Int) := by rw [IntKind.wrap_i64]; omega
        have hcv : ∀ n, (convert 32 9 (.slice va vm vc)).run Tryd.prog (wr.drewN n) = .ok (.string (strOfNums l)) (wr.drewN n) := fun n => conv_owned (w := wr.drewN n) HO.out
        have HBN : RowKit.Hid (∀ n, Below w.heap.size w (wr.drewN n)) := Lib.hid fun n => bdrewN HB.out n
        clear hz2
        generalize bt s j = c at *
        go_wp2_with fail
        go_quiet (fail)
        go_wp2_with fail
        refine bodyPost_ret (results_tmp4 rfl _ _ _) rfl ?_
        exact HQS.out _ _ _ HZ2.out (HBN.out _)
      · have hcc : ¬ (bt s j : Int) = 34 := by omega
        have hz2 := body_item hp hc
        have HZ2 := Lib.hid hz2
        have CT := Lib.hid (ref_item s j 34 (Or.inl rfl) hp (by omega) wr)
        have hlenn : ∀ n x, item s j 34 = some (n, x) → 1 ≤ n ∧ j + n ≤ s.size ∧ x.length ≤ n ∧ nums (strOfNums x) = x := fun n x h => ⟨(item_pos hp h).1, (item_pos hp h).2, item_len h, nums_strOfNums x (item_byte h)⟩
        have HL := Lib.hid hlenn
        clear hz2 hlenn
        generalize bt s j = c at *
        go_wp2_with fail
        refine CT.out.mono ?_
        intro e w1 h1
        unfold ritemPost at h1
        obtain ⟨rfl, hb1⟩ := h1
        have HB1 := Lib.hid (bthen HB.out hb1)
        cases hit : item s j 34 with
        | none =>
          have HB2 := Lib.hid (HB1.out.alloc HB1.out.size (.cells #[.int .i64 0, .string ⟨#[]⟩] 47))
          have HN : RowKit.Hid (body s (i + 1) = none) := Lib.hid (by rw [HZ.out, HZ2.out, hit]; rfl)
          unfold itemVal
          go_wp2_with fail
          refine bodyPost_ret (results_tmp4 rfl _ _ _) rfl ?_
          exact HQN.out _ HN.out HB2.out
        | some q =>
          obtain ⟨n, x⟩ := q
          obtain ⟨hn1, hn2, hn3, hnx⟩ := HL.out n x hit
          rw [hit, Option.bind_some] at HZ2
          have HNX := Lib.hid hnx
          have hsz : (strOfNums x).size = x.length := strOfNums_size x
          have HO1 := Lib.hid ((owns_below HO.out hb1).alloc (.cells #[.int .i64 n, .string (strOfNums x)] 47))
          have HB2 := Lib.hid (HB1.out.alloc HB1.out.size (.cells #[.int .i64 n, .string (strOfNums x)] 47))
          have HG := Lib.hid (heap_alloc_new w1 (.cells #[.int .i64 n, .string (strOfNums x)] 47))
          have hiv : itemVal (some (n, x)) = .agg #[.int .i64 n, .string (strOfNums x)] := rfl
          rw [hiv]
          clear hit hnx hb1 HL hiv
          generalize strOfNums x = sx at *
          have hn0 : ¬ (n : Int) = 0 := by omega
          have hn0b : ((n : Int) == 0) = false := by rw [beq_eq_false_iff_ne]; exact hn0
          go_wp2_with fail
          generalize hWW : w1.alloc (.cells #[.int .i64 n, .string sx] 47) = w2 at *
          generalize hgx : w1.heap.size = gx at *
          have HO2 := Lib.hid HO1.out
          go_loopw [9, 12] (fun v k wr => ∃ (kk : Nat), k = .int .i64 kk ∧ kk ≤ x.length ∧ Below w.heap.size w wr ∧ wr.ownsRow w.heap.size 5 1 v (l ++ x.take kk).length ((l ++ x.take kk).map (Value.int .u8)) ∧ wr.heap[gx]? = some (.cells #[.int .i64 n, .string sx] 47 (0, 0))) (fun _ k _ => x.length - (intOf k).toNat)
          case atStart => exact ⟨0, rfl, Nat.zero_le _, HB2.out, by simpa using HO2.out, HG.out⟩
          case round =>
            obtain ⟨kk, rfl, hkk, hb3, hown3, hg3⟩ := hrel
            have HB3 := Lib.hid hb3
            have HO3 := Lib.hid hown3
            have HG3 := Lib.hid hg3
            have cg0 : wr.cell? ⟨gx, 0, none⟩ = some (.int .i64 n) := by simp [World.cell?, hg3]
            have cg1 : wr.cell? ⟨gx, 1, none⟩ = some (.string sx) := by simp [World.cell?, hg3]
            have hbase := hb3.size
            have hltk : (x.take kk).length ≤ kk := List.length_take_le _ _
            have hlen3 : (l ++ x.take kk).length ≤ s.size + 4294967296 := by rw [List.length_append]; omega
            obtain ⟨va3, vm3, vc3, rfl⟩ := owns_slice HO3.out
            clear hb3 hown3 hg3
            generalize hlk : l ++ x.take kk = lk at *
            by_cases hlt : kk < x.length
            · have hlt2 : kk < sx.size := by omega
              have hlt' : (kk : Int) < sx.size := by omega
              have hk0 : (0 : Int) ≤ kk := by omega
              have hwk : IntKind.i64.wrap ((kk : Int) + 1) = ((kk + 1 : Nat) : Int) := by rw [IntKind.wrap_i64]; omega
              have hxk : ∀ h, ((sx[kk]'h).toNat : Int) = x[kk] := fun h => by
                have e1 : (nums sx)[kk]? = some (x[kk]) := by rw [HNX.out]; exact List.getElem?_eq_getElem hlt
                rw [nums_get sx kk hlt2] at e1
                exact Option.some.inj e1
              have htk := List.take_succ_eq_append_getElem hlt
              have HTK := Lib.hid htk
              generalize hxe : x[kk] = y at *
              have HXE := Lib.hid hxe
              clear hxe htk
              go_wp2_with (at_builtin; refine wpList_append_lit wr #[.int .u8 y] _ rfl _ _ 32 5 rfl Tryd.underlying32 w.heap.size info_u8 rfl (by decide) _ _ _ rfl HO3.out 1 1 rfl rfl (by decide) (by intro u hu; simp at hu; subst hu; rfl) (by omega) (by omega) hbase ?_)
              intro v' w' hown hgr _
              have hb4 := grown_below HB3.out hbase HO3.out hgr
              have hg4 : w'.heap[gx]? = some (.cells #[.int .i64 n, .string sx] 47 (0, 0)) := by
                have hne := own_apart HO3.out HG3.out
                have hlt := keeps_lt HG3.out
                rw [hgr.block gx (by simp; omega) (fun e => hne e.symm), Below.heap_alloc _ _ _ hlt]
                exact HG3.out
              have HO4 := Lib.hid hown
              have HB4 := Lib.hid hb4
              have HG4 := Lib.hid hg4
              clear hown hb4 hgr hg4
              go_wp2_with fail
              refine ⟨?_, (by simp [intOf]; try omega)⟩
              exact ⟨kk + 1, by go_num, by omega, HB4.out, by rw [HTK.out, ← List.append_assoc, hlk, List.length_append, List.map_append]; exact HO4.out, HG4.out⟩
            · have hkx : kk = x.length := by omega
              have hlt' : ¬ (kk : Int) < sx.size := by omega
              have hwn : IntKind.i64.wrap ((j : Int) + n) = ((j + n : Nat) : Int) := by rw [IntKind.wrap_i64]; omega
              have hz4 : body s (i + 1) = (body s (j + n)).map fun p => (p.1, (l ++ x) ++ p.2) := by
                rw [HZ.out, HZ2.out]
                cases body s (j + n) <;> simp
              have HZ4 := Lib.hid hz4
              have hlen4 : (l ++ x).length ≤ j + n := by rw [List.length_append]; omega
              have etk : x.take kk = x := List.take_of_length_le (by omega)
              rw [etk] at hlk
              subst hlk
              clear hz4
              go_wp2_with fail
              refine ⟨?_, (by simp [intOf]; try omega)⟩
              repeat apply Exists.intro
              refine ⟨?_, rfl, rfl, rfl, rfl, rfl, rfl⟩
              exact ⟨j + n, by go_num, hn2, by omega, l ++ x, hlen4, HB3.out, HO3.out, HZ4.out⟩
    · have hp' : ¬ (j : Int) < s.size := by omega
      have HN : RowKit.Hid (body s (i + 1) = none) := Lib.hid (by rw [HZ.out, body_end hp]; rfl)
      go_wp2_with fail
      refine bodyPost_ret (results_tmp4 rfl _ _ _) rfl ?_
      exact HQN.out _ HN.out HB.out
end Go.Proofs.YtnnfkdjmpbgkaaaDoor
