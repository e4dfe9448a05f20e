/- Layer 6: the reference's Begun, walked: characters; and all of it. -/
import Derived.Test.YtnnfkdjmpbgkaaaDoorRef06e
namespace Go.Proofs.YtnnfkdjmpbgkaaaDoor
set_option linter.all false
open Go.RowKit
attribute [local irreducible] wpStill

theorem begun_single {s : ByteArray} {i : Nat} (hi : i < s.size) (hm : bt s i = 39) : begun s i = match single s (i + 1) with
    | none => (0, 0, ByteArray.empty, 4)
    | some (e, l) => (6, e, strOfNums l, 0) := by
  rw [begun_read hi (Or.inr hm), hm]
  unfold loopZ
  rw [if_neg (by decide), if_pos rfl]
  cases single s (i + 1) <;> rfl
theorem single_end {s : ByteArray} {i : Nat} (h : ¬ i < s.size) : single s i = none := by unfold single; rw [if_neg h]
theorem single_mark {s : ByteArray} {i : Nat} (h : i < s.size) (hc : bt s i = 39) : single s i = none := by unfold single; rw [if_pos h, if_pos hc]
theorem single_none {s : ByteArray} {i : Nat} (h : i < s.size) (hc : bt s i ≠ 39) (hit : item s i 39 = none) : single s i = none := by unfold single; rw [if_pos h, if_neg hc, hit]
theorem single_some {s : ByteArray} {i n : Nat} {l : List Int} (h : i < s.size) (hc : bt s i ≠ 39) (hit : item s i 39 = some (n, l)) : single s i = if i + n < s.size ∧ bt s (i + n) = 39 then some (i + n + 1, l) else none := by unfold single; rw [if_pos h, if_neg hc, hit]
set_option maxRecDepth 100000 in
set_option maxHeartbeats 1000000 in
theorem ref_Begun39 (s : ByteArray) (i : Nat) (hi : i < s.size) (hm : bt s i = 39) (hs : s.size ≤ 2147483647) (w : World) :
    Calls Tryd.prog 20 #[.string s, .int .i64 i] w (rbegunPost s i w) := by
  have HQN : RowKit.Hid (∀ w', single s (i + 1) = none → Below w.heap.size w w' → rbegunPost s i w (.returned (.tuple #[.int .u8 0, .int .i64 0, .string ⟨#[]⟩, .int .i64 4])) w') := Lib.hid fun w' h1 h2 => by
    unfold rbegunPost; rw [begun_single hi hm, h1]; exact ⟨rfl, h2⟩
  have HQS : RowKit.Hid (∀ (j : Nat) l w', single s (i + 1) = some (j, l) → Below w.heap.size w w' → rbegunPost s i w (.returned (.tuple #[.int .u8 6, .int .i64 j, .string (strOfNums l), .int .i64 0])) w') := Lib.hid fun j l w' h1 h2 => by
    unfold rbegunPost; rw [begun_single hi hm, h1]; exact ⟨rfl, h2⟩
  generalize rbegunPost s i w = Q at *
  have hi' : (i : Int) < s.size := by omega
  have hi0 : (0 : Int) ≤ i := by omega
  have hxx : ∀ h, ((s[i]'h).toNat : Int) = 39 := fun h => by rw [bt_at s i h, hm]; rfl
  have hw1 : IntKind.i64.wrap ((i : Int) + 1) = ((i + 1 : Nat) : Int) := by rw [IntKind.wrap_i64]; omega
  have hnn1 : ¬ s.size ≤ i := by omega
  have hnn2 : ¬ (i : Int) < 0 := by omega
  go_enter Tryd.func20, Tryd.ntmps20
  go_wp2_with fail
  go_loopw [9, 10] (fun v k wr => ∃ j : Nat, j = i + 1 ∧ v = .slice none 0 0 ∧ k = .int .i64 j ∧ wr = w) (fun _ k _ => s.size - (intOf k).toNat)
  case atStart => exact ⟨i + 1, rfl, rfl, rfl, rfl⟩
  case round =>
    obtain ⟨j, hji, rfl, rfl, hwr⟩ := hrel
    subst hwr
    rename World => w0
    rw [← hji] at HQN HQS hw1
    have HJI := Lib.hid hji
    clear hji
    by_cases hp : j < s.size
    · have hp' : (j : Int) < s.size := by omega
      have hj0 : (0 : Int) ≤ j := by omega
      have hbl := bt_lt s j
      have hyy : ∀ h, ((s[j]'h).toNat : Int) = (bt s j : Int) := fun h => by rw [bt_at s j h]
      by_cases hc : bt s j = 39
      · have hcc : (bt s j : Int) = 39 := by omega
        have HN := Lib.hid (single_mark hp hc)
        generalize bt s j = c at *
        go_wp2_with fail
        refine bodyPost_ret (results_tmp4 rfl _ _ _) rfl ?_
        exact HQN.out _ HN.out (Below.refl _ _)
      · have hcc : ¬ (bt s j : Int) = 39 := by omega
        have hcb : ((bt s j : Int) == 39) = false := by rw [beq_eq_false_iff_ne]; exact hcc
        have HS0 := Lib.hid (fun hit => single_none (s := s) (i := j) hp hc hit)
        have HS1 := Lib.hid (fun n l hit => single_some (s := s) (i := j) (n := n) (l := l) hp hc hit)
        have CT := Lib.hid (ref_item s j 39 (Or.inr rfl) hp (by omega) w0)
        have hlenn : ∀ n x, item s j 39 = some (n, x) → 1 ≤ n ∧ j + n ≤ s.size ∧ x.length ≤ n ∧ nums (strOfNums x) = x := fun n x h => ⟨(item_pos hp h).1, (item_pos hp h).2, item_len h, nums_strOfNums x (item_byte h)⟩
        have HL := Lib.hid hlenn
        clear hlenn
        generalize bt s j = c at *
        go_wp2_with fail
        refine CT.out.mono ?_
        intro e w1 hh1
        unfold ritemPost at hh1
        obtain ⟨rfl, hb1⟩ := hh1
        have HB1 := Lib.hid hb1
        clear hb1
        cases hit : item s j 39 with
        | none =>
          have HB2 := Lib.hid (HB1.out.alloc HB1.out.size (.cells #[.int .i64 0, .string ⟨#[]⟩] 47))
          have HN := Lib.hid (HS0.out hit)
          unfold itemVal
          go_wp2_with fail
          refine bodyPost_ret (results_tmp4 rfl _ _ _) rfl ?_
          exact HQN.out _ HN.out HB2.out
        | some q =>
          obtain ⟨n, x⟩ := q
          obtain ⟨hn1, hn2, hn3, hnx⟩ := HL.out n x hit
          have HNX := Lib.hid hnx
          have HS2 := Lib.hid (HS1.out n x hit)
          have hsz : (strOfNums x).size = x.length := strOfNums_size x
          have HB2 := Lib.hid (HB1.out.alloc HB1.out.size (.cells #[.int .i64 n, .string (strOfNums x)] 47))
          have HG := Lib.hid (heap_alloc_new w1 (.cells #[.int .i64 n, .string (strOfNums x)] 47))
          have hiv : itemVal (some (n, x)) = .agg #[.int .i64 n, .string (strOfNums x)] := rfl
          rw [hiv]
          clear hit hnx HL hiv HS0 HS1
          generalize strOfNums x = sx at *
          have hn0 : ¬ (n : Int) = 0 := by omega
          have hn0b : ((n : Int) == 0) = false := by rw [beq_eq_false_iff_ne]; exact hn0
          go_wp2_with fail
          generalize hWW : w1.alloc (.cells #[.int .i64 n, .string sx] 47) = w2 at *
          generalize hgx : w1.heap.size = gx at *
          go_loopw [9, 12] (fun v k wr => ∃ (kk : Nat), k = .int .i64 kk ∧ kk ≤ x.length ∧ Below w0.heap.size w0 wr ∧ wr.ownsRow w0.heap.size 5 1 v (x.take kk).length ((x.take kk).map (Value.int .u8)) ∧ wr.heap[gx]? = some (.cells #[.int .i64 n, .string sx] 47 (0, 0))) (fun _ k _ => x.length - (intOf k).toNat)
          case atStart => exact ⟨0, rfl, Nat.zero_le _, HB2.out, World.ownsRow_nil _ _ _ _, HG.out⟩
          case round =>
            obtain ⟨kk, rfl, hkk, hb3, hown3, hg3⟩ := hrel
            have HB3 := Lib.hid hb3
            have HO3 := Lib.hid hown3
            have HG3 := Lib.hid hg3
            have cg0 : wr.cell? ⟨gx, 0, none⟩ = some (.int .i64 n) := by simp [World.cell?, hg3]
            have cg1 : wr.cell? ⟨gx, 1, none⟩ = some (.string sx) := by simp [World.cell?, hg3]
            have hbase := hb3.size
            have hltk : (x.take kk).length ≤ kk := List.length_take_le _ _
            have hlen3 : (x.take kk).length ≤ s.size + 4294967296 := by omega
            obtain ⟨va3, vm3, vc3, rfl⟩ := owns_slice HO3.out
            clear hb3 hown3 hg3
            generalize hlk : x.take kk = lk at *
            by_cases hlt : kk < x.length
            · have hlt2 : kk < sx.size := by omega
              have hlt' : (kk : Int) < sx.size := by omega
              have hk0 : (0 : Int) ≤ kk := by omega
              have hwk : IntKind.i64.wrap ((kk : Int) + 1) = ((kk + 1 : Nat) : Int) := by rw [IntKind.wrap_i64]; omega
              have hxk : ∀ h, ((sx[kk]'h).toNat : Int) = x[kk] := fun h => by
                have e1 : (nums sx)[kk]? = some (x[kk]) := by rw [HNX.out]; exact List.getElem?_eq_getElem hlt
                rw [nums_get sx kk hlt2] at e1
                exact Option.some.inj e1
              have htk := List.take_succ_eq_append_getElem hlt
              have HTK := Lib.hid htk
              generalize hxe : x[kk] = y at *
              have HXE := Lib.hid hxe
              clear hxe htk
              go_wp2_with (at_builtin; refine wpList_append_lit wr #[.int .u8 y] _ rfl _ _ 32 5 rfl Tryd.underlying32 w0.heap.size info_u8 rfl (by decide) _ _ _ rfl HO3.out 1 1 rfl rfl (by decide) (by intro u hu; simp at hu; subst hu; rfl) (by omega) (by omega) hbase ?_)
              intro v' w' hown hgr _
              have hb4 := grown_below HB3.out hbase HO3.out hgr
              have hg4 : w'.heap[gx]? = some (.cells #[.int .i64 n, .string sx] 47 (0, 0)) := by
                have hne := own_apart HO3.out HG3.out
                have hlt := keeps_lt HG3.out
                rw [hgr.block gx (by simp; omega) (fun e => hne e.symm), Below.heap_alloc _ _ _ hlt]
                exact HG3.out
              have HO4 := Lib.hid hown
              have HB4 := Lib.hid hb4
              have HG4 := Lib.hid hg4
              clear hown hb4 hgr hg4
              go_wp2_with fail
              refine ⟨?_, (by simp [intOf]; try omega)⟩
              exact ⟨kk + 1, by go_num, by omega, HB4.out, by rw [HTK.out, hlk, List.length_append, List.map_append]; exact HO4.out, HG4.out⟩
            · have hkx : kk = x.length := by omega
              have hlt' : ¬ (kk : Int) < sx.size := by omega
              have hwn : IntKind.i64.wrap ((j : Int) + n) = (j : Int) + n := by rw [IntKind.wrap_i64]; omega
              have etk : x.take kk = x := List.take_of_length_le (by omega)
              rw [etk] at hlk
              subst hlk
              have hjn : ¬ (j : Int) + n = j := by omega
              have hjnb : (((j : Int) + n) == (j : Int)) = false := by rw [beq_eq_false_iff_ne]; exact hjn
              have hq0 : (0 : Int) ≤ (j : Int) + n := by omega
              have hqn : ((j : Int) + n).toNat = j + n := by omega
              by_cases hq : j + n < s.size
              · have hq' : (j : Int) + n < s.size := by omega
                have hq1 : ¬ ((s.size : Int) ≤ (j : Int) + n) := by omega
                have hzz : ∀ h, ((s[j + n]'h).toNat : Int) = (bt s (j + n) : Int) := fun h => by rw [bt_at s (j + n) h]
                by_cases hcq : bt s (j + n) = 39
                · have hcq' : (bt s (j + n) : Int) = 39 := by omega
                  have hS : single s j = some (j + n + 1, x) := by rw [HS2.out, if_pos ⟨hq, hcq⟩]
                  have HS3 := Lib.hid hS
                  have hwq : IntKind.i64.wrap ((j : Int) + n + 1) = ((j + n + 1 : Nat) : Int) := by rw [IntKind.wrap_i64]; omega
                  have hcv : ∀ n, (convert 32 9 (.slice va3 vm3 vc3)).run Tryd.prog (wr.drewN n) = .ok (.string (strOfNums x)) (wr.drewN n) := fun n => conv_owned (w := wr.drewN n) HO3.out
                  have HBN : RowKit.Hid (∀ n, Below w0.heap.size w0 (wr.drewN n)) := Lib.hid fun n => bdrewN HB3.out n
                  clear hS
                  generalize bt s (j + n) = cq at *
                  go_wp2_with fail
                  go_quiet (fail)
                  go_wp2_with fail
                  refine bodyPost_ret (results_tmp4 rfl _ _ _) rfl ?_
                  exact HQS.out _ _ _ HS3.out (HBN.out _)
                · have hcq' : ¬ (bt s (j + n) : Int) = 39 := by omega
                  have HN : RowKit.Hid (single s j = none) := Lib.hid (by rw [HS2.out, if_neg (fun h => hcq h.2)])
                  generalize bt s (j + n) = cq at *
                  go_wp2_with fail
                  refine bodyPost_ret (results_tmp4 rfl _ _ _) rfl ?_
                  exact HQN.out _ HN.out HB3.out
              · have hq' : (s.size : Int) ≤ (j : Int) + n := by omega
                have HN : RowKit.Hid (single s j = none) := Lib.hid (by rw [HS2.out, if_neg (fun h => hq h.1)])
                go_wp2_with fail
                refine bodyPost_ret (results_tmp4 rfl _ _ _) rfl ?_
                exact HQN.out _ HN.out HB3.out
    · have hp' : ¬ (j : Int) < s.size := by omega
      have HN := Lib.hid (single_end hp)
      go_wp2_with fail
      refine bodyPost_ret (results_tmp4 rfl _ _ _) rfl ?_
      exact HQN.out _ HN.out (Below.refl _ _)
end Go.Proofs.YtnnfkdjmpbgkaaaDoor
