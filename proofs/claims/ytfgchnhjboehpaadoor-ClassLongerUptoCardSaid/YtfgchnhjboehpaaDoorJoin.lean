/- The program's Join of layer 1, walked. -/
import Derived.Test.YtfgchnhjboehpaaDoorRunes
namespace Go.Proofs.YtfgchnhjboehpaaDoor
open Go.RowKit

/-- The bytes of characters, form behind form. -/
def formsZ (l : List Int) : List Int := l.flatMap formZ
def forms (l : List Int) : ByteArray := strOfNums (formsZ l)
/-- Are they all characters? -/
def allMay (l : List Int) : Bool := l.all may
@[irreducible] def joinS (l : List Int) : ByteArray := if allMay l then forms l else ByteArray.empty
theorem joinS_yes {l : List Int} (h : allMay l = true) : joinS l = forms l := by unfold joinS; rw [if_pos h]
theorem joinS_no {l : List Int} (h : allMay l = false) : joinS l = ByteArray.empty := by unfold joinS; rw [if_neg (by simp [h])]
theorem formsZ_length (l : List Int) : (formsZ l).length ≤ 4 * l.length := by
  induction l with
  | nil => simp [formsZ]
  | cons x l ih =>
    have := formZ_length x
    simp only [formsZ, List.flatMap_cons, List.length_append, List.length_cons] at *
    omega
theorem formsZ_snoc (l : List Int) (x : Int) : formsZ (l ++ [x]) = formsZ l ++ formZ x := by simp [formsZ]
theorem formsZ_append (l r : List Int) : formsZ (l ++ r) = formsZ l ++ formsZ r := by simp [formsZ]
theorem take_succ_get {α : Type} (l : List α) (k : Nat) (h : k < l.length) : l.take (k + 1) = l.take k ++ [l[k]] := List.take_succ_eq_append_getElem h
theorem allMay_of (l : List Int) (k : Nat) (hk : k < l.length) (h : may l[k] = false) : allMay l = false := by
  unfold allMay
  rw [List.all_eq_false]
  exact ⟨l[k], List.getElem_mem hk, by simp [h]⟩

set_option maxHeartbeats 1000000 in
theorem runes_Join (v : Value) (l : List Int) (w : World) (hv : RowInts w v .i32 l) (h32 : ∀ x ∈ l, -2147483648 ≤ x ∧ x ≤ 2147483647) (hn : l.length * 4 ≤ 140737488351232) :
    Calls Tryd.prog 26 #[v] w fun e w' => (e = .returned (.tuple #[.string (joinS l), .bool (allMay l)])) ∧ Below w.heap.size w w' := by
  obtain ⟨a, cap, rfl, hc, hcell⟩ := hv.open'
  have HC := Lib.hid hcell
  have H32 := Lib.hid h32
  clear hcell hv h32
  go_enter Tryd.func26, Tryd.ntmps26
  go_wp2_with fail
  go_loopw [4, 9] (fun v i wr => ∃ k : Nat, k ≤ l.length ∧ i = .int .i64 k ∧ allMay (l.take k) = true ∧ Below w.heap.size w wr ∧ wr.ownsRow w.heap.size 5 1 v (formsZ (l.take k)).length ((formsZ (l.take k)).map (Value.int .u8))) (fun _ i _ => l.length - (intOf i).toNat)
  case atStart => exact ⟨0, Nat.zero_le _, rfl, rfl, Below.refl _ _, World.ownsRow_nil _ _ _ _⟩
  case round =>
    obtain ⟨k, hk, rfl, hm, hb, hown⟩ := hrel
    have HM := Lib.hid hm
    clear hm
    by_cases hlt : k < l.length
    · obtain ⟨b, off, rfl, hbl, hcl⟩ := HC.out (by omega)
      have hx := hcl k hlt
      have h1 : wr.cell? ⟨b, off + k, none⟩ = some (.int .i32 l[k]) := by rw [hb.cell (p := ⟨b, off + k, none⟩) hbl]; exact hx
      have hr := H32.out l[k] (List.getElem_mem hlt)
      have htk := take_succ_get l k hlt
      have hfl := formsZ_length (l.take k)
      have htl : (l.take k).length ≤ k := List.length_take_le _ _
      have C : ∀ w, _ := fun w => Tryd.utf8_ValidRune l[k] w
      rw [validRune_may] at C
      generalize hxx : l[k] = x at *
      have HXX := Lib.hid hxx
      have HTK := Lib.hid htk
      clear hcl hx hxx htk
      cases hmx : may x
      · rw [hmx] at C
        have C' := Lib.hid C
        have HMX := Lib.hid hmx
        clear C hmx
        go_wp2_with fail
        refine (C'.out _).mono ?_; rintro e w' ⟨rfl, rfl⟩
        go_wp2_with fail
        go_ret2
        have e1 : allMay l = false := allMay_of l k hlt (by rw [HXX.out]; exact HMX.out)
        exact ⟨by rw [joinS_no e1, e1]; rfl, hb⟩
      · rw [hmx] at C
        have C' := Lib.hid C
        have HMX := Lib.hid hmx
        clear C hmx
        go_wp2_with fail
        refine (C'.out _).mono ?_; rintro e w' ⟨rfl, rfl⟩
        go_wp2_with fail
        refine (Tryd.utf8_AppendRune_plain w.heap.size _ _ _ x hr.1 hr.2 _ hown (by omega) hb.size).mono ?_
        rintro e w' ⟨v', rfl, hown', o, hgr⟩
        have hb2 := grown_below hb hb.size hown hgr
        clear hown hgr
        go_wp2_with fail
        go_roundw
        case rel =>
          refine ⟨k + 1, by omega, by go_num, ?_, hb2, ?_⟩
          · rw [HTK.out]; unfold allMay; rw [List.all_append]; have := HM.out; unfold allMay at this; rw [this]; simp [HMX.out]
          · rw [HTK.out, formsZ_snoc]
            rw [runeCells_form HMX.out] at hown'
            simpa using hown'
        case measure => simp [intOf]; omega
    · have e1 : l.take k = l := List.take_of_length_le (by omega)
      have hcv := conv_owned hown
      have HM2 := HM.out
      rw [e1] at HM2 hcv
      have HM3 := Lib.hid HM2
      have hcv2 : (convert 57 9 u4).run Tryd.prog wr = .ok (.string (forms l)) wr := hcv
      clear HM2 e1 hcv
      go_wp2_with fail
      go_ret2
      exact ⟨by rw [joinS_yes HM3.out, HM3.out]; rfl, hb⟩
end Go.Proofs.YtfgchnhjboehpaaDoor
