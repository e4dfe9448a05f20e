/- Layer 11 in plain Lean: a list of parts as a text. -/
import Derived.Test.YtpjglenogifclaaGreatDoorTerm3M
import Derived.Test.YtpjglenogifclaaGreatDoorAppEqM
import Derived.Test.YtpjglenogifclaaGreatDoorQuotedPM
import Derived.Test.YtpjglenogifclaaGreatDoorQuoted6M
import Derived.Test.YtpjglenogifclaaGreatDoorShelf
import Derived.Test.YtpjglenogifclaaGreatDoorRef06M
namespace Go.Proofs.YtpjglenogifclaaGreatDoor
set_option linter.all false
open Go.RowKit

/-- A part's beginning. -/
def opn (p : Prt) : List UInt8 := 40 :: (Lib.decDigits p.1 ++ (if p.2.2.toList.isEmpty then [] else 32 :: (quote p.2.2).data.toList))
/-- The parts that end behind part i, the nearest first. -/
def popN (i : Nat) : List Nat → Nat
  | [] => 0
  | e :: r => if e = i + 1 then popN i r + 1 else 0
def popS (i : Nat) : List Nat → List Nat
  | [] => []
  | e :: r => if e = i + 1 then popS i r else e :: r
theorem popN_le (i : Nat) : ∀ st, popN i st + (popS i st).length = st.length
  | [] => rfl
  | e :: r => by
    have := popN_le i r
    unfold popN popS
    split
    · simp only [List.length_cons]; omega
    · simp
def sp (i : Nat) : List UInt8 := if i = 0 then [] else [32]
def showG (l : List Prt) : List Prt → Nat → List Nat → List UInt8
  | [], _, _ => []
  | p :: r, i, st => (sp i ++ opn p) ++ (List.replicate (popN i (endB l i :: st)) 41 ++ showG l r (i + 1) (popS i (endB l i :: st)))
def showT (l : List Prt) : List UInt8 := showG l l 0 []
/-- What is shown: the text, or an error. -/
def showZ (l : List Prt) : List UInt8 × Int := if wellB l then (if 1048576 < (showT l).length then ([], 2) else (showT l, 0)) else ([], 8)
theorem byteCells_app (a b : List UInt8) : Lib.byteCells (a ++ b) = Lib.byteCells a ++ Lib.byteCells b := by simp [Lib.byteCells]
theorem byteCells_len (a : List UInt8) : (Lib.byteCells a).length = a.length := by simp [Lib.byteCells]
theorem byteCells_one (a : List UInt8) : ∀ u ∈ Lib.byteCells a, u.oneCell' = true := by
  intro u hu
  unfold Lib.byteCells at hu
  rw [List.mem_map] at hu
  obtain ⟨b, _, rfl⟩ := hu
  rfl
/-- What an append leaves of other rows and blocks. -/
theorem grown_block {w w' : World} {B : Nat} {e : TypeId} {size n : Nat} {v : Value} {xs : List Value} (h : w.ownsRow B e size v n xs) (hg : w.grownBy w' v.ownBlock) {g : Nat} {cs : Array Value} {t : TypeId} {fr : Nat × Nat} (hb : w.heap[g]? = some (.cells cs t fr)) (ht : t ≠ e) :
    w'.heap[g]? = some (.cells cs t fr) := by
  rw [hg.block g (keeps_lt hb) ?_, hb]
  intro e1
  rcases h.2 with ⟨rfl, _⟩ | ⟨k, cap, cur, rfl, _, hh, _⟩
  · simp [Value.ownBlock] at e1
  · simp [Value.ownBlock] at e1
    subst e1
    rw [hb] at hh
    cases hh
    exact ht rfl
theorem grown_row {w w' : World} {B B2 : Nat} {e e2 : TypeId} {size n size2 n2 : Nat} {v v2 : Value} {xs xs2 : List Value} (h : w.ownsRow B e size v n xs) (hg : w.grownBy w' v.ownBlock) (h2 : w.ownsRow B2 e2 size2 v2 n2 xs2) (ht : e2 ≠ e) : w'.ownsRow B2 e2 size2 v2 n2 xs2 := by
  obtain ⟨g1, g2⟩ := h2
  refine ⟨g1, ?_⟩
  rcases g2 with g2 | ⟨k, cap, cur, hv, hk, hh, r⟩
  · exact Or.inl g2
  · exact Or.inr ⟨k, cap, cur, hv, hk, grown_block h hg hh ht, r⟩
/-- 'append(x, s...)': s a string. -/
theorem append_str_eq {P : Program} (w : World) (t u ty e : TypeId) (ht : P.underlying t = some (.slice e)) (hu : P.underlying u = some .string) (base : Nat) (hinfo : (P.info? e).map (fun i => (i.zero, i.size, i.bytes)) = some (some (.int .u8 0), 1, 1))
    (v : Value) (n : Nat) (xs : List Value) (hown : w.ownsRow base e 1 v n xs) (s : ByteArray)
    (h63 : n + s.size ≤ 70368744177664) (hbase : base ≤ w.heap.size) :
    ∃ v' w', (Builtin.append_ #[t, u] ty #[v, .string s]).run P w = .ok v' w' ∧ w'.ownsRow base e 1 v' (n + s.size) (xs ++ Lib.byteCells s.data.toList) ∧ w.grownBy w' v.ownBlock := by
  obtain ⟨i, hi, hz0, hz1, hz2⟩ := info_parts hinfo
  obtain ⟨v', w', g1, g2, g3, _⟩ := Lib.run_append_own_string (P := P) w base t u ty e i ht hu hi hz0 hz1 hz2 v n xs hown s (by unfold maxLen; omega) (by omega) hbase
  exact ⟨v', w', g1, g2, g3⟩
end Go.Proofs.YtpjglenogifclaaGreatDoor
namespace Go.Proofs.YtpjglenogifclaaGreatDoor
set_option linter.all false

theorem hexZ_base : ∀ k, k < 16 → base (hexZ k) = k := by decide +kernel
theorem hexZ_range (k : Nat) (h : k < 16) : 0 ≤ hexZ k ∧ hexZ k < 256 := by unfold hexZ; split <;> omega
theorem quoteByte_range (c : Nat) (hc : c < 256) : ∀ x ∈ quoteByte c, 0 ≤ x ∧ x < 256 := by
  have h1 := hexZ_range (c / 16) (by omega)
  have h2 := hexZ_range (c % 16) (by omega)
  unfold quoteByte
  split
  · intro x hx; simp at hx; omega
  · split
    · intro x hx; simp at hx; omega
    · split
      · intro x hx; simp at hx; omega
      · intro x hx
        simp only [List.mem_cons, List.mem_nil_iff, or_false] at hx
        omega
/-- What stands at a place, byte by byte. -/
def Stands (t : ByteArray) (i : Nat) (l : List Int) : Prop := i + l.length ≤ t.size ∧ ∀ k x, l[k]? = some x → (bt t (i + k) : Int) = x
theorem Stands.left {t : ByteArray} {i : Nat} {a b : List Int} (h : Stands t i (a ++ b)) : Stands t i a := by
  obtain ⟨h1, h2⟩ := h
  refine ⟨by rw [List.length_append] at h1; omega, fun k x hk => h2 k x ?_⟩
  have hlt := (List.getElem?_eq_some_iff.1 hk).1
  rw [List.getElem?_append_left hlt]; exact hk
theorem Stands.right {t : ByteArray} {i : Nat} {a b : List Int} (h : Stands t i (a ++ b)) : Stands t (i + a.length) b := by
  obtain ⟨h1, h2⟩ := h
  refine ⟨by rw [List.length_append] at h1; omega, fun k x hk => ?_⟩
  have := h2 (a.length + k) x (by rw [List.getElem?_append_right (by omega), Nat.add_sub_cancel_left]; exact hk)
  rwa [← Nat.add_assoc] at this
theorem Stands.get {t : ByteArray} {i : Nat} {l : List Int} (h : Stands t i l) (k : Nat) (x : Int) (hk : l[k]? = some x) : (bt t (i + k) : Int) = x := h.2 k x hk
theorem quote_item (t : ByteArray) (i c : Nat) (hc : c < 256) (h : Stands t i (quoteByte c)) : bt t i ≠ 34 ∧ item t i 34 = some ((quoteByte c).length, [(c : Int)]) := by
  have hsz := h.1
  unfold quoteByte at h hsz ⊢
  split at h
  · rename_i h10
    rw [if_pos h10] at hsz ⊢
    have h0 := h.get 0 92 rfl
    have h1 := h.get 1 110 rfl
    rw [Nat.add_zero] at h0
    have e0 : bt t i = 92 := by omega
    have e1 : bt t (i + 1) = 110 := by omega
    refine ⟨by omega, ?_⟩
    unfold item esc
    rw [if_pos e0, if_neg (by simp at hsz; omega), e1, if_pos (by decide)]
    subst h10
    rfl
  · rename_i h10
    rw [if_neg h10] at hsz ⊢
    split at h
    · rename_i h34
      rw [if_pos h34] at hsz ⊢
      have h0 := h.get 0 92 rfl
      have h1 := h.get 1 (c : Int) rfl
      rw [Nat.add_zero] at h0
      have e0 : bt t i = 92 := by omega
      have e1 : bt t (i + 1) = c := by omega
      refine ⟨by omega, ?_⟩
      unfold item esc
      rw [if_pos e0, if_neg (by simp at hsz; omega), e1]
      rcases h34 with rfl | rfl
      · rw [if_neg (by decide), if_pos rfl]; rfl
      · rw [if_pos (by decide)]; rfl
    · rename_i h34
      rw [if_neg h34] at hsz ⊢
      split at h
      · rename_i hp
        rw [if_pos hp] at hsz ⊢
        have h0 := h.get 0 (c : Int) rfl
        rw [Nat.add_zero] at h0
        have e0 : bt t i = c := by omega
        refine ⟨by omega, ?_⟩
        unfold item
        rw [e0, if_neg (by omega), if_neg h10, if_pos rfl]
        rfl
      · rename_i hp
        rw [if_neg hp] at hsz ⊢
        have h0 := h.get 0 92 rfl
        have h1 := h.get 1 120 rfl
        have h2 := h.get 2 (hexZ (c / 16)) rfl
        have h3 := h.get 3 (hexZ (c % 16)) rfl
        rw [Nat.add_zero] at h0
        have e0 : bt t i = 92 := by omega
        have e1 : bt t (i + 1) = 120 := by omega
        refine ⟨by omega, ?_⟩
        simp only [List.length_cons, List.length_nil] at hsz
        have b1 := hexZ_base (c / 16) (by omega)
        have b2 := hexZ_base (c % 16) (by omega)
        have hn : num t 16 (i + 2) 2 0 = some (c : Int) := by
          rw [num, h2, b1, if_pos ⟨by omega, by omega, by omega⟩, num, show i + 2 + 1 = i + 3 by omega, h3, b2, if_pos ⟨by omega, by omega, by omega⟩, num]
          congr 1
          omega
        unfold item esc
        rw [if_pos e0, if_neg (by omega), e1, if_neg (by decide), if_neg (by decide), if_pos rfl, hn]
        rfl
theorem quote_body (t : ByteArray) : ∀ (l : List UInt8) (i : Nat), Stands t i (l.flatMap (fun b => quoteByte b.toNat) ++ [34]) → body t i = some (i + (l.flatMap fun b => quoteByte b.toNat).length + 1, l.map fun b => (b.toNat : Int))
  | [], i, h => by
    have h0 := h.get 0 34 rfl
    rw [Nat.add_zero] at h0
    have := h.1
    simp only [List.flatMap_nil, List.nil_append, List.length_cons, List.length_nil] at this
    rw [body_mark (by omega) (by omega)]
    rfl
  | b :: l, i, h => by
    rw [List.flatMap_cons, List.append_assoc] at h
    obtain ⟨h34, hit⟩ := quote_item t i b.toNat b.toNat_lt h.left
    have hi := item_pos (s := t) (i := i) (mark := 34) (by
      have h1 := h.left.1
      have hpos : 0 < (quoteByte b.toNat).length := by unfold quoteByte; split <;> (try split) <;> (try split) <;> simp
      omega) hit
    rw [body_item (by omega) h34, hit, Option.bind_some]
    have ih := quote_body t l (i + (quoteByte b.toNat).length) h.right
    simp only [ih, Option.map_some, List.flatMap_cons, List.length_append, List.map_cons, List.cons_append, List.nil_append]
    congr 2
    omega
theorem stands_str (l : List Int) (hl : ∀ x ∈ l, 0 ≤ x ∧ x < 256) (t : ByteArray) : Stands (strOfNums l ++ t) 0 l := by
  refine ⟨by rw [ByteArray.size_append, strOfNums_size]; omega, fun k x hk => ?_⟩
  have hlt := (List.getElem?_eq_some_iff.1 hk).1
  have hx := hl x (List.mem_of_getElem? hk)
  unfold bt
  rw [Nat.zero_add, get!_left _ _ _ (by rw [strOfNums_size]; exact hlt), get!_list, strOfNums_data, List.getD_eq_getElem?_getD, List.getElem?_map, hk]
  simp only [Option.map_some, Option.getD_some]
  rw [toNat_ofNat_lt _ (by omega)]
  omega
theorem quoteZ_range (s : ByteArray) : ∀ x ∈ quoteZ s, 0 ≤ x ∧ x < 256 := by
  intro x hx
  unfold quoteZ at hx
  rw [List.mem_append, List.mem_append] at hx
  rcases hx with (hx | hx) | hx
  · simp at hx; omega
  · rw [List.mem_flatMap] at hx
    obtain ⟨b, _, hb⟩ := hx
    exact quoteByte_range _ b.toNat_lt x hb
  · simp at hx; omega
theorem quote_begun (s t : ByteArray) : begun (quote s ++ t) 0 = ((7 : Int), ((quote s).size : Int), s, (0 : Int)) := by
  have hst : Stands (quote s ++ t) 0 (quoteZ s) := by unfold quote; exact stands_str _ (quoteZ_range s) t
  have hsz : (quote s).size = (quoteZ s).length := by unfold quote; exact strOfNums_size _
  have hb : Stands (quote s ++ t) 1 (s.data.toList.flatMap (fun b => quoteByte b.toNat) ++ [34]) := by
    have h1 := hst
    unfold quoteZ at h1
    rw [List.append_assoc] at h1
    exact h1.right
  have h0 : bt (quote s ++ t) 0 = 34 := by
    have := hst.get 0 34 (by unfold quoteZ; rfl)
    rw [Nat.zero_add] at this; omega
  have hpos : 0 < (quote s ++ t).size := by have := hst.1; unfold quoteZ at this; simp only [List.length_append, List.length_cons, List.length_nil] at this; omega
  have hbg := begun_body (s := quote s ++ t) (i := 0) hpos h0
  rw [quote_body _ _ _ hb] at hbg
  refine hbg.trans ?_
  have e1 : strOfNums (s.data.toList.map fun b => (b.toNat : Int)) = s := strOfNums_nums s
  have e2 : ((0 + 1 + (s.data.toList.flatMap fun b => quoteByte b.toNat).length + 1 : Nat) : Int) = (quote s).size := by
    rw [hsz]; unfold quoteZ; simp only [List.length_append, List.length_cons, List.length_nil]
    all_goals omega
  simp only [e1]
  rw [← e2]
theorem quote_value (s : ByteArray) : value (quote s) = (s, 0) := by
  have h := quote_begun s ByteArray.empty
  have e : quote s ++ ByteArray.empty = quote s := ByteArray.append_empty
  rw [e] at h
  unfold value
  rw [h]
  rw [if_pos ⟨rfl, rfl⟩]
theorem quote_size (s : ByteArray) : (quote s).size ≤ 2 + 4 * s.size := by
  have hsz : (quote s).size = (quoteZ s).length := by unfold quote; exact strOfNums_size _
  have h1 := quoteTo_len s s.size
  rw [hsz, quoteTo_all, List.length_append]
  simp only [List.length_cons, List.length_nil]; omega
end Go.Proofs.YtpjglenogifclaaGreatDoor
