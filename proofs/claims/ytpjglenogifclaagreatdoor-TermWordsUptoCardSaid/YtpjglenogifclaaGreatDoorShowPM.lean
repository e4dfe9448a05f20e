/- Layer 11 in plain Lean: a list of parts as a text. -/
import Derived.Test.YtpjglenogifclaaGreatDoorTermSameM
import Derived.Test.YtpjglenogifclaaGreatDoorAppEqM
import Derived.Test.YtpjglenogifclaaGreatDoorQuotedPM
import Derived.Test.YtpjglenogifclaaGreatDoorQuoted6M
import Derived.Test.YtpjglenogifclaaGreatDoorShelf
namespace Go.Proofs.YtpjglenogifclaaGreatDoor
set_option linter.all false
open Go.RowKit

/-- A part's beginning. -/
def opn (p : Prt) : List UInt8 := 40 :: (Lib.decDigits p.1 ++ (if p.2.2.toList.isEmpty then [] else 32 :: (quote p.2.2).data.toList))
/-- The parts that end behind part i, the nearest first. -/
def popN (i : Nat) : List Nat → Nat
  | [] => 0
  | e :: r => if e = i + 1 then popN i r + 1 else 0
def popS (i : Nat) : List Nat → List Nat
  | [] => []
  | e :: r => if e = i + 1 then popS i r else e :: r
theorem popN_le (i : Nat) : ∀ st, popN i st + (popS i st).length = st.length
  | [] => rfl
  | e :: r => by
    have := popN_le i r
    unfold popN popS
    split
    · simp only [List.length_cons]; omega
    · simp
def sp (i : Nat) : List UInt8 := if i = 0 then [] else [32]
def showG (l : List Prt) : List Prt → Nat → List Nat → List UInt8
  | [], _, _ => []
  | p :: r, i, st => (sp i ++ opn p) ++ (List.replicate (popN i (endB l i :: st)) 41 ++ showG l r (i + 1) (popS i (endB l i :: st)))
def showT (l : List Prt) : List UInt8 := showG l l 0 []
/-- What is shown: the text, or an error. -/
def showZ (l : List Prt) : List UInt8 × Int := if wellB l then (if 1048576 < (showT l).length then ([], 2) else (showT l, 0)) else ([], 8)
theorem byteCells_app (a b : List UInt8) : Lib.byteCells (a ++ b) = Lib.byteCells a ++ Lib.byteCells b := by simp [Lib.byteCells]
theorem byteCells_len (a : List UInt8) : (Lib.byteCells a).length = a.length := by simp [Lib.byteCells]
theorem byteCells_one (a : List UInt8) : ∀ u ∈ Lib.byteCells a, u.oneCell' = true := by
  intro u hu
  unfold Lib.byteCells at hu
  rw [List.mem_map] at hu
  obtain ⟨b, _, rfl⟩ := hu
  rfl
/-- What an append leaves of other rows and blocks. -/
theorem grown_block {w w' : World} {B : Nat} {e : TypeId} {size n : Nat} {v : Value} {xs : List Value} (h : w.ownsRow B e size v n xs) (hg : w.grownBy w' v.ownBlock) {g : Nat} {cs : Array Value} {t : TypeId} {fr : Nat × Nat} (hb : w.heap[g]? = some (.cells cs t fr)) (ht : t ≠ e) :
    w'.heap[g]? = some (.cells cs t fr) := by
  rw [hg.block g (keeps_lt hb) ?_, hb]
  intro e1
  rcases h.2 with ⟨rfl, _⟩ | ⟨k, cap, cur, rfl, _, hh, _⟩
  · simp [Value.ownBlock] at e1
  · simp [Value.ownBlock] at e1
    subst e1
    rw [hb] at hh
    cases hh
    exact ht rfl
theorem grown_row {w w' : World} {B B2 : Nat} {e e2 : TypeId} {size n size2 n2 : Nat} {v v2 : Value} {xs xs2 : List Value} (h : w.ownsRow B e size v n xs) (hg : w.grownBy w' v.ownBlock) (h2 : w.ownsRow B2 e2 size2 v2 n2 xs2) (ht : e2 ≠ e) : w'.ownsRow B2 e2 size2 v2 n2 xs2 := by
  obtain ⟨g1, g2⟩ := h2
  refine ⟨g1, ?_⟩
  rcases g2 with g2 | ⟨k, cap, cur, hv, hk, hh, r⟩
  · exact Or.inl g2
  · exact Or.inr ⟨k, cap, cur, hv, hk, grown_block h hg hh ht, r⟩
/-- 'append(x, s...)': s a string. -/
theorem append_str_eq {P : Program} (w : World) (t u ty e : TypeId) (ht : P.underlying t = some (.slice e)) (hu : P.underlying u = some .string) (base : Nat) (hinfo : (P.info? e).map (fun i => (i.zero, i.size, i.bytes)) = some (some (.int .u8 0), 1, 1))
    (v : Value) (n : Nat) (xs : List Value) (hown : w.ownsRow base e 1 v n xs) (s : ByteArray)
    (h63 : n + s.size ≤ 70368744177664) (hbase : base ≤ w.heap.size) :
    ∃ v' w', (Builtin.append_ #[t, u] ty #[v, .string s]).run P w = .ok v' w' ∧ w'.ownsRow base e 1 v' (n + s.size) (xs ++ Lib.byteCells s.data.toList) ∧ w.grownBy w' v.ownBlock := by
  obtain ⟨i, hi, hz0, hz1, hz2⟩ := info_parts hinfo
  obtain ⟨v', w', g1, g2, g3, _⟩ := Lib.run_append_own_string (P := P) w base t u ty e i ht hu hi hz0 hz1 hz2 v n xs hown s (by unfold maxLen; omega) (by omega) hbase
  exact ⟨v', w', g1, g2, g3⟩
end Go.Proofs.YtpjglenogifclaaGreatDoor
