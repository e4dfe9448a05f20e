/- What this seat's rows list, and what the walks get of it: the tables of unicode/utf8, of math/bits, of internal/strconv, two errors of strconv; a world that holds them; slices of parts as arguments. -/
import Derived.Test.YtpjglenogifclaaGreatDoorRows
import Derived.Test.YtpjglenogifclaaGreatDoorFixPM
import Derived.ProofKit
import Derived.OpenShut
import Derived.ChangeOld
import Derived.Deep.DeepHandedRow
import Derived.Lib.LaidU8T
import Derived.Lib.LaidTab
namespace Go.Proofs.YtpjglenogifclaaGreatDoor
set_option linter.all false
open Go.ChangeShapes Go.WideShapes Go.ChangeAt Go.RowKit
open Go.Lib (VarReads)

theorem own : ownKnob Tryz.prog.godebug = none := by kernel_rfl
theorem laidOut : laidOutB Tryz.prog = true := by kernel_rfl
def theList : List (String × DataW Unit) := [("math/bits.deBruijn32tab", Rows.laid_math_bits_deBruijn32tab), ("math/bits.deBruijn64tab", Rows.laid_math_bits_deBruijn64tab), ("internal/strconv.uint64pow10", Rows.laid_internal_strconv_uint64pow10), ("unicode/utf8.acceptRanges", Rows.laid_unicode_utf8_acceptRanges), ("strconv.ErrRange", Rows.laid_strconv_ErrRange), ("strconv.ErrSyntax", Rows.laid_strconv_ErrSyntax), ("unicode/utf8.first", Rows.laid_unicode_utf8_first)]
theorem first_eq : Rows.laid_unicode_utf8_first = Lib.firstData := by kernel_rfl
theorem accept_eq : Rows.laid_unicode_utf8_acceptRanges = Lib.acceptData := by kernel_rfl
theorem pow10_eq : Rows.laid_internal_strconv_uint64pow10 = Lib.tabData (H := Unit) .u64 Lib.pow10Tab := by kernel_rfl
theorem u8x : U8Extra Tryz.prog Tryz.lays197_ren := { n3 := by kernel_rfl, n4 := by kernel_rfl, y3 := by kernel_rfl, y4 := by kernel_rfl, c5 := by kernel_rfl, c119 := by kernel_rfl, c138 := by kernel_rfl }
theorem u8t : U8Types Tryz.prog Tryz.lays197_ren := { t5 := by kernel_rfl, t119 := by kernel_rfl, t138 := by kernel_rfl, t139 := by kernel_rfl }
theorem cell_lt {w : World} {b o : Nat} {v : Value} (h : w.cell? ⟨b, o, none⟩ = some v) : b < w.heap.size := by
  apply Classical.byContradiction
  intro hn
  unfold World.cell? at h
  rw [Array.getElem?_eq_none (by simpa using hn)] at h
  cases h
theorem tabs {W : World} (h : laidMet Tryz.prog theList W) : Tabs W := by
  suffices g : Lib.Utf8Tabs 6 7 W from ⟨g, cell_lt (g.1 0 (by decide)), cell_lt (g.2 0 (by decide)).1⟩
  have h3 : VarReads Tryz.prog W "unicode/utf8.first" Lib.firstData := first_eq ▸ Lib.laidMet.reads h (by simp [theList])
  have h4 : VarReads Tryz.prog W "unicode/utf8.acceptRanges" Lib.acceptData := accept_eq ▸ Lib.laidMet.reads h (by simp [theList])
  exact utf8Tabs_of_readsT u8t u8x h3 h4
theorem pow10 {W : World} (h : laidMet Tryz.prog theList W) : Lib.TabIs Tryz.prog W "internal/strconv.uint64pow10" .u64 Lib.pow10Tab := by
  have h3 : VarReads Tryz.prog W "internal/strconv.uint64pow10" (Lib.tabData .u64 Lib.pow10Tab) := pow10_eq ▸ Lib.laidMet.reads h (by simp [theList])
  obtain ⟨g, t, cs, fuel, p, h1, h2, h3, h4⟩ := h3
  obtain rfl : 0 = g := Option.some.inj ((show Tryz.prog.globalNamed "internal/strconv.uint64pow10" = some 0 by kernel_rfl).symm.trans h1)
  obtain rfl : 131 = t := Option.some.inj ((show (Tryz.prog.globals[0]?).map (·.type) = some 131 by kernel_rfl).symm.trans h2)
  have := Lib.cells_of_tab (n := 20) (e := 58) (by kernel_rfl) (by kernel_rfl) (by kernel_rfl) (by kernel_rfl) h4
  unfold Lib.TabIs
  rw [h3, ← this]
theorem iface_of {H : Type} {enc : TypeId × Value → H} {P : Program} {w : World} {base : Nat} {sp : Nat → Bool} {fuel : Nat} {t : TypeId} {ms : Array (String × TypeId)} {cs : List Value} {d : DataW H × List MemPlace}
    (ht : P.underlying t = some (.interface ms)) (h : DataW.trod enc P w base sp false fuel t cs = some d) : cs = [.nilIface] ∨ ∃ u v, cs = [.iface u v] := by
  cases fuel with
  | zero => simp [DataW.trod] at h
  | succ m =>
    rw [DataW.trod_step] at h
    unfold DataW.trodStep at h
    rw [ht] at h
    split at h <;> simp_all
theorem errAt {W : World} {n : String} {g : Nat} {d : DataW Unit} (hn : Tryz.prog.globalNamed n = some g) (ht : (Tryz.prog.globals[g]?).map (·.type) = some 79) (h : VarReads Tryz.prog W n d) : (∃ ev, W.cell? ⟨g, 0, none⟩ = some ev ∧ (ev = .nilIface ∨ ∃ te pe, ev = .iface te pe)) ∧ g < W.heap.size := by
  obtain ⟨g', t, cs, fuel, p, h1, h2, h3, h4⟩ := h
  obtain rfl : g = g' := Option.some.inj (hn.symm.trans h1)
  obtain rfl : 79 = t := Option.some.inj (ht.symm.trans h2)
  have hx := iface_of Tryz.underlying79 h4
  have hc := World.var?_cell hn h3 0
  rcases hx with hx | ⟨u, v, hx⟩
  · have hc' : W.cell? ⟨g, 0, none⟩ = some .nilIface := by rw [hc, ← Array.getElem?_toList, hx]; rfl
    exact ⟨⟨_, hc', Or.inl rfl⟩, cell_lt hc'⟩
  · have hc' : W.cell? ⟨g, 0, none⟩ = some (.iface u v) := by rw [hc, ← Array.getElem?_toList, hx]; rfl
    exact ⟨⟨_, hc', Or.inr ⟨u, v, rfl⟩⟩, cell_lt hc'⟩
theorem errC {W : World} (h : laidMet Tryz.prog theList W) : ErrC W := by
  have h1 := errAt (n := "strconv.ErrSyntax") (g := 2) (by kernel_rfl) (by kernel_rfl) (Lib.laidMet.reads h (d := Rows.laid_strconv_ErrSyntax) (by simp [theList]))
  have h2 := errAt (n := "strconv.ErrRange") (g := 3) (by kernel_rfl) (by kernel_rfl) (Lib.laidMet.reads h (d := Rows.laid_strconv_ErrRange) (by simp [theList]))
  exact ⟨h1.1, h2.1, h1.2, h2.2⟩
theorem maxC {W : World} (h : W.ShapedOpen Tryz.prog) : MaxC W := by
  obtain ⟨m, hm⟩ := Tryz.laysM155.s1_3 W h
  exact ⟨m, hm, cell_lt hm⟩
theorem held {W : World} (h : laidMet Tryz.prog theList W) (hs : W.ShapedOpen Tryz.prog) : Held W := ⟨tabs h, maxC hs, errC h, pow10 h⟩
theorem upto_bound {H : Type} {l : List (DataW H)} (hk : Rows.uptoSmall H l = true) : Rows.uptoBulkAll l ≤ 1048576 := of_decide_eq_true hk

/-! ### A world that holds what is listed -/
def firstVals : Array Value := ((List.range 256).map fun c => Value.int .u8 (Lib.firstT c : Int)).toArray
def acceptVals : Array Value := ((List.range 16).flatMap fun c => [Value.int .u8 (Lib.accLo c : Int), Value.int .u8 (Lib.accHi c : Int)]).toArray
def litVal : DataW Unit → Value
  | .lit (.int k z) => .int k z
  | _ => undef
def aggVals : DataW Unit → Array Value
  | .agg ds => (ds.map litVal).toArray
  | _ => #[]
def laidRow (c : Array Value) : Obj → Obj
  | .cells _ t frozen => .cells c t frozen
  | o => o
noncomputable def low : Nat := (World.holding Tryz.prog default ⟨#[], #[], []⟩).heap.size
noncomputable def laidWorld (os : Os) : World :=
  let w0 := World.holding Tryz.prog os ⟨#[.cells #[.string ⟨#[118, 97, 108, 117, 101, 32, 111, 117, 116, 32, 111, 102, 32, 114, 97, 110, 103, 101]⟩] 169, .cells #[.string ⟨#[105, 110, 118, 97, 108, 105, 100, 32, 115, 121, 110, 116, 97, 120]⟩] 169], #[], []⟩
  { w0 with heap := ((((((w0.heap.modify 6 (laidRow firstVals)).modify 7 (laidRow acceptVals)).modify 0 (laidRow (aggVals Rows.laid_internal_strconv_uint64pow10))).modify 4 (laidRow (aggVals Rows.laid_math_bits_deBruijn32tab))).modify 5 (laidRow (aggVals Rows.laid_math_bits_deBruijn64tab))).modify 3 (laidRow #[.iface 167 (.pointer (some ⟨low, 0, none⟩))])).modify 2 (laidRow #[.iface 167 (.pointer (some ⟨low + 1, 0, none⟩))]) }
theorem laid_met (os : Os) (args : Array Value) : laidMet Tryz.prog theList ((laidWorld os).forCall (fun _ _ => 0) ⟨#[], args, []⟩).memory :=
  laidMet_of_run' 8 (by kernel_rfl) (by kernel_rfl)
end Go.Proofs.YtpjglenogifclaaGreatDoor
