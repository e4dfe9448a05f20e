/- strconv.ParseUint in base ten at eight bits, walked. -/
import Derived.Test.YtpjglenogifclaaGreatDoorShelf
import Derived.Test.YtpjglenogifclaaGreatDoorCoreM
import Derived.Lib.AtoiErrMem
namespace Go.Proofs.YtpjglenogifclaaGreatDoor
set_option linter.all false
open Go.RowKit

/-- The two errors of package strconv lie. -/
def ErrC (w : World) : Prop := (∃ ev, w.cell? ⟨2, 0, none⟩ = some ev ∧ (ev = .nilIface ∨ ∃ te pe, ev = .iface te pe)) ∧ (∃ ev, w.cell? ⟨3, 0, none⟩ = some ev ∧ (ev = .nilIface ∨ ∃ te pe, ev = .iface te pe)) ∧ 2 < w.heap.size ∧ 3 < w.heap.size
theorem ErrC.below {w w' : World} (h : ErrC w) (hb : Below w.heap.size w w') : ErrC w' := by
  obtain ⟨⟨a, h1, h2⟩, ⟨b, h3, h4⟩, h5, h6⟩ := h
  exact ⟨⟨a, (hb.cell (p := ⟨_, 0, none⟩) h5).trans h1, h2⟩, ⟨b, (hb.cell (p := ⟨_, 0, none⟩) h6).trans h3, h4⟩, Nat.lt_of_lt_of_le h5 hb.size, Nat.lt_of_lt_of_le h6 hb.size⟩
theorem below_bytes (w : World) (e : TypeId) (t : ByteArray) : Below w.heap.size w (Lib.bytesWorld w e t) :=
  Lib.bytesWorld_below w e t
/-- What ParseUint answers. -/
@[irreducible] def puPost (t : ByteArray) (w0 : World) (e : Ending) (w' : World) : Prop :=
  Below w0.heap.size w0 w' ∧ match Lib.parseUintB 8 t.data.toList with
    | .ok n => e = .returned (.tuple #[.int .u64 (n : Int), .nilIface])
    | _ => ∃ x T p, e = .returned (.tuple #[.int .u64 x, .iface T p])
set_option maxRecDepth 100000 in
set_option maxHeartbeats 8000000 in
theorem strconv_ParseUint8 (t : ByteArray) (ht : t.size ≤ 281474976710656) (w : World) (hE : ErrC w) :
    Calls Tryz.prog 59 #[.string t, .int .i64 10, .int .i64 8] w (puPost t w) := by
  have HQ : RowKit.Hid (∀ x v w', Below w.heap.size w w' → (match Lib.parseUintB 8 t.data.toList with | .ok n => x = (n : Int) ∧ v = .nilIface | _ => ∃ T p, v = .iface T p) → puPost t w (.returned (.tuple #[.int .u64 x, v])) w') := Lib.hid fun x v w' hb h => by
    unfold puPost
    refine ⟨hb, ?_⟩
    cases hr : Lib.parseUintB 8 t.data.toList with
    | ok n => rw [hr] at h; obtain ⟨rfl, rfl⟩ := h; rfl
    | range => rw [hr] at h; obtain ⟨T, p, rfl⟩ := h; exact ⟨_, _, _, rfl⟩
    | _ => rw [hr] at h; obtain ⟨T, p, rfl⟩ := h; exact ⟨_, _, _, rfl⟩
  generalize puPost t w = Q at *
  have C := Lib.hid (Tryz.internal_strconv_ParseUint_10_at8 t (by omega) w)
  have HE := Lib.hid hE
  clear hE
  go_enter Tryz.func59, Tryz.ntmps59
  go_wp2_with fail
  refine C.out.mono ?_
  intro e w1 h1
  obtain ⟨rfl, h1⟩ := h1
  have hb : Below w.heap.size w w1 := by
    rcases h1 with rfl | rfl
    · exact Below.refl _ _
    · exact below_bytes _ _ _
  have HB := Lib.hid hb
  have HE1 := Lib.hid (HE.out.below hb)
  clear hb h1 C HE
  cases hr : Lib.parseUintB 8 t.data.toList with
  | ok n =>
    have HX := Lib.hid (HQ.out (n : Int) .nilIface w1 HB.out (by rw [hr]; exact ⟨rfl, rfl⟩))
    clear HQ hr
    unfold Lib.uintTupleM
    go_wp2_with fail
    exact HX.out
  | range =>
    have HX := Lib.hid (fun v w' hb h => HQ.out 255 v w' hb (by rw [hr]; exact h))
    obtain ⟨_, ⟨ev, g1, g2⟩, _⟩ := HE1.out
    have CE := Lib.hid (Tryz.strconv_toError_range ⟨#[80, 97, 114, 115, 101, 85, 105, 110, 116]⟩ t 10 8 ev w1 ht g1 g2)
    clear HQ hr g1 g2
    unfold Lib.uintTupleM
    go_wp2_with fail
    refine CE.out.mono ?_
    rintro e w2 ⟨N, rfl, _, _, hb2⟩
    have HY : RowKit.Hid (∀ T p, Q (.returned (.tuple #[.int .u64 _, .iface T p])) w2) := Lib.hid fun T p => HX.out _ w2 (bthen HB.out hb2) ⟨_, _, rfl⟩
    clear hb2 HX
    go_wp2_with fail
    exact HY.out _ _
  | _ =>
    have HX := Lib.hid (fun v w' hb h => HQ.out 0 v w' hb (by rw [hr]; exact h))
    obtain ⟨⟨ev, g1, g2⟩, _⟩ := HE1.out
    have CE := Lib.hid (Tryz.strconv_toError_syntax ⟨#[80, 97, 114, 115, 101, 85, 105, 110, 116]⟩ t 10 8 ev w1 ht g1 g2)
    clear HQ hr g1 g2
    unfold Lib.uintTupleM
    go_wp2_with fail
    refine CE.out.mono ?_
    rintro e w2 ⟨N, rfl, _, _, hb2⟩
    have HY : RowKit.Hid (∀ T p, Q (.returned (.tuple #[.int .u64 _, .iface T p])) w2) := Lib.hid fun T p => HX.out _ w2 (bthen HB.out hb2) ⟨_, _, rfl⟩
    clear hb2 HX
    go_wp2_with fail
    exact HY.out _ _
end Go.Proofs.YtpjglenogifclaaGreatDoor
